/- vint.read. -/
import Derived.Test.YtcbcbjdobbgddaaGreatDoorRows
import Derived.WalkKit
import Derived.ProofKit
import Derived.OpenShut
import Derived.JoinedCond
import Derived.ChangeStays
import Derived.DataReads
import Derived.Test.YtcbcbjdobbgddaaGreatDoorQ3

set_option linter.unusedVariables false
set_option linter.unusedSimpArgs false
namespace Go.Proofs.YtcbcbjdobbgddaaGreatDoor.Sym
open Go
open Go.IntKind (i8 i16 i32 i64 u8 u16 u32 u64)
noncomputable section
theorem yF:∀l:LI,0≤ct l∧ct l<128 ^ l.length
 |[]=>by simp[ct]
 |c::l=>by
  have:=yF l
  simp only[ct,zN,Int.pow_succ]
  omega
def nz (m t:Int):Bool:=(decide (m=10)&&decide (t=1)) || (decide (m=5)&&decide (t=15))
abbrev jg:Io:=⟨[dL,dI,dI,dU],[],[],[dV,dI,dI],none⟩
def yW (d:jg.In):Tr jg.Res:=
 .ite (nz d.1.2.2.1 d.1.2.2.2.1) (.ret (.ret (((aa d.1.2.2.1.toNat d.1.2.2.2.1 d.1.1 d.1.2.1).1,(aa d.1.2.2.1.toNat d.1.2.2.2.1 d.1.1 d.1.2.1).2.1,(aa d.1.2.2.1.toNat d.1.2.2.2.1 d.1.1 d.1.2.1).2.2,()),()))) .no
abbrev uL:List (Nat×Hc):=[]
def B1:Hd:=bt uL
abbrev di:Lo:=⟨⟨(.any::.one hI::.one hI::.one (.hol (.int u8))::.any::cj (bz (.one (.hol (.int u64))::dC (cj (.one (.hol (.sl 5 (Ty.int u8)))::.one hI::.one hI::.any::al (al (bz []))))))),[]⟩,[(.ret,⟨(dC (.one (.hol (.int u64))::.one hI::.one hI::.any::al (al (al (bz []))))),[]⟩),(.exit 0,⟨(al (al (al (dC (cj (bz [])))))),[]⟩)]⟩
def j3 (d:di.st.den):Tr (ao di.xs):=
 .ite (nz d.1.2.1 d.1.2.2.1&&(decide (d.1.2.2.2.1=(0:Int))&&(decide (d.1.2.2.2.2.2.2.1=(0:Int))&&(decide ((d.1.2.2.2.2.1.length:Int)=d.1.2.2.2.2.2.1)&&(decide ((0:Int)≤d.1.1)&&decide ((d.1.1:Int)+(d.1.2.2.2.2.1.length:Int)≤9223372036854775807))))))
  (.ite (decide ((bk d.1.2.1.toNat d.1.2.2.1 d.1.2.2.2.2.1 0).2=0))
   (.ret (.ret ((),((ct (d.1.2.2.2.2.1.take ((bk d.1.2.1.toNat d.1.2.2.1 d.1.2.2.2.2.1 0).1+1).toNat) % 18446744073709551616,(d.1.1+(bk d.1.2.1.toNat d.1.2.2.1 d.1.2.2.2.2.1 0).1+1,(0,()))),()))))
   (.ite (decide ((bk d.1.2.1.toNat d.1.2.2.1 d.1.2.2.2.2.1 0).2=1)) (.ret (.pan (.ret ((),((),())))))
    (.ret (.ret ((),((0,(0,((bk d.1.2.1.toNat d.1.2.2.1 d.1.2.2.2.2.1 0).2,()))),())))))) .no
def pX:Lp:=bG [(6,aI di j3)]
def pj {R:Type}(h4 h5 h6 h7:Int)(h8:LI)(h9 h10:Int)(next:Int→Int→Int→Int→LI→Int→Int→Option R)(out:ao di.xs→Option R):Option R:=bif decide (h10<h9) then bif decide (0≤h10)&&decide (h10<(↑h8.length:Int)) then bif h10 == i64.wrap (h5 - 1) then bif decide (h6<h8.getD h10.toNat 0) then out (.ret ((),((0,(0,(21,()))),()))) else bif decide (0≤i64.wrap (7*h10)) then bif decide (128≤h8.getD h10.toNat 0) then next (h4) (h5) (h6) (iO u64 h7 (dW u64 (u64.wrap (dv u8 (h8.getD h10.toNat 0) 127)) (i64.wrap (7*h10)))) (h8) (h9) (i64.wrap (h10+1)) else bif h8.getD h10.toNat 0 == 0 then bif decide (0<h10) then out (.ret ((),((0,(0,(20,()))),()))) else out (.ret ((),((iO u64 h7 (dW u64 (u64.wrap (dv u8 (h8.getD h10.toNat 0) 127)) (i64.wrap (7*h10))),(i64.wrap (i64.wrap (h4+h10)+1),(0,()))),()))) else out (.ret ((),((iO u64 h7 (dW u64 (u64.wrap (dv u8 (h8.getD h10.toNat 0) 127)) (i64.wrap (7*h10))),(i64.wrap (i64.wrap (h4+h10)+1),(0,()))),()))) else none else bif decide (0≤i64.wrap (7*h10)) then bif decide (128≤h8.getD h10.toNat 0) then next (h4) (h5) (h6) (iO u64 h7 (dW u64 (u64.wrap (dv u8 (h8.getD h10.toNat 0) 127)) (i64.wrap (7*h10)))) (h8) (h9) (i64.wrap (h10+1)) else bif h8.getD h10.toNat 0 == 0 then bif decide (0<h10) then out (.ret ((),((0,(0,(20,()))),()))) else out (.ret ((),((iO u64 h7 (dW u64 (u64.wrap (dv u8 (h8.getD h10.toNat 0) 127)) (i64.wrap (7*h10))),(i64.wrap (i64.wrap (h4+h10)+1),(0,()))),()))) else out (.ret ((),((iO u64 h7 (dW u64 (u64.wrap (dv u8 (h8.getD h10.toNat 0) 127)) (i64.wrap (7*h10))),(i64.wrap (i64.wrap (h4+h10)+1),(0,()))),()))) else none else none else out (.pan (.ret ((),((),()))))
def og (n:Nat)(h4 h5 h6 h7:Int)(h8:LI)(h9 h10:Int):Option (ao di.xs):=iI tt B1 dr pX 0 Tryz.f101 (cR Tryz.f101 0) n (di.st.mk' ((h4,(h5,(h6,(h7,(h8,(h9,(h10,()))))))),())) (bS di.xs)
theorem Em (n:Nat)(h4 h5 h6 h7:Int)(h8:LI)(h9 h10:Int):og (n+1) h4 h5 h6 h7 h8 h9 h10=pj h4 h5 h6 h7 h8 h9 h10 (og n) some:=by kernel_rfl
theorem DE (p m:Nat)(t:Int)(l:LI)(hf:nz m t=true)(hp:(p:Int)+l.length≤9223372036854775807)(hc:∀c∈l,0≤c∧c≤255):∀(k i:Nat),i<m→m<i+k→i≤l.length→
  og k p m t (ct (l.take i)) l l.length i=
   if (bk m t (l.drop i) i).2=0 then some (.ret ((),((ct (l.take ((bk m t (l.drop i) i).1+1).toNat) % 18446744073709551616,(p+(bk m t (l.drop i) i).1+1,(0,()))),())))
   else if (bk m t (l.drop i) i).2=1 then some (.pan (.ret ((),((),())))) else some (.ret ((),((0,(0,((bk m t (l.drop i) i).2,()))),()))):=by
 have hm:(m=10∧t=1)∨(m=5∧t=15):=by
  simp only[nz,Bool.or_eq_true,zA,zB] at hf
  omega
 intro k
 induction k with
 |zero=>intro i h1 h2;omega
 |succ k ih=>
  intro i h1 h2 h3
  rw[Em]
  unfold pj
  by_cases hl:i<l.length
  ·have hcc:=hc l[i] (List.getElem_mem hl)
   have e3:i64.wrap ((m:Int) - 1)=(m:Int) - 1:=af (by omega) (by omega)
   have e4:i64.wrap ((i:Int)+1)=((i+1:Nat):Int):=by rw[af] <;> omega
   have e5:i64.wrap (7*(i:Int))=((7*i:Nat):Int):=by rw[af] <;> omega
   have e6:i64.wrap ((p:Int)+i)=((p+i:Nat):Int):=by rw[af] <;> omega
   have e7:i64.wrap (((p+i:Nat):Int)+1)=(p:Int)+i+1:=by rw[af] <;> omega
   rw[ab (by simpa using hl),ab (by simpa using hl)]
   simp only[zG,aE hl,e3,e4,e5,e6,e7]
   rw[Ir hcc.1 hcc.2,dc (n:=l[i] % 128) (by omega) (by omega),zE hl]
   have hsn:l.take (i+1)=l.take i++[l[i]]:=List.take_succ_eq_append_getElem hl
   have hv:=yF (l.take i)
   have hti:(l.take i).length=i:=by simp;omega
   rw[hti] at hv
   have e8:(128:Int) ^ i=2 ^ (7*i):=by rw[Int.pow_mul];rfl
   have hor:l[i] % 128*2 ^ (7*i)<18446744073709551616→iO .u64 (ct (l.take i)) (dW .u64 (l[i] % 128) ((7*i:Nat):Int))=ct (l.take (i+1)):=by
    intro h
    rw[Lz hv.1 (by rw[← e8];exact hv.2) (by omega) h (by omega),hsn,mA,hti,e8,Int.mul_comm]
   generalize hg:iO .u64 (ct (l.take i)) (dW .u64 (l[i] % 128) ((7*i:Nat):Int))=v at hor ⊢
   have e9:(2:Int) ^ (7*i)=((2 ^ (7*i):Nat):Int):=by rw[Int.natCast_pow];rfl
   have hbd:(i≤8∨l[i] % 128≤1)→l[i] % 128*2 ^ (7*i)<18446744073709551616:=by
    intro h
    rw[e9]
    rcases h with h | h
    ·have h8:2 ^ (7*i)≤2 ^ 56:=Nat.pow_le_pow_right (by decide) (by omega)
     have h9:l[i] % 128*((2 ^ (7*i):Nat):Int)≤127*((2 ^ (7*i):Nat):Int):=Int.mul_le_mul_of_nonneg_right (by omega) (by omega)
     generalize 2 ^ (7*i)=w at h8 h9
     omega
    ·have h8:2 ^ (7*i)≤2 ^ 63:=Nat.pow_le_pow_right (by decide) (by omega)
     have h9:l[i] % 128*((2 ^ (7*i):Nat):Int)≤1*((2 ^ (7*i):Nat):Int):=Int.mul_le_mul_of_nonneg_right h (by omega)
     generalize 2 ^ (7*i)=w at h8 h9
     omega
   have hnext:=fun h=>ih (i+1) h (by omega) (by omega)
   have ei:((i:Int)+1).toNat=i+1:=by omega
   have hvr:bh .u64 v:=by rw[← hg];exact bJ _ _
   have hvr:=pQ.1 hvr
   clear hg
   by_cases hm1:i+1=m
   ·have h3':((i:Int) == (m:Int) - 1)=true:=by simp;omega
    rw[ab h3']
    by_cases h4:t<l[i]
    ·simp[bk,hm1,h4]
    ·have hv2:=hor (hbd (by omega))
     have hmod:ct (l.take (i+1)) % 18446744073709551616=ct (l.take (i+1)):=by rw[← hv2];omega
     have hmod':=hmod
     rw[hm1] at hmod'
     have h5:l[i]<128:=by omega
     have h6:¬ 128≤l[i]:=by omega
     rw[ac (by simpa using h4),ab (by simp;omega),ac (by simpa using h6),hv2]
     by_cases h7:l[i]=0
     ·have h4':¬ t<0:=by omega
      by_cases h8:0<i <;> simp[bk,hm1,h4',h7,h8,cond_eq_ite,ei,hmod']
     ·simp[bk,hm1,h4,h5,h7,cond_eq_ite,ei,hmod']
   ·have h3':((i:Int) == (m:Int) - 1)=false:=by simp;omega
    have hv2:=hor (hbd (by omega))
    have hmod:ct (l.take (i+1)) % 18446744073709551616=ct (l.take (i+1)):=by rw[← hv2];omega
    rw[ac h3',ab (by simp;omega),hv2]
    by_cases h5:l[i]<128
    ·have h6:¬ 128≤l[i]:=by omega
     rw[ac (by simpa using h6)]
     by_cases h7:l[i]=0
     ·by_cases h8:0<i <;> simp[bk,hm1,h7,h8,cond_eq_ite,ei,hmod]
     ·simp[bk,hm1,h5,h7,cond_eq_ite,ei,hmod]
    ·rw[ab (by simp;omega),hnext (by omega)]
     simp[bk,hm1,h5]
  ·rw[ac (by simpa using hl),zI (by omega)]
   simp[bk]
def sN (a0:LI)(a1 a2 a3:Int):Option jg.Res:=bif decide (a1<0) then oR ((0,0,3,()),()) else bif decide ((↑a0.length:Int)<a1) then oR ((0,0,3,()),()) else bif decide (0≤a1)&&(decide (a1≤(↑a0.length:Int))&&decide ((↑a0.length:Int)≤(↑a0.length:Int))) then (j3 ((a1,(a2,(a3,(0,(List.drop a1.toNat (List.take (↑a0.length:Int).toNat a0),((↑(List.drop a1.toNat (List.take (↑a0.length:Int).toNat a0)).length:Int),(0,()))))))),())).run fun y=>match y with | .ret ((),((x46,x47,x48,()),()))=>(oR ((x46,x47,x48,()),())) | .pan (.ret ((),((),())))=>(oR ((0,0,1,()),())) else none
theorem Hp (a0:LI)(a1 a2 a3:Int):Io.run tt B1 dr pX jg Tryz.f101 ((a0,a1,a2,a3,()),())=sN a0 a1 a2 a3:=by kernel_rfl
theorem CP:HcOk prog 101 (ah jg yW):=by
 refine bL (cs:=uL) .nil (lp:=pX) (fn:=Tryz.f101) jg
  (.step (h0:=aI di j3) (by kernel_rfl) (jy (cs:=uL) .nil (lp:=pX) (fn:=Tryz.f101) (.done (by kernel_rfl)) di j3 ?_) (.done (by kernel_rfl))) yW ?_
 ·rintro ⟨⟨(p:Int),(m:Int),(t:Int),(u:Int),(l:LI),(n:Int),(i:Int),⟨⟩⟩,⟨⟩⟩ y hw hy
  obtain ⟨hg,hy⟩:=Tr.guard hy
  simp only[zA,zB] at hg
  obtain ⟨hf,rfl,rfl,rfl,h1,h2⟩:=hg
  have h1:(0:Int)≤p:=h1
  have h2:p+(l.length:Int)≤9223372036854775807:=h2
  have hm0:5≤m∧m≤10:=by
   simp only[nz,Bool.or_eq_true,zA,zB] at hf
   omega
  obtain ⟨p,rfl⟩:=au h1
  obtain ⟨m,rfl⟩:=au (show 0≤m by omega)
  have hc:∀c∈l,0≤c∧c≤255:=fun c hc=>F7.1 (hw.1.2.2.2.2.1.2 c hc)
  refine ⟨m+1,(DE p m t l hf h2 hc (m+1) 0 (by omega) (by omega) (by omega)).trans ?_⟩
  rw[← hy]
  simp only[Tr.val_ite,Tr.val_ret,zG,zB,List.drop_zero]
 ·rintro ⟨⟨(b:LI),(p:Int),(m:Int),(t:Int),⟨⟩⟩,⟨⟩⟩ out hw ho
  obtain ⟨hf,ho⟩:=Tr.guard ho
  cases ho
  refine (Hp b p m t).trans ?_
  have hb:b.length≤maxLen:=hw.1.1.1
  rw[aR] at hb
  have hf:nz m t=true:=hf
  have hm0:5≤m∧m≤10:=by
   simp only[nz,Bool.or_eq_true,zA,zB] at hf
   omega
  unfold sN
  show _=oR (((aa m.toNat t b p).1,(aa m.toNat t b p).2.1,(aa m.toNat t b p).2.2,()),())
  unfold aa
  by_cases h1:p<0
  ·rw[ab (by simpa using h1),if_pos (.inl h1)]
  ·by_cases h2:(b.length:Int)<p
   ·rw[ac (by simpa using h1),ab (by simpa using h2),if_pos (.inr h2)]
   ·rw[ac (by simpa using h1),ac (by simpa using h2),ab (by simp;omega),if_neg (by omega),show (b.length:Int).toNat=b.length by omega,List.take_length]
    have hlen:((b.drop p.toNat).length:Int)=b.length - p:=by simp;omega
    have hr:=nD m.toNat t (b.drop p.toNat) 0
    unfold j3
    generalize b.drop p.toNat=l at hlen hr ⊢
    generalize bk m.toNat t l 0=r at hr ⊢
    obtain ⟨r1,r2⟩:=r
    have h9:(0:Int)≤p:=by omega
    have h8:p+(l.length:Int)≤9223372036854775807:=by omega
    simp only[Tr.run_ite,Tr.run_ret,zA,zB]
    rw[if_pos ⟨hf,trivial,trivial,trivial,h9,h8⟩]
    by_cases h3:r2=0
    ·simp[h3]
    ·by_cases h4:r2=1
     ·simp[h4]
     ·simp[h3,h4]
abbrev kh:Io:=⟨[dL,dI],[],[],[LS,dI,dI],none⟩
def A7 (d:kh.In):Tr kh.Res:=.ret (.ret ((aj (aa 10 1 d.1.1 d.1.2.1).1,(aa 10 1 d.1.1 d.1.2.1).2.1,(aa 10 1 d.1.1 d.1.2.1).2.2,()),()))
abbrev zt:List (Nat×Hc):=[(101,ah jg yW),(102,ah l6 EM)]
def KM:Hd:=bt zt
def Gl:Lp:=bG []
def qB (a0:LI)(a1:Int):Option kh.Res:=oR ((aj (aa (Int.toNat 10) 1 a0 a1).1,(aa (Int.toNat 10) 1 a0 a1).2.1,(aa (Int.toNat 10) 1 a0 a1).2.2,()),())
theorem JO (a0:LI)(a1:Int):Io.run tt KM dr Gl kh Tryz.f99 ((a0,a1,()),())=qB a0 a1:=by kernel_rfl
theorem GR:HcOk prog 99 (ah kh A7):=by
 refine bL (cs:=zt) (.cons CP (.cons GT .nil)) (lp:=Gl) (fn:=Tryz.f99) kh (.done (by kernel_rfl)) A7 ?_
 rintro ⟨⟨(b:LI),(p:Int),⟨⟩⟩,⟨⟩⟩ out hw ho
 cases ho
 refine (JO b p).trans ?_
 first | rfl | (unfold qB;simp[nz];done) | (unfold qB;rfl)
abbrev fu:Io:=⟨[dL,dI],[],[],[MC,dI,dI],none⟩
def pE (d:fu.In):Tr fu.Res:=.ret (.ret ((IntKind.wrap .i32 (aj (aa 5 15 d.1.1 d.1.2.1).1),(aa 5 15 d.1.1 d.1.2.1).2.1,(aa 5 15 d.1.1 d.1.2.1).2.2,()),()))
abbrev wL:List (Nat×Hc):=zt
def FU:Hd:=bt wL
def xN:Lp:=bG []
def lM (a0:LI)(a1:Int):Option fu.Res:=oR ((i32.wrap (aj (aa (Int.toNat 5) 15 a0 a1).1),(aa (Int.toNat 5) 15 a0 a1).2.1,(aa (Int.toNat 5) 15 a0 a1).2.2,()),())
theorem D5 (a0:LI)(a1:Int):Io.run tt FU dr xN fu Tryz.f72 ((a0,a1,()),())=lM a0 a1:=by kernel_rfl
theorem xZ:HcOk prog 72 (ah fu pE):=by
 refine bL (cs:=wL) (.cons CP (.cons GT .nil)) (lp:=xN) (fn:=Tryz.f72) fu (.done (by kernel_rfl)) pE ?_
 rintro ⟨⟨(b:LI),(p:Int),⟨⟩⟩,⟨⟩⟩ out hw ho
 cases ho
 refine (D5 b p).trans ?_
 first | rfl | (unfold lM;simp[nz];done) | (unfold lM;rfl)
theorem JD:∀c:Nat,c<256→iO .u8 (c:Int) 128=(c:Int) % 128+128:=by decide +kernel
theorem Ly {u:Int}:iO .u8 (IntKind.wrap .u8 u) 128=u % 128+128:=by
 have e:IntKind.wrap .u8 u=((u % 256).toNat:Int):=by simp[IntKind.wrap,IntKind.signed,IntKind.bits];omega
 rw[e,JD _ (by omega)]
 omega
abbrev MX:Sh:=.dat (.sl 2 (.int .i64)) false false
abbrev dP:Io:=⟨[MX],[],[],[dO],none⟩
def dy (vs:LI):LI:=vs.flatMap fun v=>bW (aY v)
def mI (d:dP.In):Tr dP.Res:=.ite (decide (d.1.1.length≤100000000)) (.ret (.ret ((dy d.1.1,()),()))) .no
abbrev te:List (Nat×Hc):=[(147,ah l7 EN)]
def n6:Hd:=bt te
abbrev cd:Lo:=⟨⟨(.any::bz (.one (.onl 5 (Ty.int u8) 7)::bz (.one (.hol (.int u64))::.any::.one (.hol (.sl 2 (Ty.int i64)))::.one hI::.one hI::al (cj (bz []))))),[]⟩,[(.exit 2,⟨(.any::bz (.one (.onl 5 (Ty.int u8) 7)::bz (.one (.hol (.int u64))::.any::.one (.hol (.sl 2 (Ty.int i64)))::.one hI::.one hI::al (cj (bz []))))),[]⟩)]⟩
abbrev cc:Lo:=⟨⟨(.any::bz (.one (.onl 5 (Ty.int u8) 7)::cj (.one (.hol (.sl 2 (Ty.int i64)))::.one hI::.one hI::al (cj (bz []))))),[]⟩,[(.exit 0,⟨(.any::bz (.one (.onl 5 (Ty.int u8) 7)::.any::al (dC (cj [])))),[]⟩)]⟩
def f4 (d:cd.st.den):Tr (ao cd.xs):=
 .ite (decide (d.1.1.length≤4294967000)) (.ret (.ret ((),((d.1.1++pB 10 d.1.2.1,(oD 10 d.1.2.1,(d.1.2.2.1,(d.1.2.2.2.1,(d.1.2.2.2.2.1,()))))),())))) .no
def fZ (d:cc.st.den):Tr (ao cc.xs):=
 .ite (decide (d.1.1.length=0)&&(decide ((d.1.2.1.length:Int)=d.1.2.2.1)&&(decide (d.1.2.2.2.1=(0:Int))&&decide (d.1.2.1.length≤100000000)))) (.ret (.ret ((),((dy d.1.2.1,()),())))) .no
def fU:Lp:=bG [(4,aI cc fZ),(7,aI cd f4)]
def iz {R:Type}(h5:LI)(h6:Int)(h7:LI)(h8 h9:Int)(next:LI→Int→LI→Int→Int→Option R)(out:ao cd.xs→Option R):Option R:=bif decide (128≤h6) then bif decide (h5.length+[iO u8 (u8.wrap h6) 128].length≤4294967296) then next (h5++[iO u8 (u8.wrap h6) 128]) (dw u64 h6 7) (h7) (h8) (h9) else none else out (.ret ((),((h5,(h6,(h7,(h8,(h9,()))))),())))
def km (n:Nat)(h5:LI)(h6:Int)(h7:LI)(h8 h9:Int):Option (ao cd.xs):=iI tt n6 dr fU 0 Tryz.f127 (Mm Tryz.f127 (cR Tryz.f127 0) 0) n (cd.st.mk' ((h5,(h6,(h7,(h8,(h9,()))))),())) (bS cd.xs)
theorem o8 (n:Nat)(h5:LI)(h6:Int)(h7:LI)(h8 h9:Int):km (n+1) h5 h6 h7 h8 h9=iz h5 h6 h7 h8 h9 (km n) some:=by kernel_rfl
def lG {R:Type}(h1 h2:LI)(h3 h4:Int)(next:LI→LI→Int→Int→Option R)(out:ao cc.xs→Option R):Option R:=bif decide (h4<h3) then bif decide (0≤h4)&&decide (h4<(↑h2.length:Int)) then (f4 ((h1,(aY (h2.getD h4.toNat 0),(h2,(h3,(h4,()))))),())).run fun y=>match y with | .ret ((),((x20,x21,x22,x23,x24,()),()))=>(bif decide (x20.length+[u8.wrap x21].length≤4294967296) then next (x20++[u8.wrap x21]) (x22) (x23) (i64.wrap (x24+1)) else none) else none else out (.ret ((),((h1,()),())))
def kl (n:Nat)(h1 h2:LI)(h3 h4:Int):Option (ao cc.xs):=iI tt n6 dr fU 0 Tryz.f127 (cR Tryz.f127 0) n (cc.st.mk' ((h1,(h2,(h3,(h4,())))),())) (bS cc.xs)
theorem yn (n:Nat)(h1 h2:LI)(h3 h4:Int):kl (n+1) h1 h2 h3 h4=lG h1 h2 h3 h4 (kl n) some:=by kernel_rfl
theorem r8 (l:LI)(a i:Int):∀(n k:Nat) (u:Int) (o:LI),0≤u→u<128 ^ n→u<18446744073709551616→n<k→o.length+n≤4294967296→
  km k o u l a i=some (.ret ((),((o++pB n u,(oD n u,(l,(a,(i,()))))),()))):=by
 intro n
 induction n with
 |zero=>
  intro k u o h0 h1 h2 h3 h4
  obtain ⟨k,rfl⟩:∃m,k=m+1:=⟨k - 1,by omega⟩
  rw[o8]
  unfold iz
  have:¬ 128≤u:=by simp at h1;omega
  simp[this,oD,pB]
 |succ n ih=>
  intro k u o h0 h1 h2 h3 h4
  obtain ⟨k,rfl⟩:∃m,k=m+1:=⟨k - 1,by omega⟩
  rw[o8]
  unfold iz
  have e1:dw .u64 u 7=u / 128:=by
   show IntKind.wrap .u64 (u.fdiv (2 ^ 7))=_
   rw[Int.fdiv_eq_ediv_of_nonneg _ (by decide),dc] <;> omega
  rw[Ly,e1]
  by_cases h:127<u
  ·rw[ih k (u / 128) _ (by omega) (by rw[Int.pow_succ] at h1;exact Int.ediv_lt_of_lt_mul (by omega) h1) (by omega) (by omega) (by simp;omega)]
   have h5:o.length+1≤4294967296:=by omega
   have h6:128≤u:=by omega
   simp[h,h5,h6,oD,pB]
  ·have h6:¬ 128≤u:=by omega
   simp[h,h6,oD,pB]
theorem yy:∀(n:Nat) (u:Int),(pB n u).length≤n:=by
 intro n
 induction n with
 |zero=>intro u;simp[pB]
 |succ n ih=>intro u;simp only[pB];split;have:=ih (u / 128);simp;omega;simp
theorem yG {v:Int}(hr:bh .i64 v):0≤aY v∧aY v<18446744073709551616:=by
 have hr:=B8.1 hr
 unfold aY;split <;> omega
theorem yx (v:Int)(l:LI):dy (v::l)=pB 10 (aY v)++(oD 10 (aY v)::dy l):=by simp[dy,bW]
theorem r7 (vs:LI)(hl:vs.length≤100000000)(hr:∀v∈vs,bh .i64 v):∀(k:Nat) (o:LI) (i:Nat),i≤vs.length→vs.length<i+k→o.length≤11*i→
  kl k o vs vs.length i=some (.ret ((),((o++dy (vs.drop i),()),()))):=by
 intro k
 induction k with
 |zero=>intro o i h1 h2;omega
 |succ k ih=>
  intro o i h1 h2 h3
  rw[yn]
  unfold lG
  by_cases hi:i<vs.length
  ·have hz:=yG (hr vs[i] (List.getElem_mem hi))
   obtain ⟨l1,l2⟩:=C7 10 (aY vs[i]) hz.1 (by have:=hz.2;omega)
   have h4:=yy 10 (aY vs[i])
   have h5:o.length≤4294967000:=by omega
   have h6:o.length+(pB 10 (aY vs[i])).length+1≤4294967296:=by omega
   have e4:i64.wrap ((i:Int)+1)=((i+1:Nat):Int):=by rw[af] <;> omega
   rw[ab (by simpa using hi),ab (by simpa using hi),zE hi]
   simp only[zG,aE hi,f4,Tr.run_ite,Tr.run_ret,h5,decide_true,if_true,e4]
   rw[ab (by simp;omega),rX (n:=oD 10 (aY vs[i])) l1 (by omega),ih _ (i+1) hi (by omega) (by simp;omega)]
   rw[yx]
   simp
  ·rw[zI (by omega)]
   simp[hi,dy]
def oM (a0:LI):Option dP.Res:=(fZ (([],(a0,((↑a0.length:Int),(0,())))),())).run fun y=>match y with | .ret ((),((x30,()),()))=>(oR ((x30,()),()))
theorem Aw (a0:LI):Io.run tt n6 dr fU dP Tryz.f127 ((a0,()),())=oM a0:=by kernel_rfl
theorem ke:HcsOk prog te:=.cons Lj .nil
theorem tR:HcOk prog 127 (ah dP mI):=by
 refine bL ke (lp:=fU) (fn:=Tryz.f127) dP
  (.step (h0:=aI cc fZ) (by kernel_rfl) (jy ke (lp:=fU) (fn:=Tryz.f127)
   (.step (h0:=aI cd f4) (by kernel_rfl) (jy ke (lp:=fU) (fn:=Tryz.f127) (.done (by kernel_rfl)) cd f4 ?_) (.done (by kernel_rfl)))
   cc fZ ?_) (.done (by kernel_rfl))) mI ?_
 ·rintro ⟨⟨(o:LI),(u:Int),(l:LI),(a:Int),(i:Int),⟨⟩⟩,⟨⟩⟩ y hw hy
  obtain ⟨hg,hy⟩:=Tr.guard hy
  have hg:o.length≤4294967000:=by simpa using hg
  have hr:=pQ.1 (show bh .u64 u from hw.1.2.1)
  refine ⟨11,(r8 l a i 10 11 u o hr.1 (by omega) (by omega) (by omega) (by omega)).trans ?_⟩
  rw[← hy];rfl
 ·rintro ⟨⟨(o:LI),(l:LI),(a:Int),(i:Int),⟨⟩⟩,⟨⟩⟩ y hw hy
  obtain ⟨hg,hy⟩:=Tr.guard hy
  simp only[zA,zB] at hg
  obtain ⟨h1,rfl,rfl,h2⟩:=hg
  have h1:o=[]:=List.length_eq_zero_iff.1 h1
  subst h1
  have h2:l.length≤100000000:=h2
  refine ⟨l.length+1,(r7 l h2 (fun v hv=>hw.1.2.1.2 v hv) (l.length+1) [] 0 (by omega) (by omega) (by simp)).trans ?_⟩
  rw[← hy];rfl
 ·rintro ⟨⟨(l:LI),⟨⟩⟩,⟨⟩⟩ out hw ho
  obtain ⟨hg,ho⟩:=Tr.guard ho
  cases ho
  refine (Aw l).trans ?_
  have hg:l.length≤100000000:=by simpa using hg
  unfold oM fZ
  simp[Tr.run_ite,Tr.run_ret,hg]
abbrev je:Io:=⟨[LS],[],[],[dO],none⟩
def vY (d:je.In):Tr je.Res:=.ret (.ret ((bW (aY d.1.1),()),()))
abbrev Fe:List (Nat×Hc):=[(127,ah dP mI)]
def KO:Hd:=bt Fe
def Gn:Lp:=bG []
def wh (a0:Int):Option je.Res:=oR ((dy [a0],()),())
theorem JQ (a0:Int):Io.run tt KO dr Gn je Tryz.f86 ((a0,()),())=wh a0:=by kernel_rfl
theorem Ak:HcOk prog 86 (ah je vY):=by
 refine bL (cs:=Fe) (.cons tR .nil) (lp:=Gn) (fn:=Tryz.f86) je (.done (by kernel_rfl)) vY ?_
 rintro ⟨⟨(v:Int),⟨⟩⟩,⟨⟩⟩ out hw ho
 cases ho
 refine (JQ v).trans ?_
 unfold wh
 simp[dy]
abbrev t7:Ty:=.prod .bool (.prod bs .unit)
abbrev cm:Ty:=.prod .str (.prod t7 .unit)
abbrev AP:Ty:=.sl 51 cm
abbrev MH:Ty:=.prod (.int .i64) (.prod (.int .i32) (.prod t7 (.prod t7 (.prod AP .unit))))
abbrev tp:Sh:=.dat t7 true false
abbrev wW:Sh:=.dat MH true false
abbrev zx:Sh:=.dat AP false false
abbrev b9:Io:=⟨[tp,tp],[],[],[dB],none⟩
def gK (d:b9.In):Tr b9.Res:=.ret (.ret ((decide (d.1.1=d.1.2.1),()),()))
abbrev m4:List (Nat×Hc):=[(31,ah iZ vX)]
def uV:Hd:=bt m4
def nh:Lp:=bG []
def ka (a0:Bool)(a1:LI)(a2:Bool)(a3:LI):Option b9.Res:=bif a0 == a2 then oR ((decide (a1=a3),()),()) else oR ((false,()),())
theorem se (a0:Bool)(a1:LI)(a2:Bool)(a3:LI):Io.run tt uV dr nh b9 Tryz.f117 (((a0,a1,()),(a2,a3,()),()),())=ka a0 a1 a2 a3:=by kernel_rfl
theorem nr:HcOk prog 117 (ah b9 gK):=by
 refine bL (cs:=m4) (.cons Aj .nil) (lp:=nh) (fn:=Tryz.f117) b9 (.done (by kernel_rfl)) gK ?_
 rintro ⟨⟨⟨(n:Bool),(b:LI),⟨⟩⟩,⟨(m:Bool),(c:LI),⟨⟩⟩,⟨⟩⟩,⟨⟩⟩ out hw ho
 cases ho
 refine (se n b m c).trans ?_
 unfold ka
 show _=oR ((decide (((n,b,()):Bool×LI×Unit)=(m,c,())),()),())
 cases n <;> cases m <;> simp
abbrev vV:Type:=Bool×LI×Unit
abbrev cv:Type:=LI×vV×Unit
abbrev ll:Type:=Int×Int×vV×vV×List cv×Unit
abbrev co:Io:=⟨[zx,zx],[],[],[dB],none⟩
def iP (d:co.In):Tr co.Res:=.ret (.ret ((decide (d.1.1=d.1.2.1),()),()))
abbrev lx:List (Nat×Hc):=[(117,ah b9 gK)]
def ly:Hd:=bt lx
abbrev aZ:Lo:=⟨⟨(.one (.hol (.sl 51 (Ty.str.prod ((Ty.bool.prod ((Ty.sl 5 (Ty.int u8)).prod Ty.unit)).prod Ty.unit))))::.one (.hol (.sl 51 (Ty.str.prod ((Ty.bool.prod ((Ty.sl 5 (Ty.int u8)).prod Ty.unit)).prod Ty.unit))))::.any::bz (.one hI::al (al (cj [])))),[]⟩,[(.ret,⟨(cj (.one hL::.any::al (al (cj [])))),[]⟩),(.exit 0,⟨(al (al (dC (bz [])))),[]⟩)]⟩
def cY (d:aZ.st.den):Tr (ao aZ.xs):=
 .ite (decide (d.1.2.2.1=(0:Int))&&decide (d.1.1.length=d.1.2.1.length)) (.ite (decide (d.1.1=d.1.2.1)) (.ret (.pan (.ret ((),((),()))))) (.ret (.ret ((),((false,()),()))))) .no
def fj:Lp:=bG [(5,aI aZ cY)]
def ii {R:Type}(h2 h3:List cm.den)(h4:Int)(next:List cm.den→List cm.den→Int→Option R)(out:ao aZ.xs→Option R):Option R:=bif decide (h4<(↑h2.length:Int)) then bif decide (0≤h4)&&decide (h4<(↑h2.length:Int)) then bif decide (0≤h4)&&decide (h4<(↑h3.length:Int)) then bif !decide ((h2.getD h4.toNat ([],(false,[],()),())).1=(h3.getD h4.toNat ([],(false,[],()),())).1) then out (.ret ((),((false,()),()))) else bif decide (0≤h4)&&decide (h4<(↑h2.length:Int)) then bif decide (0≤h4)&&decide (h4<(↑h3.length:Int)) then bif !decide (((h2.getD h4.toNat ([],(false,[],()),())).2.1.1,(h2.getD h4.toNat ([],(false,[],()),())).2.1.2.1,())=((h3.getD h4.toNat ([],(false,[],()),())).2.1.1,(h3.getD h4.toNat ([],(false,[],()),())).2.1.2.1,())) then out (.ret ((),((false,()),()))) else next (h2) (h3) (i64.wrap (h4+1)) else none else none else none else none else out (.pan (.ret ((),((),()))))
def fB (n:Nat)(h2 h3:List cm.den)(h4:Int):Option (ao aZ.xs):=iI tt ly dr fj 0 Tryz.f118 (cR Tryz.f118 0) n (aZ.st.mk' ((h2,(h3,(h4,()))),())) (bS aZ.xs)
theorem pA (n:Nat)(h2 h3:List cm.den)(h4:Int):fB (n+1) h2 h3 h4=ii h2 h3 h4 (fB n) some:=by kernel_rfl
theorem px (xs ys:List cv)(hl:xs.length=ys.length)(hb:xs.length≤maxLen):∀(k i:Nat),i≤xs.length→xs.length<i+k→
  fB k xs ys (i:Int)=if xs.drop i=ys.drop i then some (.pan (.ret ((),((),())))) else some (.ret ((),((false,()),()))):=by
 intro k
 induction k with
 |zero=>intro i h h';omega
 |succ k ih=>
  intro i hi h
  rw[pA]
  unfold ii
  by_cases h1:i<xs.length
  ·have h2:i<ys.length:=by omega
   rw[bm h1 hb,ih (i+1) h1 (by omega)]
   have e:(xs.drop i=ys.drop i)↔(xs[i]=ys[i]∧xs.drop (i+1)=ys.drop (i+1)):=by rw[zE h1,zE h2,List.cons.injEq]
   have e1:(xs.getD (i:Int).toNat ([],(false,[],()),()):cv)=xs[i]:=aE h1
   have e2:(ys.getD (i:Int).toNat ([],(false,[],()),()):cv)=ys[i]:=aE h2
   rw[← e1,← e2] at e
   generalize (xs.getD (i:Int).toNat ([],(false,[],()),()):cv)=x at *
   generalize (ys.getD (i:Int).toNat ([],(false,[],()),()):cv)=y at *
   obtain ⟨x1,⟨x2,x3,⟨⟩⟩,⟨⟩⟩:=x
   obtain ⟨y1,⟨y2,y3,⟨⟩⟩,⟨⟩⟩:=y
   by_cases he:x1=y1 <;> by_cases he2:x2=y2 <;> by_cases he3:x3=y3 <;> simp[h1,h2,he,he2,he3,e,cond_eq_ite]
  ·rw[zI (by omega),zI (by omega)]
   simp[h1]
def jL (a0 a1:List cm.den):Option co.Res:=bif (↑a0.length:Int) != (↑a1.length:Int) then oR ((false,()),()) else (cY ((a0,(a1,(0,()))),())).run fun y=>match y with | .ret ((),((x10,()),()))=>(oR ((x10,()),())) | .pan (.ret ((),((),())))=>(oR ((true,()),()))
theorem rA (a0 a1:List cm.den):Io.run tt ly dr fj co Tryz.f118 ((a0,a1,()),())=jL a0 a1:=by kernel_rfl
theorem jO:HcsOk prog lx:=.cons nr .nil
theorem sb:HcOk prog 118 (ah co iP):=by
 refine bL jO (lp:=fj) (fn:=Tryz.f118) co
  (.step (h0:=aI aZ cY) (by kernel_rfl) (jy jO (lp:=fj) (fn:=Tryz.f118) (.done (by kernel_rfl)) aZ cY ?_) (.done (by kernel_rfl))) iP ?_
 ·rintro ⟨⟨(xs:List cv),(ys:List cv),(i:Int),⟨⟩⟩,⟨⟩⟩ y hw hy
  obtain ⟨hg,hy⟩:=Tr.guard hy
  simp only[zA,zB] at hg
  obtain ⟨hi,hl⟩:=hg
  have hi:i=0:=hi
  have hl:xs.length=ys.length:=hl
  subst hi
  refine ⟨xs.length+1,(px xs ys hl hw.1.1.1 _ 0 (by omega) (by omega)).trans ?_⟩
  rw[← hy]
  simp only[Tr.val_ite,zB,Tr.val_ret,List.drop_zero]
 ·rintro ⟨⟨(xs:List cv),(ys:List cv),⟨⟩⟩,⟨⟩⟩ out hw ho
  cases ho
  refine (rA xs ys).trans ?_
  unfold jL cY
  show _=oR ((decide (xs=ys),()),())
  by_cases hl:xs.length=ys.length
  ·by_cases he:xs=ys
   ·subst he;simp[Tr.run]
   ·simp[Tr.run,hl,he]
  ·have:xs≠ys:=fun e=>hl (by rw[e])
   have h2:(xs.length:Int)≠ys.length:=by omega
   simp[this,h2,cond_eq_ite]
def ag (b:LI)(p:Int):Int×Int×Int:=(IntKind.wrap .i32 (aj (aa 5 15 b p).1),(aa 5 15 b p).2.1,(aa 5 15 b p).2.2)
def ae (b:LI)(p least:Int):vV×Int×Int:=
 if (ag b p).2.2≠0 then ((false,[],()),0,(ag b p).2.2)
 else if (ag b p).1<least then ((false,[],()),0,5)
 else if (ag b p).1<0 then ((true,[],()),(ag b p).2.1,0)
 else if (b.length:Int) - (ag b p).2.1<(ag b p).1 then ((false,[],()),0,1)
 else ((false,(b.drop (ag b p).2.1.toNat).take (ag b p).1.toNat,()),(ag b p).2.1+(ag b p).1,0)
def ar (b:LI):Nat→List cv→Int→List cv×Int×Int
 |0,out,p=>(out,p,0)
 |n+1,out,p=>
  if (ae b p 0).2.2≠0 then ([],0,(ae b p 0).2.2)
  else if (cl (ae b p 0).1.2.1).2=false then ([],0,6)
  else if (ae b (ae b p 0).2.1 (-1)).2.2≠0 then ([],0,(ae b (ae b p 0).2.1 (-1)).2.2)
  else ar b n (out++[((ae b p 0).1.2.1,(ae b (ae b p 0).2.1 (-1)).1,())]) (ae b (ae b p 0).2.1 (-1)).2.1
theorem nA (b:LI):∀(n:Nat) (o:List cv) (p:Int),(ar b n o p).2.2≠0→(ar b n o p).1=[]∧(ar b n o p).2.1=0
 |0,o,p,h=>absurd rfl h
 |n+1,o,p,h=>by
  unfold ar at h ⊢
  split
  ·exact ⟨rfl,rfl⟩
  split
  ·exact ⟨rfl,rfl⟩
  split
  ·exact ⟨rfl,rfl⟩
  rename_i h1 h2 h3
  rw[if_neg h1,if_neg h2,if_neg h3] at h
  exact nA b n _ _ h
def av (b:LI)(p:Int):List cv×Int×Int:=
 if (ag b p).2.2≠0 then ([],0,(ag b p).2.2)
 else if (ag b p).1<0 then ([],0,5)
 else if 16<(ag b p).1 then ([],0,9)
 else ar b (ag b p).1.toNat [] (ag b p).2.1
def ax:ll:=(0,0,(false,[],()),(false,[],()),[],())
def aH (b:LI):ll×Int:=
 if b.length=0 then (ax,1)
 else if b.getD 0 0≠0 then (ax,71)
 else if (aa 10 1 b 1).2.2≠0 then (ax,(aa 10 1 b 1).2.2)
 else if (ag b (aa 10 1 b 1).2.1).2.2≠0 then (ax,(ag b (aa 10 1 b 1).2.1).2.2)
 else if (ag b (aa 10 1 b 1).2.1).1<0 then (ax,72)
 else if (ae b (ag b (aa 10 1 b 1).2.1).2.1 (-1)).2.2≠0 then (ax,(ae b (ag b (aa 10 1 b 1).2.1).2.1 (-1)).2.2)
 else if (ae b (ae b (ag b (aa 10 1 b 1).2.1).2.1 (-1)).2.1 (-1)).2.2≠0 then (ax,(ae b (ae b (ag b (aa 10 1 b 1).2.1).2.1 (-1)).2.1 (-1)).2.2)
 else if (av b (ae b (ae b (ag b (aa 10 1 b 1).2.1).2.1 (-1)).2.1 (-1)).2.1).2.2≠0 then (ax,(av b (ae b (ae b (ag b (aa 10 1 b 1).2.1).2.1 (-1)).2.1 (-1)).2.1).2.2)
 else if (av b (ae b (ae b (ag b (aa 10 1 b 1).2.1).2.1 (-1)).2.1 (-1)).2.1).2.1<(b.length:Int) then (ax,2)
 else ((aj (aa 10 1 b 1).1,(ag b (aa 10 1 b 1).2.1).1,(ae b (ag b (aa 10 1 b 1).2.1).2.1 (-1)).1,(ae b (ae b (ag b (aa 10 1 b 1).2.1).2.1 (-1)).2.1 (-1)).1,(av b (ae b (ae b (ag b (aa 10 1 b 1).2.1).2.1 (-1)).2.1 (-1)).2.1).1,()),0)
def am (b:LI)(p:Int):ll×Int×Int:=
 if (ag b p).2.2≠0 then (ax,0,(ag b p).2.2)
 else if (ag b p).1<0 then (ax,0,5)
 else if 16384<(ag b p).1 then (ax,0,4)
 else if (b.length:Int) - (ag b p).2.1<(ag b p).1 then (ax,0,1)
 else if (aH ((b.drop (ag b p).2.1.toNat).take (ag b p).1.toNat)).2≠0 then (ax,0,(aH ((b.drop (ag b p).2.1.toNat).take (ag b p).1.toNat)).2)
 else ((aH ((b.drop (ag b p).2.1.toNat).take (ag b p).1.toNat)).1,(ag b p).2.1+(ag b p).1,0)
theorem Tr.run_of_val {α R:Type}:∀{t:Tr α} {K:α→Option R} {a:α},t.val=some a→t.run K=K a
 |.ret a,K,b,h=>by cases h;rfl
 |.no,K,b,h=>by cases h
 |.ite c t e,K,b,h=>by
  cases c with
  |true=>exact Tr.run_of_val (t:=t) h
  |false=>exact Tr.run_of_val (t:=e) h
theorem HcOk.weak {P:Program}{f:Nat}{io:Io}{F F':io.In→Tr io.Res}(hF:∀d y,(F' d).val=some y→(F d).val=some y)(h:HcOk P f (ah io F)):HcOk P f (ah io F'):=by
 intro R args id A K r Fr G ts cst w vals hid hr Rl hv
 refine h R args id A K r Fr G ts cst w vals hid ?_ Rl hv
 unfold ah at hr ⊢
 split at hr
 ·cases hr
 ·split at hr
  ·cases hr
  ·rename_i a β1 e1 o β e2
   simp only at hr ⊢
   simp only[cond_eq_ite] at hr ⊢
   split at hr
   ·rename_i hc
    rw[if_pos hc]
    obtain ⟨y,h1,h2⟩:=Tr.run_val hr
    rw[Tr.run_of_val (hF _ _ h1)]
    exact h2
   ·cases hr
theorem tX {m:Nat}{t:Int}{b:LI}{p:Int}(h:(aa m t b p).2.2≠0):(aa m t b p).1=0∧(aa m t b p).2.1=0:=by
 unfold aa at h ⊢
 split
 ·exact ⟨rfl,rfl⟩
 ·split
  ·rename_i h1 h2
   rw[if_neg h1,if_pos h2] at h
   exact absurd rfl h
  ·exact ⟨rfl,rfl⟩
def sj (d:cx.In):Tr cx.Res:=.ret (.ret (((ag d.1.1 d.1.2.1).1,(ag d.1.1 d.1.2.1).2.1,(ag d.1.1 d.1.2.1).2.2,()),()))
theorem vB:HcOk prog 115 (ah cx sj):=by
 refine GU.weak ?_
 rintro ⟨⟨(b:LI),(p:Int),⟨⟩⟩,⟨⟩⟩ y h
 rw[← h]
 unfold pF sj ag
 simp only[Tr.val_ite,Tr.val_ret,zB]
 by_cases h1:(aa 5 15 b p).2.2=0
 ·rw[if_pos h1,h1]
 ·obtain ⟨h2,h3⟩:=tX h1
  rw[if_neg h1,h2,h3]
  rfl
def uo (d:gm.In):Tr gm.Res:=.ret (.ret ((aj (aa 10 1 d.1.1 d.1.2.1).1,(aa 10 1 d.1.1 d.1.2.1).2.1,(aa 10 1 d.1.1 d.1.2.1).2.2,()),()))
theorem CQ:HcOk prog 76 (ah gm uo):=by
 refine Lk.weak ?_
 rintro ⟨⟨(b:LI),(p:Int),⟨⟩⟩,⟨⟩⟩ y h
 rw[← h]
 unfold A9 uo
 simp only[Tr.val_ite,Tr.val_ret,zB]
 by_cases h1:(aa 10 1 b p).2.2=0
 ·rw[if_pos h1,h1]
 ·obtain ⟨h2,h3⟩:=tX h1
  rw[if_neg h1,h2,h3]
  rfl
theorem rE {m:Nat}{t:Int}{b:LI}{p:Int}(h:(aa m t b p).2.2=0):0≤p∧p<(aa m t b p).2.1∧(aa m t b p).2.1≤b.length:=by
 unfold aa at h ⊢
 split
 ·rename_i h1
  rw[if_pos h1] at h
  cases h
 ·rename_i h1
  rw[if_neg h1] at h
  split
  ·rename_i h2
   have h3:=nD m t (b.drop p.toNat) 0 h2
   simp only[List.length_drop] at h3
   generalize (bk m t (b.drop p.toNat) 0).1=k at h3 ⊢
   simp only
   omega
  ·rename_i h2
   rw[if_neg h2] at h
   exact absurd h h2
theorem kI {b:LI}{p:Int}(h:(ag b p).2.2=0):0≤p∧p<(ag b p).2.1∧(ag b p).2.1≤b.length:=rE h
theorem cD {b:LI}{p:Int} : -2147483648≤(ag b p).1∧(ag b p).1≤2147483647:=by
 have:=bJ .i32 (aj (aa 5 15 b p).1)
 simp[bh,IntKind.min,IntKind.max,IntKind.signed,IntKind.bits] at this
 exact this
abbrev gV:Io:=⟨[dL,dI,MC],[],[],[tp,dI,dI],none⟩
def uu (d:gV.In):Tr gV.Res:=.ret (.ret (((ae d.1.1 d.1.2.1 d.1.2.2.1).1,(ae d.1.1 d.1.2.1 d.1.2.2.1).2.1,(ae d.1.1 d.1.2.1 d.1.2.2.1).2.2,()),()))
abbrev BG:List (Nat×Hc):=[(115,ah cx sj),(33,ah iY vW)]
def IW:Hd:=bt BG
def Cu:Lp:=bG []
def Df (a0:LI)(a1 a2:Int):Option gV.Res:=bif (aa 5 15 a0 a1).2.2 != 0 then oR (((false,[],()),0,(aa 5 15 a0 a1).2.2,()),()) else bif decide (i32.wrap (aj (aa 5 15 a0 a1).1)<a2) then oR (((false,[],()),0,5,()),()) else bif decide (i32.wrap (aj (aa 5 15 a0 a1).1)<0) then oR (((true,[],()),(aa 5 15 a0 a1).2.1,0,()),()) else bif decide (i64.wrap ((↑a0.length:Int) - (aa 5 15 a0 a1).2.1)<i64.wrap (i32.wrap (aj (aa 5 15 a0 a1).1))) then oR (((false,[],()),0,1,()),()) else bif decide (0≤(aa 5 15 a0 a1).2.1)&&(decide ((aa 5 15 a0 a1).2.1≤i64.wrap ((aa 5 15 a0 a1).2.1+i64.wrap (i32.wrap (aj (aa 5 15 a0 a1).1))))&&decide (i64.wrap ((aa 5 15 a0 a1).2.1+i64.wrap (i32.wrap (aj (aa 5 15 a0 a1).1)))≤(↑a0.length:Int))) then bif decide ((List.drop (aa 5 15 a0 a1).2.1.toNat (List.take (i64.wrap ((aa 5 15 a0 a1).2.1+i64.wrap (i32.wrap (aj (aa 5 15 a0 a1).1)))).toNat a0)).length≤4294967296) then oR (((false,List.drop (aa 5 15 a0 a1).2.1.toNat (List.take (i64.wrap ((aa 5 15 a0 a1).2.1+i64.wrap (i32.wrap (aj (aa 5 15 a0 a1).1)))).toNat a0),()),i64.wrap ((aa 5 15 a0 a1).2.1+i64.wrap (i32.wrap (aj (aa 5 15 a0 a1).1))),0,()),()) else none else none
theorem Hx (a0:LI)(a1 a2:Int):Io.run tt IW dr Cu gV Tryz.f138 ((a0,a1,a2,()),())=Df a0 a1 a2:=by kernel_rfl
theorem CT:HcOk prog 138 (ah gV uu):=by
 refine bL (cs:=BG) (.cons vB (.cons Ai .nil)) (lp:=Cu) (fn:=Tryz.f138) gV (.done (by kernel_rfl)) uu ?_
 rintro ⟨⟨(b:LI),(p:Int),(l:Int),⟨⟩⟩,⟨⟩⟩ out hw ho
 cases ho
 refine (Hx b p l).trans ?_
 have hb:b.length≤maxLen:=hw.1.1.1
 rw[aR] at hb
 show _=oR (((ae b p l).1,(ae b p l).2.1,(ae b p l).2.2,()),())
 change (bif (ag b p).2.2 != 0 then oR (((false,[],()),0,(ag b p).2.2,()),()) else bif decide ((ag b p).1<l) then _ else bif decide ((ag b p).1<0) then oR (((true,[],()),(ag b p).2.1,0,()),()) else bif decide (i64.wrap ((b.length:Int) - (ag b p).2.1)<i64.wrap (ag b p).1) then _
  else bif decide (0≤(ag b p).2.1)&&(decide ((ag b p).2.1≤i64.wrap ((ag b p).2.1+i64.wrap (ag b p).1))&&decide (i64.wrap ((ag b p).2.1+i64.wrap (ag b p).1)≤(b.length:Int))) then bif decide ((List.drop (ag b p).2.1.toNat (List.take (i64.wrap ((ag b p).2.1+i64.wrap (ag b p).1)).toNat b)).length≤4294967296) then oR (((false,List.drop (ag b p).2.1.toNat (List.take (i64.wrap ((ag b p).2.1+i64.wrap (ag b p).1)).toNat b),()),i64.wrap ((ag b p).2.1+i64.wrap (ag b p).1),0,()),()) else none else none)=_
 have hr:=@cD b p
 by_cases h0:(ag b p).2.2=0
 ·have hk:=kI h0
  rw[ac (by simpa using h0)]
  by_cases h1:(ag b p).1<l
  ·have e:ae b p l=((false,[],()),0,5):=by unfold ae;rw[if_neg (by simpa using h0),if_pos h1]
   rw[e,ab (by simpa using h1)]
   first | done | rfl
  ·rw[ac (by simpa using h1)]
   by_cases h2:(ag b p).1<0
   ·have e:ae b p l=((true,[],()),(ag b p).2.1,0):=by unfold ae;rw[if_neg (by simpa using h0),if_neg h1,if_pos h2]
    rw[e,ab (by simpa using h2)]
   ·rw[ac (by simpa using h2),af (n:=(b.length:Int) - (ag b p).2.1) (by omega) (by omega),af (n:=(ag b p).1) (by omega) (by omega)]
    by_cases h3:(b.length:Int) - (ag b p).2.1<(ag b p).1
    ·have e:ae b p l=((false,[],()),0,1):=by unfold ae;rw[if_neg (by simpa using h0),if_neg h1,if_neg h2,if_pos h3]
     rw[e,ab (by simpa using h3)]
     first | done | rfl
    ·have e:ae b p l=((false,(b.drop (ag b p).2.1.toNat).take (ag b p).1.toNat,()),(ag b p).2.1+(ag b p).1,0):=by unfold ae;rw[if_neg (by simpa using h0),if_neg h1,if_neg h2,if_neg h3]
     rw[e,ac (by simpa using h3),af (n:=(ag b p).2.1+(ag b p).1) (by omega) (by omega)]
     rw[ab (by simp;omega),List.drop_take,show ((ag b p).2.1+(ag b p).1).toNat - (ag b p).2.1.toNat=(ag b p).1.toNat by omega,ab (by simp;omega)]
 ·have e:ae b p l=((false,[],()),0,(ag b p).2.2):=by unfold ae;rw[if_pos h0]
  rw[e,ab (by simpa using h0)]
abbrev gp:Io:=⟨[dL,dI],[],[],[zx,dI,dI],none⟩
def ut (d:gp.In):Tr gp.Res:=.ret (.ret (((av d.1.1 d.1.2.1).1,(av d.1.1 d.1.2.1).2.1,(av d.1.1 d.1.2.1).2.2,()),()))
abbrev wP:List (Nat×Hc):=[(115,ah cx sj),(138,ah gV uu),(141,ah l8 EO)]
def xh:Hd:=bt wP
abbrev ce:Lo:=⟨⟨(.one (.hol (.sl 5 (Ty.int u8)))::.one hI::.any::cj (.one hJ::bz (.one (.onl 51 (Ty.str.prod ((Ty.bool.prod ((Ty.sl 5 (Ty.int u8)).prod Ty.unit)).prod Ty.unit)) 21)::.one hI::.any::al (al (al (al (cj []))))))),[]⟩,[(.ret,⟨(cj (.one (.onl 51 (Ty.str.prod ((Ty.bool.prod ((Ty.sl 5 (Ty.int u8)).prod Ty.unit)).prod Ty.unit)) 9)::.one hI::.one hI::al (al (al (al (dC (bz []))))))),[]⟩),(.exit 0,⟨(.any::.one hI::dC (.one (.onl 51 (Ty.str.prod ((Ty.bool.prod ((Ty.sl 5 (Ty.int u8)).prod Ty.unit)).prod Ty.unit)) 21)::al (al (al (al (cj (bz []))))))),[]⟩)]⟩
def eP (d:ce.st.den):Tr (ao ce.xs):=
 .ite (decide (d.1.2.2.2.2.1=(0:Int))&&(decide ((0:Int)≤d.1.2.2.1)&&(decide (d.1.2.2.1≤(16:Int))&&decide (d.1.2.2.2.1=([]:List cv)))))
  (.ite (decide ((ar d.1.1 (d.1.2.2.1:Int).toNat [] d.1.2.1).2.2=(0:Int)))
   (.ret (.pan (.ret ((),(((ar d.1.1 (d.1.2.2.1:Int).toNat [] d.1.2.1).2.1,((ar d.1.1 (d.1.2.2.1:Int).toNat [] d.1.2.1).1,())),())))))
   (.ret (.ret ((),(([],(0,((ar d.1.1 (d.1.2.2.1:Int).toNat [] d.1.2.1).2.2,()))),()))))) .no
def ni:Lp:=bG [(12,aI ce eP)]
def lH {R:Type}(h2:LI)(h3 h4:Int)(h5:List (Ty.str.prod ((Ty.bool.prod ((Ty.sl 5 (Ty.int u8)).prod Ty.unit)).prod Ty.unit)).den)(h6:Int)(next:LI→Int→Int→List (Ty.str.prod ((Ty.bool.prod ((Ty.sl 5 (Ty.int u8)).prod Ty.unit)).prod Ty.unit)).den→Int→Option R)(out:ao ce.xs→Option R):Option R:=bif decide (h6<i64.wrap h4) then bif (ae h2 h3 0).2.2 != 0 then out (.ret ((),(([],(0,((ae h2 h3 0).2.2,()))),()))) else bif !(cl (ae h2 h3 0).1.2.1).2 then out (.ret ((),(([],(0,(6,()))),()))) else bif (ae h2 (ae h2 h3 0).2.1 (-1)).2.2 != 0 then out (.ret ((),(([],(0,((ae h2 (ae h2 h3 0).2.1 (-1)).2.2,()))),()))) else bif decide (h5.length+[((ae h2 h3 0).1.2.1,((ae h2 (ae h2 h3 0).2.1 (-1)).1.1,(ae h2 (ae h2 h3 0).2.1 (-1)).1.2.1,()),())].length≤4294967296) then next (h2) ((ae h2 (ae h2 h3 0).2.1 (-1)).2.1) (h4) (h5++[((ae h2 h3 0).1.2.1,((ae h2 (ae h2 h3 0).2.1 (-1)).1.1,(ae h2 (ae h2 h3 0).2.1 (-1)).1.2.1,()),())]) (i64.wrap (h6+1)) else none else out (.pan (.ret ((),((h3,(h5,())),()))))
def kp (n:Nat)(h2:LI)(h3 h4:Int)(h5:List (Ty.str.prod ((Ty.bool.prod ((Ty.sl 5 (Ty.int u8)).prod Ty.unit)).prod Ty.unit)).den)(h6:Int):Option (ao ce.xs):=iI tt xh dr ni 0 Tryz.f139 (cR Tryz.f139 0) n (ce.st.mk' ((h2,(h3,(h4,(h5,(h6,()))))),())) (bS ce.xs)
theorem yo (n:Nat)(h2:LI)(h3 h4:Int)(h5:List (Ty.str.prod ((Ty.bool.prod ((Ty.sl 5 (Ty.int u8)).prod Ty.unit)).prod Ty.unit)).den)(h6:Int):kp (n+1) h2 h3 h4 h5 h6=lH h2 h3 h4 h5 h6 (kp n) some:=by kernel_rfl
theorem Ab (b:LI)(n:Int)(hn:0≤n)(hn':n≤16):∀(k m:Nat) (p:Int) (o:List cv) (i:Int),i+m=n→0≤i→m<k→o.length=i.toNat→
  kp k b p n o i=if (ar b m o p).2.2=0 then some (.pan (.ret ((),(((ar b m o p).2.1,((ar b m o p).1,())),())))) else some (.ret ((),(([],(0,((ar b m o p).2.2,()))),()))):=by
 intro k
 induction k with
 |zero=>intro m p o i h1 h2 h3;omega
 |succ k ih=>
  intro m p o i h1 h2 h3 h4
  rw[yo]
  unfold lH
  rw[af (n:=n) (by omega) (by omega)]
  cases m with
  |zero=>
   rw[ac (by simp;omega)]
   rw[if_pos (by rfl)]
   first | done | rfl
  |succ m=>
   rw[ab (by simp;omega)]
   by_cases a1:(ae b p 0).2.2=0
   ·rw[ac (by simpa using a1)]
    by_cases a2:(cl (ae b p 0).1.2.1).2=false
    ·have e:ar b (m+1) o p=([],0,6):=by unfold ar;rw[if_neg (by simpa using a1),if_pos a2]
     rw[e,ab (by simpa using a2)]
     first | done | rfl
    ·rw[ac (by simpa using a2)]
     by_cases a3:(ae b (ae b p 0).2.1 (-1)).2.2=0
     ·have e:ar b (m+1) o p=ar b m (o++[((ae b p 0).1.2.1,(ae b (ae b p 0).2.1 (-1)).1,())]) (ae b (ae b p 0).2.1 (-1)).2.1:=by
       rw[ar,if_neg (by simpa using a1),if_neg a2,if_neg (by simpa using a3)]
      rw[e,ac (by simpa using a3),ab (by simp;omega),af (n:=i+1) (by omega) (by omega)]
      exact ih m _ _ (i+1) (by omega) (by omega) (by omega) (by simp;omega)
     ·have e:ar b (m+1) o p=([],0,(ae b (ae b p 0).2.1 (-1)).2.2):=by rw[ar,if_neg (by simpa using a1),if_neg a2,if_pos a3]
      rw[e,ab (by simpa using a3),if_neg a3]
   ·have e:ar b (m+1) o p=([],0,(ae b p 0).2.2):=by rw[ar,if_pos a1]
    rw[e,ab (by simpa using a1),if_neg a1]
def qE (a0:LI)(a1:Int):Option gp.Res:=bif (aa 5 15 a0 a1).2.2 != 0 then oR (([],0,(aa 5 15 a0 a1).2.2,()),()) else bif decide (i32.wrap (aj (aa 5 15 a0 a1).1)<0) then oR (([],0,5,()),()) else bif decide (16<i32.wrap (aj (aa 5 15 a0 a1).1)) then oR (([],0,9,()),()) else (eP ((a0,((aa 5 15 a0 a1).2.1,(i32.wrap (aj (aa 5 15 a0 a1).1),([],(0,()))))),())).run fun y=>match y with | .ret ((),((x23,x24,x25,()),()))=>(oR ((x23,x24,x25,()),())) | .pan (.ret ((),((x26,x27,()),())))=>(oR ((x27,x26,0,()),()))
theorem D9 (a0:LI)(a1:Int):Io.run tt xh dr ni gp Tryz.f139 ((a0,a1,()),())=qE a0 a1:=by kernel_rfl
theorem qT:HcsOk prog wP:=.cons vB (.cons CT (.cons Ll .nil))
theorem GY:HcOk prog 139 (ah gp ut):=by
 refine bL qT (lp:=ni) (fn:=Tryz.f139) gp
  (.step (h0:=aI ce eP) (by kernel_rfl) (jy qT (lp:=ni) (fn:=Tryz.f139) (.done (by kernel_rfl)) ce eP ?_) (.done (by kernel_rfl))) ut ?_
 ·rintro ⟨⟨(b:LI),(p:Int),(n:Int),(o:List cv),(i:Int),⟨⟩⟩,⟨⟩⟩ y hw hy
  obtain ⟨hg,hy⟩:=Tr.guard hy
  simp only[zA,zB] at hg
  obtain ⟨hi,h0,h16,ho⟩:=hg
  have hi:i=0:=hi
  have h0:0≤n:=h0
  have h16:n≤16:=h16
  have ho:o=[]:=ho
  subst hi ho
  refine ⟨n.toNat+1,(Ab b n h0 h16 _ n.toNat p [] 0 (by omega) (by omega) (by omega) rfl).trans ?_⟩
  rw[← hy]
  simp only[Tr.val_ite,zB,Tr.val_ret]
 ·rintro ⟨⟨(b:LI),(p:Int),⟨⟩⟩,⟨⟩⟩ out hw ho
  cases ho
  refine (D9 b p).trans ?_
  show _=oR (((av b p).1,(av b p).2.1,(av b p).2.2,()),())
  have hr:=@cD b p
  unfold qE
  by_cases h0:(ag b p).2.2=0
  ·have h0':(aa 5 15 b p).2.2=0:=h0
   rw[ac (by simpa using h0')]
   change (bif decide ((ag b p).1<0) then _ else bif decide (16<(ag b p).1) then _ else (eP ((b,((ag b p).2.1,((ag b p).1,([],(0,()))))),())).run _)=_
   by_cases h1:(ag b p).1<0
   ·have e:av b p=([],0,5):=by unfold av;rw[if_neg (by simpa using h0),if_pos h1]
    rw[e,ab (by simpa using h1)]
    first | done | rfl
   ·rw[ac (by simpa using h1)]
    by_cases h2:16<(ag b p).1
    ·have e:av b p=([],0,9):=by unfold av;rw[if_neg (by simpa using h0),if_neg h1,if_pos h2]
     rw[e,ab (by simpa using h2)]
     first | done | rfl
    ·have e:av b p=ar b (ag b p).1.toNat [] (ag b p).2.1:=by unfold av;rw[if_neg (by simpa using h0),if_neg h1,if_neg h2]
     rw[e,ac (by simpa using h2)]
     unfold eP
     simp only[Tr.run_ite,Tr.run_ret]
     have hg:(decide True&&(decide ((0:Int)≤(ag b p).1)&&(decide ((ag b p).1≤(16:Int))&&decide True)))=true:=by
      simp only[zA,zB]
      exact ⟨trivial,by omega,by omega,trivial⟩
     rw[if_pos hg]
     by_cases h3:(ar b (ag b p).1.toNat [] (ag b p).2.1).2.2=0
     ·rw[if_pos (by simpa using h3),h3]
     ·obtain ⟨e1,e2⟩:=nA b _ _ _ h3
      rw[if_neg (by simpa using h3),e1,e2]
  ·have h0':(aa 5 15 b p).2.2≠0:=h0
   have e:av b p=([],0,(aa 5 15 b p).2.2):=by unfold av;rw[if_pos h0];rfl
   rw[e,ab (by simpa using h0')]
abbrev mc:Io:=⟨[dL],[],[],[wW,dI],none⟩
def EQ (d:mc.In):Tr mc.Res:=.ret (.ret (((aH d.1.1).1,(aH d.1.1).2,()),()))
abbrev Fl:List (Nat×Hc):=[(76,ah gm uo),(115,ah cx sj),(138,ah gV uu),(139,ah gp ut)]
def KU:Hd:=bt Fl
def Gu:Lp:=bG []
def wr (a0:LI):Option mc.Res:=bif (↑a0.length:Int) == 0 then oR (((0,0,(false,[],()),(false,[],()),[],()),1,()),()) else bif decide (0≤0)&&decide (0<(↑a0.length:Int)) then bif a0.getD (Int.toNat 0) 0 != 0 then oR (((0,0,(false,[],()),(false,[],()),[],()),71,()),()) else bif (aa 10 1 a0 1).2.2 != 0 then oR (((0,0,(false,[],()),(false,[],()),[],()),(aa 10 1 a0 1).2.2,()),()) else bif (aa 5 15 a0 (aa 10 1 a0 1).2.1).2.2 != 0 then oR (((0,0,(false,[],()),(false,[],()),[],()),(aa 5 15 a0 (aa 10 1 a0 1).2.1).2.2,()),()) else bif decide (i32.wrap (aj (aa 5 15 a0 (aa 10 1 a0 1).2.1).1)<0) then oR (((0,0,(false,[],()),(false,[],()),[],()),72,()),()) else bif (ae a0 (aa 5 15 a0 (aa 10 1 a0 1).2.1).2.1 (-1)).2.2 != 0 then oR (((0,0,(false,[],()),(false,[],()),[],()),(ae a0 (aa 5 15 a0 (aa 10 1 a0 1).2.1).2.1 (-1)).2.2,()),()) else bif (ae a0 (ae a0 (aa 5 15 a0 (aa 10 1 a0 1).2.1).2.1 (-1)).2.1 (-1)).2.2 != 0 then oR (((0,0,(false,[],()),(false,[],()),[],()),(ae a0 (ae a0 (aa 5 15 a0 (aa 10 1 a0 1).2.1).2.1 (-1)).2.1 (-1)).2.2,()),()) else bif (av a0 (ae a0 (ae a0 (aa 5 15 a0 (aa 10 1 a0 1).2.1).2.1 (-1)).2.1 (-1)).2.1).2.2 != 0 then oR (((0,0,(false,[],()),(false,[],()),[],()),(av a0 (ae a0 (ae a0 (aa 5 15 a0 (aa 10 1 a0 1).2.1).2.1 (-1)).2.1 (-1)).2.1).2.2,()),()) else bif decide ((av a0 (ae a0 (ae a0 (aa 5 15 a0 (aa 10 1 a0 1).2.1).2.1 (-1)).2.1 (-1)).2.1).2.1<(↑a0.length:Int)) then oR (((0,0,(false,[],()),(false,[],()),[],()),2,()),()) else oR (((aj (aa 10 1 a0 1).1,i32.wrap (aj (aa 5 15 a0 (aa 10 1 a0 1).2.1).1),((ae a0 (aa 5 15 a0 (aa 10 1 a0 1).2.1).2.1 (-1)).1.1,(ae a0 (aa 5 15 a0 (aa 10 1 a0 1).2.1).2.1 (-1)).1.2.1,()),((ae a0 (ae a0 (aa 5 15 a0 (aa 10 1 a0 1).2.1).2.1 (-1)).2.1 (-1)).1.1,(ae a0 (ae a0 (aa 5 15 a0 (aa 10 1 a0 1).2.1).2.1 (-1)).2.1 (-1)).1.2.1,()),(av a0 (ae a0 (ae a0 (aa 5 15 a0 (aa 10 1 a0 1).2.1).2.1 (-1)).2.1 (-1)).2.1).1,()),0,()),()) else none
theorem JZ (a0:LI):Io.run tt KU dr Gu mc Tryz.f116 ((a0,()),())=wr a0:=by kernel_rfl
theorem Ln:HcOk prog 116 (ah mc EQ):=by
 refine bL (cs:=Fl) (.cons CQ (.cons vB (.cons CT (.cons GY .nil)))) (lp:=Gu) (fn:=Tryz.f116) mc (.done (by kernel_rfl)) EQ ?_
 rintro ⟨⟨(b:LI),⟨⟩⟩,⟨⟩⟩ out hw ho
 cases ho
 refine (JZ b).trans ?_
 show _=oR (((aH b).1,(aH b).2,()),())
 unfold wr
 by_cases h0:b.length=0
 ·have e:aH b=(ax,1):=by unfold aH;rw[if_pos h0]
  rw[e,ab (by simp[h0])]
  first | done | rfl
 rw[ac (beq_false_of_ne (by omega)),ab (by rw[zA,zB,zB];omega)]
 by_cases h1:b.getD 0 0=0
 rotate_left
 ·have e:aH b=(ax,71):=by unfold aH;rw[if_neg h0,if_pos h1]
  have h1':b.getD (Int.toNat 0) 0≠0:=h1
  rw[e,ab (by simpa using h1')]
  first | done | rfl
 have h1':b.getD (Int.toNat 0) 0=0:=h1
 rw[ac (by simpa using h1')]
 by_cases h2:(aa 10 1 b 1).2.2=0
 rotate_left
 ·have e:aH b=(ax,(aa 10 1 b 1).2.2):=by unfold aH;rw[if_neg h0,if_neg (by simpa using h1),if_pos h2]
  rw[e,ab (by simpa using h2)]
  first | done | rfl
 rw[ac (by simpa using h2)]
 generalize hq1:(aa 10 1 b 1).2.1=q1
 change (bif (ag b q1).2.2 != 0 then oR ((ax,(ag b q1).2.2,()),()) else bif decide ((ag b q1).1<0) then oR ((ax,72,()),()) else bif (ae b (ag b q1).2.1 (-1)).2.2 != 0 then oR ((ax,(ae b (ag b q1).2.1 (-1)).2.2,()),()) else
  bif (ae b (ae b (ag b q1).2.1 (-1)).2.1 (-1)).2.2 != 0 then oR ((ax,(ae b (ae b (ag b q1).2.1 (-1)).2.1 (-1)).2.2,()),()) else
  bif (av b (ae b (ae b (ag b q1).2.1 (-1)).2.1 (-1)).2.1).2.2 != 0 then oR ((ax,(av b (ae b (ae b (ag b q1).2.1 (-1)).2.1 (-1)).2.1).2.2,()),()) else
  bif decide ((av b (ae b (ae b (ag b q1).2.1 (-1)).2.1 (-1)).2.1).2.1<(b.length:Int)) then oR ((ax,2,()),()) else
  oR (((aj (aa 10 1 b 1).1,(ag b q1).1,(ae b (ag b q1).2.1 (-1)).1,(ae b (ae b (ag b q1).2.1 (-1)).2.1 (-1)).1,(av b (ae b (ae b (ag b q1).2.1 (-1)).2.1 (-1)).2.1).1,()),0,()),()))=_
 have e:aH b=if (ag b q1).2.2≠0 then (ax,(ag b q1).2.2) else if (ag b q1).1<0 then (ax,72) else if (ae b (ag b q1).2.1 (-1)).2.2≠0 then (ax,(ae b (ag b q1).2.1 (-1)).2.2) else
  if (ae b (ae b (ag b q1).2.1 (-1)).2.1 (-1)).2.2≠0 then (ax,(ae b (ae b (ag b q1).2.1 (-1)).2.1 (-1)).2.2) else
  if (av b (ae b (ae b (ag b q1).2.1 (-1)).2.1 (-1)).2.1).2.2≠0 then (ax,(av b (ae b (ae b (ag b q1).2.1 (-1)).2.1 (-1)).2.1).2.2) else
  if (av b (ae b (ae b (ag b q1).2.1 (-1)).2.1 (-1)).2.1).2.1<(b.length:Int) then (ax,2) else
  ((aj (aa 10 1 b 1).1,(ag b q1).1,(ae b (ag b q1).2.1 (-1)).1,(ae b (ae b (ag b q1).2.1 (-1)).2.1 (-1)).1,(av b (ae b (ae b (ag b q1).2.1 (-1)).2.1 (-1)).2.1).1,()),0):=by
  unfold aH;rw[if_neg h0,if_neg (by simpa using h1),if_neg (by simpa using h2),hq1]
 rw[e]
 generalize ag b q1=n1
 generalize ae b n1.2.1 (-1)=n2
 generalize ae b n2.2.1 (-1)=n3
 generalize av b n3.2.1=n4
 simp only[cond_eq_ite,bne_iff_ne,zB]
 split
 ·rfl
 split
 ·rfl
 split
 ·rfl
 split
 ·rfl
 split
 ·rfl
 split
 ·rfl
 first | done | rfl
abbrev ji:Io:=⟨[dL,dI],[],[],[wW,dI,dI],none⟩
def yZ (d:ji.In):Tr ji.Res:=.ret (.ret (((am d.1.1 d.1.2.1).1,(am d.1.1 d.1.2.1).2.1,(am d.1.1 d.1.2.1).2.2,()),()))
abbrev BB:List (Nat×Hc):=[(115,ah cx sj),(116,ah mc EQ)]
def IR:Hd:=bt BB
def Co:Lp:=bG []
def sQ (a0:LI)(a1:Int):Option ji.Res:=bif (aa 5 15 a0 a1).2.2 != 0 then oR (((0,0,(false,[],()),(false,[],()),[],()),0,(aa 5 15 a0 a1).2.2,()),()) else bif decide (i32.wrap (aj (aa 5 15 a0 a1).1)<0) then oR (((0,0,(false,[],()),(false,[],()),[],()),0,5,()),()) else bif decide (16384<i32.wrap (aj (aa 5 15 a0 a1).1)) then oR (((0,0,(false,[],()),(false,[],()),[],()),0,4,()),()) else bif decide (i64.wrap ((↑a0.length:Int) - (aa 5 15 a0 a1).2.1)<i64.wrap (i32.wrap (aj (aa 5 15 a0 a1).1))) then oR (((0,0,(false,[],()),(false,[],()),[],()),0,1,()),()) else bif decide (0≤(aa 5 15 a0 a1).2.1)&&(decide ((aa 5 15 a0 a1).2.1≤i64.wrap ((aa 5 15 a0 a1).2.1+i64.wrap (i32.wrap (aj (aa 5 15 a0 a1).1))))&&decide (i64.wrap ((aa 5 15 a0 a1).2.1+i64.wrap (i32.wrap (aj (aa 5 15 a0 a1).1)))≤(↑a0.length:Int))) then bif (aH (List.drop (aa 5 15 a0 a1).2.1.toNat (List.take (i64.wrap ((aa 5 15 a0 a1).2.1+i64.wrap (i32.wrap (aj (aa 5 15 a0 a1).1)))).toNat a0))).2 != 0 then oR (((0,0,(false,[],()),(false,[],()),[],()),0,(aH (List.drop (aa 5 15 a0 a1).2.1.toNat (List.take (i64.wrap ((aa 5 15 a0 a1).2.1+i64.wrap (i32.wrap (aj (aa 5 15 a0 a1).1)))).toNat a0))).2,()),()) else oR ((((aH (List.drop (aa 5 15 a0 a1).2.1.toNat (List.take (i64.wrap ((aa 5 15 a0 a1).2.1+i64.wrap (i32.wrap (aj (aa 5 15 a0 a1).1)))).toNat a0))).1.1,(aH (List.drop (aa 5 15 a0 a1).2.1.toNat (List.take (i64.wrap ((aa 5 15 a0 a1).2.1+i64.wrap (i32.wrap (aj (aa 5 15 a0 a1).1)))).toNat a0))).1.2.1,((aH (List.drop (aa 5 15 a0 a1).2.1.toNat (List.take (i64.wrap ((aa 5 15 a0 a1).2.1+i64.wrap (i32.wrap (aj (aa 5 15 a0 a1).1)))).toNat a0))).1.2.2.1.1,(aH (List.drop (aa 5 15 a0 a1).2.1.toNat (List.take (i64.wrap ((aa 5 15 a0 a1).2.1+i64.wrap (i32.wrap (aj (aa 5 15 a0 a1).1)))).toNat a0))).1.2.2.1.2.1,()),((aH (List.drop (aa 5 15 a0 a1).2.1.toNat (List.take (i64.wrap ((aa 5 15 a0 a1).2.1+i64.wrap (i32.wrap (aj (aa 5 15 a0 a1).1)))).toNat a0))).1.2.2.2.1.1,(aH (List.drop (aa 5 15 a0 a1).2.1.toNat (List.take (i64.wrap ((aa 5 15 a0 a1).2.1+i64.wrap (i32.wrap (aj (aa 5 15 a0 a1).1)))).toNat a0))).1.2.2.2.1.2.1,()),(aH (List.drop (aa 5 15 a0 a1).2.1.toNat (List.take (i64.wrap ((aa 5 15 a0 a1).2.1+i64.wrap (i32.wrap (aj (aa 5 15 a0 a1).1)))).toNat a0))).1.2.2.2.2.1,()),i64.wrap ((aa 5 15 a0 a1).2.1+i64.wrap (i32.wrap (aj (aa 5 15 a0 a1).1))),0,()),()) else none
theorem Hs (a0:LI)(a1:Int):Io.run tt IR dr Co ji Tryz.f78 ((a0,a1,()),())=sQ a0 a1:=by kernel_rfl
theorem Jp:HcOk prog 78 (ah ji yZ):=by
 refine bL (cs:=BB) (.cons vB (.cons Ln .nil)) (lp:=Co) (fn:=Tryz.f78) ji (.done (by kernel_rfl)) yZ ?_
 rintro ⟨⟨(b:LI),(p:Int),⟨⟩⟩,⟨⟩⟩ out hw ho
 cases ho
 refine (Hs b p).trans ?_
 have hb:b.length≤maxLen:=hw.1.1.1
 rw[aR] at hb
 show _=oR (((am b p).1,(am b p).2.1,(am b p).2.2,()),())
 have hr:=@cD b p
 unfold sQ
 by_cases h0:(ag b p).2.2=0
 rotate_left
 ·have h0':(aa 5 15 b p).2.2≠0:=h0
  have e:am b p=(ax,0,(aa 5 15 b p).2.2):=by unfold am;rw[if_pos h0];rfl
  rw[e,ab (by simpa using h0')]
  first | done | rfl
 have hk:=kI h0
 have h0':(aa 5 15 b p).2.2=0:=h0
 rw[ac (by simpa using h0')]
 generalize hq:(aa 5 15 b p).2.1=q
 generalize hn:IntKind.wrap .i32 (aj (aa 5 15 b p).1)=n
 have hq:(ag b p).2.1=q:=hq
 have hn:(ag b p).1=n:=hn
 have e0:am b p=if n<0 then (ax,0,5) else if 16384<n then (ax,0,4) else if (b.length:Int) - q<n then (ax,0,1)
   else if (aH ((b.drop q.toNat).take n.toNat)).2≠0 then (ax,0,(aH ((b.drop q.toNat).take n.toNat)).2)
   else ((aH ((b.drop q.toNat).take n.toNat)).1,q+n,0):=by unfold am;rw[if_neg (by simpa using h0),hq,hn]
 rw[e0]
 rw[hq] at hk
 rw[hn] at hr
 by_cases h1:n<0
 ·rw[ab (by simpa using h1),if_pos h1]
  first | done | rfl
 rw[ac (by simpa using h1),if_neg h1]
 by_cases h2:16384<n
 ·rw[ab (by simpa using h2),if_pos h2]
  first | done | rfl
 rw[ac (by simpa using h2),if_neg h2,af (n:=(b.length:Int) - q) (by omega) (by omega),af (n:=n) (by omega) (by omega)]
 by_cases h3:(b.length:Int) - q<n
 ·rw[ab (by simpa using h3),if_pos h3]
  first | done | rfl
 rw[ac (by simpa using h3),if_neg h3,af (n:=q+n) (by omega) (by omega),ab (by simp;omega),List.drop_take,show (q+n).toNat - q.toNat=n.toNat by omega]
 generalize aH ((b.drop q.toNat).take n.toNat)=r
 simp only[cond_eq_ite,bne_iff_ne,zB]
 split
 ·rfl
 ·rfl
abbrev LJ:Ty:=.prod (.int .i64) .unit
abbrev oq:Option (Nat×Ty):=some (120,LJ)
abbrev LT:List Sh:=[dL,dI]
abbrev dN:Io:=⟨[.ptr 0 0],[LT],[],[dI],oq⟩
def jZ (d:dN.In):Tr dN.Res:=
 .ite (decide ((ag d.2.1.1 d.2.1.2.1).2.2=0)) (.ret (.ret (((ag d.2.1.1 d.2.1.2.1).1,()),((d.2.1.1,((ag d.2.1.1 d.2.1.2.1).2.1,())),())))) (.ret (.pan ((ag d.2.1.1 d.2.1.2.1).2.2,())))
abbrev td:List (Nat×Hc):=[(72,ah fu pE)]
def Du:Hd:=bt td
def tI:Lp:=bG []
def oJ (a0:LI)(a1:Int):Option dN.Res:=bif (aa 5 15 a0 a1).2.2 != 0 then some (Out.pan ((aa 5 15 a0 a1).2.2,())) else oR ((i64.wrap (i32.wrap (aj (aa 5 15 a0 a1).1)),()),(a0,(aa 5 15 a0 a1).2.1,()),())
theorem As (a0:LI)(a1:Int):Io.run tt Du dr tI dN Tryz.f104 (((),()),(a0,a1,()),())=oJ a0 a1:=by kernel_rfl
theorem tQ:HcOk prog 104 (ah dN jZ):=by
 refine bL (cs:=td) (.cons xZ .nil) (lp:=tI) (fn:=Tryz.f104) dN (.done (by kernel_rfl)) jZ ?_
 rintro ⟨⟨⟨⟩,⟨⟩⟩,⟨⟨(b:LI),(p:Int),⟨⟩⟩,⟨⟩⟩⟩ out hw ho
 refine (As b p).trans ?_
 rw[← ho]
 have hr:=@cD b p
 unfold oJ jZ
 change (bif (ag b p).2.2 != 0 then some (Out.pan ((ag b p).2.2,())) else oR ((i64.wrap (ag b p).1,()),(b,(ag b p).2.1,()),()))=_
 rw[af (n:=(ag b p).1) (by omega) (by omega)]
 simp only[Tr.val_ite,Tr.val_ret,zB]
 by_cases h:(ag b p).2.2=0
 ·rw[ac (by simpa using h),if_pos h]
 ·rw[ab (by simpa using h),if_neg h]
abbrev fL:Io:=⟨[.ptr 0 0,dI],[LT],[],[dO],oq⟩
def qg (d:fL.In):Tr fL.Res:=
 .ite (decide ((0:Int)≤d.1.2.1)&&(decide (d.1.2.1≤(4294967296:Int))&&(decide ((0:Int)≤d.2.1.2.1)&&decide (d.2.1.2.1≤(d.2.1.1.length:Int)))))
  (.ite (decide ((d.2.1.1.length:Int) - d.2.1.2.1<d.1.2.1)) (.ret (.pan (1,()))) (.ret (.ret (((d.2.1.1.drop d.2.1.2.1.toNat).take d.1.2.1.toNat,()),((d.2.1.1,((d.2.1.2.1:Int)+d.1.2.1,())),()))))) .no
abbrev Bw:List (Nat×Hc):=[(90,ah dz mH)]
def IM:Hd:=bt Bw
def Cj:Lp:=bG []
def sK (a0:Int)(a1:LI)(a2:Int):Option fL.Res:=bif decide (i64.wrap ((↑a1.length:Int) - a2)<a0) then some (Out.pan (1,())) else bif decide (0≤i64.wrap (i64.wrap (a2+a0) - a0))&&(decide (i64.wrap (i64.wrap (a2+a0) - a0)≤i64.wrap (a2+a0))&&decide (i64.wrap (a2+a0)≤(↑a1.length:Int))) then bif decide ((List.drop (i64.wrap (i64.wrap (a2+a0) - a0)).toNat (List.take (i64.wrap (a2+a0)).toNat a1)).length≤4294967296) then oR ((List.drop (i64.wrap (i64.wrap (a2+a0) - a0)).toNat (List.take (i64.wrap (a2+a0)).toNat a1),()),(a1,i64.wrap (a2+a0),()),()) else none else none
theorem Hm (a0:Int)(a1:LI)(a2:Int):Io.run tt IM dr Cj fL Tryz.f103 (((),a0,()),(a1,a2,()),())=sK a0 a1 a2:=by kernel_rfl
theorem vA:HcOk prog 103 (ah fL qg):=by
 refine bL (cs:=Bw) (.cons rg .nil) (lp:=Cj) (fn:=Tryz.f103) fL (.done (by kernel_rfl)) qg ?_
 rintro ⟨⟨⟨⟩,(n:Int),⟨⟩⟩,⟨⟨(b:LI),(p:Int),⟨⟩⟩,⟨⟩⟩⟩ out hw ho
 obtain ⟨hg,ho⟩:=Tr.guard ho
 simp only[zA,zB] at hg
 have h0:0≤n:=hg.1
 have h1:n≤4294967296:=hg.2.1
 have h2:0≤p:=hg.2.2.1
 have h3:p≤b.length:=hg.2.2.2
 refine (Hm n b p).trans ?_
 rw[← ho]
 have hb:b.length≤maxLen:=hw.2.1.1.1
 rw[aR] at hb
 unfold sK
 rw[af (n:=(b.length:Int) - p) (by omega) (by omega)]
 simp only[Tr.val_ite,Tr.val_ret,zB]
 by_cases h:(b.length:Int) - p<n
 ·rw[ab (by simpa using h),if_pos h]
 ·rw[ac (by simpa using h),if_neg h,af (n:=p+n) (by omega) (by omega),show p+n - n=p by omega,af (n:=p) (by omega) (by omega)]
  rw[ab (by simp;omega),List.drop_take,show (p+n).toNat - p.toNat=n.toNat by omega,ab (by simp;omega)]
abbrev dZ:Io:=⟨[.ptr 0 0,dI],[LT],[],[dI],oq⟩
def kQ (d:dZ.In):Tr dZ.Res:=
 .ite (decide ((ag d.2.1.1 d.2.1.2.1).2.2=0)) (.ite (decide ((ag d.2.1.1 d.2.1.2.1).1<d.1.2.1)) (.ret (.pan (5,()))) (.ret (.ret (((ag d.2.1.1 d.2.1.2.1).1,()),((d.2.1.1,((ag d.2.1.1 d.2.1.2.1).2.1,())),())))))
  (.ret (.pan ((ag d.2.1.1 d.2.1.2.1).2.2,())))
abbrev wG:List (Nat×Hc):=[(104,ah dN jZ)]
def FO:Hd:=bt wG
def xI:Lp:=bG []
def qw (a0:Int)(a1:LI)(a2:Int):Option dZ.Res:=bif decide ((aa 5 15 a1 a2).2.2=0) then bif decide (i32.wrap (aj (aa 5 15 a1 a2).1)<a0) then some (Out.pan (5,())) else oR ((i32.wrap (aj (aa 5 15 a1 a2).1),()),(a1,(aa 5 15 a1 a2).2.1,()),()) else some (Out.pan ((aa 5 15 a1 a2).2.2,()))
theorem DZ (a0:Int)(a1:LI)(a2:Int):Io.run tt FO dr xI dZ Tryz.f106 (((),a0,()),(a1,a2,()),())=qw a0 a1 a2:=by kernel_rfl
theorem rf:HcOk prog 106 (ah dZ kQ):=by
 refine bL (cs:=wG) (.cons tQ .nil) (lp:=xI) (fn:=Tryz.f106) dZ (.done (by kernel_rfl)) kQ ?_
 rintro ⟨⟨⟨⟩,(l:Int),⟨⟩⟩,⟨⟨(b:LI),(p:Int),⟨⟩⟩,⟨⟩⟩⟩ out hw ho
 refine (DZ l b p).trans ?_
 rw[← ho]
 unfold qw kQ
 change (bif decide ((ag b p).2.2=0) then bif decide ((ag b p).1<l) then some (Out.pan (5,())) else oR (((ag b p).1,()),(b,(ag b p).2.1,()),()) else some (Out.pan ((ag b p).2.2,())))=_
 simp only[Tr.val_ite,Tr.val_ret,cond_eq_ite]
abbrev gR:Io:=⟨[.ptr 0 0],[LT],[],[tp],oq⟩
def qf (d:gR.In):Tr gR.Res:=
 .ite (decide ((ae d.2.1.1 d.2.1.2.1 (-1)).2.2=0)) (.ret (.ret (((ae d.2.1.1 d.2.1.2.1 (-1)).1,()),((d.2.1.1,((ae d.2.1.1 d.2.1.2.1 (-1)).2.1,())),())))) (.ret (.pan ((ae d.2.1.1 d.2.1.2.1 (-1)).2.2,())))
abbrev Bv:List (Nat×Hc):=[(106,ah dZ kQ),(103,ah fL qg)]
def IL:Hd:=bt Bv
def Ci:Lp:=bG []
def sI (a0:LI)(a1:Int):Option gR.Res:=bif decide ((aa 5 15 a0 a1).2.2=0) then bif decide (i32.wrap (aj (aa 5 15 a0 a1).1) < -1) then some (Out.pan (5,())) else bif decide (i32.wrap (aj (aa 5 15 a0 a1).1)<0) then oR (((true,[],()),()),(a0,(aa 5 15 a0 a1).2.1,()),()) else bif decide (0≤i32.wrap (aj (aa 5 15 a0 a1).1))&&(decide (i32.wrap (aj (aa 5 15 a0 a1).1)≤4294967296)&&(decide (0≤(aa 5 15 a0 a1).2.1)&&decide ((aa 5 15 a0 a1).2.1≤(↑a0.length:Int)))) then bif decide ((↑a0.length:Int) - (aa 5 15 a0 a1).2.1<i32.wrap (aj (aa 5 15 a0 a1).1)) then some (Out.pan (1,())) else oR (((false,List.take (i32.wrap (aj (aa 5 15 a0 a1).1)).toNat (List.drop (aa 5 15 a0 a1).2.1.toNat a0),()),()),(a0,(aa 5 15 a0 a1).2.1+i32.wrap (aj (aa 5 15 a0 a1).1),()),()) else none else some (Out.pan ((aa 5 15 a0 a1).2.2,()))
theorem Hk (a0:LI)(a1:Int):Io.run tt IL dr Ci gR Tryz.f105 (((),()),(a0,a1,()),())=sI a0 a1:=by kernel_rfl
theorem CO:HcOk prog 105 (ah gR qf):=by
 refine bL (cs:=Bv) (.cons rf (.cons vA .nil)) (lp:=Ci) (fn:=Tryz.f105) gR (.done (by kernel_rfl)) qf ?_
 rintro ⟨⟨⟨⟩,⟨⟩⟩,⟨⟨(b:LI),(p:Int),⟨⟩⟩,⟨⟩⟩⟩ out hw ho
 refine (Hk b p).trans ?_
 rw[← ho]
 have hr:=@cD b p
 unfold sI qf
 simp only[Tr.val_ite,Tr.val_ret,zB]
 change (bif decide ((ag b p).2.2=0) then bif decide ((ag b p).1 < -1) then some (Out.pan (5,())) else bif decide ((ag b p).1<0) then oR (((true,[],()),()),(b,(ag b p).2.1,()),()) else
  bif decide (0≤(ag b p).1)&&(decide ((ag b p).1≤4294967296)&&(decide (0≤(ag b p).2.1)&&decide ((ag b p).2.1≤(b.length:Int)))) then bif decide ((b.length:Int) - (ag b p).2.1<(ag b p).1) then some (Out.pan (1,())) else
   oR (((false,List.take (ag b p).1.toNat (List.drop (ag b p).2.1.toNat b),()),()),(b,(ag b p).2.1+(ag b p).1,()),()) else none else some (Out.pan ((ag b p).2.2,())))=_
 by_cases h0:(ag b p).2.2=0
 rotate_left
 ·have e:ae b p (-1)=((false,[],()),0,(ag b p).2.2):=by unfold ae;rw[if_pos h0]
  rw[e,ac (by simpa using h0),if_neg h0]
 have hk:=kI h0
 rw[ab (by simpa using h0)]
 by_cases h1:(ag b p).1 < -1
 ·have e:ae b p (-1)=((false,[],()),0,5):=by unfold ae;rw[if_neg (by simpa using h0),if_pos h1]
  rw[e,ab (by simpa using h1)]
  rfl
 rw[ac (by simpa using h1)]
 by_cases h2:(ag b p).1<0
 ·have e:ae b p (-1)=((true,[],()),(ag b p).2.1,0):=by unfold ae;rw[if_neg (by simpa using h0),if_neg h1,if_pos h2]
  rw[e,ab (by simpa using h2)]
  rfl
 rw[ac (by simpa using h2),ab (by simp;omega)]
 by_cases h3:(b.length:Int) - (ag b p).2.1<(ag b p).1
 ·have e:ae b p (-1)=((false,[],()),0,1):=by unfold ae;rw[if_neg (by simpa using h0),if_neg h1,if_neg h2,if_pos h3]
  rw[e,ab (by simpa using h3)]
  rfl
 ·have e:ae b p (-1)=((false,(b.drop (ag b p).2.1.toNat).take (ag b p).1.toNat,()),(ag b p).2.1+(ag b p).1,0):=by unfold ae;rw[if_neg (by simpa using h0),if_neg h1,if_neg h2,if_neg h3]
  rw[e,ac (by simpa using h3)]
  rfl
def aM (b:LI)(p:Int):cv×Int×Int:=
 if (ae b p 0).2.2≠0 then (([],(false,[],()),()),0,(ae b p 0).2.2)
 else if (cl (ae b p 0).1.2.1).2=false then (([],(false,[],()),()),0,6)
 else (((ae b p 0).1.2.1,(ae b (ae b p 0).2.1 (-1)).1,()),(ae b (ae b p 0).2.1 (-1)).2.1,(ae b (ae b p 0).2.1 (-1)).2.2)
abbrev L6:Sh:=.dat cm true false
abbrev eT:Io:=⟨[.ptr 0 0],[LT],[],[L6],oq⟩
def mG (d:eT.In):Tr eT.Res:=
 .ite (decide ((aM d.2.1.1 d.2.1.2.1).2.2=0)) (.ret (.ret (((aM d.2.1.1 d.2.1.2.1).1,()),((d.2.1.1,((aM d.2.1.1 d.2.1.2.1).2.1,())),())))) (.ret (.pan ((aM d.2.1.1 d.2.1.2.1).2.2,())))
abbrev tc:List (Nat×Hc):=[(106,ah dZ kQ),(103,ah fL qg),(137,ah ki A8),(105,ah gR qf)]
def Dt:Hd:=bt tc
def tH:Lp:=bG []
def oI (a0:LI)(a1:Int):Option eT.Res:=bif decide ((aa 5 15 a0 a1).2.2=0) then bif decide (i32.wrap (aj (aa 5 15 a0 a1).1)<0) then some (Out.pan (5,())) else bif decide (0≤i32.wrap (aj (aa 5 15 a0 a1).1))&&(decide (i32.wrap (aj (aa 5 15 a0 a1).1)≤4294967296)&&(decide (0≤(aa 5 15 a0 a1).2.1)&&decide ((aa 5 15 a0 a1).2.1≤(↑a0.length:Int)))) then bif decide ((↑a0.length:Int) - (aa 5 15 a0 a1).2.1<i32.wrap (aj (aa 5 15 a0 a1).1)) then some (Out.pan (1,())) else bif !(cl (List.take (i32.wrap (aj (aa 5 15 a0 a1).1)).toNat (List.drop (aa 5 15 a0 a1).2.1.toNat a0))).2 then some (Out.pan (6,())) else bif decide ((ae a0 ((aa 5 15 a0 a1).2.1+i32.wrap (aj (aa 5 15 a0 a1).1)) (-1)).2.2=0) then oR (((List.take (i32.wrap (aj (aa 5 15 a0 a1).1)).toNat (List.drop (aa 5 15 a0 a1).2.1.toNat a0),((ae a0 ((aa 5 15 a0 a1).2.1+i32.wrap (aj (aa 5 15 a0 a1).1)) (-1)).1.1,(ae a0 ((aa 5 15 a0 a1).2.1+i32.wrap (aj (aa 5 15 a0 a1).1)) (-1)).1.2.1,()),()),()),(a0,(ae a0 ((aa 5 15 a0 a1).2.1+i32.wrap (aj (aa 5 15 a0 a1).1)) (-1)).2.1,()),()) else some (Out.pan ((ae a0 ((aa 5 15 a0 a1).2.1+i32.wrap (aj (aa 5 15 a0 a1).1)) (-1)).2.2,())) else none else some (Out.pan ((aa 5 15 a0 a1).2.2,()))
theorem Ar (a0:LI)(a1:Int):Io.run tt Dt dr tH eT Tryz.f107 (((),()),(a0,a1,()),())=oI a0 a1:=by kernel_rfl
theorem DK:HcOk prog 107 (ah eT mG):=by
 refine bL (cs:=tc) (.cons rf (.cons vA (.cons GS (.cons CO .nil)))) (lp:=tH) (fn:=Tryz.f107) eT (.done (by kernel_rfl)) mG ?_
 rintro ⟨⟨⟨⟩,⟨⟩⟩,⟨⟨(b:LI),(p:Int),⟨⟩⟩,⟨⟩⟩⟩ out hw ho
 refine (Ar b p).trans ?_
 rw[← ho]
 have hr:=@cD b p
 unfold oI mG
 simp only[Tr.val_ite,Tr.val_ret,zB]
 have hn:i32.wrap (aj (aa 5 15 b p).1)=(ag b p).1:=rfl
 have hq:(aa 5 15 b p).2.1=(ag b p).2.1:=rfl
 have he:(aa 5 15 b p).2.2=(ag b p).2.2:=rfl
 rw[hn,hq,he]
 by_cases h0:(ag b p).2.2=0
 rotate_left
 ·have e0:ae b p 0=((false,[],()),0,(ag b p).2.2):=by unfold ae;rw[if_pos h0]
  have e:aM b p=(([],(false,[],()),()),0,(ag b p).2.2):=by unfold aM;rw[e0,if_pos h0]
  rw[e,ac (by simpa using h0),if_neg h0]
 have hk:=kI h0
 rw[ab (by simpa using h0)]
 by_cases h2:(ag b p).1<0
 ·have e0:ae b p 0=((false,[],()),0,5):=by unfold ae;rw[if_neg (by simpa using h0),if_pos h2]
  have e:aM b p=(([],(false,[],()),()),0,5):=by unfold aM;rw[e0];rfl
  rw[e,ab (by simpa using h2)]
  rfl
 rw[ac (by simpa using h2),ab (by simp;omega)]
 by_cases h3:(b.length:Int) - (ag b p).2.1<(ag b p).1
 ·have e0:ae b p 0=((false,[],()),0,1):=by unfold ae;rw[if_neg (by simpa using h0),if_neg h2,if_neg h2,if_pos h3]
  have e:aM b p=(([],(false,[],()),()),0,1):=by unfold aM;rw[e0];rfl
  rw[e,ab (by simpa using h3)]
  rfl
 have e0:ae b p 0=((false,(b.drop (ag b p).2.1.toNat).take (ag b p).1.toNat,()),(ag b p).2.1+(ag b p).1,0):=by unfold ae;rw[if_neg (by simpa using h0),if_neg h2,if_neg h2,if_neg h3]
 rw[ac (by simpa using h3)]
 by_cases h4:(cl ((b.drop (ag b p).2.1.toNat).take (ag b p).1.toNat)).2=false
 ·have e:aM b p=(([],(false,[],()),()),0,6):=by
   unfold aM
   rw[e0,if_neg (by simp),if_pos h4]
  rw[e,h4]
  rfl
 have e:aM b p=(((b.drop (ag b p).2.1.toNat).take (ag b p).1.toNat,(ae b ((ag b p).2.1+(ag b p).1) (-1)).1,()),(ae b ((ag b p).2.1+(ag b p).1) (-1)).2.1,(ae b ((ag b p).2.1+(ag b p).1) (-1)).2.2):=by
  unfold aM
  rw[e0,if_neg (by simp),if_neg h4]
 rw[e,ac (by simpa using h4)]
 simp only[cond_eq_ite,zB]
abbrev lY:Io:=⟨[.ptr 0 0],[LT],[],[wW],oq⟩
def yB (b:LI):Int:=(av b (ae b (ae b (ag b (aa 10 1 b 1).2.1).2.1 (-1)).2.1 (-1)).2.1).2.1
def EK (d:lY.In):Tr lY.Res:=
 .ite (decide (d.2.1.2.1=(0:Int))) (.ite (decide ((aH d.2.1.1).2=0)) (.ret (.ret (((aH d.2.1.1).1,()),((d.2.1.1,(yB d.2.1.1,())),())))) (.ret (.pan ((aH d.2.1.1).2,())))) .no
abbrev uK:List (Nat×Hc):=[(104,ah dN jZ),(106,ah dZ kQ),(103,ah fL qg),(99,ah kh A7),(105,ah gR qf),(107,ah eT mG)]
def FP:Hd:=bt uK
abbrev dh:Lo:=⟨⟨(.one (.ptr 0 0)::.any::.one (.ptr 3 0)::.one (.ptr 4 0)::.any::al (al (al (dC (.one hI::.one hI::al (cj (bz []))))))),[some [.hol (.sl 5 (Ty.int u8)),hI],none,none,some [hI,hJ,hL,.onl 5 (Ty.int u8) 1544,hL,.onl 5 (Ty.int u8) 1548,.onl 51 (Ty.str.prod ((Ty.bool.prod ((Ty.sl 5 (Ty.int u8)).prod Ty.unit)).prod Ty.unit)) 1550],some [hI,hJ,hL,.hol (.sl 5 (Ty.int u8)),hL,.hol (.sl 5 (Ty.int u8)),.onl 51 (Ty.str.prod ((Ty.bool.prod ((Ty.sl 5 (Ty.int u8)).prod Ty.unit)).prod Ty.unit)) 2062]]⟩,[(.panic 120 ((Ty.int i64).prod Ty.unit),⟨(.any::al (al (al (al (al (cj [])))))),[]⟩),(.exit 0,⟨(.one (.ptr 0 0)::.any::.one (.ptr 3 0)::.one (.ptr 4 0)::.any::al (al (al (al (al []))))),[some [.hol (.sl 5 (Ty.int u8)),hI],none,none,some [hI,hJ,hL,.onl 5 (Ty.int u8) 1544,hL,.onl 5 (Ty.int u8) 1548,.onl 51 (Ty.str.prod ((Ty.bool.prod ((Ty.sl 5 (Ty.int u8)).prod Ty.unit)).prod Ty.unit)) 1550],some [hI,hJ,hL,.hol (.sl 5 (Ty.int u8)),hL,.hol (.sl 5 (Ty.int u8)),.onl 51 (Ty.str.prod ((Ty.bool.prod ((Ty.sl 5 (Ty.int u8)).prod Ty.unit)).prod Ty.unit)) 2062]]⟩)]⟩
def j0 (d:dh.st.den):Tr (ao dh.xs):=
 .ite (decide (d.1.2.1=(0:Int))&&(decide ((0:Int)≤d.1.1)&&(decide (d.1.1≤(16:Int))&&decide (d.2.2.2.1.2.2.2.2.2.2.1=([]:List cv)))))
  (.ite (decide ((ar d.2.1.1 (d.1.1:Int).toNat [] d.2.1.2.1).2.2=(0:Int)))
   (.ret (.pan (.ret ((),((),((d.2.1.1,((ar d.2.1.1 (d.1.1:Int).toNat [] d.2.1.2.1).2.1,())),(d.2.2.1,((d.2.2.2.1.1,(d.2.2.2.1.2.1,(d.2.2.2.1.2.2.1,(d.2.2.2.1.2.2.2.1,(d.2.2.2.1.2.2.2.2.1,(d.2.2.2.1.2.2.2.2.2.1,((ar d.2.1.1 (d.1.1:Int).toNat [] d.2.1.2.1).1,()))))))),()))))))))
   (.ret (.ret (((ar d.2.1.1 (d.1.1:Int).toNat [] d.2.1.2.1).2.2,()),((),()))))) .no
def vp:Lp:=bG [(19,aI dh j0)]
def pi {R:Type}(h2 h3:Int)(h4:LI)(h5 h6 h7:Int)(h8:Bool)(h9:LI)(h10:Bool)(h11:LI)(h12:List (Ty.str.prod ((Ty.bool.prod ((Ty.sl 5 (Ty.int u8)).prod Ty.unit)).prod Ty.unit)).den)(h13 h14:Int)(h15:Bool)(h16:LI)(h17:Bool)(h18:LI)(h19:List (Ty.str.prod ((Ty.bool.prod ((Ty.sl 5 (Ty.int u8)).prod Ty.unit)).prod Ty.unit)).den)(next:Int→Int→LI→Int→Int→Int→Bool→LI→Bool→LI→List (Ty.str.prod ((Ty.bool.prod ((Ty.sl 5 (Ty.int u8)).prod Ty.unit)).prod Ty.unit)).den→Int→Int→Bool→LI→Bool→LI→List (Ty.str.prod ((Ty.bool.prod ((Ty.sl 5 (Ty.int u8)).prod Ty.unit)).prod Ty.unit)).den→Option R)(out:ao dh.xs→Option R):Option R:=bif decide (h3<h2) then bif decide ((aM h4 h5).2.2=0) then bif !([[Sh.dat (Ty.sl 5 (Ty.int u8)) false false,Sh.dat (Ty.int i64) false false]].length+3 == 1+69 || false)&&true&&decide (h19.length+[((aM h4 h5).1.1,((aM h4 h5).1.2.1.1,(aM h4 h5).1.2.1.2.1,()),())].length≤4294967296) then next (h2) (i64.wrap (h3+1)) (h4) ((aM h4 h5).2.1) (h6) (h7) (h8) (h9) (h10) (h11) (h12) (h13) (h14) (h15) (h16) (h17) (h18) (h19++[((aM h4 h5).1.1,((aM h4 h5).1.2.1.1,(aM h4 h5).1.2.1.2.1,()),())]) else none else out (.ret (((aM h4 h5).2.2,()),((),()))) else out (.pan (.ret ((),((),((h4,(h5,())),((h6,(h7,(h8,(h9,(h10,(h11,(h12,()))))))),((h13,(h14,(h15,(h16,(h17,(h18,(h19,()))))))),())))))))
def oe (n:Nat)(h2 h3:Int)(h4:LI)(h5 h6 h7:Int)(h8:Bool)(h9:LI)(h10:Bool)(h11:LI)(h12:List (Ty.str.prod ((Ty.bool.prod ((Ty.sl 5 (Ty.int u8)).prod Ty.unit)).prod Ty.unit)).den)(h13 h14:Int)(h15:Bool)(h16:LI)(h17:Bool)(h18:LI)(h19:List (Ty.str.prod ((Ty.bool.prod ((Ty.sl 5 (Ty.int u8)).prod Ty.unit)).prod Ty.unit)).den):Option (ao dh.xs):=iI tt FP dr vp 1 Tryz.f73 (cR Tryz.f73 0) n (dh.st.mk' ((h2,(h3,())),((h4,(h5,())),((h6,(h7,(h8,(h9,(h10,(h11,(h12,()))))))),((h13,(h14,(h15,(h16,(h17,(h18,(h19,()))))))),()))))) (bS dh.xs)
theorem El (n:Nat)(h2 h3:Int)(h4:LI)(h5 h6 h7:Int)(h8:Bool)(h9:LI)(h10:Bool)(h11:LI)(h12:List (Ty.str.prod ((Ty.bool.prod ((Ty.sl 5 (Ty.int u8)).prod Ty.unit)).prod Ty.unit)).den)(h13 h14:Int)(h15:Bool)(h16:LI)(h17:Bool)(h18:LI)(h19:List (Ty.str.prod ((Ty.bool.prod ((Ty.sl 5 (Ty.int u8)).prod Ty.unit)).prod Ty.unit)).den):oe (n+1) h2 h3 h4 h5 h6 h7 h8 h9 h10 h11 h12 h13 h14 h15 h16 h17 h18 h19=pi h2 h3 h4 h5 h6 h7 h8 h9 h10 h11 h12 h13 h14 h15 h16 h17 h18 h19 (oe n) some:=by kernel_rfl
theorem sf (b:LI)(m:Nat)(o:List cv)(p:Int):ar b (m+1) o p=if (aM b p).2.2≠0 then ([],0,(aM b p).2.2) else ar b m (o++[(aM b p).1]) (aM b p).2.1:=by
 rw[ar]
 by_cases a1:(ae b p 0).2.2=0
 ·rw[if_neg (by simpa using a1)]
  by_cases a2:(cl (ae b p 0).1.2.1).2=false
  ·have e:aM b p=(([],(false,[],()),()),0,6):=by unfold aM;rw[if_neg (by simpa using a1),if_pos a2]
   rw[if_pos a2,e]
   rfl
  ·have e:aM b p=(((ae b p 0).1.2.1,(ae b (ae b p 0).2.1 (-1)).1,()),(ae b (ae b p 0).2.1 (-1)).2.1,(ae b (ae b p 0).2.1 (-1)).2.2):=by unfold aM;rw[if_neg (by simpa using a1),if_neg a2]
   rw[if_neg a2,e]
 ·have e:aM b p=(([],(false,[],()),()),0,(ae b p 0).2.2):=by unfold aM;rw[if_pos a1]
  rw[if_pos a1,e,if_pos a1]
theorem aD {α:Type}{a b:α}(h:a=b):¬ a≠b:=fun h'=>h' h
theorem Gc (b:LI)(n:Int)(hn:0≤n)(hn':n≤16)(h6 h7:Int)(h8:Bool)(h9:LI)(h10:Bool)(h11:LI)(h12:List cv)(h13 h14:Int)(h15:Bool)(h16:LI)(h17:Bool)(h18:LI):∀(k m:Nat) (p:Int) (o:List cv) (i:Int),i+m=n→0≤i→m<k→o.length=i.toNat→
  oe k n i b p h6 h7 h8 h9 h10 h11 h12 h13 h14 h15 h16 h17 h18 o=if (ar b m o p).2.2=0 then some (.pan (.ret ((),((),((b,((ar b m o p).2.1,())),((h6,(h7,(h8,(h9,(h10,(h11,(h12,()))))))),((h13,(h14,(h15,(h16,(h17,(h18,((ar b m o p).1,()))))))),()))))))) else some (.ret (((ar b m o p).2.2,()),((),()))):=by
 intro k
 induction k with
 |zero=>intro m p o i h1 h2 h3;omega
 |succ k ih=>
  intro m p o i h1 h2 h3 h4
  rw[El]
  unfold pi
  cases m with
  |zero=>
   rw[ac (by simp;omega),if_pos (by rfl)]
   rfl
  |succ m=>
   rw[ab (by simp;omega),sf]
   by_cases a1:(aM b p).2.2=0
   ·rw[ab (by simpa using a1),if_neg (aD a1)]
    have hg:decide (o.length+[((aM b p).1.1,((aM b p).1.2.1.1,(aM b p).1.2.1.2.1,()),())].length≤4294967296)=true:=decide_eq_true (show o.length+1≤4294967296 by omega)
    rw[ab (by rw[zA];exact ⟨rfl,hg⟩),af (n:=i+1) (by omega) (by omega)]
    exact ih m _ _ (i+1) (by omega) (by omega) (by omega) (by simp;omega)
   ·rw[ac (by simpa using a1),if_pos a1,if_neg a1]
def wg (a0:LI)(a1:Int):Option lY.Res:=bif decide (0≤1)&&(decide (1≤4294967296)&&(decide (0≤a1)&&decide (a1≤(↑a0.length:Int)))) then bif decide ((↑a0.length:Int) - a1<1) then some (Out.pan (1,())) else bif decide (0≤0)&&decide (0<(↑(List.take (Int.toNat 1) (List.drop a1.toNat a0)).length:Int)) then bif (List.take (Int.toNat 1) (List.drop a1.toNat a0)).getD (Int.toNat 0) 0 != 0 then some (Out.pan (71,())) else bif (aa 10 1 a0 (a1+1)).2.2 != 0 then some (Out.pan ((aa 10 1 a0 (a1+1)).2.2,())) else bif decide ((aa 5 15 a0 (aa 10 1 a0 (a1+1)).2.1).2.2=0) then bif decide (i32.wrap (aj (aa 5 15 a0 (aa 10 1 a0 (a1+1)).2.1).1)<0) then some (Out.pan (72,())) else bif decide ((ae a0 (aa 5 15 a0 (aa 10 1 a0 (a1+1)).2.1).2.1 (-1)).2.2=0) then bif decide ((ae a0 (ae a0 (aa 5 15 a0 (aa 10 1 a0 (a1+1)).2.1).2.1 (-1)).2.1 (-1)).2.2=0) then bif decide ((aa 5 15 a0 (ae a0 (ae a0 (aa 5 15 a0 (aa 10 1 a0 (a1+1)).2.1).2.1 (-1)).2.1 (-1)).2.1).2.2=0) then bif decide (i32.wrap (aj (aa 5 15 a0 (ae a0 (ae a0 (aa 5 15 a0 (aa 10 1 a0 (a1+1)).2.1).2.1 (-1)).2.1 (-1)).2.1).1)<0) then some (Out.pan (5,())) else bif decide (16<i32.wrap (aj (aa 5 15 a0 (ae a0 (ae a0 (aa 5 15 a0 (aa 10 1 a0 (a1+1)).2.1).2.1 (-1)).2.1 (-1)).2.1).1)) then some (Out.pan (9,())) else (j0 ((i32.wrap (aj (aa 5 15 a0 (ae a0 (ae a0 (aa 5 15 a0 (aa 10 1 a0 (a1+1)).2.1).2.1 (-1)).2.1 (-1)).2.1).1),(0,())),((a0,((aa 5 15 a0 (ae a0 (ae a0 (aa 5 15 a0 (aa 10 1 a0 (a1+1)).2.1).2.1 (-1)).2.1 (-1)).2.1).2.1,())),((0,(0,(false,([],(false,([],([],()))))))),((aj (aa 10 1 a0 (a1+1)).1,(i32.wrap (i32.wrap (aj (aa 5 15 a0 (aa 10 1 a0 (a1+1)).2.1).1)),((ae a0 (aa 5 15 a0 (aa 10 1 a0 (a1+1)).2.1).2.1 (-1)).1.1,((ae a0 (aa 5 15 a0 (aa 10 1 a0 (a1+1)).2.1).2.1 (-1)).1.2.1,((ae a0 (ae a0 (aa 5 15 a0 (aa 10 1 a0 (a1+1)).2.1).2.1 (-1)).2.1 (-1)).1.1,((ae a0 (ae a0 (aa 5 15 a0 (aa 10 1 a0 (a1+1)).2.1).2.1 (-1)).2.1 (-1)).1.2.1,([],()))))))),()))))).run fun y=>match y with | .ret ((x54,()),((),()))=>(some (Out.pan (x54,()))) | .pan (.ret ((),((),(x55,x56,()),(x57,x58,x59,x60,x61,x62,x63,()),(x64,x65,x66,x67,x68,x69,x70,()),())))=>(bif decide (x56<(↑x55.length:Int)) then some (Out.pan (2,())) else oR (((x64,x65,(x66,x67,()),(x68,x69,()),x70,()),()),(x55,x56,()),())) else some (Out.pan ((aa 5 15 a0 (ae a0 (ae a0 (aa 5 15 a0 (aa 10 1 a0 (a1+1)).2.1).2.1 (-1)).2.1 (-1)).2.1).2.2,())) else some (Out.pan ((ae a0 (ae a0 (aa 5 15 a0 (aa 10 1 a0 (a1+1)).2.1).2.1 (-1)).2.1 (-1)).2.2,())) else some (Out.pan ((ae a0 (aa 5 15 a0 (aa 10 1 a0 (a1+1)).2.1).2.1 (-1)).2.2,())) else some (Out.pan ((aa 5 15 a0 (aa 10 1 a0 (a1+1)).2.1).2.2,())) else none else none
theorem JN (a0:LI)(a1:Int):Io.run tt FP dr vp lY Tryz.f73 (((),()),(a0,a1,()),())=wg a0 a1:=by kernel_rfl
theorem Lg:HcOk prog 73 (ah lY EK):=by
 have hcs:HcsOk prog uK:=.cons tQ (.cons rf (.cons vA (.cons GR (.cons CO (.cons DK .nil)))))
 refine bL (cs:=uK) hcs (lp:=vp) (fn:=Tryz.f73) lY
  (.step (h0:=aI dh j0) (by kernel_rfl) (jy (cs:=uK) hcs (lp:=vp) (fn:=Tryz.f73) (.done (by kernel_rfl)) dh j0 ?_) (.done (by kernel_rfl))) EK ?_
 ·rintro ⟨⟨(n:Int),(i:Int),⟨⟩⟩,⟨(b:LI),(p:Int),⟨⟩⟩,⟨(h6:Int),(h7:Int),(h8:Bool),(h9:LI),(h10:Bool),(h11:LI),(h12:List cv),⟨⟩⟩,⟨(h13:Int),(h14:Int),(h15:Bool),(h16:LI),(h17:Bool),(h18:LI),(o:List cv),⟨⟩⟩,⟨⟩⟩ y hw hy
  obtain ⟨hg,hy⟩:=Tr.guard hy
  simp only[zA,zB] at hg
  obtain ⟨hi,h0,hs,ho⟩:=hg
  have hi:i=0:=hi
  have h0:0≤n:=h0
  have hs:n≤16:=hs
  have ho:o=[]:=ho
  subst hi ho
  refine ⟨n.toNat+1,(Gc b n h0 hs h6 h7 h8 h9 h10 h11 h12 h13 h14 h15 h16 h17 h18 _ n.toNat p [] 0 (by omega) (by omega) (by omega) rfl).trans ?_⟩
  rw[← hy]
  simp only[Tr.val_ite,zB,Tr.val_ret]
 ·rintro ⟨⟨⟨⟩,⟨⟩⟩,⟨⟨(b:LI),(p:Int),⟨⟩⟩,⟨⟩⟩⟩ out hw ho
  obtain ⟨hg,ho⟩:=Tr.guard ho
  have hg:p=0:=by simpa using hg
  subst hg
  refine (JN b 0).trans ?_
  rw[← ho]
  simp only[Tr.val_ite,Tr.val_ret,zB]
  unfold wg
  rw[ab (by simp)]
  by_cases h0:b.length=0
  ·have e:aH b=(ax,1):=by unfold aH;rw[if_pos h0]
   rw[e,ab (by simp;omega)]
   rfl
  rw[ac (by simp;omega)]
  obtain ⟨c,l,rfl⟩:∃c l,b=c::l:=by
   cases b with
   |nil=>exact absurd rfl h0
   |cons c l=>exact ⟨c,l,rfl⟩
  rw[ab (by simp)]
  by_cases h1:c=0
  rotate_left
  ·have e:aH (c::l)=(ax,71):=by unfold aH;rw[if_neg h0,if_pos (by simpa using h1)]
   rw[e,ab (by simpa using h1)]
   rfl
  have h1':(c::l).getD 0 0=0:=h1
  rw[ac (by simpa using h1)]
  generalize hb:c::l=b at *
  have hz:(0:Int)+1=1:=rfl
  rw[hz]
  by_cases h2:(aa 10 1 b 1).2.2=0
  rotate_left
  ·have e:aH b=(ax,(aa 10 1 b 1).2.2):=by unfold aH;rw[if_neg h0,if_neg (by simpa using h1'),if_pos h2]
   rw[e,ab (by simpa using h2),if_neg h2]
  rw[ac (by simpa using h2)]
  have hr:=@cD b
  have hE:yB b=(av b (ae b (ae b (ag b (aa 10 1 b 1).2.1).2.1 (-1)).2.1 (-1)).2.1).2.1:=rfl
  generalize hq1:(aa 10 1 b 1).2.1=q1 at *
  have eR:aH b=if (ag b q1).2.2≠0 then (ax,(ag b q1).2.2) else if (ag b q1).1<0 then (ax,72) else if (ae b (ag b q1).2.1 (-1)).2.2≠0 then (ax,(ae b (ag b q1).2.1 (-1)).2.2) else
   if (ae b (ae b (ag b q1).2.1 (-1)).2.1 (-1)).2.2≠0 then (ax,(ae b (ae b (ag b q1).2.1 (-1)).2.1 (-1)).2.2) else
   if (av b (ae b (ae b (ag b q1).2.1 (-1)).2.1 (-1)).2.1).2.2≠0 then (ax,(av b (ae b (ae b (ag b q1).2.1 (-1)).2.1 (-1)).2.1).2.2) else
   if (av b (ae b (ae b (ag b q1).2.1 (-1)).2.1 (-1)).2.1).2.1<(b.length:Int) then (ax,2) else
   ((aj (aa 10 1 b 1).1,(ag b q1).1,(ae b (ag b q1).2.1 (-1)).1,(ae b (ae b (ag b q1).2.1 (-1)).2.1 (-1)).1,(av b (ae b (ae b (ag b q1).2.1 (-1)).2.1 (-1)).2.1).1,()),0):=by
   unfold aH;rw[if_neg h0,if_neg (by simpa using h1'),if_neg (by simpa using h2),hq1]
  have hn:∀p,i32.wrap (aj (aa 5 15 b p).1)=(ag b p).1:=fun _=>rfl
  have hq:∀p,(aa 5 15 b p).2.1=(ag b p).2.1:=fun _=>rfl
  have he:∀p,(aa 5 15 b p).2.2=(ag b p).2.2:=fun _=>rfl
  have hw32:i32.wrap (ag b q1).1=(ag b q1).1:=bA (k:=.i32) (bJ _ _)
  simp only[hn,hq,he]
  rw[eR,hE,hw32]
  by_cases c1:(ag b q1).2.2=0
  rotate_left
  ·rw[ac (by simpa using c1),if_pos c1,if_neg c1]
  rw[ab (by simpa using c1),if_neg (aD c1)]
  by_cases c2:(ag b q1).1<0
  ·rw[ab (by simpa using c2),if_pos c2];rfl
  rw[ac (by simpa using c2),if_neg c2]
  generalize hT1:ae b (ag b q1).2.1 (-1)=T1
  by_cases c3:T1.2.2=0
  rotate_left
  ·rw[ac (by simpa using c3),if_pos c3,if_neg c3]
  rw[ab (by simpa using c3),if_neg (aD c3)]
  generalize hT2:ae b T1.2.1 (-1)=T2
  by_cases c4:T2.2.2=0
  rotate_left
  ·rw[ac (by simpa using c4),if_pos c4,if_neg c4]
  rw[ab (by simpa using c4),if_neg (aD c4)]
  by_cases c5:(ag b T2.2.1).2.2=0
  rotate_left
  ·have eH:av b T2.2.1=([],0,(ag b T2.2.1).2.2):=by unfold av;rw[if_pos c5]
   rw[ac (by simpa using c5),eH,if_pos c5,if_neg c5]
  rw[ab (by simpa using c5)]
  by_cases c6:(ag b T2.2.1).1<0
  ·have eH:av b T2.2.1=([],0,5):=by unfold av;rw[if_neg (aD c5),if_pos c6]
   rw[ab (by simpa using c6),eH];rfl
  rw[ac (by simpa using c6)]
  by_cases c7:16<(ag b T2.2.1).1
  ·have eH:av b T2.2.1=([],0,9):=by unfold av;rw[if_neg (aD c5),if_neg c6,if_pos c7]
   rw[ab (by simpa using c7),eH];rfl
  have eH:av b T2.2.1=ar b (ag b T2.2.1).1.toNat [] (ag b T2.2.1).2.1:=by unfold av;rw[if_neg (aD c5),if_neg c6,if_neg c7]
  rw[ac (by simpa using c7),eH]
  unfold j0
  simp only[Tr.run_ite,Tr.run_ret]
  have hgd:(decide True&&(decide ((0:Int)≤(ag b T2.2.1).1)&&(decide ((ag b T2.2.1).1≤(16:Int))&&decide True)))=true:=by
   simp only[zA,zB]
   exact ⟨trivial,by omega,by omega,trivial⟩
  rw[if_pos hgd]
  generalize ar b (ag b T2.2.1).1.toNat [] (ag b T2.2.1).2.1=r
  by_cases c8:r.2.2=0
  ·rw[if_pos (decide_eq_true c8),if_neg (aD c8)]
   by_cases c9:r.2.1<(b.length:Int)
   ·simp only[c9,decide_true,cond_true,if_true]
    rfl
   ·simp only[c9,decide_false,cond_false,if_false]
    rfl
  ·rw[if_neg (by simpa using c8),if_pos c8,if_neg c8]
abbrev lV:Io:=⟨[dL,dI],[],[],[wW,dI,dI],none⟩
def EH (d:lV.In):Tr lV.Res:=.ret (.ret (((am d.1.1 d.1.2.1).1,(am d.1.1 d.1.2.1).2.1,(am d.1.1 d.1.2.1).2.2,()),()))
abbrev Fa:List (Nat×Hc):=[(72,ah fu pE),(73,ah lY EK)]
def KJ:Hd:=bt Fa
def Gi:Lp:=bG []
def wd (a0:LI)(a1:Int):Option lV.Res:=bif (aa 5 15 a0 a1).2.2 != 0 then oR (((0,0,(false,[],()),(false,[],()),[],()),0,(aa 5 15 a0 a1).2.2,()),()) else bif decide (i32.wrap (aj (aa 5 15 a0 a1).1)<0) then oR (((0,0,(false,[],()),(false,[],()),[],()),0,5,()),()) else bif decide (16384<i32.wrap (aj (aa 5 15 a0 a1).1)) then oR (((0,0,(false,[],()),(false,[],()),[],()),0,4,()),()) else bif decide (i64.wrap ((↑a0.length:Int) - (aa 5 15 a0 a1).2.1)<i64.wrap (i32.wrap (aj (aa 5 15 a0 a1).1))) then oR (((0,0,(false,[],()),(false,[],()),[],()),0,1,()),()) else bif decide (0≤(aa 5 15 a0 a1).2.1)&&(decide ((aa 5 15 a0 a1).2.1≤i64.wrap ((aa 5 15 a0 a1).2.1+i64.wrap (i32.wrap (aj (aa 5 15 a0 a1).1))))&&(decide (i64.wrap ((aa 5 15 a0 a1).2.1+i64.wrap (i32.wrap (aj (aa 5 15 a0 a1).1)))≤i64.wrap ((aa 5 15 a0 a1).2.1+i64.wrap (i32.wrap (aj (aa 5 15 a0 a1).1))))&&decide (i64.wrap ((aa 5 15 a0 a1).2.1+i64.wrap (i32.wrap (aj (aa 5 15 a0 a1).1)))≤(↑a0.length:Int)))) then bif decide ((aH (List.drop (aa 5 15 a0 a1).2.1.toNat (List.take (i64.wrap ((aa 5 15 a0 a1).2.1+i64.wrap (i32.wrap (aj (aa 5 15 a0 a1).1)))).toNat a0))).2=0) then oR ((((aH (List.drop (aa 5 15 a0 a1).2.1.toNat (List.take (i64.wrap ((aa 5 15 a0 a1).2.1+i64.wrap (i32.wrap (aj (aa 5 15 a0 a1).1)))).toNat a0))).1.1,(aH (List.drop (aa 5 15 a0 a1).2.1.toNat (List.take (i64.wrap ((aa 5 15 a0 a1).2.1+i64.wrap (i32.wrap (aj (aa 5 15 a0 a1).1)))).toNat a0))).1.2.1,((aH (List.drop (aa 5 15 a0 a1).2.1.toNat (List.take (i64.wrap ((aa 5 15 a0 a1).2.1+i64.wrap (i32.wrap (aj (aa 5 15 a0 a1).1)))).toNat a0))).1.2.2.1.1,(aH (List.drop (aa 5 15 a0 a1).2.1.toNat (List.take (i64.wrap ((aa 5 15 a0 a1).2.1+i64.wrap (i32.wrap (aj (aa 5 15 a0 a1).1)))).toNat a0))).1.2.2.1.2.1,()),((aH (List.drop (aa 5 15 a0 a1).2.1.toNat (List.take (i64.wrap ((aa 5 15 a0 a1).2.1+i64.wrap (i32.wrap (aj (aa 5 15 a0 a1).1)))).toNat a0))).1.2.2.2.1.1,(aH (List.drop (aa 5 15 a0 a1).2.1.toNat (List.take (i64.wrap ((aa 5 15 a0 a1).2.1+i64.wrap (i32.wrap (aj (aa 5 15 a0 a1).1)))).toNat a0))).1.2.2.2.1.2.1,()),(aH (List.drop (aa 5 15 a0 a1).2.1.toNat (List.take (i64.wrap ((aa 5 15 a0 a1).2.1+i64.wrap (i32.wrap (aj (aa 5 15 a0 a1).1)))).toNat a0))).1.2.2.2.2.1,()),i64.wrap ((aa 5 15 a0 a1).2.1+i64.wrap (i32.wrap (aj (aa 5 15 a0 a1).1))),0,()),()) else oR (((0,0,(false,[],()),(false,[],()),[],()),0,(aH (List.drop (aa 5 15 a0 a1).2.1.toNat (List.take (i64.wrap ((aa 5 15 a0 a1).2.1+i64.wrap (i32.wrap (aj (aa 5 15 a0 a1).1)))).toNat a0))).2,()),()) else none
theorem JK (a0:LI)(a1:Int):Io.runD tt KJ dr Gi 64 128 lV Tryz.f36 71 Tryz.f71 11 ((a0,a1,()),())=wd a0 a1:=by kernel_rfl
theorem Lc:HcOk prog 36 (ah lV EH):=by
 have htt:=dF Tryz.prog 400
 have hcs:HcsOk prog Fa:=.cons xZ (.cons Lg .nil)
 refine wY (P:=prog) htt hm (ir hcs) (dm htt) (fn:=Tryz.f36) (by kernel_rfl) (by kernel_rfl) lV (kb2:=64) (kbG:=128) (by decide) (by decide)
  (i1:=1) (ops1:=gx (jE (gz (aP Tryz.f36)))) (by kernel_rfl) rfl (by kernel_rfl)
  (o1:=((gx (jE (gz (aP Tryz.f36))))[1]?).getD default) (t:=11) (aT:=#[]) (by kernel_rfl) (by kernel_rfl) (by kernel_rfl) (by kernel_rfl) (lp:=Gi) (by kernel_rfl) (ld (by kernel_rfl))
  (g:=71) (gfn:=Tryz.f71) (i2:=0) (gops:=gx (jE (aP Tryz.f71))) (grest:=gz (aP Tryz.f71))
  (by kernel_rfl) (by kernel_rfl) (by kernel_rfl) rfl rfl (by kernel_rfl) (oo:=((gx (jE (aP Tryz.f71)))[0]?).getD default) (by kernel_rfl) (by kernel_rfl) (by kernel_rfl) (by kernel_rfl) (by kernel_rfl) EH ?_
 rintro ⟨⟨(b:LI),(p:Int),⟨⟩⟩,⟨⟩⟩ out hw ho
 cases ho
 refine (JK b p).trans ?_
 have hb:b.length≤maxLen:=hw.1.1.1
 rw[aR] at hb
 show _=oR (((am b p).1,(am b p).2.1,(am b p).2.2,()),())
 have hr:=@cD b p
 unfold wd
 by_cases h0:(ag b p).2.2=0
 rotate_left
 ·have h0':(aa 5 15 b p).2.2≠0:=h0
  have e:am b p=(ax,0,(aa 5 15 b p).2.2):=by unfold am;rw[if_pos h0];rfl
  rw[e,ab (by simpa using h0')]
  rfl
 have hk:=kI h0
 have h0':(aa 5 15 b p).2.2=0:=h0
 rw[ac (by simpa using h0')]
 generalize hq:(aa 5 15 b p).2.1=q
 generalize hn:IntKind.wrap .i32 (aj (aa 5 15 b p).1)=n
 have hq:(ag b p).2.1=q:=hq
 have hn:(ag b p).1=n:=hn
 have e0:am b p=if n<0 then (ax,0,5) else if 16384<n then (ax,0,4) else if (b.length:Int) - q<n then (ax,0,1)
   else if (aH ((b.drop q.toNat).take n.toNat)).2≠0 then (ax,0,(aH ((b.drop q.toNat).take n.toNat)).2)
   else ((aH ((b.drop q.toNat).take n.toNat)).1,q+n,0):=by unfold am;rw[if_neg (by simpa using h0),hq,hn]
 rw[e0]
 rw[hq] at hk
 rw[hn] at hr
 by_cases h1:n<0
 ·rw[ab (by simpa using h1),if_pos h1]
  rfl
 rw[ac (by simpa using h1),if_neg h1]
 by_cases h2:16384<n
 ·rw[ab (by simpa using h2),if_pos h2]
  rfl
 rw[ac (by simpa using h2),if_neg h2,af (n:=(b.length:Int) - q) (by omega) (by omega),af (n:=n) (by omega) (by omega)]
 by_cases h3:(b.length:Int) - q<n
 ·rw[ab (by simpa using h3),if_pos h3]
  rfl
 rw[ac (by simpa using h3),if_neg h3,af (n:=q+n) (by omega) (by omega),ab (by simp;omega),List.drop_take,show (q+n).toNat - q.toNat=n.toNat by omega]
 generalize aH ((b.drop q.toNat).take n.toNat)=r
 by_cases h4:r.2=0
 ·rw[ab (by simpa using h4),if_neg (aD h4)]
 ·rw[ac (by simpa using h4),if_pos h4]
  rfl
def jR (b:vV):Bool:=b.1&&decide ((0:Int)<(b.2.1.length:Int))
def cq (b:vV):LI:=if b.1=true then bW (aY (-1)) else bW (aY b.2.1.length)++b.2.1
def C8 (h:cv):LI:=bW (aY h.1.length)++(h.1++cq h.2.1)
def dA (hs:List cv):LI:=hs.flatMap C8
def cN (r:ll):LI:=0::(bW (aY r.1)++(bW (aY r.2.1)++(cq r.2.2.1++(cq r.2.2.2.1++(bW (aY r.2.2.2.2.1.length)++dA r.2.2.2.2.1)))))
def eD:List cv→Int
 |[]=>0
 |h::hs=>if (cl h.1).2=false then 6 else if jR h.2.1=true then 70 else eD hs
def fO (r:ll):Int:=
 if r.2.1<0 then 72 else if jR r.2.2.1=true∨jR r.2.2.2.1=true then 70 else if 16<(r.2.2.2.2.1.length:Int) then 9 else eD r.2.2.2.2.1
def bH (r:ll):Int:=if fO r≠0 then fO r else if 16384<((cN r).length:Int) then 4 else 0
def cO (r:ll):LI×Int:=if bH r=0 then (cN r,0) else ([],bH r)
def cz (r:ll):LI×Int:=if bH r=0 then (bW (aY (cN r).length)++cN r,0) else ([],bH r)
def oE (r:ll):Bool:=decide ((cN r).length≤4294967000)
theorem tV (u:Int):(bW u).length≤11:=by
 unfold bW
 have:=yy 10 u
 simp only[zH,zN,List.length_nil]
 omega
abbrev lX:Io:=⟨[tp],[],[],[dB],none⟩
def EJ (d:lX.In):Tr lX.Res:=.ret (.ret ((jR d.1.1,()),()))
abbrev Fc:List (Nat×Hc):=[]
def KL:Hd:=bt Fc
def Gk:Lp:=bG []
def EZ (a0:Bool)(a1:LI):Option lX.Res:=bif a0 then oR ((decide (0<(↑a1.length:Int)),()),()) else oR ((false,()),())
theorem JM (a0:Bool)(a1:LI):Io.run tt KL dr Gk lX Tryz.f151 (((a0,a1,()),()),())=EZ a0 a1:=by kernel_rfl
theorem Lf:HcOk prog 151 (ah lX EJ):=by
 refine bL (cs:=Fc) .nil (lp:=Gk) (fn:=Tryz.f151) lX (.done (by kernel_rfl)) EJ ?_
 rintro ⟨⟨⟨(n:Bool),(b:LI),⟨⟩⟩,⟨⟩⟩,⟨⟩⟩ out hw ho
 cases ho
 refine (JM n b).trans ?_
 cases n <;> rfl
abbrev gi:Io:=⟨[wW],[],[],[dI],none⟩
def uk (d:gi.In):Tr gi.Res:=.ret (.ret ((fO d.1.1,()),()))
abbrev mZ:List (Nat×Hc):=[(151,ah lX EJ),(137,ah ki A8)]
def xg:Hd:=bt mZ
abbrev cJ:Lo:=⟨⟨(al (dC (bz (.one (.hol (.sl 51 (Ty.str.prod ((Ty.bool.prod ((Ty.sl 5 (Ty.int u8)).prod Ty.unit)).prod Ty.unit))))::.one hI::.one hI::al [])))),[]⟩,[(.ret,⟨(bz (.one hI::al (al (dC (bz []))))),[]⟩),(.exit 1,⟨(.any::al (al (dC (cj [])))),[]⟩)]⟩
def iC (d:cJ.st.den):Tr (ao cJ.xs):=
 .ite (decide (d.1.2.2.1=(0:Int))&&decide (d.1.2.1=(d.1.1.length:Int))) (.ite (decide (eD d.1.1=(0:Int))) (.ret (.pan (.ret ((),((),()))))) (.ret (.ret ((),((eD d.1.1,()),()))))) .no
def ng:Lp:=bG [(9,aI cJ iC)]
def nJ {R:Type}(h7:List cm.den)(h8 h9:Int)(next:List cm.den→Int→Int→Option R)(out:ao cJ.xs→Option R):Option R:=bif decide (h9<h8) then bif decide (0≤h9)&&decide (h9<(↑h7.length:Int)) then bif !(cl (h7.getD h9.toNat ([],(false,[],()),())).1).2 then out (.ret ((),((6,()),()))) else bif jR ((h7.getD h9.toNat ([],(false,[],()),())).2.1.1,(h7.getD h9.toNat ([],(false,[],()),())).2.1.2.1,()) then out (.ret ((),((70,()),()))) else next (h7) (h8) (i64.wrap (h9+1)) else none else out (.pan (.ret ((),((),()))))
def mm (n:Nat)(h7:List cm.den)(h8 h9:Int):Option (ao cJ.xs):=iI tt xg dr ng 0 Tryz.f143 (cR Tryz.f143 0) n (cJ.st.mk' ((h7,(h8,(h9,()))),())) (bS cJ.xs)
theorem AI (n:Nat)(h7:List cm.den)(h8 h9:Int):mm (n+1) h7 h8 h9=nJ h7 h8 h9 (mm n) some:=by kernel_rfl
theorem zZ (hs:List cv)(hm:hs.length≤maxLen):∀(k i:Nat),i≤hs.length→hs.length<i+k→
  mm k hs (hs.length:Int) (i:Int)=if eD (hs.drop i)=0 then some (.pan (.ret ((),((),())))) else some (.ret ((),((eD (hs.drop i),()),()))):=by
 intro k
 induction k with
 |zero=>intro i h1 h2;omega
 |succ k ih=>
  intro i h1 h2
  rw[AI]
  unfold nJ
  by_cases h3:i<hs.length
  ·have e:(hs.getD (i:Int).toNat ([],(false,[],()),()):cv)=hs[i]:=aE h3
   rw[zE h3,← e,bm h3 hm]
   generalize (hs.getD (i:Int).toNat ([],(false,[],()),()):cv)=x
   obtain ⟨x1,⟨x2,x3,⟨⟩⟩,⟨⟩⟩:=x
   rw[ab (by simpa using h3),ab (by simp[h3])]
   by_cases h4:(cl x1).2=false
   ·have eE:eD ((x1,(x2,x3,()),())::hs.drop (i+1))=6:=by unfold eD;rw[if_pos h4]
    rw[eE,ab (by simpa using h4)]
    rfl
   ·rw[ac (by simpa using h4)]
    by_cases h5:jR (x2,x3,())=true
    ·have eE:eD ((x1,(x2,x3,()),())::hs.drop (i+1))=70:=by unfold eD;rw[if_neg h4,if_pos h5]
     rw[eE,ab h5]
     rfl
    ·have eE:eD ((x1,(x2,x3,()),())::hs.drop (i+1))=eD (hs.drop (i+1)):=by rw[eD,if_neg h4,if_neg h5]
     rw[eE,ac (by simpa using h5)]
     exact ih (i+1) h3 (by omega)
  ·rw[zI (by omega)]
   rw[ac (by simpa using h3)]
   rfl
def qx (a0 a1:Int)(a2:Bool)(a3:LI)(a4:Bool)(a5:LI)(a6:List cm.den):Option gi.Res:=bif decide (a1<0) then oR ((72,()),()) else bif jR (a2,a3,()) then oR ((70,()),()) else bif jR (a4,a5,()) then oR ((70,()),()) else bif decide (16<(↑a6.length:Int)) then oR ((9,()),()) else (iC ((a6,((↑a6.length:Int),(0,()))),())).run fun y=>match y with | .ret ((),((x15,()),()))=>(oR ((x15,()),())) | .pan (.ret ((),((),())))=>(oR ((0,()),()))
theorem D0 (a0 a1:Int)(a2:Bool)(a3:LI)(a4:Bool)(a5:LI)(a6:List cm.den):Io.run tt xg dr ng gi Tryz.f143 (((a0,a1,(a2,a3,()),(a4,a5,()),a6,()),()),())=qx a0 a1 a2 a3 a4 a5 a6:=by kernel_rfl
theorem GM:HcOk prog 143 (ah gi uk):=by
 have hcs:HcsOk prog mZ:=.cons Lf (.cons GS .nil)
 refine bL (cs:=mZ) hcs (lp:=ng) (fn:=Tryz.f143) gi
  (.step (h0:=aI cJ iC) (by kernel_rfl) (jy (cs:=mZ) hcs (lp:=ng) (fn:=Tryz.f143) (.done (by kernel_rfl)) cJ iC ?_) (.done (by kernel_rfl))) uk ?_
 ·rintro ⟨⟨(hs:List cv),(n:Int),(i:Int),⟨⟩⟩,⟨⟩⟩ y hw hy
  obtain ⟨hg,hy⟩:=Tr.guard hy
  simp only[zA,zB] at hg
  obtain ⟨hi,hn⟩:=hg
  have hi:i=0:=hi
  have hn:n=hs.length:=hn
  subst hi hn
  refine ⟨hs.length+1,(zZ hs hw.1.1.1 _ 0 (by omega) (by omega)).trans ?_⟩
  rw[← hy]
  simp only[Tr.val_ite,zB,Tr.val_ret,List.drop_zero]
 ·rintro ⟨⟨⟨(a0:Int),(a1:Int),⟨(a2:Bool),(a3:LI),⟨⟩⟩,⟨(a4:Bool),(a5:LI),⟨⟩⟩,(a6:List cv),⟨⟩⟩,⟨⟩⟩,⟨⟩⟩ out hw ho
  cases ho
  refine (D0 a0 a1 a2 a3 a4 a5 a6).trans ?_
  unfold qx iC
  show _=oR ((fO (a0,a1,(a2,a3,()),(a4,a5,()),a6,()),()),())
  unfold fO
  simp only[Tr.run_ite,Tr.run_ret]
  by_cases h1:a1<0
  ·rw[ab (by simpa using h1),if_pos h1]
  rw[ac (by simpa using h1),if_neg h1]
  by_cases h2:jR (a2,a3,())=true
  ·rw[ab h2,if_pos (.inl h2)]
  rw[ac (by simpa using h2)]
  by_cases h3:jR (a4,a5,())=true
  ·rw[ab h3,if_pos (.inr h3)]
  rw[ac (by simpa using h3),if_neg (show ¬(jR (a2,a3,())=true∨jR (a4,a5,())=true) from fun h=>h.elim h2 h3)]
  by_cases h4:16<(a6.length:Int)
  ·rw[ab (by simpa using h4),if_pos h4]
  rw[ac (by simpa using h4),if_neg h4]
  rw[if_pos (by simp)]
  by_cases h5:eD a6=0
  ·rw[if_pos (decide_eq_true h5),h5]
  ·rw[if_neg (by simpa using h5)]
abbrev gj:Io:=⟨[dO,tp],[],[],[dO],none⟩
def ul (d:gj.In):Tr gj.Res:=.ite (decide (d.1.1.length+(cq d.1.2.1).length≤4294967296)) (.ret (.ret ((d.1.1++cq d.1.2.1,()),()))) .no
abbrev wH:List (Nat×Hc):=[(86,ah je vY)]
def FQ:Hd:=bt wH
def xJ:Lp:=bG []
def qy (a0:LI)(a1:Bool)(a2:LI):Option gj.Res:=bif a1 then bif decide (a0.length+(bW (aY (-1))).length≤4294967296) then oR ((a0++bW (aY (-1)),()),()) else none else bif decide (a0.length+(bW (aY (↑a2.length:Int))).length≤4294967296) then bif decide ((a0++bW (aY (↑a2.length:Int))).length+a2.length≤4294967296) then oR ((a0++bW (aY (↑a2.length:Int))++a2,()),()) else none else none
theorem D1 (a0:LI)(a1:Bool)(a2:LI):Io.run tt FQ dr xJ gj Tryz.f144 ((a0,(a1,a2,()),()),())=qy a0 a1 a2:=by kernel_rfl
theorem GN:HcOk prog 144 (ah gj ul):=by
 refine bL (cs:=wH) (.cons Ak .nil) (lp:=xJ) (fn:=Tryz.f144) gj (.done (by kernel_rfl)) ul ?_
 rintro ⟨⟨(o:LI),⟨(n:Bool),(b:LI),⟨⟩⟩,⟨⟩⟩,⟨⟩⟩ out hw ho
 obtain ⟨hg,ho⟩:=Tr.guard ho
 have hg:o.length+(cq (n,b,())).length≤4294967296:=by simpa using hg
 cases ho
 refine (D1 o n b).trans ?_
 show _=oR ((o++cq (n,b,()),()),())
 unfold qy
 cases n with
 |true=>
  have e:cq (true,b,())=bW (aY (-1)):=rfl
  rw[e] at hg ⊢
  rw[ab rfl,ab (by simpa using hg)]
 |false=>
  have e:cq (false,b,())=bW (aY b.length)++b:=rfl
  rw[e] at hg ⊢
  simp only[zH] at hg
  rw[ac rfl,ab (by simp;omega),ab (by simp;omega),zK]
abbrev jc:Io:=⟨[wW],[],[],[dO,dI],none⟩
def yS (d:jc.In):Tr jc.Res:=.ite (oE d.1.1) (.ret (.ret (((cO d.1.1).1,(cO d.1.1).2,()),()))) .no
abbrev pM:List (Nat×Hc):=[(143,ah gi uk),(127,ah dP mI),(86,ah je vY),(144,ah gj ul)]
def B0:Hd:=bt pM
abbrev cI:Lo:=⟨⟨(.any::cj (.one (.onl 5 (Ty.int u8) 11)::.any::al (dC (cj (bz (.one (.hol (.sl 51 (Ty.str.prod ((Ty.bool.prod ((Ty.sl 5 (Ty.int u8)).prod Ty.unit)).prod Ty.unit))))::.one hI::.one hI::al (cj (bz [])))))))),[]⟩,[(.exit 0,⟨(.any::cj (.one (.onl 5 (Ty.int u8) 11)::al (al (al (dC []))))),[]⟩)]⟩
def iB (d:cI.st.den):Tr (ao cI.xs):=
 .ite (decide (d.1.2.2.2.1=(0:Int))&&(decide (d.1.2.2.1=(d.1.2.1.length:Int))&&decide (d.1.1.length+(dA d.1.2.1).length≤4294967296))) (.ret (.ret ((),((d.1.1++dA d.1.2.1,()),())))) .no
def pW:Lp:=bG [(10,aI cI iB)]
def nI {R:Type}(h7:LI)(h8:List cm.den)(h9 h10:Int)(next:LI→List cm.den→Int→Int→Option R)(out:ao cI.xs→Option R):Option R:=bif decide (h10<h9) then bif decide (0≤h10)&&decide (h10<(↑h8.length:Int)) then bif decide (h7.length+(bW (aY (↑(List.length (h8.getD h10.toNat ([],(false,[],()),())).1):Int))).length≤4294967296) then bif decide ((h7++bW (aY (↑(List.length (h8.getD h10.toNat ([],(false,[],()),())).1):Int))).length+List.length (h8.getD h10.toNat ([],(false,[],()),())).1≤4294967296) then bif decide ((h7++bW (aY (↑(List.length (h8.getD h10.toNat ([],(false,[],()),())).1):Int))++(h8.getD h10.toNat ([],(false,[],()),())).1).length+(cq ((h8.getD h10.toNat ([],(false,[],()),())).2.1.1,(h8.getD h10.toNat ([],(false,[],()),())).2.1.2.1,())).length≤4294967296) then next (h7++bW (aY (↑(List.length (h8.getD h10.toNat ([],(false,[],()),())).1):Int))++(h8.getD h10.toNat ([],(false,[],()),())).1++cq ((h8.getD h10.toNat ([],(false,[],()),())).2.1.1,(h8.getD h10.toNat ([],(false,[],()),())).2.1.2.1,())) (h8) (h9) (i64.wrap (h10+1)) else none else none else none else none else out (.ret ((),((h7,()),())))
def ml (n:Nat)(h7:LI)(h8:List cm.den)(h9 h10:Int):Option (ao cI.xs):=iI tt B0 dr pW 0 Tryz.f121 (cR Tryz.f121 0) n (cI.st.mk' ((h7,(h8,(h9,(h10,())))),())) (bS cI.xs)
theorem AH (n:Nat)(h7:LI)(h8:List cm.den)(h9 h10:Int):ml (n+1) h7 h8 h9 h10=nI h7 h8 h9 h10 (ml n) some:=by kernel_rfl
theorem DD (hs:List cv)(hm:hs.length≤maxLen):∀(k i:Nat) (o:LI),i≤hs.length→hs.length<i+k→o.length+(dA (hs.drop i)).length≤4294967296→
  ml k o hs (hs.length:Int) (i:Int)=some (.ret ((),((o++dA (hs.drop i),()),()))):=by
 intro k
 induction k with
 |zero=>intro i o h1 h2;omega
 |succ k ih=>
  intro i o h1 h2 h3
  rw[AH]
  unfold nI
  by_cases h4:i<hs.length
  ·have e:(hs.getD (i:Int).toNat ([],(false,[],()),()):cv)=hs[i]:=aE h4
   rw[zE h4,← e] at h3 ⊢
   rw[bm h4 hm]
   generalize (hs.getD (i:Int).toNat ([],(false,[],()),()):cv)=x at *
   obtain ⟨x1,⟨x2,x3,⟨⟩⟩,⟨⟩⟩:=x
   have eW:dA ((x1,(x2,x3,()),())::hs.drop (i+1))=bW (aY x1.length)++(x1++cq (x2,x3,()))++dA (hs.drop (i+1)):=by simp[dA,C8]
   rw[eW] at h3 ⊢
   simp only[zH] at h3
   rw[ab (by simpa using h4),ab (by simp[h4]),ab (by simp;omega),ab (by simp;omega),ab (by simp;omega)]
   refine (ih (i+1) _ h4 (by omega) (by simp only[zH];omega)).trans ?_
   simp only[zK]
  ·rw[zI (by omega)]
   rw[ac (by simpa using h4)]
   simp[dA]
def sJ (a0 a1:Int)(a2:Bool)(a3:LI)(a4:Bool)(a5:LI)(a6:List cm.den):Option jc.Res:=bif fO (a0,a1,(a2,a3,()),(a4,a5,()),a6,()) != 0 then oR (([],fO (a0,a1,(a2,a3,()),(a4,a5,()),a6,()),()),()) else bif decide ([0].length+(dy [a0,i64.wrap a1]).length≤4294967296) then bif decide (([0]++dy [a0,i64.wrap a1]).length+(cq (a2,a3,())).length≤4294967296) then bif decide (List.length ([0]++dy [a0,i64.wrap a1]++cq (a2,a3,()))+(cq (a4,a5,())).length≤4294967296) then bif decide (List.length ([0]++dy [a0,i64.wrap a1]++cq (a2,a3,())++cq (a4,a5,()))+(bW (aY (↑a6.length:Int))).length≤4294967296) then (iB (([0]++dy [a0,i64.wrap a1]++cq (a2,a3,())++cq (a4,a5,())++bW (aY (↑a6.length:Int)),(a6,((↑a6.length:Int),(0,())))),())).run fun y=>match y with | .ret ((),((x16,()),()))=>(bif decide (16384<(↑x16.length:Int)) then oR (([],4,()),()) else oR ((x16,0,()),())) else none else none else none else none
theorem Hl (a0 a1:Int)(a2:Bool)(a3:LI)(a4:Bool)(a5:LI)(a6:List cm.den):Io.run tt B0 dr pW jc Tryz.f121 (((a0,a1,(a2,a3,()),(a4,a5,()),a6,()),()),())=sJ a0 a1 a2 a3 a4 a5 a6:=by kernel_rfl
theorem Jk:HcOk prog 121 (ah jc yS):=by
 have hcs:HcsOk prog pM:=.cons GM (.cons tR (.cons Ak (.cons GN .nil)))
 refine bL (cs:=pM) hcs (lp:=pW) (fn:=Tryz.f121) jc
  (.step (h0:=aI cI iB) (by kernel_rfl) (jy (cs:=pM) hcs (lp:=pW) (fn:=Tryz.f121) (.done (by kernel_rfl)) cI iB ?_) (.done (by kernel_rfl))) yS ?_
 ·rintro ⟨⟨(o:LI),(hs:List cv),(n:Int),(i:Int),⟨⟩⟩,⟨⟩⟩ y hw hy
  obtain ⟨hg,hy⟩:=Tr.guard hy
  simp only[zA,zB] at hg
  obtain ⟨hi,hn,hl⟩:=hg
  have hi:i=0:=hi
  have hn:n=hs.length:=hn
  subst hi hn
  refine ⟨hs.length+1,(DD hs hw.1.2.1.1 _ 0 o (by omega) (by omega) hl).trans ?_⟩
  rw[← hy]
  rfl
 ·rintro ⟨⟨⟨(a0:Int),(a1:Int),⟨(a2:Bool),(a3:LI),⟨⟩⟩,⟨(a4:Bool),(a5:LI),⟨⟩⟩,(a6:List cv),⟨⟩⟩,⟨⟩⟩,⟨⟩⟩ out hw ho
  obtain ⟨hg,ho⟩:=Tr.guard ho
  cases ho
  refine (Hl a0 a1 a2 a3 a4 a5 a6).trans ?_
  have ha1:bh .i32 a1:=hw.1.1.2.1
  have ha1 : -2147483648≤a1∧a1≤2147483647:=by simpa [bh,IntKind.min,IntKind.max,IntKind.signed,IntKind.bits] using ha1
  have hg:(cN (a0,a1,(a2,a3,()),(a4,a5,()),a6,())).length≤4294967000:=of_decide_eq_true hg
  show _=oR (((cO (a0,a1,(a2,a3,()),(a4,a5,()),a6,())).1,(cO (a0,a1,(a2,a3,()),(a4,a5,()),a6,())).2,()),())
  have eb:cN (a0,a1,(a2,a3,()),(a4,a5,()),a6,())=[0]++dy [a0,a1]++cq (a2,a3,())++cq (a4,a5,())++bW (aY a6.length)++dA a6:=by
   simp[cN,dy]
  have hl:=hg
  rw[eb] at hl
  simp only[zH] at hl
  unfold sJ cO
  rw[af (n:=a1) (by omega) (by omega)]
  generalize hr:((a0,a1,(a2,a3,()),(a4,a5,()),a6,()):ll)=r at *
  by_cases h1:fO r=0
  rotate_left
  ·have ec:bH r=fO r:=by unfold bH;rw[if_pos h1]
   rw[ab (by simpa using h1),ec,if_neg h1]
  have ec:bH r=if 16384<((cN r).length:Int) then 4 else 0:=by unfold bH;rw[if_neg (aD h1)]
  rw[ac (by simpa using h1),ab (by simp;omega),ab (by simp;omega),ab (by simp;omega),ab (by simp;omega)]
  unfold iB
  simp only[Tr.run_ite,Tr.run_ret]
  rw[if_pos (by simp;omega),← eb,ec]
  by_cases h2:16384<((cN r).length:Int)
  ·rw[ab (by simpa using h2),if_pos h2]
   rfl
  ·rw[ac (by simpa using h2),if_neg h2]
   rfl
abbrev lW:Io:=⟨[wW],[],[],[dO,dI],none⟩
def EI (d:lW.In):Tr lW.Res:=.ite (oE d.1.1) (.ret (.ret (((cz d.1.1).1,(cz d.1.1).2,()),()))) .no
abbrev Fb:List (Nat×Hc):=[(121,ah jc yS),(86,ah je vY)]
def KK:Hd:=bt Fb
def Gj:Lp:=bG []
def we (a0 a1:Int)(a2:Bool)(a3:LI)(a4:Bool)(a5:LI)(a6:List cm.den):Option lW.Res:=bif oE (a0,a1,(a2,a3,()),(a4,a5,()),a6,()) then bif (cO (a0,a1,(a2,a3,()),(a4,a5,()),a6,())).2 != 0 then oR (([],(cO (a0,a1,(a2,a3,()),(a4,a5,()),a6,())).2,()),()) else bif decide ((bW (aY (↑(cO (a0,a1,(a2,a3,()),(a4,a5,()),a6,())).1.length:Int))).length+(cO (a0,a1,(a2,a3,()),(a4,a5,()),a6,())).1.length≤4294967296) then oR ((bW (aY (↑(cO (a0,a1,(a2,a3,()),(a4,a5,()),a6,())).1.length:Int))++(cO (a0,a1,(a2,a3,()),(a4,a5,()),a6,())).1,0,()),()) else none else none
theorem JL (a0 a1:Int)(a2:Bool)(a3:LI)(a4:Bool)(a5:LI)(a6:List cm.den):Io.run tt KK dr Gj lW Tryz.f83 (((a0,a1,(a2,a3,()),(a4,a5,()),a6,()),()),())=we a0 a1 a2 a3 a4 a5 a6:=by kernel_rfl
theorem Ld:HcOk prog 83 (ah lW EI):=by
 refine bL (cs:=Fb) (.cons Jk (.cons Ak .nil)) (lp:=Gj) (fn:=Tryz.f83) lW (.done (by kernel_rfl)) EI ?_
 rintro ⟨⟨⟨(a0:Int),(a1:Int),⟨(a2:Bool),(a3:LI),⟨⟩⟩,⟨(a4:Bool),(a5:LI),⟨⟩⟩,(a6:List cv),⟨⟩⟩,⟨⟩⟩,⟨⟩⟩ out hw ho
 obtain ⟨hg,ho⟩:=Tr.guard ho
 cases ho
 refine (JL a0 a1 a2 a3 a4 a5 a6).trans ?_
 show _=oR (((cz (a0,a1,(a2,a3,()),(a4,a5,()),a6,())).1,(cz (a0,a1,(a2,a3,()),(a4,a5,()),a6,())).2,()),())
 have hg:oE (a0,a1,(a2,a3,()),(a4,a5,()),a6,())=true:=hg
 unfold we
 generalize ((a0,a1,(a2,a3,()),(a4,a5,()),a6,()):ll)=r at *
 have hl:(cN r).length≤4294967000:=of_decide_eq_true hg
 rw[ab hg]
 by_cases h1:bH r=0
 ·have e1:cO r=(cN r,0):=by unfold cO;rw[if_pos h1]
  have e2:cz r=(bW (aY (cN r).length)++cN r,0):=by unfold cz;rw[if_pos h1]
  have:=tV (aY (cN r).length)
  rw[e1,e2]
  rw[ac (by rfl),ab (by simp;omega)]
 ·have e1:cO r=([],bH r):=by unfold cO;rw[if_neg h1]
  have e2:cz r=([],bH r):=by unfold cz;rw[if_neg h1]
  rw[e1,e2,ab (by simpa using h1)]
end
end Go.Proofs.YtcbcbjdobbgddaaGreatDoor.Sym
namespace Go.Proofs.YtcbcbjdobbgddaaGreatDoor.Sym
open Go
open Go.ChangeShapes Go.WideShapes Go.ChangeAt Go.RowKit
def dx (P:Program):Ty→(TypeId ⊕ (List Field×Nat))→Bool
 |.int k,.inl t=>match P.underlying t with
  |some (.int k')=>decide (k'=k)
  |_=>false
 |.bool,.inl t=>match P.underlying t with
  |some .bool=>true
  |_=>false
 |.str,.inl t=>match P.underlying t with
  |some .string=>true
  |_=>false
 |.sl e ty,.inl t=>match P.underlying t with
  |some (.slice e')=>(e' == e)&&(dx P ty (.inl e)&&((P.cellsOf e == ty.size)&&!(ty.size == 0)))
  |_=>false
 |.prod a b,.inl t=>match P.underlying t with
  |some (.struct fs)=>(P.cellsOf t == a.size+b.size)&&match fs.toList with
   |f::fs'=>(f.offset == 0)&&((P.cellsOf f.type == a.size)&&(dx P a (.inl f.type)&&dx P b (.inr (fs',a.size))))
   |[]=>false
  |_=>false
 |.unit,.inr ([],_)=>true
 |.prod a b,.inr (f::fs,off)=>(f.offset == off)&&((P.cellsOf f.type == a.size)&&(dx P a (.inl f.type)&&dx P b (.inr (fs,off+a.size))))
 |_,_=>false
def w4:(t:Ty)→t.den→Nat
 |.int _,_=>1
 |.bool,_=>1
 |.str,s=>List.length (α:=Int) s+1
 |.sl _ t,xs=>(List.map (w4 t) xs).sum+1
 |.unit,_=>0
 |.prod a b,x=>w4 a x.1+w4 b x.2
 |.tree _ _,_=>0
def S0 (W:World)(b o:Nat):Prop:=∃v,W.cell? ⟨b,o,none⟩=some v
section
variable {P:Program} {W:World} {H:Type} {enc:TypeId×Value→H} {sp:Nat→Bool} {held:Bool}
theorem E4 {a:Addr}{n:Nat}{cs:List Value}(h:W.cells? 0 a n=some cs)(hn:0<n):a.spot=none∧cs.length=n∧At (S0 W) W a.block a.off cs:=by
 simp only[World.cells?,Nat.zero_le,if_true] at h
 have hl:=mapM_some_length h
 rw[List.length_range] at hl
 have hg:∀i,i<n→W.cell? (a.add i)=cs[i]?:=fun i hi=>mapM_some_get h i i (by simp[hi])
 have hsp:a.spot=none:=by
  have h0:=hg 0 hn
  rw[List.getElem?_eq_getElem (by omega)] at h0
  unfold World.cell? at h0
  split at h0
  ·split at h0
   ·cases h0
   ·rename_i hs
    cases e:a.spot with
    |none=>rfl
    |some x=>simp[Addr.add,e] at hs
  ·cases h0
 refine ⟨hsp,hl,fun j v hv=>?_⟩
 have hj:j<n:=by rw[← hl];exact (List.getElem?_eq_some_iff.1 hv).1
 have:=hg j hj
 rw[hv] at this
 have e:a.add j=⟨a.block,a.off+j,none⟩:=by
  obtain ⟨b,o,s⟩:=a
  simp only at hsp
  subst hsp
  exact Addr.add_plain ..
 rw[e] at this
 exact ⟨⟨v,this⟩,this⟩
theorem nN (ub:DataW H→Nat)(uba:List (DataW H)→Nat)(u1:∀l,1≤ub (.lit l))(u2:∀bs,bs.length+1≤ub (.lit (.string bs)))(u3:1≤ub .nil)(u4:∀es ss,uba es+1≤ub (.slice es ss))(u5:∀ps,uba ps≤ub (.agg ps))
  (u6:∀d ds,uba (d::ds)=ub d+uba ds) (u7:uba []=0):
  ∀(ty:Ty),(∀(t:TypeId),dx P ty (.inl t)=true→∀(fuel:Nat) (cs:List Value) (x:DataW H×List MemPlace),DataW.trod enc P W 0 sp held fuel t cs=some x→∃y:ty.den,Rt (S0 W) W ty y cs∧w4 ty y≤ub x.1)∧
   (∀(fs:List Field) (off:Nat),dx P ty (.inr (fs,off))=true→∀(fuel:Nat) (cs:List Value) (xs:List (DataW H×List MemPlace)),fs.mapM (fun f=>DataW.trod enc P W 0 sp held fuel f.type ((cs.drop f.offset).take (P.cellsOf f.type)))=some xs→
    (cs.drop off).length=ty.size→∃y:ty.den,Rt (S0 W) W ty y (cs.drop off)∧w4 ty y≤uba (xs.map (·.1)))
 |.int k=>by
  refine ⟨fun t ht fuel cs x h=>?_,fun fs off ht=>by cases fs <;> simp[dx] at ht⟩
  simp only[dx] at ht
  split at ht
  ·rename_i k' hu
   have ht:=of_decide_eq_true ht
   subst ht
   obtain ⟨n2,rfl,rfl,hw⟩:=DataW.trod_int hu h
   refine ⟨n2,⟨rfl,?_⟩,u1 _⟩
   simpa [Lit.wf,bh] using hw
  ·cases ht
 |.bool=>by
  refine ⟨fun t ht fuel cs x h=>?_,fun fs off ht=>by cases fs <;> simp[dx] at ht⟩
  simp only[dx] at ht
  split at ht
  ·rename_i hu
   obtain ⟨b,rfl,rfl⟩:=DataW.trod_bool hu h
   exact ⟨b,rfl,u1 _⟩
  ·cases ht
 |.str=>by
  refine ⟨fun t ht fuel cs x h=>?_,fun fs off ht=>by cases fs <;> simp[dx] at ht⟩
  simp only[dx] at ht
  split at ht
  ·rename_i hu
   obtain ⟨s,rfl,rfl,hl⟩:=DataW.trod_string hu h
   refine ⟨ik s,⟨by rw[kw],pn s,?_⟩,?_⟩
   ·have:(ik s).length=s.size:=by rw[← bI,kw]
    rw[this];exact hl
   ·have:(ik s).length=s.data.toList.length:=by unfold ik;exact List.length_map _
    show (ik s).length+1≤_
    rw[this]
    exact u2 _
  ·cases ht
 |.unit=>by
  refine ⟨fun t ht=>by simp[dx] at ht,fun fs off ht fuel cs xs h hl=>?_⟩
  refine ⟨(),?_,Nat.zero_le _⟩
  exact zF hl
 |.sl e ty=>by
  refine ⟨fun t ht fuel cs x h=>?_,fun fs off ht=>by cases fs <;> simp[dx] at ht⟩
  simp only[dx] at ht
  split at ht
  ·rename_i e' hu
   simp only[zA,beq_iff_eq,Bool.not_eq_true',beq_eq_false_iff_ne] at ht
   obtain ⟨rfl,hT,hsz,hpos⟩:=ht
   have ih:=(nN ub uba u1 u2 u3 u4 u5 u6 u7 ty).1 e' hT
   rcases DataW.trod_slice hu h with ⟨rfl,rfl⟩ | ⟨a,len,cap,elems,rest,n,_,rfl,rfl,hb,hl,hm,hlen,hel,_,_⟩
   ·exact ⟨[],⟨none,0,rfl,Nat.le_refl _,Nat.zero_le _,fun h=>absurd rfl h⟩,u3⟩
   ·have each:∀i,i<len→∃y:ty.den,(∃c,Rt (S0 W) W ty y c∧(i=0→a.spot=none)∧At (S0 W) W a.block (a.off+i*ty.size) c)∧∃d,elems[i]?=some d∧w4 ty y≤ub d.1:=by
     intro i hi
     have h1:=hel i hi
     rw[List.getElem?_eq_getElem (by omega)] at h1
     obtain ⟨c,hc,hd⟩:=Option.bind_eq_some_iff.1 h1
     obtain ⟨y,hy,hs⟩:=ih _ _ _ hd
     rw[hsz] at hc
     obtain ⟨h2,h3,h4⟩:=E4 hc (by omega)
     have e1:(a.add (i*ty.size)).block=a.block:=by unfold Addr.add;split <;> rfl
     have e2:(a.add (i*ty.size)).off=a.off+i*ty.size:=by
      unfold Addr.add
      split
      ·rename_i h0;rw[h0];rfl
      ·rfl
     rw[e1,e2] at h4
     refine ⟨y,⟨c,hy,fun h0=>?_,h4⟩,elems[i],by simp,hs⟩
     subst h0
     simpa [Addr.add] using h2
    have mk:∀m,m≤len→∃ys:List ty.den,ys.length=m∧(∀i y,ys[i]?=some y→∃c,Rt (S0 W) W ty y c∧(i=0→a.spot=none)∧At (S0 W) W a.block (a.off+i*ty.size) c)∧(ys.map (w4 ty)).sum≤uba ((elems.take m).map (·.1)):=by
     intro m
     induction m with
     |zero=>intro _;exact ⟨[],rfl,fun i y h=>by simp at h,by simp⟩
     |succ m ihm=>
      intro hm'
      obtain ⟨ys,g1,g2,g3⟩:=ihm (by omega)
      obtain ⟨y,g4,d,g5,g6⟩:=each m (by omega)
      refine ⟨ys++[y],by simp[g1],fun i z hz=>?_,?_⟩
      ·rw[List.getElem?_append] at hz
       split at hz
       ·exact g2 i z hz
       ·rename_i hlt
        have:i=m:=by
         have:=(List.getElem?_eq_some_iff.1 hz).1
         simp at this;omega
        subst this
        simp[g1] at hz
        subst hz
        exact g4
      ·have hap:∀(xs bs:List (DataW H)),uba (xs++bs)=uba xs+uba bs:=by
        intro xs bs
        induction xs with
        |nil=>simp[u7]
        |cons c xs ih=>rw[List.cons_append,u6,u6,ih];omega
       rw[List.take_add_one,g5]
       simp only[List.map_append,List.sum_append,hap,Option.toList,zL,List.map_nil,List.sum_cons,List.sum_nil,u6,u7]
       omega
    obtain ⟨ys,g1,g2,g3⟩:=mk len (Nat.le_refl _)
    refine ⟨ys,⟨some a,cap,by rw[g1],by omega,hm,fun hne=>?_⟩,?_⟩
    ·have h0:0<ys.length:=List.length_pos_iff.2 hne
     obtain ⟨c,_,hsp,_⟩:=g2 0 ys[0] (by simp)
     have hsp:=hsp rfl
     refine ⟨a.block,a.off,?_,fun i y hy=>?_⟩
     ·obtain ⟨b,o,s⟩:=a
      simp only at hsp
      rw[hsp]
     ·obtain ⟨c,hc,_,hat⟩:=g2 i y hy
      exact ⟨c,hc,hat⟩
    ·rw[List.take_of_length_le (by omega)] at g3
     show (ys.map (w4 ty)).sum+1≤_
     exact Nat.le_trans (by omega) (u4 _ _)
  ·cases ht
 |.tree a e=>⟨fun t ht=>by simp[dx] at ht,fun fs off ht=>by cases fs <;> simp[dx] at ht⟩
 |.prod a b=>by
  have step:∀(f:Field) (fs:List Field) (off:Nat),((f.offset == off)&&((P.cellsOf f.type == a.size)&&(dx P a (.inl f.type)&&dx P b (.inr (fs,off+a.size)))))=true→
    ∀(fuel:Nat) (cs:List Value) (xs:List (DataW H×List MemPlace)),(f::fs).mapM (fun f=>DataW.trod enc P W 0 sp held fuel f.type ((cs.drop f.offset).take (P.cellsOf f.type)))=some xs→
    (cs.drop off).length=a.size+b.size→∃y:a.den×b.den,Rt (S0 W) W (.prod a b) y (cs.drop off)∧w4 a y.1+w4 b y.2≤uba (xs.map (·.1)):=by
   intro f fs off ht fuel cs xs h hl
   simp only[zA,beq_iff_eq] at ht
   obtain ⟨rfl,hs,hA,hB⟩:=ht
   simp only[List.mapM_cons,Option.bind_eq_bind,Option.bind_eq_some_iff] at h
   obtain ⟨x0,h0,xs',h1,h2⟩:=h
   simp only[Option.pure_def,zC] at h2
   subst h2
   rw[hs] at h0
   obtain ⟨y1,hy1,hd1⟩:=(nN ub uba u1 u2 u3 u4 u5 u6 u7 a).1 f.type hA _ _ _ h0
   have hl2:(cs.drop (f.offset+a.size)).length=b.size:=by
    simp only[List.length_drop] at hl ⊢
    omega
   obtain ⟨y2,hy2,hd2⟩:=(nN ub uba u1 u2 u3 u4 u5 u6 u7 b).2 fs _ hB _ _ _ h1 hl2
   refine ⟨(y1,y2),⟨_,_,?_,hy1,hy2⟩,?_⟩
   ·rw[← List.drop_drop,List.take_append_drop]
   ·simp only[zL,u6]
    omega
  refine ⟨fun t ht fuel cs x h=>?_,fun fs off ht fuel cs xs h hl=>?_⟩
  ·simp only[dx] at ht
   split at ht
   ·rename_i fs hu
    simp only[zA,beq_iff_eq] at ht
    obtain ⟨hsz,ht⟩:=ht
    split at ht
    ·rename_i f fs' hfs
     cases fuel with
     |zero=>simp[DataW.trod] at h
     |succ n=>
      unfold DataW.trod at h
      rw[hu] at h
      simp only at h
      split at h
      ·rename_i hlen
       obtain ⟨xs,hxs,rfl⟩:=Option.map_eq_some_iff.1 h
       rw[hfs] at hxs
       obtain ⟨y,hy,hd⟩:=step f fs' 0 (by simpa using ht) n cs xs hxs (by simpa [hsz] using hlen)
       exact ⟨y,by simpa using hy,Nat.le_trans hd (u5 _)⟩
      ·cases h
    ·cases ht
   ·cases ht
  ·cases fs with
   |nil=>simp[dx] at ht
   |cons f fs=>exact step f fs off (by simpa only [dx] using ht) fuel cs xs h hl
theorem L7 {ty:Ty}{t:TypeId}(ht:dx P ty (.inl t)=true){fuel:Nat}{cs:List Value}{d:DataW H}{ps:List MemPlace}(h:DataW.trod enc P W 0 sp held fuel t cs=some (d,ps)):∃y:ty.den,Rt (S0 W) W ty y cs∧w4 ty y≤Rows.uptoBulk d:=
 (nN Rows.uptoBulk Rows.uptoBulkAll (fun l=>by cases l <;> simp[Rows.uptoBulk]) (fun bs=>by simp[Rows.uptoBulk]) (by simp[Rows.uptoBulk]) (fun es ss=>by simp[Rows.uptoBulk]) (fun ps=>by simp[Rows.uptoBulk]) (fun d ds=>by simp[Rows.uptoBulkAll]) (by simp[Rows.uptoBulkAll]) ty).1 t ht fuel cs _ h
theorem oV {t:Ty}(hp:∀x:t.den,1≤w4 t x):∀xs:List t.den,xs.length≤(xs.map (w4 t)).sum
 |[]=>by simp
 |x::xs=>by
  have:=oV hp xs
  have:=hp x
  simp only[zN,zL,List.sum_cons]
  omega
theorem Iy {e:Nat}{k:IntKind}(xs:(Ty.sl e (.int k)).den):List.length xs≤w4 (.sl e (.int k)) xs:=by
 have:=oV (t:=.int k) (fun _=>Nat.le_refl 1) xs
 show _≤(List.map (w4 (.int k)) xs).sum+1
 exact Nat.le_trans this (Nat.le_succ _)
def G0 (W:World):Gh:=⟨S0 W,fun _=>none,fun _=>none⟩
def F0 (W:World):Fra:=⟨W,fun _=>False,S0 W,fun _=>none⟩
theorem Mp (h:∀g,Kc g=false)(W:World):iG (S0 W) W:=fun g i hg _=>absurd hg (by rw[h g];decide)
theorem ME (W:World)(htab:iG (S0 W) W):Rel (F0 W) (G0 W) ⟨[],[],[]⟩ #[] [] W where
 tm:=trivial
 stk:=trivial
 ob:=fun k cs h=>by simp at h
 gh:=⟨fun _ _ h=>(by cases h),fun _ _ _ h=>(by cases h),fun _ _ _ h=>(by cases h),fun _ _ _ _ _ h=>(by cases h),fun b o h=>(by
   obtain ⟨v,h⟩:=h
   unfold World.cell? at h
   split at h
   ·rename_i e
    exact (Array.getElem?_eq_some_iff.1 e).1
   ·cases h),⟨rfl,rfl,rfl,Nat.le_refl _,fun _ _ _=>rfl⟩,fun _ _ h=>h,fun _ _ h=>.inl h,fun _ _ _=>rfl,fun _ _ h=>(by cases h),htab⟩
def DB (oc:Oc)(A:AS):Option Unit:=match oc with
 |.ret (.one (.bool true)) _=>some ()
 |_=>none
theorem DC {f:Nat}{io:Io}{Fn:io.In→Tr io.Res}(hok:HcOk P f (ah io Fn)){args:List V}{vals:Array Value}(hargs:All2 (Rv (G0 W) W) args vals.toList)(hrun:ah io Fn Unit args 1 ⟨[],[],[]⟩ DB=some ())(htab:iG (S0 W) W:=by exact Mp (fun _=>rfl) _):
  Calls P f vals W fun e w'=>e=.returned (.bool true)∧w'.os=W.os∧w'.output=W.output∧∀i,i<W.heap.size→w'.heap[i]?=W.heap[i]?:=by
 refine (hok Unit args 1 _ DB () (F0 W) (G0 W) #[] [] W vals (fun _=>rfl) hrun (ME W htab) hargs).2.mono ?_
 rintro e w' ⟨G',A',v,u,R',hv,h⟩
 have hfr:=R'.gh.fr
 refine ⟨?_,hfr.os,hfr.output,fun i hi=>hfr.block i hi (fun h=>h)⟩
 rcases h with ⟨rfl,ks,_,hk⟩ | ⟨rfl,hk⟩
 ·unfold DB at hk
  split at hk
  ·rename_i e
   cases e
   rw[show u=.bool true from hv]
  ·cases hk
 ·cases hk
def EW (ty:Ty)(y:ty.den):V:=bif ty.isProd then .agg (nM ty y) else match nM ty y with
 |[c]=>.one c
 |_=>.any
theorem zg {G:Gh}{ty:Ty}{y:ty.den}{v:Value}(h:Rt G.S W ty y v.cells.toList)(hp:ty.isProd=true→∃vs,v=.agg vs)(hn:ty.isProd=false→v.cells = #[v]):Rv G W (EW ty y) v:=by
 have hs:=b7 (G:=G) (w:=W) ty y _ h
 unfold EW
 cases hb:ty.isProd with
 |true=>
  obtain ⟨vs,rfl⟩:=hp hb
  exact ⟨vs,rfl,hs⟩
 |false=>
  rw[hn hb] at hs
  simp only[cond_false]
  split
  ·rename_i c e
   rw[e] at hs
   exact hs.1
  ·trivial
theorem Dc {ty:Ty}{t:TypeId}(ht:dx P ty (.inl t)=true){r:Reach}{base:Nat}{v:Value}(hval:Value.okWide P W r base t v):(ty.isProd=true→∃vs,v=.agg vs)∧(ty.isProd=false→v.cells = #[v]):=by
 cases ty with
 |tree a e=>simp[dx] at ht
 |int k=>
  refine ⟨fun h=>(by cases h),fun _=>?_⟩
  simp only[dx] at ht
  split at ht
  ·rename_i k' hu
   cases v <;> simp[Value.okWide,hu,Cell.okWide,Cell.ok] at hval <;> rfl
  ·cases ht
 |bool=>
  refine ⟨fun h=>(by cases h),fun _=>?_⟩
  simp only[dx] at ht
  split at ht
  ·rename_i hu
   cases v <;> simp[Value.okWide,hu,Cell.okWide,Cell.ok] at hval <;> rfl
  ·cases ht
 |str=>
  refine ⟨fun h=>(by cases h),fun _=>?_⟩
  simp only[dx] at ht
  split at ht
  ·rename_i hu
   cases v <;> simp[Value.okWide,hu,Cell.okWide,Cell.ok] at hval <;> rfl
  ·cases ht
 |sl e ty=>
  refine ⟨fun h=>(by cases h),fun _=>?_⟩
  simp only[dx] at ht
  split at ht
  ·rename_i e' hu
   cases v <;> simp[Value.okWide,hu,Cell.okWide,Cell.ok] at hval <;> rfl
  ·cases ht
 |unit=>simp[dx] at ht
 |prod a b=>
  refine ⟨fun _=>?_,fun h=>(by cases h)⟩
  simp only[dx] at ht
  split at ht
  ·rename_i fs hu
   simp only[Value.okWide,hu] at hval
   obtain ⟨cs,rfl,_⟩:=hval
   exact ⟨cs,rfl⟩
  ·cases ht
def p9 (P:Program):Bool:=(List.range P.types.size).all fun t=>match P.underlying t with
 |some (.slice e)=>decide (0<P.cellsOf e)
 |_=>true
theorem sr (hl:laidOutB P=true)(hm:mapsRowed P=true)(hs:p9 P=true){W':World}(hk:∀i,i<W.heap.size→W'.heap[i]?=W.heap[i]?):∀{ts:List TypeId} {vs:List Value} {ds:List (DataW H)} {ps:List MemPlace},
  (∀t∈ts,t<P.types.size)→DataW.TrodAll enc P W 0 (fun _=>true) true ts vs ds ps→(∀p∈ps,sp p.block=true)→DataW.TrodAll enc P W' 0 sp true ts vs ds ps
 |[],[],[],_,_,h,_=>h
 |t::ts,v::vs,d::ds,ps,hT,⟨p,q,⟨fuel,h1⟩,h2,e⟩,hsp=>by
  refine ⟨p,q,⟨fuel,DataW.trod_stays (kids_rows hl hm) (fun {t e} ht hu=>?_) (fun h=>(by cases h)) (hT t (by simp)) h1 (fun x hx=>?_) fun x hx=>hsp x (by rw[e];exact List.mem_append_left _ hx)⟩,
   sr hl hm hs hk (fun t ht=>hT t (by simp[ht])) h2 (fun x hx=>hsp x (by rw[e];exact List.mem_append_right _ hx)),e⟩
  ·have:=List.all_eq_true.1 hs t (by simpa using ht)
   rw[hu] at this
   exact of_decide_eq_true this
  ·have hb:=DataW.trod_lt _ _ _ _ h1 x hx
   cases x with
   |cell b off=>simp[World.sameAt,World.cell?,hk b hb]
   |map b=>exact hk b hb
 |[],[],_::_,_,_,h,_=>h.elim
 |[],_::_,_,_,_,h,_=>h.elim
 |_::_,[],_,_,_,h,_=>h.elim
 |_::_,_::_,[],_,_,h,_=>h.elim
theorem G7 {f:Func}{s:ChangeSpec}{apart fresh handsOn again:Bool}{W':World}{args:Array Value}{ds gs:List (DataW H)}{before:List MemPlace}
  (hl:laidOutB P=true) (hm:mapsRowed P=true) (hs:p9 P=true) (hT:∀t∈f.params.toList,t<P.types.size) {tb:TypeId} (hr:f.resultTypes = #[tb]) (htb:P.underlying tb=some .bool) (hv:s.vars=[])
  (hW:DataW.Whole enc P f.params.toList s.vars apart W args.toList ds gs before) (hfn:s.fn H (ds++gs)={ results:=[.lit (.bool true)],args:=ds })
  (hos:W'.os=W.os) (hout:W'.output=W.output) (hk:∀i,i<W.heap.size→W'.heap[i]?=W.heap[i]?):s.post enc P f apart fresh handsOn again W args (.bool true) W':=by
 have hlt:=hW.lt
 obtain ⟨p,q,hA,hV,hpq,hfz,hnd⟩:=id hW
 rw[hv] at hV
 obtain ⟨rfl,rfl⟩:=trodVars_none hV
 rw[List.append_nil] at hpq
 subst hpq
 have hres:∀(b:Nat) (sp:Nat→Bool) (hd:Bool),DataW.TrodAll enc P W' b sp hd f.resultTypes.toList ((Value.bool true).resultList f.resultTypes.size) [.lit (.bool true)] []:=by
  intro b sp hd
  rw[hr]
  exact trodAll_cons_mk (shut_bool htb _) trodAll_mk0
 have hargs:∀sp:Nat→Bool,(∀x∈before,sp x.block=true)→DataW.TrodAll enc P W' 0 sp true f.params.toList args.toList ds before:=
  fun sp hsp=>sr hl hm hs hk hT hA hsp
 have hvars:∀sp:Nat→Bool,DataW.TrodVars enc P W' sp s.vars [] []:=by
  intro sp
  rw[hv]
  rfl
 have hold:∀x∈before,(fun b=>decide (b<W.heap.size)) x.block=true:=fun x hx=>by simpa using hlt x hx
 have hkept:∀may:MemPlace→Prop,W.keptBut W' may:=fun may=>⟨hos,hout,fun i hi=>by
  rw[hk i hi]
  cases h:W.heap[i]? with
  |none=>rfl
  |some o=>cases o <;> simp⟩
 refine ⟨ds,[],before,[],before,[],hW,by rw[hfn];exact hres _ _ _,by rw[hfn];exact hargs _ hold,by rw[hfn];exact hvars _,hkept _,fun _=>?_⟩
 refine ⟨ok_one hr rfl (okWide_bool_mk htb true),[.lit (.bool true)]++ds,[],[]++before,⟨[]++before,[],trodAll_append (hargs _ fun _ _=>rfl) (hres _ _ _),hvars _,by simp,fun b off hx=>?_,fun ha=>by simpa using hnd ha⟩,fun x hx _=>by simpa using hx⟩
 have hx:MemPlace.cell b off∈before:=by simpa using hx
 rw[← hfz b off hx]
 simp[World.frozen?,hk b (hlt _ hx)]
@[reducible] def nQ:List Ty→Type
 |[]=>Unit
 |t::ts=>t.den×nQ ts
def Bh:(tys:List Ty)→nQ tys→List V
 |[],_=>[]
 |t::ts,y=>EW t y.1::Bh ts y.2
def Fy:(tys:List Ty)→nQ tys→Nat
 |[],_=>0
 |t::ts,y=>w4 t y.1+Fy ts y.2
def ML:(tys:List Ty)→nQ tys→Prop
 |[],_=>True
 |t::ts,y=>t.wf y.1∧ML ts y.2
def Jf (P:Program):List Ty→List TypeId→Bool
 |[],[]=>true
 |ty::tys,t::ts=>dx P ty (.inl t)&&Jf P tys ts
 |_,_=>false
theorem v5 {r:Reach}{base:Nat}:∀(tys:List Ty) (ts:List TypeId),Jf P tys ts=true→∀{vs:List Value} {ds:List (DataW H)} {ps:List MemPlace},DataW.TrodAll enc P W 0 sp held ts vs ds ps→
  (∀(j:Nat) t v,ts[j]?=some t→vs[j]?=some v→Value.okWide P W r base t v)→
  ∃ys:nQ tys,All2 (Rv (G0 W) W) (Bh tys ys) vs∧Fy tys ys≤Rows.uptoBulkAll ds∧ML tys ys∧ds.length=tys.length
 |[],[],_,[],[],_,_,_=>⟨(),trivial,Nat.zero_le _,trivial,rfl⟩
 |ty::tys,t::ts,ht,v::vs,d::ds,_,⟨p,q,⟨fuel,h1⟩,h2,_⟩,hv=>by
  simp only[Jf,zA] at ht
  obtain ⟨y,hy,hs⟩:=L7 ht.1 h1
  obtain ⟨k1,k2⟩:=Dc ht.1 (hv 0 t v rfl rfl)
  obtain ⟨ys,g1,g2,g3,g4⟩:=v5 tys ts ht.2 h2 fun j t' v' e1 e2=>hv (j+1) t' v' (by simpa using e1) (by simpa using e2)
  refine ⟨(y,ys),⟨zg hy k1 k2,g1⟩,?_,⟨Rt.wf ty y _ hy,g3⟩,by simp[g4]⟩
  simp only[Fy,Rows.uptoBulkAll]
  omega
 |[],[],_,[],_::_,_,h,_=>h.elim
 |[],[],_,_::_,_,_,h,_=>h.elim
 |_::_,_::_,_,[],_,_,h,_=>h.elim
 |_::_,_::_,_,_::_,[],_,h,_=>h.elim
 |[],_::_,h,_,_,_,_,_=>by cases h
 |_::_,[],h,_,_,_,_,_=>by cases h
theorem vf {fn:Func}{f:Nat}{io:Io}{Fn:io.In→Tr io.Res}(hok:HcOk P f (ah io Fn)){s:ChangeSpec}(tys:List Ty)(hts:Jf P tys fn.params.toList=true)
  (hl:laidOutB P=true) (hm:mapsRowed P=true) (hs:p9 P=true) (hT:∀t∈fn.params.toList,t<P.types.size) {tb:TypeId} (hr:fn.resultTypes = #[tb]) (htb:P.underlying tb=some .bool) (hv:s.vars=[])
  (hfn:∀ds:List (DataW H),ds.length=tys.length→s.fn H ds={ results:=[.lit (.bool true)],args:=ds })
  (hrun:∀ys:nQ tys,Fy tys ys≤1048576→ML tys ys→ah io Fn Unit (Bh tys ys) 1 ⟨[],[],[]⟩ DB=some ())
  (base:Nat) (args:Array Value) (ds gs:List (DataW H)) (before:List MemPlace)
  (hval:∀(j:Nat) t v,fn.params[j]?=some t→args[j]?=some v→Value.okWide P W .any base t v)
  (hW:DataW.Whole enc P fn.params.toList s.vars false W args.toList ds gs before) (hk:Rows.uptoSmall H (ds++gs)=true) (htab:iG (S0 W) W:=by exact Mp (fun _=>rfl) _):
  Calls P f args W fun e W'=>∃v,e=.returned v∧s.post enc P fn false true false false W args v W':=by
 have hW':=hW
 obtain ⟨p,q,hA,hV,_,_,_⟩:=hW
 rw[hv] at hV
 obtain ⟨rfl,rfl⟩:=trodVars_none hV
 obtain ⟨ys,g1,g2,g3,g4⟩:=v5 tys fn.params.toList hts hA fun j t v e1 e2=>hval j t v (by simpa using e1) (by simpa using e2)
 have hb:Rows.uptoBulkAll ds≤1048576:=by simpa [Rows.uptoSmall] using hk
 refine (DC hok (vals:=args) (args:=Bh tys ys) g1 (hrun ys (by omega) g3) htab).mono ?_
 rintro e W' ⟨rfl,hos,hout,hkeep⟩
 exact ⟨_,rfl,G7 hl hm hs hT hr htb hv hW' (by rw[List.append_nil];exact hfn ds g4) hos hout hkeep⟩
end
end Go.Proofs.YtcbcbjdobbgddaaGreatDoor.Sym
namespace Go.Proofs.YtcbcbjdobbgddaaGreatDoor.Sym
open Go
noncomputable section
section
variable {P:Program} {tt:TT}
end
end
end Go.Proofs.YtcbcbjdobbgddaaGreatDoor.Sym
namespace Go.Proofs.YtcbcbjdobbgddaaGreatDoor.Sym
open Go
def Ty.flatB:Ty→Bool
 |.sl _ _=>false
 |.tree _ _=>false
 |.prod a b=>a.flatB&&b.flatB
 |_=>true
theorem Rt.flat {S S':Nat→Nat→Prop}{w w':World}:∀(t:Ty) (x:t.den) (cs:List Value),t.flatB=true→Rt S w t x cs→Rt S' w' t x cs
 |.int _,_,_,_,h=>h
 |.bool,_,_,_,h=>h
 |.str,_,_,_,h=>h
 |.unit,_,_,_,h=>h
 |.prod a b,_,_,hf,⟨c1,c2,e,h1,h2⟩=>by
  simp only[Ty.flatB,zA] at hf
  exact ⟨c1,c2,e,Rt.flat a _ _ hf.1 h1,Rt.flat b _ _ hf.2 h2⟩
 |.sl _ _,_,_,hf,_=>by cases hf
 |.tree _ _,_,_,hf,_=>by cases hf
noncomputable section
structure Grown (w w':World):Prop where
 os:w'.os=w.os
 tape:w'.tape=w.tape
 output:w'.output=w.output
 size:w.heap.size≤w'.heap.size
 old:∀k,k<w.heap.size→w'.heap[k]?=w.heap[k]?
theorem Grown.cell {w w':World}(g:Grown w w'){b o:Nat}(hb:b<w.heap.size):w'.cell? ⟨b,o,none⟩=w.cell? ⟨b,o,none⟩:=by
 simp[World.cell?,g.old b hb]
section
variable {F:Fra} {G:Gh} {w w':World}
def Gh.owned (G:Gh)(i:Nat)(o:Option Nat):Gh:=⟨G.S,G.mu,fun j=>if j=i then o.map (·,0) else G.ow j⟩
variable {G':Gh}
def OwnsTo (G' H:Gh)(l:List Nat):Prop:=∀j∈l,j≠0∧∀b n,G'.ow j=some (b,n)→H.ow j=some (b,0)
theorem OwnsTo.l {H:Gh}{l l':List Nat}(h:OwnsTo G' H (l++l')):OwnsTo G' H l:=fun j hj=>h j (List.mem_append_left _ hj)
theorem OwnsTo.r {H:Gh}{l l':List Nat}(h:OwnsTo G' H (l++l')):OwnsTo G' H l':=fun j hj=>h j (List.mem_append_right _ hj)
end
end
end Go.Proofs.YtcbcbjdobbgddaaGreatDoor.Sym
namespace Go.Proofs.YtcbcbjdobbgddaaGreatDoor.Sym
open Go
noncomputable section
theorem B6 {w:World}{b:Nat}{o:Obj}(h:w.heap[b]?=some o):b<w.heap.size:=(Array.getElem?_eq_some_iff.1 h).1
theorem Grown.refl (w:World):Grown w w:=⟨rfl,rfl,rfl,Nat.le_refl _,fun _ _=>rfl⟩
end
end Go.Proofs.YtcbcbjdobbgddaaGreatDoor.Sym
namespace Go.Proofs.YtcbcbjdobbgddaaGreatDoor.Sym
open Go
open Go.IntKind (i8 i16 i32 i64 u8 u16 u32 u64)
noncomputable section
abbrev Je:List Sh:=[dO,dI]
abbrev Mw:Sh:=.dat (.int .i16) false false
abbrev Ix:Sh:=.dat (.int .i32) false false
abbrev L5:Sh:=.dat (.int .u64) false false
def aF (v:Int):Nat→LI
 |0=>[]
 |n+1=>(v / 256 ^ n) % 256::aF v n
theorem nx (v:Int):∀n,(aF v n).length=n
 |0=>rfl
 |n+1=>by rw[aF,zN,nx v n]
def bZ (b:LI)(most v:Int)(n:Nat):Int×LI:=if most - b.length<n then (10,b) else (0,b++aF v n)
def cE (b:LI)(most:Int):Bool:=decide (b.length≤4294960000)&&(decide (0≤most)&&decide (most≤(1048576:Int)))
abbrev gY:Io:=⟨[.ptr 0 0],[Je],[],[dI],none⟩
def uA (d:gY.In):Tr gY.Res:=.ret (.ret ((i64.wrap (d.2.1.2.1 - d.2.1.1.length),()),((d.2.1.1,(d.2.1.2.1,())),())))
abbrev BP:List (Nat×Hc):=[]
def I2:Hd:=bt BP
def CA:Lp:=bG []
def Dg (a0:LI)(a1:Int):Option gY.Res:=oR ((i64.wrap (a1 - (↑a0.length:Int)),()),(a0,a1,()),())
theorem HG (a0:LI)(a1:Int):Io.run tt I2 dr CA gY Tryz.f88 (((),()),(a0,a1,()),())=Dg a0 a1:=by kernel_rfl
theorem CW:HcOk prog 88 (ah gY uA):=by
 refine bL (cs:=BP) HcsOk.nil (lp:=CA) (fn:=Tryz.f88) gY (.done (by kernel_rfl)) uA ?_
 rintro ⟨⟨⟨⟩,⟨⟩⟩,⟨⟨(b:LI),(m:Int),⟨⟩⟩,⟨⟩⟩⟩ out hw ho
 rw[← ho]
 exact HG b m
abbrev cT:Io:=⟨[.ptr 0 0,L5,dI],[Je],[],[dI],none⟩
def iE (d:cT.In):Tr cT.Res:=
 .ite (cE d.2.1.1 d.2.1.2.1&&(decide ((0:Int)≤d.1.2.2.1)&&decide (d.1.2.2.1≤(8:Int)))) (.ret (.ret (((bZ d.2.1.1 d.2.1.2.1 d.1.2.1 d.1.2.2.1.toNat).1,()),(((bZ d.2.1.1 d.2.1.2.1 d.1.2.1 d.1.2.2.1.toNat).2,(d.2.1.2.1,())),())))) .no
abbrev tl:List (Nat×Hc):=[(88,ah gY uA)]
def tE:Hd:=bt tl
abbrev ch:Lo:=⟨⟨(.one (.ptr 0 0)::.one (.hol (.int u64))::.any::cj (.one hI::al (dC []))),[some [.onl 5 (Ty.int u8) 2,hI]]⟩,[(.exit 0,⟨(al (al ([]))),[some [.onl 5 (Ty.int u8) 2,hI]]⟩)]⟩
def f7 (d:ch.st.den):Tr (ao ch.xs):=
 .ite (decide (-1≤d.1.2.1)&&(decide (d.1.2.1≤7)&&decide (d.2.1.1.length≤4294960000))) (.ret (.ret ((),((),((d.2.1.1++aF d.1.1 (d.1.2.1+1).toNat,(d.2.1.2.1,())),()))))) .no
def k8:Lp:=bG [(5,aI ch f7)]
def lJ {R:Type}(h4 h5:Int)(h6:LI)(h7:Int)(next:Int→Int→LI→Int→Option R)(out:ao ch.xs→Option R):Option R:=bif decide (0≤h5) then bif decide (0≤i64.wrap (8*h5)) then bif !(0 == 1+29 || false)&&true&&decide (h6.length+[u8.wrap (dw u64 h4 (i64.wrap (8*h5)))].length≤4294967296) then next (h4) (i64.wrap (h5 - 1)) (h6++[u8.wrap (dw u64 h4 (i64.wrap (8*h5)))]) (h7) else none else none else out (.ret ((),((),((h6,(h7,())),()))))
def kt (n:Nat)(h4 h5:Int)(h6:LI)(h7:Int):Option (ao ch.xs):=iI tt tE dr k8 1 Tryz.f87 (cR Tryz.f87 0) n (ch.st.mk' ((h4,(h5,())),((h6,(h7,())),()))) (bS ch.xs)
theorem yr (n:Nat)(h4 h5:Int)(h6:LI)(h7:Int):kt (n+1) h4 h5 h6 h7=lJ h4 h5 h6 h7 (kt n) some:=by kernel_rfl
theorem HP {v:Int}(h0:0≤v)(h1:v≤18446744073709551615){i:Nat}(hi:i≤7):u8.wrap (dw .u64 v (i64.wrap (8*(i:Int))))=(v / 256 ^ i) % 256:=by
 rw[af (n:=8*(i:Int)) (by omega) (by omega)]
 unfold dw
 have e:min (8*(i:Int)).toNat (u64).bits=8*i:=by
  show min (8*(i:Int)).toNat 64=8*i
  omega
 rw[e]
 have e2:(2:Int) ^ (8*i)=256 ^ i:=by rw[Int.pow_mul];rfl
 have hp:(0:Int)<256 ^ i:=Int.pow_pos (by decide)
 rw[e2,Int.fdiv_eq_ediv_of_nonneg _ (Int.le_of_lt hp)]
 have h3:0≤v / 256 ^ i:=Int.ediv_nonneg h0 (Int.le_of_lt hp)
 have h4:v / 256 ^ i≤v:=Int.ediv_le_self _ h0
 rw[bA (k:=.u64) (by simp[bh,IntKind.min,IntKind.max,IntKind.signed,IntKind.bits];omega)]
 simp[IntKind.wrap,IntKind.signed,IntKind.bits]
theorem xA {v:Int}(h0:0≤v)(h1:v≤18446744073709551615)(most:Int):∀(k m:Nat) (b:LI),m<k→m≤8→b.length+m≤4294967296→
  kt k v ((m:Int) - 1) b most=some (.ret ((),((),((b++aF v m,(most,())),())))):=by
 intro k
 induction k with
 |zero=>intro m b h;omega
 |succ k ih=>
  intro m b h2 h3 h4
  rw[yr]
  unfold lJ
  cases m with
  |zero=>simp[aF]
  |succ m=>
   have e:((m+1:Nat):Int) - 1=(m:Int):=by omega
   rw[e,ab (by simp),af (n:=(m:Int) - 1) (by omega) (by omega),HP h0 h1 (by omega),af (n:=8*(m:Int)) (by omega) (by omega),ab (by simp;omega),ab (by simp;omega),ih m _ (by omega) (by omega) (by simp;omega)]
   simp[aF]
def oS (a0 a1:Int)(a2:LI)(a3:Int):Option cT.Res:=bif decide (i64.wrap (a3 - (↑a2.length:Int))<a1) then oR ((10,()),(a2,a3,()),()) else (f7 ((a0,(i64.wrap (a1 - 1),())),((a2,(a3,())),()))).run fun y=>match y with | .ret ((),((),(x14,x15,()),()))=>(oR ((0,()),(x14,x15,()),()))
theorem AC (a0 a1:Int)(a2:LI)(a3:Int):Io.run tt tE dr k8 cT Tryz.f87 (((),a0,a1,()),(a2,a3,()),())=oS a0 a1 a2 a3:=by kernel_rfl
theorem oZ:HcsOk prog tl:=.cons CW .nil
theorem lf:HcOk prog 87 (ah cT iE):=by
 refine bL oZ (lp:=k8) (fn:=Tryz.f87) cT (.step (h0:=aI ch f7) (by kernel_rfl) (jy oZ (lp:=k8) (fn:=Tryz.f87) (.done (by kernel_rfl)) ch f7 ?_) (.done (by kernel_rfl))) iE ?_
 ·rintro ⟨⟨(v:Int),(i:Int),⟨⟩⟩,⟨⟨(b:LI),(m:Int),⟨⟩⟩,⟨⟩⟩⟩ y hw hy
  obtain ⟨hg,hy⟩:=Tr.guard hy
  simp only[zA,zB] at hg
  have hv:bh .u64 v:=hw.1.1
  simp[bh,IntKind.min,IntKind.max,IntKind.signed,IntKind.bits] at hv
  have g1:(-1:Int)≤i:=hg.1
  have g2:i≤(7:Int):=hg.2.1
  have g3:b.length≤4294960000:=hg.2.2
  obtain ⟨n,hn⟩:∃n:Nat,i=(n:Int) - 1:=⟨(i+1).toNat,by omega⟩
  subst hn
  refine ⟨10,(xA hv.1 (by omega) m 10 n b (by omega) (by omega) (by omega)).trans ?_⟩
  rw[← hy,show ((n:Int) - 1+1).toNat=n by omega];rfl
 ·rintro ⟨⟨⟨⟩,(v:Int),(n:Int),⟨⟩⟩,⟨⟨(b:LI),(m:Int),⟨⟩⟩,⟨⟩⟩⟩ out hw ho
  obtain ⟨hg,ho⟩:=Tr.guard ho
  simp only[cE,zA,zB] at hg
  obtain ⟨⟨h1,h2,h3⟩,h4,h5⟩:=hg
  have h4:(0:Int)≤n:=h4
  have h5:n≤(8:Int):=h5
  cases ho
  refine (AC v n b m).trans ?_
  unfold oS f7
  simp only
  rw[af (n:=m - (b.length:Int)) (by omega) (by omega),af (n:=n - 1) (by omega) (by omega),show n - 1+1=n by omega]
  unfold bZ
  by_cases hl:m - (b.length:Int)<n
  ·rw[ab (by simpa using hl),if_pos (by omega)]
  ·rw[ac (by simpa using hl),if_neg (by omega)]
   have:(decide (-1≤n - 1)&&(decide (n - 1≤7)&&decide (b.length≤4294960000)))=true:=by simp;omega
   rw[this]
   rfl
theorem ny (v:Int){n:Nat}(h:n≤8):aF (u64.wrap v) n=aF v n:=by
 have e:u64.wrap v=v % 18446744073709551616:=by simp[IntKind.wrap,IntKind.signed,IntKind.bits]
 rw[e]
 have key:∀k:Nat,k<8→(v % 18446744073709551616 / 256 ^ k) % 256=(v / 256 ^ k) % 256:=by
  intro k hk
  match k,hk with
  |0,_=>omega
  |1,_=>omega
  |2,_=>omega
  |3,_=>omega
  |4,_=>omega
  |5,_=>omega
  |6,_=>omega
  |7,_=>omega
 induction n with
 |zero=>rfl
 |succ n ih=>rw[aF,aF,key n (by omega),ih (by omega)]
abbrev me:Io:=⟨[.ptr 0 0,Mw],[Je],[],[dI],none⟩
def Bc (d:me.In):Tr me.Res:=
 .ite (cE d.2.1.1 d.2.1.2.1) (.ret (.ret (((bZ d.2.1.1 d.2.1.2.1 d.1.2.1 2).1,()),(((bZ d.2.1.1 d.2.1.2.1 d.1.2.1 2).2,(d.2.1.2.1,())),())))) .no
abbrev Fm:List (Nat×Hc):=[(87,ah cT iE)]
def KV:Hd:=bt Fm
def Gv:Lp:=bG []
def wt (a0:Int)(a1:LI)(a2:Int):Option me.Res:=bif cE a1 a2&&(decide (0≤2)&&decide (2≤8)) then oR (((bZ a1 a2 (u64.wrap a0) (Int.toNat 2)).1,()),((bZ a1 a2 (u64.wrap a0) (Int.toNat 2)).2,a2,()),()) else none
theorem J0 (a0:Int)(a1:LI)(a2:Int):Io.run tt KV dr Gv me Tryz.f51 (((),a0,()),(a1,a2,()),())=wt a0 a1 a2:=by kernel_rfl
theorem Lq:HcOk prog 51 (ah me Bc):=by
 refine bL (cs:=Fm) (.cons lf .nil) (lp:=Gv) (fn:=Tryz.f51) me (.done (by kernel_rfl)) Bc ?_
 rintro ⟨⟨⟨⟩,(v:Int),⟨⟩⟩,⟨⟨(b:LI),(m:Int),⟨⟩⟩,⟨⟩⟩⟩ out hw ho
 obtain ⟨hg,ho⟩:=Tr.guard ho
 have hg:cE b m=true:=hg
 cases ho
 refine (J0 v b m).trans ?_
 unfold wt
 have e:bZ b m (u64.wrap v) 2=bZ b m v 2:=by unfold bZ;rw[ny v (by decide)]
 simp[hg,e]
abbrev mf:Io:=⟨[.ptr 0 0,Ix],[Je],[],[dI],none⟩
def Bd (d:mf.In):Tr mf.Res:=
 .ite (cE d.2.1.1 d.2.1.2.1) (.ret (.ret (((bZ d.2.1.1 d.2.1.2.1 d.1.2.1 4).1,()),(((bZ d.2.1.1 d.2.1.2.1 d.1.2.1 4).2,(d.2.1.2.1,())),())))) .no
abbrev Fo:List (Nat×Hc):=[(87,ah cT iE)]
def KW:Hd:=bt Fo
def Gw:Lp:=bG []
def wu (a0:Int)(a1:LI)(a2:Int):Option mf.Res:=bif cE a1 a2&&(decide (0≤4)&&decide (4≤8)) then oR (((bZ a1 a2 (u64.wrap a0) (Int.toNat 4)).1,()),((bZ a1 a2 (u64.wrap a0) (Int.toNat 4)).2,a2,()),()) else none
theorem J1 (a0:Int)(a1:LI)(a2:Int):Io.run tt KW dr Gw mf Tryz.f49 (((),a0,()),(a1,a2,()),())=wu a0 a1 a2:=by kernel_rfl
theorem Lr:HcOk prog 49 (ah mf Bd):=by
 refine bL (cs:=Fo) (.cons lf .nil) (lp:=Gw) (fn:=Tryz.f49) mf (.done (by kernel_rfl)) Bd ?_
 rintro ⟨⟨⟨⟩,(v:Int),⟨⟩⟩,⟨⟨(b:LI),(m:Int),⟨⟩⟩,⟨⟩⟩⟩ out hw ho
 obtain ⟨hg,ho⟩:=Tr.guard ho
 have hg:cE b m=true:=hg
 cases ho
 refine (J1 v b m).trans ?_
 unfold wu
 have e:bZ b m (u64.wrap v) 4=bZ b m v 4:=by unfold bZ;rw[ny v (by decide)]
 simp[hg,e]
abbrev mg:Io:=⟨[.ptr 0 0,.dat (.int .i64) false false],[Je],[],[dI],none⟩
def Be (d:mg.In):Tr mg.Res:=
 .ite (cE d.2.1.1 d.2.1.2.1) (.ret (.ret (((bZ d.2.1.1 d.2.1.2.1 d.1.2.1 8).1,()),(((bZ d.2.1.1 d.2.1.2.1 d.1.2.1 8).2,(d.2.1.2.1,())),())))) .no
abbrev Fp:List (Nat×Hc):=[(87,ah cT iE)]
def KX:Hd:=bt Fp
def Gx:Lp:=bG []
def wv (a0:Int)(a1:LI)(a2:Int):Option mg.Res:=bif cE a1 a2&&(decide (0≤8)&&decide (8≤8)) then oR (((bZ a1 a2 (u64.wrap a0) (Int.toNat 8)).1,()),((bZ a1 a2 (u64.wrap a0) (Int.toNat 8)).2,a2,()),()) else none
theorem J2 (a0:Int)(a1:LI)(a2:Int):Io.run tt KX dr Gx mg Tryz.f48 (((),a0,()),(a1,a2,()),())=wv a0 a1 a2:=by kernel_rfl
theorem Lt:HcOk prog 48 (ah mg Be):=by
 refine bL (cs:=Fp) (.cons lf .nil) (lp:=Gx) (fn:=Tryz.f48) mg (.done (by kernel_rfl)) Be ?_
 rintro ⟨⟨⟨⟩,(v:Int),⟨⟩⟩,⟨⟨(b:LI),(m:Int),⟨⟩⟩,⟨⟩⟩⟩ out hw ho
 obtain ⟨hg,ho⟩:=Tr.guard ho
 have hg:cE b m=true:=hg
 cases ho
 refine (J2 v b m).trans ?_
 unfold wv
 have e:bZ b m (u64.wrap v) 8=bZ b m v 8:=by unfold bZ;rw[ny v (by decide)]
 simp[hg,e]
abbrev mh:Io:=⟨[dI],[],[Je],[.ptr 0 0],none⟩
def Kp (d:mh.In):Tr mh.Res:=.ret (.ret (((),()),((([]:LI),(lC (cX d.1.1 0) 1048576,())),())))
abbrev Fq:List (Nat×Hc):=[]
def KY:Hd:=bt Fq
def Gy:Lp:=bG []
def E1 (a0:Int):Option mh.Res:=oR (((),()),([],lC (cX a0 0) 1048576,()),())
theorem J3 (a0:Int):Io.run tt KY dr Gy mh Tryz.f47 ((a0,()),())=E1 a0:=by kernel_rfl
theorem Lu:HcOk prog 47 (ah mh Kp):=by
 refine bL (cs:=Fq) HcsOk.nil (lp:=Gy) (fn:=Tryz.f47) mh (.done (by kernel_rfl)) Kp ?_
 rintro ⟨⟨(m:Int),⟨⟩⟩,⟨⟩⟩ out hw ho
 rw[← ho]
 exact J3 m
abbrev gr:Io:=⟨[.ptr 0 0],[Je],[],[dO],none⟩
def uz (d:gr.In):Tr gr.Res:=.ite (decide (d.2.1.1.length≤4294967296)) (.ret (.ret ((d.2.1.1,()),((d.2.1.1,(d.2.1.2.1,())),())))) .no
abbrev wQ:List (Nat×Hc):=[(90,ah dz mH)]
def F2:Hd:=bt wQ
def xR:Lp:=bG []
def zn (a0:LI)(a1:Int):Option gr.Res:=bif decide (a0.length≤4294967296) then oR ((a0,()),(a0,a1,()),()) else none
theorem Eb (a0:LI)(a1:Int):Io.run tt F2 dr xR gr Tryz.f55 (((),()),(a0,a1,()),())=zn a0 a1:=by kernel_rfl
theorem GZ:HcOk prog 55 (ah gr uz):=by
 refine bL (cs:=wQ) (.cons rg .nil) (lp:=xR) (fn:=Tryz.f55) gr (.done (by kernel_rfl)) uz ?_
 rintro ⟨⟨⟨⟩,⟨⟩⟩,⟨⟨(b:LI),(m:Int),⟨⟩⟩,⟨⟩⟩⟩ out hw ho
 obtain ⟨hg,ho⟩:=Tr.guard ho
 cases ho
 exact (Eb b m).trans (ab hg _ _)
def aX:List (LI)→Nat
 |[]=>0
 |p::ps=>p.length+aX ps
def fg:List (LI)→LI
 |[]=>[]
 |p::ps=>p++fg ps
def rJ (b:LI)(most:Int)(ps:List (LI)):Int×LI:=if most - b.length<aX ps then (10,b) else (0,b++fg ps)
abbrev mi:Io:=⟨[.ptr 0 0,.dat (.sl 22 bs) false false],[Je],[],[dI],none⟩
def Bf (d:mi.In):Tr mi.Res:=
 .ite (cE d.2.1.1 d.2.1.2.1&&decide (aX d.1.2.1≤4294960000)) (.ret (.ret (((rJ d.2.1.1 d.2.1.2.1 d.1.2.1).1,()),(((rJ d.2.1.1 d.2.1.2.1 d.1.2.1).2,(d.2.1.2.1,())),())))) .no
abbrev Fs:List (Nat×Hc):=[(88,ah gY uA)]
def zP:Hd:=bt Fs
abbrev eB:Lo:=⟨⟨(.one (.ptr 0 0)::.one (.hol (.sl 22 (Ty.sl 5 (Ty.int u8))))::.any::bz (.one hI::cj (.one (.hol (.sl 22 (Ty.sl 5 (Ty.int u8))))::.one hI::.one hI::al (dC (cj []))))),[some [.onl 5 (Ty.int u8) 2,hI]]⟩,[(.exit 0,⟨(.one (.ptr 0 0)::.one (.hol (.sl 22 (Ty.sl 5 (Ty.int u8))))::.any::bz (.one hI::.any::al (al (bz [])))),[some [.onl 5 (Ty.int u8) 2,hI]]⟩)]⟩
abbrev dl:Lo:=⟨⟨(.one (.ptr 0 0)::al (dC (.one (.hol (.sl 22 (Ty.sl 5 (Ty.int u8))))::.one hI::.one hI::.any::dC (cj [])))),[some [.onl 5 (Ty.int u8) 2,hI]]⟩,[(.exit 2,⟨(.any::al (al (dC []))),[some [.onl 5 (Ty.int u8) 2,hI]]⟩)]⟩
def mM (d:eB.st.den):Tr (ao eB.xs):=
 .ite (decide (d.1.2.1=0)&&(decide (d.1.2.2.2.2.1=0)&&(decide (d.1.2.2.2.1=(d.1.2.2.1.length:Int))&&decide (aX d.1.2.2.1≤4294960000)))) (.ret (.ret ((),((d.1.1,((aX d.1.2.2.1:Int),())),(d.2.1,()))))) .no
def j6 (d:dl.st.den):Tr (ao dl.xs):=
 .ite (decide (d.1.2.2.1=0)&&(decide (d.1.2.1=(d.1.1.length:Int))&&decide (d.2.1.1.length+aX d.1.1≤4294967296))) (.ret (.ret ((),((),((d.2.1.1++fg d.1.1,(d.2.1.2.1,())),()))))) .no
def ot:Lp:=bG [(4,aI eB mM),(11,aI dl j6)]
def rU {R:Type}(h3:List bs.den)(h4:Int)(h5:List bs.den)(h6 h7:Int)(h8:LI)(h9:Int)(next:List bs.den→Int→List bs.den→Int→Int→LI→Int→Option R)(out:ao eB.xs→Option R):Option R:=bif decide (h7<h6) then bif decide (0≤h7)&&decide (h7<(↑h5.length:Int)) then next (h3) (i64.wrap (h4+(↑(List.length (h5.getD h7.toNat [])):Int))) (h5) (h6) (i64.wrap (h7+1)) (h8) (h9) else none else out (.ret ((),((h3,(h4,())),((h8,(h9,())),()))))
def q6 (n:Nat)(h3:List bs.den)(h4:Int)(h5:List bs.den)(h6 h7:Int)(h8:LI)(h9:Int):Option (ao eB.xs):=iI tt zP dr ot 1 Tryz.f52 (cR Tryz.f52 0) n (eB.st.mk' ((h3,(h4,(h5,(h6,(h7,()))))),((h8,(h9,())),()))) (bS eB.xs)
theorem HW (n:Nat)(h3:List bs.den)(h4:Int)(h5:List bs.den)(h6 h7:Int)(h8:LI)(h9:Int):q6 (n+1) h3 h4 h5 h6 h7 h8 h9=rU h3 h4 h5 h6 h7 h8 h9 (q6 n) some:=by kernel_rfl
def pm {R:Type}(h25:List (Ty.sl 5 (Ty.int u8)).den)(h26 h27:Int)(h28:LI)(h29:Int)(next:List (Ty.sl 5 (Ty.int u8)).den→Int→Int→LI→Int→Option R)(out:ao dl.xs→Option R):Option R:=bif decide (h27<h26) then bif decide (0≤h27)&&decide (h27<(↑h25.length:Int)) then bif decide (h28.length+List.length (h25.getD h27.toNat [])≤4294967296) then next (h25) (h26) (i64.wrap (h27+1)) (h28++h25.getD h27.toNat []) (h29) else none else none else out (.ret ((),((),((h28,(h29,())),()))))
def om (n:Nat)(h25:List (Ty.sl 5 (Ty.int u8)).den)(h26 h27:Int)(h28:LI)(h29:Int):Option (ao dl.xs):=iI tt zP dr ot 1 Tryz.f52 (cR Tryz.f52 1) n (dl.st.mk' ((h25,(h26,(h27,()))),((h28,(h29,())),()))) (bS dl.xs)
theorem Ep (n:Nat)(h25:List (Ty.sl 5 (Ty.int u8)).den)(h26 h27:Int)(h28:LI)(h29:Int):om (n+1) h25 h26 h27 h28 h29=pm h25 h26 h27 h28 h29 (om n) some:=by kernel_rfl
theorem lD {ps:List (LI)}{i:Nat}(h:i<ps.length):aX (ps.drop i)=ps[i].length+aX (ps.drop (i+1)):=by rw[zE h];rfl
theorem yz {ps:List (LI)}{i:Nat}(h:i<ps.length):fg (ps.drop i)=ps[i]++fg (ps.drop (i+1)):=by rw[zE h];rfl
theorem Af (ps0 ps:List (LI))(b:LI)(m:Int)(hl:ps.length≤maxLen):∀(k i s:Nat),ps.length<i+k→i≤ps.length→s+aX (ps.drop i)≤4294960000→
  q6 k ps0 s ps (ps.length:Int) i b m=some (.ret ((),((ps0,(((s+aX (ps.drop i):Nat):Int),())),((b,(m,())),())))):=by
 intro k
 induction k with
 |zero=>intro i s h;omega
 |succ k ih=>
  intro i s h1 h2 h3
  rw[HW]
  unfold rU
  by_cases hi:i<ps.length
  ·rw[lD hi] at h3 ⊢
   have e:List.getD ps (i:Int).toNat []=ps[i]:=by simp only[zG,aE hi]
   rw[ab (by simpa using hi),ab (by simpa using hi),e,bm hi hl,af (n:=(s:Int)+(List.length (α:=Int) ps[i]:Int)) (by omega) (by omega)]
   have e2:(s:Int)+(List.length (α:=Int) ps[i]:Int)=((s+ps[i].length:Nat):Int):=by omega
   rw[e2,ih (i+1) (s+ps[i].length) (by omega) (by omega) (by omega),Nat.add_assoc]
  ·rw[ac (by simp;omega),zI (by omega)]
   rfl
theorem xz (ps:List (LI))(m:Int)(hl:ps.length≤maxLen):∀(k i:Nat) (b:LI),ps.length<i+k→i≤ps.length→b.length+aX (ps.drop i)≤4294967296→
  om k ps (ps.length:Int) i b m=some (.ret ((),((),((b++fg (ps.drop i),(m,())),())))):=by
 intro k
 induction k with
 |zero=>intro i b h;omega
 |succ k ih=>
  intro i b h1 h2 h3
  rw[Ep]
  unfold pm
  by_cases hi:i<ps.length
  ·rw[lD hi] at h3
   rw[yz hi]
   have e:List.getD ps (i:Int).toNat []=ps[i]:=by simp only[zG,aE hi]
   rw[ab (by simpa using hi),ab (by simpa using hi),e,bm hi hl,ab (by simp;omega),ih (i+1) _ (by omega) (by omega) (by simp;omega),zK]
  ·rw[ac (by simp;omega),zI (by omega)]
   simp[fg]
def ww (a0:List bs.den)(a1:LI)(a2:Int):Option mi.Res:=(mM ((a0,(0,(a0,((↑a0.length:Int),(0,()))))),((a1,(a2,())),()))).run fun y=>match y with | .ret ((),((x21,x22,()),(x23,x24,()),()))=>(bif decide (i64.wrap (x24 - (↑x23.length:Int))<x22) then oR ((10,()),(x23,x24,()),()) else (j6 ((x21,((↑x21.length:Int),(0,()))),((x23,(x24,())),()))).run fun y=>match y with | .ret ((),((),(x37,x38,()),()))=>(oR ((0,()),(x37,x38,()),())))
theorem J4 (a0:List bs.den)(a1:LI)(a2:Int):Io.run tt zP dr ot mi Tryz.f52 (((),a0,()),(a1,a2,()),())=ww a0 a1 a2:=by kernel_rfl
theorem qU:HcsOk prog Fs:=.cons CW .nil
theorem Lv:HcOk prog 52 (ah mi Bf):=by
 refine bL qU (lp:=ot) (fn:=Tryz.f52) mi (.step (h0:=aI eB mM) (by kernel_rfl) (jy qU (lp:=ot) (fn:=Tryz.f52) (.done (by kernel_rfl)) eB mM ?_) (.step (h0:=aI dl j6) (by kernel_rfl) (jy qU (lp:=ot) (fn:=Tryz.f52) (.done (by kernel_rfl)) dl j6 ?_) (.done (by kernel_rfl)))) Bf ?_
 ·rintro ⟨⟨ps0,s,ps,n,i,⟨⟩⟩,⟨⟨b,m,⟨⟩⟩,⟨⟩⟩⟩ y hw hy
  obtain ⟨hg,hy⟩:=Tr.guard hy
  simp only[zA,zB] at hg
  obtain ⟨rfl,rfl,rfl,h4⟩:=hg
  refine ⟨ps.length+1,(Af ps0 ps b m hw.1.2.2.1.1 _ 0 0 (by omega) (by omega) (by simpa using h4)).trans ?_⟩
  rw[← hy,Nat.zero_add];rfl
 ·rintro ⟨⟨ps,n,i,⟨⟩⟩,⟨⟨b,m,⟨⟩⟩,⟨⟩⟩⟩ y hw hy
  obtain ⟨hg,hy⟩:=Tr.guard hy
  simp only[zA,zB] at hg
  obtain ⟨rfl,rfl,h4⟩:=hg
  refine ⟨ps.length+1,(xz ps m hw.1.1.1 _ 0 b (by omega) (by omega) (by simpa using h4)).trans ?_⟩
  rw[← hy];rfl
 ·rintro ⟨⟨⟨⟩,(ps:List (LI)),⟨⟩⟩,⟨⟨(b:LI),(m:Int),⟨⟩⟩,⟨⟩⟩⟩ out hw ho
  obtain ⟨hg,ho⟩:=Tr.guard ho
  simp only[cE,zA,zB] at hg
  obtain ⟨⟨h1,h2,h3⟩,h4⟩:=hg
  have h4:aX ps≤4294960000:=h4
  cases ho
  refine (J4 ps b m).trans ?_
  unfold ww
  have c1:(decide ((0:Int)=0)&&(decide ((0:Int)=0)&&(decide ((ps.length:Int)=(ps.length:Int))&&decide (aX ps≤4294960000))))=true:=by simp;omega
  have e1:mM ((ps,(0,(ps,((ps.length:Int),(0,()))))),((b,(m,())),()))=.ite true (.ret (.ret ((),((ps,((aX ps:Int),())),((b,(m,())),()))))) .no:=congrArg (fun c=>Tr.ite c _ _) c1
  rw[e1]
  simp only[Tr.run,cond_true]
  rw[af (n:=m - (b.length:Int)) (by omega) (by omega)]
  unfold rJ
  by_cases hl:m - (b.length:Int)<(aX ps:Int)
  ·rw[ab (by simpa using hl),if_pos hl]
  ·rw[ac (by simpa using hl),if_neg hl]
   have c2:(decide ((0:Int)=0)&&(decide ((ps.length:Int)=(ps.length:Int))&&decide (b.length+aX ps≤4294967296)))=true:=by simp;omega
   have e2:j6 ((ps,((ps.length:Int),(0,()))),((b,(m,())),()))=.ite true (.ret (.ret ((),((),((b++fg ps,(m,())),()))))) .no:=congrArg (fun c=>Tr.ite c _ _) c2
   rw[e2]
   rfl
abbrev Kx:List Sh:=[dL,dI]
abbrev lm:Sh:=.dat (.int .i64) false false
def bu (l:LI):Int:=l.foldl (fun v c=>v*256+c) 0
def br (b:LI)(p:Int)(n:Nat):Int×(Int×Int):=if (b.length:Int) - p<n then (0,(p,1)) else (bu ((b.drop p.toNat).take n),(p+n,0))
def cr (b:LI)(p:Int):Bool:=decide (b.length≤4294960000)&&(decide (0≤p)&&decide (p≤(b.length:Int)))
def mz (b:LI)(p n:Int):Int×Int:=if n<0 then (p,3) else if (b.length:Int) - p<n then (p,1) else (p+n,0)
abbrev fv:Io:=⟨[.ptr 0 0],[Kx],[],[dI],none⟩
def pG (d:fv.In):Tr fv.Res:=.ret (.ret ((i64.wrap ((d.2.1.1.length:Int) - d.2.1.2.1),()),((d.2.1.1,(d.2.1.2.1,())),())))
abbrev wN:List (Nat×Hc):=[]
def FY:Hd:=bt wN
def xP:Lp:=bG []
def zm (a0:LI)(a1:Int):Option fv.Res:=oR ((i64.wrap ((↑a0.length:Int) - a1),()),(a0,a1,()),())
theorem D7 (a0:LI)(a1:Int):Io.run tt FY dr xP fv Tryz.f98 (((),()),(a0,a1,()),())=zm a0 a1:=by kernel_rfl
theorem x4:HcOk prog 98 (ah fv pG):=by
 refine bL (cs:=wN) HcsOk.nil (lp:=xP) (fn:=Tryz.f98) fv (.done (by kernel_rfl)) pG ?_
 rintro ⟨⟨⟨⟩,⟨⟩⟩,⟨⟨(b:LI),(p:Int),⟨⟩⟩,⟨⟩⟩⟩ out hw ho
 rw[← ho]
 exact D7 b p
abbrev cp:Io:=⟨[.ptr 0 0,dI],[Kx],[],[L5,dI],none⟩
def fR (d:cp.In):Tr cp.Res:=
 .ite (cr d.2.1.1 d.2.1.2.1&&(decide ((0:Int)≤d.1.2.1)&&decide (d.1.2.1≤(8:Int)))) (.ret (.ret (((br d.2.1.1 d.2.1.2.1 d.1.2.1.toNat).1,((br d.2.1.1 d.2.1.2.1 d.1.2.1.toNat).2.2,())),((d.2.1.1,((br d.2.1.1 d.2.1.2.1 d.1.2.1.toNat).2.1,())),())))) .no
abbrev qM:List (Nat×Hc):=[(98,ah fv pG)]
def qV:Hd:=bt qM
abbrev bN:Lo:=⟨⟨(.one (.ptr 0 0)::.one hI::cj (.one (.hol (.int u64))::al (cj (.one (.hol (.sl 5 (Ty.int u8)))::.one hI::.one hI::al (bz []))))),[some [.hol (.sl 5 (Ty.int u8)),hI]]⟩,[(.exit 0,⟨(.one (.ptr 0 0)::.one hI::cj (.one (.hol (.int u64))::.any::al (al (dC [])))),[some [.hol (.sl 5 (Ty.int u8)),hI]]⟩)]⟩
def fm (d:bN.st.den):Tr (ao bN.xs):=
 .ite (decide (d.1.2.1=0)&&(decide (d.1.2.2.2.2.1=0)&&(decide (d.1.2.2.2.1=(d.1.2.2.1.length:Int))&&decide (d.1.2.2.1.length≤8)))) (.ret (.ret ((),((d.1.1,(bu d.1.2.2.1,())),(d.2.1,()))))) .no
def jz:Lp:=bG [(6,aI bN fm)]
def kL {R:Type}(h3 h4:Int)(h5:LI)(h6 h7:Int)(h8:LI)(h9:Int)(next:Int→Int→LI→Int→Int→LI→Int→Option R)(out:ao bN.xs→Option R):Option R:=bif decide (h7<h6) then bif decide (0≤h7)&&decide (h7<(↑h5.length:Int)) then next (h3) (iO u64 (dW u64 h4 8) (u64.wrap (h5.getD h7.toNat 0))) (h5) (h6) (i64.wrap (h7+1)) (h8) (h9) else none else out (.ret ((),((h3,(h4,())),((h8,(h9,())),()))))
def jw (n:Nat)(h3 h4:Int)(h5:LI)(h6 h7:Int)(h8:LI)(h9:Int):Option (ao bN.xs):=iI tt qV dr jz 1 Tryz.f93 (cR Tryz.f93 0) n (bN.st.mk' ((h3,(h4,(h5,(h6,(h7,()))))),((h8,(h9,())),()))) (bS bN.xs)
theorem vL (n:Nat)(h3 h4:Int)(h5:LI)(h6 h7:Int)(h8:LI)(h9:Int):jw (n+1) h3 h4 h5 h6 h7 h8 h9=kL h3 h4 h5 h6 h7 h8 h9 (jw n) some:=by kernel_rfl
theorem JE {v c:Int}(h0:0≤v)(h1:v<72057594037927936)(h2:0≤c)(h3:c≤255):iO .u64 (dW .u64 v 8) (u64.wrap c)=v*256+c:=by
 have e1:dW .u64 v 8=v*256:=by
  show IntKind.wrap .u64 (v*2 ^ 8)=_
  rw[show v*2 ^ 8=v*256 by omega]
  exact bA (k:=.u64) (by simp[bh,IntKind.min,IntKind.max,IntKind.signed,IntKind.bits];omega)
 have e0:u64.wrap c=c:=bA (k:=.u64) (by simp[bh,IntKind.min,IntKind.max,IntKind.signed,IntKind.bits];omega)
 rw[e1,e0]
 obtain ⟨v,rfl⟩:=au h0
 obtain ⟨c,rfl⟩:=au h2
 have e4:=Nat.two_pow_add_eq_or_of_lt (show c<2 ^ 8 by omega) v
 show IntKind.wrap .u64 ((BitVec.ofInt 64 ((v:Int)*256) ||| BitVec.ofInt 64 (c:Int)).toNat:Int)=_
 have e2:(BitVec.ofInt 64 (c:Int)).toNat=c:=by rw[BitVec.toNat_ofInt];omega
 have e3:(BitVec.ofInt 64 ((v:Int)*256)).toNat=2 ^ 8*v:=by rw[BitVec.toNat_ofInt];omega
 rw[BitVec.toNat_or,e2,e3,← e4]
 refine (bA (k:=.u64) ?_).trans ?_
 ·simp[bh,IntKind.min,IntKind.max,IntKind.signed,IntKind.bits];omega
 ·omega
theorem vN (l:LI)(c:Int):bu (l++[c])=bu l*256+c:=by simp[bu]
theorem qR:∀(l:LI) (v:Int),(∀c∈l,0≤c∧c≤255)→0≤v→0≤l.foldl (fun v c=>v*256+c) v∧l.foldl (fun v c=>v*256+c) v<(v+1)*256 ^ l.length
 |[],v,_,h0=>⟨h0,by simp;omega⟩
 |c::l,v,h,h0=>by
  obtain ⟨h3,h4⟩:=h c (by simp)
  obtain ⟨h1,h2⟩:=qR l (v*256+c) (fun d hd=>h d (by simp[hd])) (by omega)
  refine ⟨h1,Int.lt_of_lt_of_le h2 ?_⟩
  rw[zN,Int.pow_succ,Int.mul_comm (256 ^ l.length) 256,← Int.mul_assoc]
  exact Int.mul_le_mul_of_nonneg_right (by omega) (Int.le_of_lt (Int.pow_pos (by decide)))
theorem yv (l:LI)(h:∀c∈l,0≤c∧c≤255):0≤bu l∧bu l<256 ^ l.length:=by
 have:=qR l 0 h (Int.le_refl _)
 simpa [bu] using this
theorem vh (n:Int)(l b:LI)(p:Int)(hl:l.length≤8)(hr:∀c∈l,0≤c∧c≤255):∀(k i:Nat),l.length<i+k→i≤l.length→
  jw k n (bu (l.take i)) l (l.length:Int) i b p=some (.ret ((),((n,(bu l,())),((b,(p,())),())))):=by
 intro k
 induction k with
 |zero=>intro i h;omega
 |succ k ih=>
  intro i h1 h2
  rw[vL]
  unfold kL
  by_cases hi:i<l.length
  ·have hc:=hr l[i] (List.getElem_mem hi)
   have hb:=yv (l.take i) fun c hc=>hr c (List.mem_of_mem_take hc)
   have hlt:(256:Int) ^ (l.take i).length≤72057594037927936:=by
    rw[List.length_take,show min i l.length=i by omega]
    have hi7:i≤7:=by omega
    match i,hi7 with
    |0,_=>decide
    |1,_=>decide
    |2,_=>decide
    |3,_=>decide
    |4,_=>decide
    |5,_=>decide
    |6,_=>decide
    |7,_=>decide
   have e1:List.getD l (i:Int).toNat 0=l[i]:=by simp only[zG,aE hi]
   rw[ab (by simpa using hi),ab (by simpa using hi),e1,JE hb.1 (by omega) hc.1 hc.2,← vN,← List.take_succ_eq_append_getElem hi,bm hi (by rw[aR];omega),ih (i+1) (by omega) (by omega)]
  ·rw[ac (by simp;omega),List.take_of_length_le (by omega)]
def mT (a0:Int)(a1:LI)(a2:Int):Option cp.Res:=bif decide (i64.wrap ((↑a1.length:Int) - a2)<a0) then oR ((0,1,()),(a1,a2,()),()) else bif decide (0≤a2)&&(decide (a2≤i64.wrap (a2+a0))&&decide (i64.wrap (a2+a0)≤(↑a1.length:Int))) then (fm ((a0,(0,(List.drop a2.toNat (List.take (i64.wrap (a2+a0)).toNat a1),((↑(List.drop a2.toNat (List.take (i64.wrap (a2+a0)).toNat a1)).length:Int),(0,()))))),((a1,(a2,())),()))).run fun y=>match y with | .ret ((),((x21,x22,()),(x23,x24,()),()))=>(oR ((x22,0,()),(x23,i64.wrap (x24+x21),()),())) else none
theorem yi (a0:Int)(a1:LI)(a2:Int):Io.run tt qV dr jz cp Tryz.f93 (((),a0,()),(a1,a2,()),())=mT a0 a1 a2:=by kernel_rfl
theorem cZ {b:LI}(h:Ty.wf bs b):∀c∈b,0≤c∧c≤255:=fun c hc=>by
 have:=h.2 c hc
 simpa [Ty.wf,bh,IntKind.min,IntKind.max,IntKind.signed,IntKind.bits] using this
theorem na:HcsOk prog qM:=.cons x4 .nil
theorem jC:HcOk prog 93 (ah cp fR):=by
 refine bL na (lp:=jz) (fn:=Tryz.f93) cp (.step (h0:=aI bN fm) (by kernel_rfl) (jy na (lp:=jz) (fn:=Tryz.f93) (.done (by kernel_rfl)) bN fm ?_) (.done (by kernel_rfl))) fR ?_
 ·rintro ⟨⟨(n:Int),(v:Int),(l:LI),(m:Int),(i:Int),⟨⟩⟩,⟨⟨(b:LI),(p:Int),⟨⟩⟩,⟨⟩⟩⟩ y hw hy
  obtain ⟨hg,hy⟩:=Tr.guard hy
  simp only[zA,zB] at hg
  obtain ⟨rfl,rfl,rfl,h4⟩:=hg
  refine ⟨l.length+1,(vh n l b p h4 (cZ hw.1.2.2.1) _ 0 (by omega) (by omega)).trans ?_⟩
  rw[← hy];rfl
 ·rintro ⟨⟨⟨⟩,(n:Int),⟨⟩⟩,⟨⟨(b:LI),(p:Int),⟨⟩⟩,⟨⟩⟩⟩ out hw ho
  obtain ⟨hg,ho⟩:=Tr.guard ho
  simp only[cr,zA,zB] at hg
  obtain ⟨⟨h1,h2,h3⟩,h4,h5⟩:=hg
  have h1:b.length≤4294960000:=h1
  have h2:(0:Int)≤p:=h2
  have h3:p≤(b.length:Int):=h3
  have h4:(0:Int)≤n:=h4
  have h5:n≤(8:Int):=h5
  cases ho
  refine (yi n b p).trans ?_
  show _=oR (((br b p n.toNat).1,((br b p n.toNat).2.2,())),((b,((br b p n.toNat).2.1,())),()))
  unfold mT
  rw[af (n:=(b.length:Int) - p) (by omega) (by omega),af (n:=p+n) (by omega) (by omega)]
  unfold br
  by_cases hl:(b.length:Int) - p<n
  ·rw[ab (by simpa using hl),if_pos (by omega)]
  ·have e0:List.drop p.toNat (List.take (p+n).toNat b)=(b.drop p.toNat).take n.toNat:=by rw[List.drop_take,show (p+n).toNat - p.toNat=n.toNat by omega]
   rw[ac (by simpa using hl),if_neg (by omega),ab (by simp;omega),e0]
   have hl8:((b.drop p.toNat).take n.toNat).length≤8:=by simp;omega
   have e1:fm ((n,(0,((b.drop p.toNat).take n.toNat,((((b.drop p.toNat).take n.toNat).length:Int),(0,()))))),((b,(p,())),()))=.ite true (.ret (.ret ((),((n,(bu ((b.drop p.toNat).take n.toNat),())),((b,(p,())),()))))) .no:=
    congrArg (fun c=>Tr.ite c _ _) (show (decide ((0:Int)=0)&&(decide ((0:Int)=0)&&(decide ((((b.drop p.toNat).take n.toNat).length:Int)=(((b.drop p.toNat).take n.toNat).length:Int))&&decide (((b.drop p.toNat).take n.toNat).length≤8))))=true by simp;omega)
   rw[e1]
   simp only[Tr.run,cond_true]
   rw[af (n:=p+n) (by omega) (by omega),show ((n.toNat:Nat):Int)=n by omega]
abbrev jj:Io:=⟨[.ptr 0 0],[Kx],[],[Mw,dI],none⟩
def up (d:jj.In):Tr jj.Res:=
 .ite (cr d.2.1.1 d.2.1.2.1) (.ret (.ret ((i16.wrap (br d.2.1.1 d.2.1.2.1 2).1,((br d.2.1.1 d.2.1.2.1 2).2.2,())),((d.2.1.1,((br d.2.1.1 d.2.1.2.1 2).2.1,())),())))) .no
abbrev BC:List (Nat×Hc):=[(93,ah cp fR)]
def IS:Hd:=bt BC
def Cq:Lp:=bG []
def sR (a0:LI)(a1:Int):Option jj.Res:=bif cr a0 a1&&(decide (0≤2)&&decide (2≤8)) then oR ((i16.wrap (br a0 a1 (Int.toNat 2)).1,(br a0 a1 (Int.toNat 2)).2.2,()),(a0,(br a0 a1 (Int.toNat 2)).2.1,()),()) else none
theorem Ht (a0:LI)(a1:Int):Io.run tt IS dr Cq jj Tryz.f68 (((),()),(a0,a1,()),())=sR a0 a1:=by kernel_rfl
theorem Jq:HcOk prog 68 (ah jj up):=by
 refine bL (cs:=BC) (.cons jC .nil) (lp:=Cq) (fn:=Tryz.f68) jj (.done (by kernel_rfl)) up ?_
 rintro ⟨⟨⟨⟩,⟨⟩⟩,⟨⟨(b:LI),(p:Int),⟨⟩⟩,⟨⟩⟩⟩ out hw ho
 obtain ⟨hg,ho⟩:=Tr.guard ho
 have hg:cr b p=true:=hg
 cases ho
 refine (Ht b p).trans ?_
 unfold sR
 rw[ab (by simp[hg])]
 rfl
abbrev gT:Io:=⟨[.ptr 0 0],[Kx],[],[Ix,dI],none⟩
def qj (d:gT.In):Tr gT.Res:=
 .ite (cr d.2.1.1 d.2.1.2.1) (.ret (.ret ((i32.wrap (br d.2.1.1 d.2.1.2.1 4).1,((br d.2.1.1 d.2.1.2.1 4).2.2,())),((d.2.1.1,((br d.2.1.1 d.2.1.2.1 4).2.1,())),())))) .no
abbrev BD:List (Nat×Hc):=[(93,ah cp fR)]
def IT:Hd:=bt BD
def Cr:Lp:=bG []
def sS (a0:LI)(a1:Int):Option gT.Res:=bif cr a0 a1&&(decide (0≤4)&&decide (4≤8)) then oR ((i32.wrap (br a0 a1 (Int.toNat 4)).1,(br a0 a1 (Int.toNat 4)).2.2,()),(a0,(br a0 a1 (Int.toNat 4)).2.1,()),()) else none
theorem Hu (a0:LI)(a1:Int):Io.run tt IT dr Cr gT Tryz.f60 (((),()),(a0,a1,()),())=sS a0 a1:=by kernel_rfl
theorem CR:HcOk prog 60 (ah gT qj):=by
 refine bL (cs:=BD) (.cons jC .nil) (lp:=Cr) (fn:=Tryz.f60) gT (.done (by kernel_rfl)) qj ?_
 rintro ⟨⟨⟨⟩,⟨⟩⟩,⟨⟨(b:LI),(p:Int),⟨⟩⟩,⟨⟩⟩⟩ out hw ho
 obtain ⟨hg,ho⟩:=Tr.guard ho
 have hg:cr b p=true:=hg
 cases ho
 refine (Hu b p).trans ?_
 unfold sS
 rw[ab (by simp[hg])]
 rfl
abbrev jk:Io:=⟨[.ptr 0 0],[Kx],[],[lm,dI],none⟩
def uq (d:jk.In):Tr jk.Res:=
 .ite (cr d.2.1.1 d.2.1.2.1) (.ret (.ret ((i64.wrap (br d.2.1.1 d.2.1.2.1 8).1,((br d.2.1.1 d.2.1.2.1 8).2.2,())),((d.2.1.1,((br d.2.1.1 d.2.1.2.1 8).2.1,())),())))) .no
abbrev BE:List (Nat×Hc):=[(93,ah cp fR)]
def IU:Hd:=bt BE
def Cs:Lp:=bG []
def sT (a0:LI)(a1:Int):Option jk.Res:=bif cr a0 a1&&(decide (0≤8)&&decide (8≤8)) then oR ((i64.wrap (br a0 a1 (Int.toNat 8)).1,(br a0 a1 (Int.toNat 8)).2.2,()),(a0,(br a0 a1 (Int.toNat 8)).2.1,()),()) else none
theorem Hv (a0:LI)(a1:Int):Io.run tt IU dr Cs jk Tryz.f65 (((),()),(a0,a1,()),())=sT a0 a1:=by kernel_rfl
theorem Jr:HcOk prog 65 (ah jk uq):=by
 refine bL (cs:=BE) (.cons jC .nil) (lp:=Cs) (fn:=Tryz.f65) jk (.done (by kernel_rfl)) uq ?_
 rintro ⟨⟨⟨⟩,⟨⟩⟩,⟨⟨(b:LI),(p:Int),⟨⟩⟩,⟨⟩⟩⟩ out hw ho
 obtain ⟨hg,ho⟩:=Tr.guard ho
 have hg:cr b p=true:=hg
 cases ho
 refine (Hv b p).trans ?_
 unfold sT
 rw[ab (by simp[hg])]
 rfl
abbrev gn:Io:=⟨[.ptr 0 0,dI],[Kx],[],[dI],none⟩
def pH (d:gn.In):Tr gn.Res:=
 .ite (cr d.2.1.1 d.2.1.2.1) (.ret (.ret (((mz d.2.1.1 d.2.1.2.1 d.1.2.1).2,()),((d.2.1.1,((mz d.2.1.1 d.2.1.2.1 d.1.2.1).1,())),())))) .no
abbrev wO:List (Nat×Hc):=[(98,ah fv pG)]
def FZ:Hd:=bt wO
def xQ:Lp:=bG []
def qD (a0:Int)(a1:LI)(a2:Int):Option gn.Res:=bif decide (a0<0) then oR ((3,()),(a1,a2,()),()) else bif decide (i64.wrap ((↑a1.length:Int) - a2)<a0) then oR ((1,()),(a1,a2,()),()) else oR ((0,()),(a1,i64.wrap (a2+a0),()),())
theorem D8 (a0:Int)(a1:LI)(a2:Int):Io.run tt FZ dr xQ gn Tryz.f66 (((),a0,()),(a1,a2,()),())=qD a0 a1 a2:=by kernel_rfl
theorem GW:HcOk prog 66 (ah gn pH):=by
 refine bL (cs:=wO) (.cons x4 .nil) (lp:=xQ) (fn:=Tryz.f66) gn (.done (by kernel_rfl)) pH ?_
 rintro ⟨⟨⟨⟩,(n:Int),⟨⟩⟩,⟨⟨(b:LI),(p:Int),⟨⟩⟩,⟨⟩⟩⟩ out hw ho
 obtain ⟨hg,ho⟩:=Tr.guard ho
 simp only[cr,zA,zB] at hg
 obtain ⟨h1,h2,h3⟩:=hg
 have h1:b.length≤4294960000:=h1
 have h2:(0:Int)≤p:=h2
 have h3:p≤(b.length:Int):=h3
 cases ho
 refine (D8 n b p).trans ?_
 unfold qD mz
 rw[af (n:=(b.length:Int) - p) (by omega) (by omega)]
 by_cases h4:n<0
 ·rw[ab (by simpa using h4),if_pos h4]
 ·rw[ac (by simpa using h4),if_neg h4]
  by_cases h5:(b.length:Int) - p<n
  ·rw[ab (by simpa using h5),if_pos h5]
  ·rw[ac (by simpa using h5),if_neg h5,af (n:=p+n) (by omega) (by omega)]
abbrev gU:Io:=⟨[dL],[],[Kx],[.ptr 0 0],none⟩
def ur (d:gU.In):Tr gU.Res:=.ite (decide (d.1.1.length≤4294967296)) (.ret (.ret (((),()),((d.1.1,(0,())),())))) .no
abbrev BF:List (Nat×Hc):=[(90,ah dz mH)]
def IV:Hd:=bt BF
def Ct:Lp:=bG []
def De (a0:LI):Option gU.Res:=bif decide (a0.length≤4294967296) then oR (((),()),(a0,0,()),()) else none
theorem Hw (a0:LI):Io.run tt IV dr Ct gU Tryz.f59 ((a0,()),())=De a0:=by kernel_rfl
theorem CS:HcOk prog 59 (ah gU ur):=by
 refine bL (cs:=BF) (.cons rg .nil) (lp:=Ct) (fn:=Tryz.f59) gU (.done (by kernel_rfl)) ur ?_
 rintro ⟨⟨(b:LI),⟨⟩⟩,⟨⟩⟩ out hw ho
 obtain ⟨hg,ho⟩:=Tr.guard ho
 cases ho
 exact (Hw b).trans (ab hg _ _)
abbrev eU:Io:=⟨[lm,dI],[],[],[dO],none⟩
def qh (d:eU.In):Tr eU.Res:=.ite (decide ((0:Int)≤d.1.2.1)&&decide (d.1.2.1≤(8:Int))) (.ret (.ret ((aF d.1.1 d.1.2.1.toNat,()),()))) .no
abbrev kR:List (Nat×Hc):=[]
def n5:Hd:=bt kR
abbrev ca:Lo:=⟨⟨(.one hI::.one hI::.any::bz (.one (.onl 5 (Ty.int u8) 11)::.one hI::.any::al (al (cj (bz []))))),[]⟩,[(.exit 0,⟨(.any::.one hI::.any::bz (.one (.onl 5 (Ty.int u8) 11)::al (al (dC [])))),[]⟩)]⟩
abbrev bM:Lo:=⟨⟨(.any::cj (.one (.onl 5 (Ty.int u8) 11)::bz (.one (.onl 5 (Ty.int u8) 17)::.one hI::al (al (cj []))))),[]⟩,[(.exit 2,⟨(dC (.one (.onl 5 (Ty.int u8) 17)::.any::al (al (cj [])))),[]⟩)]⟩
def dR (v:Int):Nat→LI
 |0=>[]
 |n+1=>v % 256::dR (v / 256) n
def fX (d:ca.st.den):Tr (ao ca.xs):=
 .ite (decide (d.1.2.2.1.length=0)&&(decide (d.1.2.2.2.1=0)&&(decide ((0:Int)≤d.1.2.1)&&decide (d.1.2.1≤(8:Int))))) (.ret (.ret ((),((d.1.2.1,(dR d.1.1 d.1.2.1.toNat,())),())))) .no
def dK (d:bM.st.den):Tr (ao bM.xs):=
 .ite (decide (d.1.2.1.length=0)&&(decide (d.1.2.2.1=(d.1.1.length:Int) - 1)&&decide (d.1.1.length≤8))) (.ret (.ret ((),((d.1.1.reverse,()),())))) .no
def fT:Lp:=bG [(4,aI ca fX),(13,aI bM dK)]
def lE {R:Type}(h2 h3:Int)(h4:LI)(h5:Int)(next:Int→Int→LI→Int→Option R)(out:ao ca.xs→Option R):Option R:=bif decide (h5<h3) then bif decide (i64.wrap (h2.tmod 256)<0) then bif decide (h4.length+[u8.wrap (i64.wrap (i64.wrap (h2.tmod 256)+256))].length≤4294967296) then next (i64.wrap ((i64.wrap (h2 - i64.wrap (i64.wrap (h2.tmod 256)+256))).tdiv 256)) (h3) (h4++[u8.wrap (i64.wrap (i64.wrap (h2.tmod 256)+256))]) (i64.wrap (h5+1)) else none else bif decide (h4.length+[u8.wrap (i64.wrap (h2.tmod 256))].length≤4294967296) then next (i64.wrap ((i64.wrap (h2 - i64.wrap (h2.tmod 256))).tdiv 256)) (h3) (h4++[u8.wrap (i64.wrap (h2.tmod 256))]) (i64.wrap (h5+1)) else none else out (.ret ((),((h3,(h4,())),())))
def hM (n:Nat)(h2 h3:Int)(h4:LI)(h5:Int):Option (ao ca.xs):=iI tt n5 dr fT 0 Tryz.f62 (cR Tryz.f62 0) n (ca.st.mk' ((h2,(h3,(h4,(h5,())))),())) (bS ca.xs)
theorem yl (n:Nat)(h2 h3:Int)(h4:LI)(h5:Int):hM (n+1) h2 h3 h4 h5=lE h2 h3 h4 h5 (hM n) some:=by kernel_rfl
def gF {R:Type}(h18 h19:LI)(h20:Int)(next:LI→LI→Int→Option R)(out:ao bM.xs→Option R):Option R:=bif decide (0≤h20) then bif decide (0≤h20)&&decide (h20<(↑h18.length:Int)) then bif decide (h19.length+[h18.getD h20.toNat 0].length≤4294967296) then next (h18) (h19++[h18.getD h20.toNat 0]) (i64.wrap (h20 - 1)) else none else none else out (.ret ((),((h19,()),())))
def jv (n:Nat)(h18 h19:LI)(h20:Int):Option (ao bM.xs):=iI tt n5 dr fT 0 Tryz.f62 (cR Tryz.f62 1) n (bM.st.mk' ((h18,(h19,(h20,()))),())) (bS bM.xs)
theorem nv (n:Nat)(h18 h19:LI)(h20:Int):jv (n+1) h18 h19 h20=gF h18 h19 h20 (jv n) some:=by kernel_rfl
theorem Ib (v:Int):(v.tmod 256<0→v.tmod 256+256=v % 256)∧(¬ v.tmod 256<0→v.tmod 256=v % 256):=by
 by_cases h:0≤v
 ·rw[Int.tmod_eq_emod_of_nonneg h];omega
 ·obtain ⟨u,rfl⟩:∃u,v = -u:=⟨-v,by omega⟩
  rw[Int.neg_tmod,Int.tmod_eq_emod_of_nonneg (by omega)];omega
theorem Ia (v:Int):(v - v % 256).tdiv 256=v / 256:=by
 have e:v - v % 256=v / 256*256:=by omega
 rw[e,Int.mul_tdiv_cancel _ (by decide)]
theorem Kf {n:Int}(h0:0≤n)(h1:n<256):u8.wrap n=n:=bA (by simp[bh,IntKind.min,IntKind.max,IntKind.signed,IntKind.bits];omega)
theorem r6 {m:Nat}(hm:m≤8):∀(k j:Nat) (v:Int) (acc:LI),m<j+k→j≤m→acc.length=j→-9223372036854775808≤v→v≤9223372036854775807→
  hM k v (m:Int) acc j=some (.ret ((),(((m:Int),(acc++dR v (m - j),())),()))):=by
 intro k
 induction k with
 |zero=>intro j v acc h;omega
 |succ k ih=>
  intro j v acc h1 h2 h3 h4 h5
  rw[yl]
  unfold lE
  by_cases hj:j<m
  ·refine bT (decide_eq_true (show (j:Int)<(m:Int) by omega)) ?_
   have ht:=Ib v
   have hd:∀x:Int,x=v % 256→hM k (i64.wrap ((i64.wrap (v - x)).tdiv 256)) (m:Int) (acc++[u8.wrap x]) (i64.wrap ((j:Int)+1))=some (.ret ((),(((m:Int),(acc++dR v (m - j),())),()))):=by
    rintro x rfl
    rw[af (n:=v - v % 256) (by omega) (by omega),Ia,af (n:=v / 256) (by omega) (by omega),af (n:=(j:Int)+1) (by omega) (by omega),Kf (n:=v % 256) (by omega) (by omega)]
    refine (ih (j+1) (v / 256) (acc++[v % 256]) (by omega) (by omega) (by simp[h3]) (by omega) (by omega)).trans ?_
    obtain ⟨q,hq⟩:∃q,m - j=q+1:=⟨m - j - 1,by omega⟩
    rw[hq,show m - (j+1)=q by omega,dR]
    simp
   have hr : -256≤v.tmod 256∧v.tmod 256<256:=by
    by_cases h:v.tmod 256<0
    ·have:=ht.1 h;omega
    ·have:=ht.2 h;omega
   rw[af (n:=v.tmod 256) (by omega) (by omega),af (n:=v.tmod 256+256) (by omega) (by omega)]
   by_cases hn:v.tmod 256<0
   ·refine bT (by simpa using hn) ?_
    refine bT (decide_eq_true (show acc.length+1≤4294967296 by omega)) ?_
    exact hd _ (ht.1 hn)
   ·refine bF (by simpa using hn) ?_
    refine bT (decide_eq_true (show acc.length+1≤4294967296 by omega)) ?_
    exact hd _ (ht.2 hn)
  ·refine bF (decide_eq_false (show ¬(j:Int)<(m:Int) by omega)) ?_
   rw[show m - j=0 by omega,dR]
   simp
theorem q8 {low:LI}(hl:low.length≤8):∀(j:Nat) (acc:LI),j≤low.length→acc.length+j≤8→
  jv (j+1) low acc ((j:Int) - 1)=some (.ret ((),((acc++(low.take j).reverse,()),()))):=by
 intro j
 induction j with
 |zero=>
  intro acc h1 h2
  rw[nv]
  unfold gF
  refine bF (by decide) ?_
  simp
 |succ j ih=>
  intro acc h1 h2
  rw[nv]
  unfold gF
  rw[show ((j+1:Nat):Int) - 1=(j:Int) by omega]
  have hg:List.getD low j (0:Int)=low[j]'(by omega):=aE (by omega)
  refine bT (by simp) ?_
  refine bT (by simp;omega) ?_
  simp only[zG,hg]
  refine bT (decide_eq_true (show acc.length+1≤4294967296 by omega)) ?_
  rw[af (n:=(j:Int) - 1) (by omega) (by omega)]
  refine (ih (acc++[low[j]'(by omega)]) (by omega) (by simp;omega)).trans ?_
  rw[List.take_succ_eq_append_getElem (by omega),List.reverse_append,List.reverse_singleton,zK]
theorem Eq (v:Int):∀n,(dR v n).length=n:=by
 intro n
 induction n generalizing v with
 |zero=>rfl
 |succ n ih=>rw[dR,zN,ih]
theorem rG:∀(n:Nat) (v:Int),dR v (n+1)=dR v n++[(v / 256 ^ n) % 256]
 |0,v=>by simp[dR]
 |n+1,v=>by
  rw[dR,rG n (v / 256),dR]
  have e:v / 256 / 256 ^ n=v / 256 ^ (n+1):=by
   rw[Int.pow_succ,Int.mul_comm,Int.ediv_ediv_of_nonneg (by decide)]
  rw[e];rfl
theorem tY (v:Int):∀n,(dR v n).reverse=aF v n
 |0=>rfl
 |n+1=>by rw[rG,List.reverse_append,tY v n];rfl
def oK (a0 a1:Int):Option eU.Res:=(fX ((a0,(a1,([],(0,())))),())).run fun y=>match y with | .ret ((),((x16,x17,()),()))=>((dK ((x17,([],(i64.wrap (x16 - 1),()))),())).run fun y=>match y with | .ret ((),((x25,()),()))=>(oR ((x25,()),())))
theorem Au (a0 a1:Int):Io.run tt n5 dr fT eU Tryz.f62 ((a0,a1,()),())=oK a0 a1:=by kernel_rfl
theorem DL:HcOk prog 62 (ah eU qh):=by
 refine bL (cs:=kR) HcsOk.nil (lp:=fT) (fn:=Tryz.f62) eU (.step (h0:=aI ca fX) (by kernel_rfl) (jy (cs:=kR) HcsOk.nil (lp:=fT) (fn:=Tryz.f62) (.done (by kernel_rfl)) ca fX ?_) (.step (h0:=aI bM dK) (by kernel_rfl) (jy (cs:=kR) HcsOk.nil (lp:=fT) (fn:=Tryz.f62) (.done (by kernel_rfl)) bM dK ?_) (.done (by kernel_rfl)))) qh ?_
 ·rintro ⟨⟨(v:Int),(m:Int),(acc:LI),(i:Int),⟨⟩⟩,⟨⟩⟩ y hw hy
  obtain ⟨hg,hy⟩:=Tr.guard hy
  simp only[zA,zB] at hg
  obtain ⟨h1,h2,h3,h4⟩:=hg
  have h1:acc=[]:=zF h1
  have h2:i=0:=h2
  have h3:(0:Int)≤m:=h3
  have h4:m≤(8:Int):=h4
  subst h1
  subst h2
  obtain ⟨m,rfl⟩:=au h3
  have hv:bh .i64 v:=hw.1.1
  simp only[bh,IntKind.min,IntKind.max,IntKind.signed,IntKind.bits] at hv
  simp at hv
  refine ⟨m+1,(r6 (m:=m) (by omega) (m+1) 0 v [] (by omega) (by omega) rfl (by omega) (by omega)).trans ?_⟩
  rw[← hy];rfl
 ·rintro ⟨⟨(low:LI),(acc:LI),(i:Int),⟨⟩⟩,⟨⟩⟩ y hw hy
  obtain ⟨hg,hy⟩:=Tr.guard hy
  simp only[zA,zB] at hg
  obtain ⟨h1,h2,h3⟩:=hg
  have h1:acc=[]:=zF h1
  have h2:i=(low.length:Int) - 1:=h2
  have h3:low.length≤8:=h3
  subst h1
  subst h2
  refine ⟨low.length+1,(q8 h3 low.length [] (by omega) (by simpa using h3)).trans ?_⟩
  rw[← hy,List.take_length];rfl
 ·rintro ⟨⟨(v:Int),(m:Int),⟨⟩⟩,⟨⟩⟩ out hw ho
  obtain ⟨hg,ho⟩:=Tr.guard ho
  simp only[zA,zB] at hg
  obtain ⟨h5,h6⟩:=hg
  have h5:(0:Int)≤m:=h5
  have h6:m≤(8:Int):=h6
  cases ho
  refine (Au v m).trans ?_
  unfold oK
  have c1:(decide (([]:LI).length=0)&&(decide ((0:Int)=0)&&(decide ((0:Int)≤m)&&decide (m≤(8:Int)))))=true:=by simp;omega
  have e1:fX ((v,(m,([],(0,())))),())=.ite true (.ret (.ret ((),((m,(dR v m.toNat,())),())))) .no:=congrArg (fun c=>Tr.ite c _ _) c1
  rw[e1]
  show (dK ((dR v m.toNat,([],(i64.wrap (m - 1),()))),())).run _=_
  rw[af (n:=m - 1) (by omega) (by omega)]
  have c2:(decide (([]:LI).length=0)&&(decide (m - 1=((dR v m.toNat).length:Int) - 1)&&decide ((dR v m.toNat).length≤8)))=true:=by
   rw[Eq];simp;omega
  have e2:dK ((dR v m.toNat,([],(m - 1,()))),())=.ite true (.ret (.ret ((),(((dR v m.toNat).reverse,()),())))) .no:=congrArg (fun c=>Tr.ite c _ _) c2
  rw[e2,tY]
  rfl
def bR (l:LI):Int:=match l with
 |[]=>0
 |c::l=>l.foldl (fun v c=>v*256+c) (if 128≤c then c - 256 else c)
def ak (b:LI)(at_ n:Int):Int×Bool:=if at_<0∨(b.length:Int)<at_∨(b.length:Int) - at_<n then (0,false) else (bR ((b.drop at_.toNat).take n.toNat),true)
abbrev eV:Io:=⟨[dL,dI,dI],[],[],[lm,dB],none⟩
def qi (d:eV.In):Tr eV.Res:=.ite (decide ((0:Int)≤d.1.2.2.1)&&decide (d.1.2.2.1≤(8:Int))) (.ret (.ret (((ak d.1.1 d.1.2.1 d.1.2.2.1).1,((ak d.1.1 d.1.2.1 d.1.2.2.1).2,())),()))) .no
abbrev nU:List (Nat×Hc):=[]
def tC:Hd:=bt nU
abbrev cb:Lo:=⟨⟨(.one (.hol (.sl 5 (Ty.int u8)))::.one hI::.one hI::.any::cj (.one hI::.one hI::al (al (dC (bz []))))),[]⟩,[(.exit 0,⟨(dC (.one hI::.any::al (al (dC (bz []))))),[]⟩)]⟩
def fY (d:cb.st.den):Tr (ao cb.xs):=
 .ite (decide (d.1.2.2.2.1=0)&&(decide (d.1.2.2.2.2.1=0)&&((decide ((0:Int)≤d.1.2.1)&&decide (d.1.2.1+d.1.2.2.1≤(d.1.1.length:Int)))&&(decide ((0:Int)≤d.1.2.2.1)&&decide (d.1.2.2.1≤(8:Int)))))) (.ret (.ret ((),((bR ((d.1.1.drop d.1.2.1.toNat).take d.1.2.2.1.toNat),()),())))) .no
def k6:Lp:=bG [(6,aI cb fY)]
def lF {R:Type}(h3:LI)(h4 h5 h6 h7:Int)(next:LI→Int→Int→Int→Int→Option R)(out:ao cb.xs→Option R):Option R:=bif decide (h7<h5) then bif decide (0≤i64.wrap (h4+h7))&&decide (i64.wrap (h4+h7)<(↑h3.length:Int)) then bif h7 == 0 then bif decide (128≤i64.wrap (h3.getD (i64.wrap (h4+h7)).toNat 0)) then next (h3) (h4) (h5) (i64.wrap (i64.wrap (h6*256)+i64.wrap (i64.wrap (h3.getD (i64.wrap (h4+h7)).toNat 0) - 256))) (i64.wrap (h7+1)) else next (h3) (h4) (h5) (i64.wrap (i64.wrap (h6*256)+i64.wrap (h3.getD (i64.wrap (h4+h7)).toNat 0))) (i64.wrap (h7+1)) else next (h3) (h4) (h5) (i64.wrap (i64.wrap (h6*256)+i64.wrap (h3.getD (i64.wrap (h4+h7)).toNat 0))) (i64.wrap (h7+1)) else none else out (.ret ((),((h6,()),())))
def kk (n:Nat)(h3:LI)(h4 h5 h6 h7:Int):Option (ao cb.xs):=iI tt tC dr k6 0 Tryz.f108 (cR Tryz.f108 0) n (cb.st.mk' ((h3,(h4,(h5,(h6,(h7,()))))),())) (bS cb.xs)
theorem ym (n:Nat)(h3:LI)(h4 h5 h6 h7:Int):kk (n+1) h3 h4 h5 h6 h7=lF h3 h4 h5 h6 h7 (kk n) some:=by kernel_rfl
theorem AM (l:LI)(c:Int):bR (l++[c])=if l=[] then (if 128≤c then c - 256 else c) else bR l*256+c:=by
 cases l with
 |nil=>simp[bR]
 |cons x l=>simp[bR,List.foldl_append]
theorem yC:∀(l:LI) (v B:Int),(∀c∈l,0≤c∧c<256)→-B≤v→v<B→-(B*256 ^ l.length)≤l.foldl (fun v c=>v*256+c) v∧l.foldl (fun v c=>v*256+c) v<B*256 ^ l.length
 |[],v,B,_,h1,h2=>by simp;omega
 |c::l,v,B,hc,h1,h2=>by
  have h:=hc c (by simp)
  have ih:=yC l (v*256+c) (B*256) (fun x hx=>hc x (by simp[hx])) (by omega) (by omega)
  have e:B*256*256 ^ l.length=B*256 ^ (c::l).length:=by rw[zN,Int.pow_succ,Int.mul_assoc,Int.mul_comm 256]
  rw[e] at ih
  exact ih
theorem H4 {l:LI}(hc:∀c∈l,0≤c∧c<256)(hl:l.length≤7) : -36028797018963968≤bR l∧bR l<36028797018963968:=by
 cases l with
 |nil=>simp[bR]
 |cons c l=>
  have h:=hc c (by simp)
  have h':=yC l (if 128≤c then c - 256 else c) 128 (fun x hx=>hc x (by simp[hx])) (by split <;> omega) (by split <;> omega)
  have hp:(256:Int) ^ l.length≤256 ^ 6:=by
   have:=Nat.pow_le_pow_right (show 0<256 by decide) (show l.length≤6 by simpa using hl)
   have e:((256 ^ l.length:Nat):Int)=(256:Int) ^ l.length:=by simp
   have e2:((256 ^ 6:Nat):Int)=(256:Int) ^ 6:=by simp
   omega
  have e6:(256:Int) ^ 6=281474976710656:=by decide
  show -36028797018963968≤l.foldl _ _∧l.foldl _ _<36028797018963968
  omega
theorem xw {b:LI}(hb:∀c∈b,0≤c∧c<256)(hl:b.length≤maxLen){a m:Nat}(h1:a+m≤b.length)(h2:m≤8):∀(k j:Nat),m<j+k→j≤m→
  kk k b (a:Int) (m:Int) (bR ((b.drop a).take j)) j=some (.ret ((),((bR ((b.drop a).take m),()),()))):=by
 intro k
 induction k with
 |zero=>intro j h;omega
 |succ k ih=>
  intro j h3 h4
  rw[ym]
  unfold lF
  by_cases hj:j<m
  ·have hm:=aR
   rw[hm] at hl
   refine bT (decide_eq_true (show (j:Int)<(m:Int) by omega)) ?_
   have ej:((a:Int)+(j:Int))=((a+j:Nat):Int):=by omega
   have hget:List.getD b (a+j) (0:Int)=b[a+j]'(by omega):=aE (by omega)
   have hc:=hb (b[a+j]'(by omega)) (List.getElem_mem _)
   have e:(b.drop a).take (j+1)=(b.drop a).take j++[b[a+j]'(by omega)]:=by
    rw[List.take_succ_eq_append_getElem (by simp;omega)];simp
   have hs:=H4 (l:=(b.drop a).take j) (fun c hc=>hb c (List.mem_of_mem_drop (List.mem_of_mem_take hc))) (by simp;omega)
   have he:=AM ((b.drop a).take j) (b[a+j]'(by omega))
   rw[← e] at he
   rw[ej,af (n:=((a+j:Nat):Int)) (by omega) (by omega)]
   refine bT (by simp;omega) ?_
   simp only[zG,hget]
   have ih':=ih (j+1) (by omega) (by omega)
   rw[he] at ih'
   have hv0:j=0→bR ((b.drop a).take j)=0:=by rintro rfl;simp[bR]
   have ht:(b.drop a).take j=[]↔j=0:=by
    constructor
    ·intro h
     have:=congrArg List.length h
     simp at this
     omega
    ·rintro rfl;simp
   generalize b[a+j]'(by omega)=c at hc ih' ⊢
   generalize bR ((b.drop a).take j)=v at hs ih' hv0 ⊢
   rw[af (n:=c) (by omega) (by omega),af (n:=v*256) (by omega) (by omega),af (n:=(j:Int)+1) (by omega) (by omega),af (n:=v*256+c) (by omega) (by omega),af (n:=c - 256) (by omega) (by omega)]
   by_cases h0:j=0
   ·have hv:=hv0 h0
    rw[if_pos (ht.2 h0)] at ih'
    refine bT (by simp[h0]) ?_
    by_cases h128:128≤c
    ·rw[if_pos h128] at ih'
     refine bT (by simpa using h128) ?_
     rw[show v*256+(c - 256)=c - 256 by omega,af (n:=c - 256) (by omega) (by omega)]
     exact ih'
    ·rw[if_neg h128] at ih'
     refine bF (by simpa using h128) ?_
     rw[show v*256+c=c by omega]
     exact ih'
   ·rw[if_neg (fun h=>h0 (ht.1 h))] at ih'
    refine bF (by simpa using h0) ?_
    exact ih'
  ·refine bF (by simpa using hj) ?_
   rw[show j=m by omega]
def oL (a0:LI)(a1 a2:Int):Option eV.Res:=bif decide (a1<0) then oR ((0,false,()),()) else bif decide ((↑a0.length:Int)<a1) then oR ((0,false,()),()) else bif decide (i64.wrap ((↑a0.length:Int) - a1)<a2) then oR ((0,false,()),()) else (fY ((a0,(a1,(a2,(0,(0,()))))),())).run fun y=>match y with | .ret ((),((x24,()),()))=>(oR ((x24,true,()),()))
theorem Av (a0:LI)(a1 a2:Int):Io.run tt tC dr k6 eV Tryz.f108 ((a0,a1,a2,()),())=oL a0 a1 a2:=by kernel_rfl
theorem DM:HcOk prog 108 (ah eV qi):=by
 refine bL (cs:=nU) HcsOk.nil (lp:=k6) (fn:=Tryz.f108) eV (.step (h0:=aI cb fY) (by kernel_rfl) (jy (cs:=nU) HcsOk.nil (lp:=k6) (fn:=Tryz.f108) (.done (by kernel_rfl)) cb fY ?_) (.done (by kernel_rfl))) qi ?_
 ·rintro ⟨⟨(b:LI),(a:Int),(m:Int),(v:Int),(i:Int),⟨⟩⟩,⟨⟩⟩ y hw hy
  obtain ⟨hg,hy⟩:=Tr.guard hy
  simp only[zA,zB] at hg
  obtain ⟨h1,h2,⟨h3,h4⟩,h5,h6⟩:=hg
  have h1:v=0:=h1
  have h2:i=0:=h2
  have h3:(0:Int)≤a:=h3
  have h4:a+m≤(b.length:Int):=h4
  have h5:(0:Int)≤m:=h5
  have h6:m≤(8:Int):=h6
  subst h1
  subst h2
  obtain ⟨a,rfl⟩:=au h3
  obtain ⟨m,rfl⟩:=au h5
  have hb:∀c∈b,0≤c∧c<256:=fun c hc=>by
   have h:=hw.1.1.2 c hc
   simp only[Ty.wf,bh,IntKind.min,IntKind.max,IntKind.signed,IntKind.bits] at h
   simp at h
   omega
  refine ⟨m+1,(xw hb hw.1.1.1 (a:=a) (m:=m) (by omega) (by omega) (m+1) 0 (by omega) (by omega)).trans ?_⟩
  rw[← hy];rfl
 ·rintro ⟨⟨(b:LI),(a:Int),(m:Int),⟨⟩⟩,⟨⟩⟩ out hw ho
  obtain ⟨hg,ho⟩:=Tr.guard ho
  simp only[zA,zB] at hg
  obtain ⟨h5,h6⟩:=hg
  have h5:(0:Int)≤m:=h5
  have h6:m≤(8:Int):=h6
  cases ho
  refine (Av b a m).trans ?_
  unfold oL
  show _=oR (((ak b a m).1,((ak b a m).2,())),())
  unfold ak
  have hl:b.length≤maxLen:=hw.1.1.1
  rw[aR] at hl
  by_cases h1:a<0
  ·rw[if_pos (.inl h1)]
   exact ab (by simpa using h1) _ _
  ·refine bF (by simpa using h1) ?_
   by_cases h2:(b.length:Int)<a
   ·rw[if_pos (.inr (.inl h2))]
    exact ab (by simpa using h2) _ _
   ·refine bF (by simpa using h2) ?_
    rw[af (n:=(b.length:Int) - a) (by omega) (by omega)]
    by_cases h3:(b.length:Int) - a<m
    ·rw[if_pos (.inr (.inr h3))]
     exact ab (by simpa using h3) _ _
    ·rw[if_neg (by omega)]
     refine bF (by simpa using h3) ?_
     have c1:(decide ((0:Int)=0)&&(decide ((0:Int)=0)&&((decide ((0:Int)≤a)&&decide (a+m≤(b.length:Int)))&&(decide ((0:Int)≤m)&&decide (m≤(8:Int))))))=true:=by simp;omega
     have e1:fY ((b,(a,(m,(0,(0,()))))),())=.ite true (.ret (.ret ((),((bR ((b.drop a.toNat).take m.toNat),()),())))) .no:=congrArg (fun c=>Tr.ite c _ _) c1
     rw[e1]
     rfl
abbrev wT:Sh:=.dat (.int .u32) false false
def gE (s:Nat):Nat:=if s % 2=1 then (s / 2) ^^^ 2197175160 else s / 2
theorem nG {s:Nat}(h:s<4294967296):gE s<4294967296:=by
 unfold gE
 split
 ·exact Nat.xor_lt_two_pow (n:=32) (by omega) (by omega)
 ·omega
theorem Ii (a b p:Nat):(a ^^^ p) ^^^ (b ^^^ p)=a ^^^ b:=by
 rw[Nat.xor_assoc,← Nat.xor_assoc p b p,Nat.xor_comm p b,Nat.xor_assoc b p p,Nat.xor_self,Nat.xor_zero]
theorem li (a b:Nat):gE (a ^^^ b)=gE a ^^^ gE b:=by
 have h1:(a ^^^ b) / 2=a / 2 ^^^ b / 2:=Nat.xor_div_two
 have h2:(a ^^^ b) % 2=1↔¬(a % 2=1↔b % 2=1):=Nat.xor_mod_two_eq_one
 unfold gE
 rw[h1]
 by_cases ha:a % 2=1
 ·by_cases hb:b % 2=1
  ·rw[if_neg (by rw[h2];simp[ha,hb]),if_pos ha,if_pos hb,Ii]
  ·rw[if_pos (by rw[h2];simp[ha,hb]),if_pos ha,if_neg hb,Nat.xor_assoc,Nat.xor_comm (b / 2),← Nat.xor_assoc]
 ·by_cases hb:b % 2=1
  ·rw[if_pos (by rw[h2];simp[ha,hb]),if_neg ha,if_pos hb,Nat.xor_assoc]
  ·rw[if_neg (by rw[h2];simp[ha,hb]),if_neg ha,if_neg hb]
theorem lh (m:Nat):gE (2*m)=m:=by
 unfold gE
 rw[if_neg (by omega)]
 omega
def ig (s:Nat):Nat:=gE (gE (gE (gE s)))
theorem Ew (a b:Nat):ig (a ^^^ b)=ig a ^^^ ig b:=by unfold ig;rw[li,li,li,li]
theorem H7 (q:Nat):ig (16*q)=q:=by
 unfold ig
 rw[show 16*q=2*(2*(2*(2*q))) by omega,lh,lh,lh,lh]
theorem nF {s:Nat}(h:s<4294967296):ig s<4294967296:=nG (nG (nG (nG h)))
theorem Ka (s:Nat):s=(16*(s / 16)) ^^^ (s % 16):=by
 refine Nat.eq_of_testBit_eq fun i=>?_
 rw[Nat.testBit_xor,show 16*(s / 16)=2 ^ 4*(s / 2 ^ 4) by rfl,Nat.testBit_two_pow_mul,Nat.testBit_div_two_pow,show s % 16=s % 2 ^ 4 by rfl,Nat.testBit_mod_two_pow]
 by_cases h:4≤i
 ·have h':¬ i<4:=by omega
  simp[h,h',show i - 4+4=i by omega]
 ·have h':i<4:=by omega
  simp[h,h']
theorem H8 (s:Nat):ig s=(s / 16) ^^^ ig (s % 16):=by
 conv=>lhs;rw[Ka s]
 rw[Ew,H7]
def yI (s:Nat):Nat:=ig (ig s)
theorem yJ {s:Nat}(h:s<4294967296):yI s<4294967296:=nF (nF h)
def Iw:LI→Nat→Nat
 |[],s=>s
 |x::l,s=>Iw l (yI (s ^^^ x.toNat))
theorem kO {s:Nat}(h:s<4294967296){x:Int}(hx:x≤255):s ^^^ x.toNat<4294967296:=Nat.xor_lt_two_pow (n:=32) h (by omega)
theorem pK:∀{l:LI} {s:Nat},(∀c∈l,0≤c∧c≤255)→s<4294967296→Iw l s<4294967296
 |[],_,_,h=>h
 |x::l,_,hl,h=>pK (l:=l) (fun c hc=>hl c (by simp[hc])) (yJ (kO h (hl x (by simp)).2))
@[irreducible] def cy (c:Int)(b:LI):Int:=((Iw b (c.toNat ^^^ 4294967295) ^^^ 4294967295:Nat):Int)
@[irreducible] def ie (b:LI)(s:Int):Int:=((Iw b s.toNat:Nat):Int)
@[irreducible] def oF (s:Int):Int:=(gE s.toNat:Int)
def lg:Nat→Int→Int
 |0,s=>s
 |n+1,s=>lg n (oF s)
theorem rM (s:Nat):oF (s:Int)=(gE s:Int):=by unfold oF;rw[zG]
theorem H5 (s:Nat):lg 8 (s:Int)=(yI s:Int):=by
 simp only[lg,rM]
 rfl
theorem lj {x y:Nat}(hx:x<4294967296)(hy:y<4294967296):bK .u32 (x:Int) (y:Int)=((x ^^^ y:Nat):Int):=by
 have e1:(BitVec.ofInt 32 (x:Int)).toNat=x:=by rw[BitVec.toNat_ofInt];omega
 have e2:(BitVec.ofInt 32 (y:Int)).toNat=y:=by rw[BitVec.toNat_ofInt];omega
 show IntKind.wrap .u32 ((BitVec.ofInt 32 (x:Int) ^^^ BitVec.ofInt 32 (y:Int)).toNat:Int)=_
 rw[BitVec.toNat_xor,e1,e2]
 have:=Nat.xor_lt_two_pow (n:=32) hx hy
 exact bA (k:=.u32) (by simp[bh,IntKind.min,IntKind.max,IntKind.signed,IntKind.bits];omega)
theorem CI {x:Nat}(hx:x<4294967296):rH .u32 (x:Int)=((x ^^^ 4294967295:Nat):Int):=by
 have:=lj (x:=4294967295) (y:=x) (by omega) hx
 rw[Nat.xor_comm] at this
 exact this
theorem nR {x:Nat}(hx:x<4294967296):dv .u32 (x:Int) 15=((x % 16:Nat):Int):=by
 have e1:(BitVec.ofInt 32 (x:Int)).toNat=x:=by rw[BitVec.toNat_ofInt];omega
 show IntKind.wrap .u32 ((BitVec.ofInt 32 (x:Int) &&& BitVec.ofInt 32 15).toNat:Int)=_
 rw[BitVec.toNat_and,e1,show (BitVec.ofInt 32 15).toNat=2 ^ 4 - 1 by decide,Nat.and_two_pow_sub_one_eq_mod]
 exact bA (k:=.u32) (by simp[bh,IntKind.min,IntKind.max,IntKind.signed,IntKind.bits];omega)
theorem HO {x:Nat}(hx:x<4294967296):dw .u32 (x:Int) 4=((x / 16:Nat):Int):=by
 show IntKind.wrap .u32 ((x:Int).fdiv (2 ^ 4))=_
 rw[Int.fdiv_eq_ediv_of_nonneg _ (by decide)]
 rw[show (x:Int) / 2 ^ 4=((x / 16:Nat):Int) by omega]
 exact bA (k:=.u32) (by simp[bh,IntKind.min,IntKind.max,IntKind.signed,IntKind.bits];omega)
theorem Ey {r:Nat}(h:r<16):dH (r:Int)=(ig r:Int):=
 (show ∀r:Nat,r<16→dH (r:Int)=(ig r:Int) by decide +kernel) r h
theorem uH {b:LI}(h:Ty.wf bs b):∀c∈b,0≤c∧c≤255:=fun c hc=>by
 have:=h.2 c hc
 simpa [Ty.wf,bh,IntKind.min,IntKind.max,IntKind.signed,IntKind.bits] using this
theorem nO {s:Int}(h:bh .u32 s):∃n:Nat,s=(n:Int)∧n<4294967296:=by
 simp[bh,IntKind.min,IntKind.max,IntKind.signed,IntKind.bits] at h
 exact ⟨s.toNat,by omega,by omega⟩
theorem yL {s:Nat}(hs:s<4294967296):bK .u32 (dw .u32 (s:Int) 4) (dH (dv .u32 (s:Int) 15))=(ig s:Int):=by
 have hr:s % 16<16:=by omega
 rw[nR hs,HO hs,Ey hr,lj (by omega) (nF (by omega)),← H8]
abbrev gg:Io:=⟨[wT],[],[],[wT],none⟩
def ui (d:gg.In):Tr gg.Res:=.ret (.ret ((oF d.1.1,()),()))
abbrev wF:List (Nat×Hc):=[]
def FM:Hd:=bt wF
def xH:Lp:=bG []
def qv (a0:Int):Option gg.Res:=bif u32.wrap (a0.tmod 2) == 1 then oR ((bK u32 (u32.wrap (a0.tdiv 2)) 2197175160,()),()) else oR ((u32.wrap (a0.tdiv 2),()),())
theorem DX (a0:Int):Io.run tt FM dr xH gg Tryz.f133 ((a0,()),())=qv a0:=by kernel_rfl
theorem GJ:HcOk prog 133 (ah gg ui):=by
 refine bL (cs:=wF) HcsOk.nil (lp:=xH) (fn:=Tryz.f133) gg (.done (by kernel_rfl)) ui ?_
 rintro ⟨⟨(s:Int),⟨⟩⟩,⟨⟩⟩ out hw ho
 cases ho
 refine (DX s).trans ?_
 unfold qv
 obtain ⟨n,rfl,hn⟩:=nO hw.1.1
 have e1:u32.wrap ((n:Int).tmod 2)=((n % 2:Nat):Int):=by
  rw[Int.tmod_eq_emod_of_nonneg (by omega)]
  exact (bA (k:=.u32) (by simp[bh,IntKind.min,IntKind.max,IntKind.signed,IntKind.bits];omega)).trans (by omega)
 have e2:u32.wrap ((n:Int).tdiv 2)=((n / 2:Nat):Int):=by
  rw[Int.tdiv_eq_ediv_of_nonneg (by omega)]
  exact (bA (k:=.u32) (by simp[bh,IntKind.min,IntKind.max,IntKind.signed,IntKind.bits];omega)).trans (by omega)
 show _=oR ((oF (n:Int),()),())
 rw[e1,e2,rM]
 unfold gE
 by_cases h:n % 2=1
 ·refine bT (by rw[h];rfl) ?_
  rw[if_pos h,← lj (by omega) (by omega)]
  rfl
 ·refine bF (by simp;omega) ?_
  rw[if_neg h]
abbrev jb:Io:=⟨[wT,dL],[],[],[wT],none⟩
def yR (d:jb.In):Tr jb.Res:=.ret (.ret ((cy d.1.1 d.1.2.1,()),()))
abbrev Bt:List (Nat×Hc):=[(133,ah gg ui)]
def uU:Hd:=bt Bt
abbrev df:Lo:=⟨⟨(.any::.one (.hol (.sl 5 (Ty.int u8)))::.any::bz (.one (.hol (.int u32))::.one hI::.one hI::.any::al (cj (bz [])))),[]⟩,[(.exit 2,⟨(.any::.one (.hol (.sl 5 (Ty.int u8)))::.any::bz (.one (.hol (.int u32))::.one hI::al (dC []))),[]⟩)]⟩
abbrev de:Lo:=⟨⟨(.any::.one (.hol (.sl 5 (Ty.int u8)))::.any::bz (.one (.hol (.int u32))::.one hI::al (dC []))),[]⟩,[(.exit 0,⟨(.any::cj (.one (.hol (.int u32))::.any::al (dC []))),[]⟩)]⟩
def jX (d:df.st.den):Tr (ao df.xs):=.ite (decide (d.1.2.2.2.1=0)) (.ret (.ret ((),((d.1.1,(lg 8 d.1.2.1,(d.1.2.2.1,()))),())))) .no
def jW (d:de.st.den):Tr (ao de.xs):=.ite (decide (d.1.2.2.1=0)) (.ret (.ret ((),((ie d.1.1 d.1.2.1,()),())))) .no
def k5:Lp:=bG [(4,aI de jW),(8,aI df jX)]
def pe {R:Type}(h5:LI)(h6 h7 h8:Int)(next:LI→Int→Int→Int→Option R)(out:ao df.xs→Option R):Option R:=bif decide (h8<8) then next (h5) (oF h6) (h7) (i64.wrap (h8+1)) else out (.ret ((),((h5,(h6,(h7,()))),())))
def oa (n:Nat)(h5:LI)(h6 h7 h8:Int):Option (ao df.xs):=iI tt uU dr k5 0 Tryz.f97 (Mm Tryz.f97 (cR Tryz.f97 0) 0) n (df.st.mk' ((h5,(h6,(h7,(h8,())))),())) (bS df.xs)
theorem Ej (n:Nat)(h5:LI)(h6 h7 h8:Int):oa (n+1) h5 h6 h7 h8=pe h5 h6 h7 h8 (oa n) some:=by kernel_rfl
def pd {R:Type}(h2:LI)(h3 h4:Int)(next:LI→Int→Int→Option R)(out:ao de.xs→Option R):Option R:=bif decide (h4<(↑h2.length:Int)) then bif decide (0≤h4)&&decide (h4<(↑h2.length:Int)) then (jX ((h2,(bK u32 h3 (u32.wrap (h2.getD h4.toNat 0)),(h4,(0,())))),())).run fun y=>match y with | .ret ((),((x16,x17,x18,()),()))=>(next (x16) (x17) (i64.wrap (x18+1))) else none else out (.ret ((),((h3,()),())))
def kY (n:Nat)(h2:LI)(h3 h4:Int):Option (ao de.xs):=iI tt uU dr k5 0 Tryz.f97 (cR Tryz.f97 0) n (de.st.mk' ((h2,(h3,(h4,()))),())) (bS de.xs)
theorem Ei (n:Nat)(h2:LI)(h3 h4:Int):kY (n+1) h2 h3 h4=pd h2 h3 h4 (kY n) some:=by kernel_rfl
theorem xt (b:LI)(i:Int):∀(k j:Nat) (s:Int),8<j+k→j≤8→oa k b s i j=some (.ret ((),((b,(lg (8 - j) s,(i,()))),()))):=by
 intro k
 induction k with
 |zero=>intro j s h;omega
 |succ k ih=>
  intro j s h1 h2
  rw[Ej]
  unfold pe
  by_cases hj:j<8
  ·refine bT (by simp;omega) ?_
   rw[af (n:=(j:Int)+1) (by omega) (by omega),show (8 - j)=(8 - (j+1))+1 by omega]
   exact ih (j+1) _ (by omega) (by omega)
  ·refine bF (by simp;omega) ?_
   rw[show 8 - j=0 by omega]
   rfl
theorem rK {b:LI}(hb:∀c∈b,0≤c∧c≤255){i:Nat}(h:i<b.length){n:Nat}(hn:n<4294967296):ie (b.drop i) (n:Int)=ie (b.drop (i+1)) ((yI (n ^^^ (b[i]).toNat):Nat):Int)∧yI (n ^^^ (b[i]).toNat)<4294967296:=by
 refine ⟨?_,yJ (kO hn (hb b[i] (List.getElem_mem h)).2)⟩
 rw[zE h]
 unfold ie
 rw[zG,zG]
 rfl
theorem Ij {b:LI}(hb:∀c∈b,0≤c∧c≤255){i:Nat}(h:i<b.length){n:Nat}(hn:n<4294967296):bK .u32 (n:Int) (u32.wrap (List.getD b (i:Int).toNat 0))=((n ^^^ (b[i]).toNat:Nat):Int):=by
 have hc:=hb b[i] (List.getElem_mem h)
 have e:List.getD b (i:Int).toNat 0=((b[i].toNat:Nat):Int):=by
  rw[zG,aE h]
  omega
 rw[e,bA (k:=.u32) (by simp[bh,IntKind.min,IntKind.max,IntKind.signed,IntKind.bits];omega)]
 exact lj hn (by omega)
theorem xr {b:LI}(hb:∀c∈b,0≤c∧c≤255)(hl:b.length≤maxLen):∀(k i n:Nat),b.length<i+k→i≤b.length→n<4294967296→kY k b n i=some (.ret ((),((ie (b.drop i) n,()),()))):=by
 intro k
 induction k with
 |zero=>intro i n h;omega
 |succ k ih=>
  intro i n h1 h2 h3
  rw[Ei]
  unfold pd
  by_cases hi:i<b.length
  ·refine bT (by simpa using hi) ?_
   refine bT (by simpa using hi) ?_
   obtain ⟨e1,e2⟩:=rK hb hi h3
   rw[Ij hb hi h3,e1]
   unfold jX
   refine bT (by simp) ?_
   show kY k b (lg 8 _) (i64.wrap ((i:Int)+1))=_
   rw[H5,bm hi hl]
   exact ih (i+1) _ (by omega) (by omega) e2
  ·refine bF (by simp;omega) ?_
   rw[zI (by omega)]
   unfold ie
   rw[zG]
   rfl
theorem HZ {c:Nat}(hc:c<4294967296){b:LI}(hb:∀x∈b,0≤x∧x≤255):bK .u32 (ie b ((c ^^^ 4294967295:Nat):Int)) 4294967295=cy (c:Int) b:=by
 have h1:=Nat.xor_lt_two_pow (n:=32) hc (show 4294967295<2 ^ 32 by decide)
 have h2:=pK hb h1
 unfold ie cy
 rw[zG,zG]
 exact lj h2 (by decide)
def sG (a0:Int)(a1:LI):Option jb.Res:=(jW ((a1,(bK u32 a0 4294967295,(0,()))),())).run fun y=>match y with | .ret ((),((x23,()),()))=>(oR ((bK u32 x23 4294967295,()),()))
theorem Hi (a0:Int)(a1:LI):Io.run tt uU dr k5 jb Tryz.f97 ((a0,a1,()),())=sG a0 a1:=by kernel_rfl
theorem nZ:HcsOk prog Bt:=.cons GJ .nil
theorem Ji:HcOk prog 97 (ah jb yR):=by
 refine bL nZ (lp:=k5) (fn:=Tryz.f97) jb (.step (h0:=aI de jW) (by kernel_rfl) (jy nZ (lp:=k5) (fn:=Tryz.f97) (.step (h0:=aI df jX) (by kernel_rfl) (jy nZ (lp:=k5) (fn:=Tryz.f97) (.done (by kernel_rfl)) df jX ?_) (.done (by kernel_rfl))) de jW ?_) (.done (by kernel_rfl))) yR ?_
 ·rintro ⟨⟨(b:LI),(s:Int),(i:Int),(j:Int),⟨⟩⟩,⟨⟩⟩ y hw hy
  obtain ⟨hg,hy⟩:=Tr.guard hy
  have hg:j=0:=by simpa using hg
  subst hg
  refine ⟨9,(xt b i 9 0 s (by omega) (by omega)).trans ?_⟩
  rw[← hy];rfl
 ·rintro ⟨⟨(b:LI),(s:Int),(i:Int),⟨⟩⟩,⟨⟩⟩ y hw hy
  obtain ⟨hg,hy⟩:=Tr.guard hy
  have hg:i=0:=by simpa using hg
  subst hg
  obtain ⟨n,rfl,hn⟩:=nO hw.1.2.1
  refine ⟨b.length+1,(xr (uH hw.1.1) hw.1.1.1 (b.length+1) 0 n (show b.length<0+(b.length+1) by omega) (Nat.zero_le _) hn).trans ?_⟩
  rw[← hy];rfl
 ·rintro ⟨⟨(c:Int),(b:LI),⟨⟩⟩,⟨⟩⟩ out hw ho
  cases ho
  refine (Hi c b).trans ?_
  obtain ⟨n,rfl,hn⟩:=nO hw.1.1
  unfold sG jW
  refine bT (by simp) ?_
  show oR ((bK .u32 (ie b (bK .u32 (n:Int) 4294967295)) 4294967295,()),())=oR ((cy (n:Int) b,()),())
  rw[show (4294967295:Int)=((4294967295:Nat):Int) from rfl,lj hn (by decide),show ((4294967295:Nat):Int)=4294967295 from rfl,HZ hn (uH hw.1.2.1)]
abbrev gf:Io:=⟨[dL],[],[],[wT],none⟩
def uh (d:gf.In):Tr gf.Res:=.ret (.ret ((cy 0 d.1.1,()),()))
abbrev wE:List (Nat×Hc):=[(97,ah jb yR)]
def FL:Hd:=bt wE
def xG:Lp:=bG []
def zk (a0:LI):Option gf.Res:=oR ((cy 0 a0,()),())
theorem DW (a0:LI):Io.run tt FL dr xG gf Tryz.f63 ((a0,()),())=zk a0:=by kernel_rfl
theorem GI:HcOk prog 63 (ah gf uh):=by
 refine bL (cs:=wE) (.cons Ji .nil) (lp:=xG) (fn:=Tryz.f63) gf (.done (by kernel_rfl)) uh ?_
 rintro ⟨⟨(b:LI),⟨⟩⟩,⟨⟩⟩ out hw ho
 cases ho
 exact DW b
abbrev lU:Io:=⟨[wT,dL],[],[],[wT],none⟩
def EF (d:lU.In):Tr lU.Res:=.ret (.ret ((cy d.1.1 d.1.2.1,()),()))
abbrev zr:List (Nat×Hc):=[]
def FN:Hd:=bt zr
abbrev eo:Lo:=⟨⟨(.any::cj (.one (.hol (.int u32))::cj (.one (.hol (.sl 5 (Ty.int u8)))::.one hI::.one hI::al (dC [])))),[]⟩,[(.exit 0,⟨(.any::cj (.one (.hol (.int u32))::.any::al (dC (cj (bz []))))),[]⟩)]⟩
def mF (d:eo.st.den):Tr (ao eo.xs):=.ite (decide (d.1.2.2.2.1=0)&&decide (d.1.2.2.1=(d.1.2.1.length:Int))) (.ret (.ret ((),((ie d.1.2.1 d.1.1,()),())))) .no
def vo:Lp:=bG [(4,aI eo mF)]
def rQ {R:Type}(h2:Int)(h3:LI)(h4 h5:Int)(next:Int→LI→Int→Int→Option R)(out:ao eo.xs→Option R):Option R:=bif decide (h5<h4) then bif decide (0≤h5)&&decide (h5<(↑h3.length:Int)) then bif decide (0≤dv u32 (bK u32 h2 (u32.wrap (h3.getD h5.toNat 0))) 15)&&decide (dv u32 (bK u32 h2 (u32.wrap (h3.getD h5.toNat 0))) 15<(↑16:Int)) then bif decide (0≤dv u32 (bK u32 (dw u32 (bK u32 h2 (u32.wrap (h3.getD h5.toNat 0))) 4) (dH (dv u32 (bK u32 h2 (u32.wrap (h3.getD h5.toNat 0))) 15))) 15)&&decide (dv u32 (bK u32 (dw u32 (bK u32 h2 (u32.wrap (h3.getD h5.toNat 0))) 4) (dH (dv u32 (bK u32 h2 (u32.wrap (h3.getD h5.toNat 0))) 15))) 15<(↑16:Int)) then next (bK u32 (dw u32 (bK u32 (dw u32 (bK u32 h2 (u32.wrap (h3.getD h5.toNat 0))) 4) (dH (dv u32 (bK u32 h2 (u32.wrap (h3.getD h5.toNat 0))) 15))) 4) (dH (dv u32 (bK u32 (dw u32 (bK u32 h2 (u32.wrap (h3.getD h5.toNat 0))) 4) (dH (dv u32 (bK u32 h2 (u32.wrap (h3.getD h5.toNat 0))) 15))) 15))) (h3) (h4) (i64.wrap (h5+1)) else none else none else none else out (.ret ((),((h2,()),())))
def q4 (n:Nat)(h2:Int)(h3:LI)(h4 h5:Int):Option (ao eo.xs):=iI tt FN dr vo 0 Tryz.f89 (cR Tryz.f89 0) n (eo.st.mk' ((h2,(h3,(h4,(h5,())))),())) (bS eo.xs)
theorem HS (n:Nat)(h2:Int)(h3:LI)(h4 h5:Int):q4 (n+1) h2 h3 h4 h5=rQ h2 h3 h4 h5 (q4 n) some:=by kernel_rfl
theorem zY {b:LI}(hb:∀c∈b,0≤c∧c≤255)(hl:b.length≤maxLen):∀(k i n:Nat),b.length<i+k→i≤b.length→n<4294967296→q4 k n b (b.length:Int) i=some (.ret ((),((ie (b.drop i) n,()),()))):=by
 intro k
 induction k with
 |zero=>intro i n h;omega
 |succ k ih=>
  intro i n h1 h2 h3
  rw[HS]
  unfold rQ
  by_cases hi:i<b.length
  ·refine bT (by simpa using hi) ?_
   refine bT (by simpa using hi) ?_
   obtain ⟨e1,e2⟩:=rK hb hi h3
   have h4:=kO h3 (hb b[i] (List.getElem_mem hi)).2
   have h5:=nF h4
   rw[Ij hb hi h3,e1]
   refine (ab ?_ _ _).trans ?_
   ·rw[nR h4];simp;omega
   rw[yL h4]
   refine (ab ?_ _ _).trans ?_
   ·rw[nR h5];simp;omega
   rw[yL h5,bm hi hl]
   exact ih (i+1) _ (by omega) (by omega) e2
  ·refine bF (by simp;omega) ?_
   rw[zI (by omega)]
   unfold ie
   rw[zG]
   rfl
def wc (a0:Int)(a1:LI):Option lU.Res:=(mF ((rH u32 a0,(a1,((↑a1.length:Int),(0,())))),())).run fun y=>match y with | .ret ((),((x11,()),()))=>(oR ((rH u32 x11,()),()))
theorem JJ (a0:Int)(a1:LI):Io.run tt FN dr vo lU Tryz.f89 ((a0,a1,()),())=wc a0 a1:=by kernel_rfl
theorem K3:HcOk prog 89 (ah lU EF):=by
 refine bL (cs:=zr) HcsOk.nil (lp:=vo) (fn:=Tryz.f89) lU (.step (h0:=aI eo mF) (by kernel_rfl) (jy (cs:=zr) HcsOk.nil (lp:=vo) (fn:=Tryz.f89) (.done (by kernel_rfl)) eo mF ?_) (.done (by kernel_rfl))) EF ?_
 ·rintro ⟨⟨(s:Int),(b:LI),(m:Int),(i:Int),⟨⟩⟩,⟨⟩⟩ y hw hy
  obtain ⟨hg,hy⟩:=Tr.guard hy
  simp only[zA,zB] at hg
  obtain ⟨rfl,rfl⟩:=hg
  obtain ⟨n,rfl,hn⟩:=nO hw.1.1
  refine ⟨b.length+1,(zY (uH hw.1.2.1) hw.1.2.1.1 (b.length+1) 0 n (show b.length<0+(b.length+1) by omega) (Nat.zero_le _) hn).trans ?_⟩
  rw[← hy];rfl
 ·rintro ⟨⟨(c:Int),(b:LI),⟨⟩⟩,⟨⟩⟩ out hw ho
  cases ho
  refine (JJ c b).trans ?_
  obtain ⟨n,rfl,hn⟩:=nO hw.1.1
  unfold wc mF
  refine bT (by simp) ?_
  show oR ((rH .u32 (ie b (rH .u32 (n:Int))),()),())=oR ((cy (n:Int) b,()),())
  have h1:=Nat.xor_lt_two_pow (n:=32) hn (show 4294967295<2 ^ 32 by decide)
  have h2:=pK (uH hw.1.2.1) h1
  rw[CI hn]
  unfold ie cy
  rw[zG,zG,CI h2]
def oC:List (LI)→Int→Int
 |[],c=>c
 |p::ps,c=>oC ps (cy c p)
abbrev gQ:Io:=⟨[.dat (.sl 22 bs) false false],[],[],[wT],none⟩
def uj (d:gQ.In):Tr gQ.Res:=.ret (.ret ((oC d.1.1 0,()),()))
abbrev Bu:List (Nat×Hc):=[(89,ah lU EF)]
def BZ:Hd:=bt Bu
abbrev dg:Lo:=⟨⟨(.any::bz (.one (.hol (.int u32))::bz (.one (.hol (.sl 22 (Ty.sl 5 (Ty.int u8))))::.one hI::.one hI::dC []))),[]⟩,[(.exit 0,⟨(.any::bz (.one (.hol (.int u32))::.any::dC (cj []))),[]⟩)]⟩
def jY (d:dg.st.den):Tr (ao dg.xs):=.ite (decide (d.1.2.2.2.1=0)&&decide (d.1.2.2.1=(d.1.2.1.length:Int))) (.ret (.ret ((),((oC d.1.2.1 d.1.1,()),())))) .no
def pV:Lp:=bG [(4,aI dg jY)]
def pg {R:Type}(h1:Int)(h2:List bs.den)(h3 h4:Int)(next:Int→List bs.den→Int→Int→Option R)(out:ao dg.xs→Option R):Option R:=bif decide (h4<h3) then bif decide (0≤h4)&&decide (h4<(↑h2.length:Int)) then next (cy h1 (h2.getD h4.toNat [])) (h2) (h3) (i64.wrap (h4+1)) else none else out (.ret ((),((h1,()),())))
def od (n:Nat)(h1:Int)(h2:List bs.den)(h3 h4:Int):Option (ao dg.xs):=iI tt BZ dr pV 0 Tryz.f54 (cR Tryz.f54 0) n (dg.st.mk' ((h1,(h2,(h3,(h4,())))),())) (bS dg.xs)
theorem Ek (n:Nat)(h1:Int)(h2:List bs.den)(h3 h4:Int):od (n+1) h1 h2 h3 h4=pg h1 h2 h3 h4 (od n) some:=by kernel_rfl
theorem xu (ps:List (LI))(hl:ps.length≤maxLen):∀(k i:Nat) (c:Int),ps.length<i+k→i≤ps.length→od k c ps (ps.length:Int) i=some (.ret ((),((oC (ps.drop i) c,()),()))):=by
 intro k
 induction k with
 |zero=>intro i c h;omega
 |succ k ih=>
  intro i c h1 h2
  rw[Ek]
  unfold pg
  by_cases hi:i<ps.length
  ·refine bT (by simpa using hi) ?_
   refine bT (by simpa using hi) ?_
   have e:List.getD ps (i:Int).toNat []=ps[i]:=by simp only[zG,aE hi]
   rw[e,bm hi hl,zE hi]
   exact ih (i+1) _ (by omega) (by omega)
  ·refine bF (by simp;omega) ?_
   rw[zI (by omega)]
   rfl
def sH (a0:List bs.den):Option gQ.Res:=(jY ((0,(a0,((↑a0.length:Int),(0,())))),())).run fun y=>match y with | .ret ((),((x10,()),()))=>(oR ((x10,()),()))
theorem Hj (a0:List bs.den):Io.run tt BZ dr pV gQ Tryz.f54 ((a0,()),())=sH a0:=by kernel_rfl
theorem tv:HcsOk prog Bu:=.cons K3 .nil
theorem CN:HcOk prog 54 (ah gQ uj):=by
 refine bL tv (lp:=pV) (fn:=Tryz.f54) gQ (.step (h0:=aI dg jY) (by kernel_rfl) (jy tv (lp:=pV) (fn:=Tryz.f54) (.done (by kernel_rfl)) dg jY ?_) (.done (by kernel_rfl))) uj ?_
 ·rintro ⟨⟨(c:Int),(ps:List (LI)),(m:Int),(i:Int),⟨⟩⟩,⟨⟩⟩ y hw hy
  obtain ⟨hg,hy⟩:=Tr.guard hy
  simp only[zA,zB] at hg
  obtain ⟨rfl,rfl⟩:=hg
  refine ⟨ps.length+1,(xu ps hw.1.2.1.1 (ps.length+1) 0 c (by omega) (by omega)).trans ?_⟩
  rw[← hy];rfl
 ·rintro ⟨⟨(ps:List (LI)),⟨⟩⟩,⟨⟩⟩ out hw ho
  cases ho
  refine (Hj ps).trans ?_
  unfold sH jY
  refine bT (by simp) ?_
  rfl
end
end Go.Proofs.YtcbcbjdobbgddaaGreatDoor.Sym
