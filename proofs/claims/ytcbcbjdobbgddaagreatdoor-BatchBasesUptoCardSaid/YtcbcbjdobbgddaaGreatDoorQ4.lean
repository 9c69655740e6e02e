/- vint.read. -/
import Derived.Test.YtcbcbjdobbgddaaGreatDoorRows
import Derived.WalkKit
import Derived.ProofKit
import Derived.OpenShut
import Derived.JoinedCond
import Derived.ChangeStays
import Derived.DataReads
import Derived.Test.YtcbcbjdobbgddaaGreatDoorQ3

set_option linter.unusedVariables false
set_option linter.unusedSimpArgs false
namespace Go.Proofs.YtcbcbjdobbgddaaGreatDoor.Sym
open Go
open Go.IntKind (i8 i16 i32 i64 u8 u16 u32 u64)
noncomputable section
theorem AB:∀l:LI,0≤cw l∧cw l<128 ^ l.length
 |[]=>by simp[cw]
 |c::l=>by
  have:=AB l
  simp only[cw,zN,Int.pow_succ]
  omega
def oz (m t:Int):Bool:=(decide (m=10)&&decide (t=1)) || (decide (m=5)&&decide (t=15))
abbrev jK:Io:=⟨[dL,dI,dI,dU],[],[],[dV,dI,dI],none⟩
def AT (d:jK.In):Tr jK.Res:=
 .ite (oz d.1.2.2.1 d.1.2.2.2.1) (.ret (.ret (((ab d.1.2.2.1.toNat d.1.2.2.2.1 d.1.1 d.1.2.1).1,(ab d.1.2.2.1.toNat d.1.2.2.2.1 d.1.1 d.1.2.1).2.1,(ab d.1.2.2.1.toNat d.1.2.2.2.1 d.1.1 d.1.2.1).2.2,()),()))) .no
abbrev wc:List (Nat×Hc):=[]
def DB:Hd:=br wc
abbrev dx:Lo:=⟨⟨(.any::.one hI::.one hI::.one (.hol (.int u8))::.any::bO (bt (.one (.hol (.int u64))::dC (bO (.one (.hol (.sl 5 (Ty.int u8)))::.one hI::.one hI::.any::aj (aj (bt []))))))),[]⟩,[(.ret,⟨(dC (.one (.hol (.int u64))::.one hI::.one hI::.any::aj (aj (aj (bt []))))),[]⟩),(.exit 0,⟨(aj (aj (aj (dC (bO (bt [])))))),[]⟩)]⟩
def kC (d:dx.st.den):Tr (ao dx.xs):=
 .ite (oz d.1.2.1 d.1.2.2.1&&(decide (d.1.2.2.2.1=(0:Int))&&(decide (d.1.2.2.2.2.2.2.1=(0:Int))&&(decide ((d.1.2.2.2.2.1.length:Int)=d.1.2.2.2.2.2.1)&&(decide ((0:Int)≤d.1.1)&&decide ((d.1.1:Int)+(d.1.2.2.2.2.1.length:Int)≤9223372036854775807))))))
  (.ite (decide ((bn d.1.2.1.toNat d.1.2.2.1 d.1.2.2.2.2.1 0).2=0))
   (.ret (.ret ((),((cw (d.1.2.2.2.2.1.take ((bn d.1.2.1.toNat d.1.2.2.1 d.1.2.2.2.2.1 0).1+1).toNat) % 18446744073709551616,(d.1.1+(bn d.1.2.1.toNat d.1.2.2.1 d.1.2.2.2.2.1 0).1+1,(0,()))),()))))
   (.ite (decide ((bn d.1.2.1.toNat d.1.2.2.1 d.1.2.2.2.2.1 0).2=1)) (.ret (.pan (.ret ((),((),())))))
    (.ret (.ret ((),((0,(0,((bn d.1.2.1.toNat d.1.2.2.1 d.1.2.2.2.2.1 0).2,()))),())))))) .no
def qP:Lp:=bA [(6,aD dx kC)]
def qe {R:Type}(h4 h5 h6 h7:Int)(h8:LI)(h9 h10:Int)(next:Int→Int→Int→Int→LI→Int→Int→Option R)(out:ao dx.xs→Option R):Option R:=bif decide (h10<h9) then bif decide (0≤h10)&&decide (h10<(↑h8.length:Int)) then bif h10 == i64.wrap (h5 - 1) then bif decide (h6<h8.getD h10.toNat 0) then out (.ret ((),((0,(0,(21,()))),()))) else bif decide (0≤i64.wrap (7*h10)) then bif decide (128≤h8.getD h10.toNat 0) then next (h4) (h5) (h6) (jr u64 h7 (eD u64 (u64.wrap (dG u8 (h8.getD h10.toNat 0) 127)) (i64.wrap (7*h10)))) (h8) (h9) (i64.wrap (h10+1)) else bif h8.getD h10.toNat 0 == 0 then bif decide (0<h10) then out (.ret ((),((0,(0,(20,()))),()))) else out (.ret ((),((jr u64 h7 (eD u64 (u64.wrap (dG u8 (h8.getD h10.toNat 0) 127)) (i64.wrap (7*h10))),(i64.wrap (i64.wrap (h4+h10)+1),(0,()))),()))) else out (.ret ((),((jr u64 h7 (eD u64 (u64.wrap (dG u8 (h8.getD h10.toNat 0) 127)) (i64.wrap (7*h10))),(i64.wrap (i64.wrap (h4+h10)+1),(0,()))),()))) else none else bif decide (0≤i64.wrap (7*h10)) then bif decide (128≤h8.getD h10.toNat 0) then next (h4) (h5) (h6) (jr u64 h7 (eD u64 (u64.wrap (dG u8 (h8.getD h10.toNat 0) 127)) (i64.wrap (7*h10)))) (h8) (h9) (i64.wrap (h10+1)) else bif h8.getD h10.toNat 0 == 0 then bif decide (0<h10) then out (.ret ((),((0,(0,(20,()))),()))) else out (.ret ((),((jr u64 h7 (eD u64 (u64.wrap (dG u8 (h8.getD h10.toNat 0) 127)) (i64.wrap (7*h10))),(i64.wrap (i64.wrap (h4+h10)+1),(0,()))),()))) else out (.ret ((),((jr u64 h7 (eD u64 (u64.wrap (dG u8 (h8.getD h10.toNat 0) 127)) (i64.wrap (7*h10))),(i64.wrap (i64.wrap (h4+h10)+1),(0,()))),()))) else none else none else out (.pan (.ret ((),((),()))))
def pe (n:Nat)(h4 h5 h6 h7:Int)(h8:LI)(h9 h10:Int):Option (ao dx.xs):=ik tt DB dr qP 0 Tryz.f101 (cb Tryz.f101 0) n (dx.st.mk' ((h4,(h5,(h6,(h7,(h8,(h9,(h10,()))))))),())) (bG dx.xs)
theorem F1 (n:Nat)(h4 h5 h6 h7:Int)(h8:LI)(h9 h10:Int):pe (n+1) h4 h5 h6 h7 h8 h9 h10=qe h4 h5 h6 h7 h8 h9 h10 (pe n) some:=by kernel_rfl
theorem Fg (p m:Nat)(t:Int)(l:LI)(hf:oz m t=true)(hp:(p:Int)+l.length≤9223372036854775807)(hc:∀c∈l,0≤c∧c≤255):∀(k i:Nat),i<m→m<i+k→i≤l.length→
  pe k p m t (cw (l.take i)) l l.length i=
   if (bn m t (l.drop i) i).2=0 then some (.ret ((),((cw (l.take ((bn m t (l.drop i) i).1+1).toNat) % 18446744073709551616,(p+(bn m t (l.drop i) i).1+1,(0,()))),())))
   else if (bn m t (l.drop i) i).2=1 then some (.pan (.ret ((),((),())))) else some (.ret ((),((0,(0,((bn m t (l.drop i) i).2,()))),()))):=by
 have hm:(m=10∧t=1)∨(m=5∧t=15):=by
  simp only[oz,Bool.or_eq_true,zA,zB] at hf
  omega
 intro k
 induction k with
 |zero=>intro i h1 h2;omega
 |succ k ih=>
  intro i h1 h2 h3
  rw[F1]
  unfold qe
  by_cases hl:i<l.length
  ·have hcc:=hc l[i] (List.getElem_mem hl)
   have e3:i64.wrap ((m:Int) - 1)=(m:Int) - 1:=af (by omega) (by omega)
   have e4:i64.wrap ((i:Int)+1)=((i+1:Nat):Int):=by rw[af] <;> omega
   have e5:i64.wrap (7*(i:Int))=((7*i:Nat):Int):=by rw[af] <;> omega
   have e6:i64.wrap ((p:Int)+i)=((p+i:Nat):Int):=by rw[af] <;> omega
   have e7:i64.wrap (((p+i:Nat):Int)+1)=(p:Int)+i+1:=by rw[af] <;> omega
   rw[aa (by simpa using hl),aa (by simpa using hl)]
   simp only[zG,aF hl,e3,e4,e5,e6,e7]
   rw[Kw hcc.1 hcc.2,dm (n:=l[i] % 128) (by omega) (by omega),zE hl]
   have hsn:l.take (i+1)=l.take i++[l[i]]:=List.take_succ_eq_append_getElem hl
   have hv:=AB (l.take i)
   have hti:(l.take i).length=i:=by simp;omega
   rw[hti] at hv
   have e8:(128:Int) ^ i=2 ^ (7*i):=by rw[Int.pow_mul];rfl
   have hor:l[i] % 128*2 ^ (7*i)<18446744073709551616→jr .u64 (cw (l.take i)) (eD .u64 (l[i] % 128) ((7*i:Nat):Int))=cw (l.take (i+1)):=by
    intro h
    rw[NK hv.1 (by rw[← e8];exact hv.2) (by omega) h (by omega),hsn,np,hti,e8,Int.mul_comm]
   generalize hg:jr .u64 (cw (l.take i)) (eD .u64 (l[i] % 128) ((7*i:Nat):Int))=v at hor ⊢
   have e9:(2:Int) ^ (7*i)=((2 ^ (7*i):Nat):Int):=by rw[Int.natCast_pow];rfl
   have hbd:(i≤8∨l[i] % 128≤1)→l[i] % 128*2 ^ (7*i)<18446744073709551616:=by
    intro h
    rw[e9]
    rcases h with h | h
    ·have h8:2 ^ (7*i)≤2 ^ 56:=Nat.pow_le_pow_right (by decide) (by omega)
     have h9:l[i] % 128*((2 ^ (7*i):Nat):Int)≤127*((2 ^ (7*i):Nat):Int):=Int.mul_le_mul_of_nonneg_right (by omega) (by omega)
     generalize 2 ^ (7*i)=w at h8 h9
     omega
    ·have h8:2 ^ (7*i)≤2 ^ 63:=Nat.pow_le_pow_right (by decide) (by omega)
     have h9:l[i] % 128*((2 ^ (7*i):Nat):Int)≤1*((2 ^ (7*i):Nat):Int):=Int.mul_le_mul_of_nonneg_right h (by omega)
     generalize 2 ^ (7*i)=w at h8 h9
     omega
   have hnext:=fun h=>ih (i+1) h (by omega) (by omega)
   have ei:((i:Int)+1).toNat=i+1:=by omega
   have hvr:bi .u64 v:=by rw[← hg];exact bQ _ _
   have hvr:=qI.1 hvr
   clear hg
   by_cases hm1:i+1=m
   ·have h3':((i:Int) == (m:Int) - 1)=true:=by simp;omega
    rw[aa h3']
    by_cases h4:t<l[i]
    ·simp[bn,hm1,h4]
    ·have hv2:=hor (hbd (by omega))
     have hmod:cw (l.take (i+1)) % 18446744073709551616=cw (l.take (i+1)):=by rw[← hv2];omega
     have hmod':=hmod
     rw[hm1] at hmod'
     have h5:l[i]<128:=by omega
     have h6:¬ 128≤l[i]:=by omega
     rw[ac (by simpa using h4),aa (by simp;omega),ac (by simpa using h6),hv2]
     by_cases h7:l[i]=0
     ·have h4':¬ t<0:=by omega
      by_cases h8:0<i <;> simp[bn,hm1,h4',h7,h8,cond_eq_ite,ei,hmod']
     ·simp[bn,hm1,h4,h5,h7,cond_eq_ite,ei,hmod']
   ·have h3':((i:Int) == (m:Int) - 1)=false:=by simp;omega
    have hv2:=hor (hbd (by omega))
    have hmod:cw (l.take (i+1)) % 18446744073709551616=cw (l.take (i+1)):=by rw[← hv2];omega
    rw[ac h3',aa (by simp;omega),hv2]
    by_cases h5:l[i]<128
    ·have h6:¬ 128≤l[i]:=by omega
     rw[ac (by simpa using h6)]
     by_cases h7:l[i]=0
     ·by_cases h8:0<i <;> simp[bn,hm1,h7,h8,cond_eq_ite,ei,hmod]
     ·simp[bn,hm1,h5,h7,cond_eq_ite,ei,hmod]
    ·rw[aa (by simp;omega),hnext (by omega)]
     simp[bn,hm1,h5]
  ·rw[ac (by simpa using hl),zI (by omega)]
   simp[bn]
def t9 (a0:LI)(a1 a2 a3:Int):Option jK.Res:=bif decide (a1<0) then oR ((0,0,3,()),()) else bif decide ((↑a0.length:Int)<a1) then oR ((0,0,3,()),()) else bif decide (0≤a1)&&(decide (a1≤(↑a0.length:Int))&&decide ((↑a0.length:Int)≤(↑a0.length:Int))) then (kC ((a1,(a2,(a3,(0,(List.drop a1.toNat (List.take (↑a0.length:Int).toNat a0),((↑(List.drop a1.toNat (List.take (↑a0.length:Int).toNat a0)).length:Int),(0,()))))))),())).run fun y=>match y with | .ret ((),((x46,x47,x48,()),()))=>(oR ((x46,x47,x48,()),())) | .pan (.ret ((),((),())))=>(oR ((0,0,1,()),())) else none
theorem Jl (a0:LI)(a1 a2 a3:Int):Io.run tt DB dr qP jK Tryz.f101 ((a0,a1,a2,a3,()),())=t9 a0 a1 a2 a3:=by kernel_rfl
theorem Er:HcOk prog 101 (ah jK AT):=by
 refine bK (cs:=wc) .nil (lp:=qP) (fn:=Tryz.f101) jK
  (.step (h0:=aD dx kC) (by kernel_rfl) (iK (cs:=wc) .nil (lp:=qP) (fn:=Tryz.f101) (.done (by kernel_rfl)) dx kC ?_) (.done (by kernel_rfl))) AT ?_
 ·rintro ⟨⟨(p:Int),(m:Int),(t:Int),(u:Int),(l:LI),(n:Int),(i:Int),⟨⟩⟩,⟨⟩⟩ y hw hy
  obtain ⟨hg,hy⟩:=Tr.guard hy
  simp only[zA,zB] at hg
  obtain ⟨hf,rfl,rfl,rfl,h1,h2⟩:=hg
  have h1:(0:Int)≤p:=h1
  have h2:p+(l.length:Int)≤9223372036854775807:=h2
  have hm0:5≤m∧m≤10:=by
   simp only[oz,Bool.or_eq_true,zA,zB] at hf
   omega
  obtain ⟨p,rfl⟩:=aq h1
  obtain ⟨m,rfl⟩:=aq (show 0≤m by omega)
  have hc:∀c∈l,0≤c∧c≤255:=fun c hc=>H0.1 (hw.1.2.2.2.2.1.2 c hc)
  refine ⟨m+1,(Fg p m t l hf h2 hc (m+1) 0 (by omega) (by omega) (by omega)).trans ?_⟩
  rw[← hy]
  simp only[Tr.val_ite,Tr.val_ret,zG,zB,List.drop_zero]
 ·rintro ⟨⟨(b:LI),(p:Int),(m:Int),(t:Int),⟨⟩⟩,⟨⟩⟩ out hw ho
  obtain ⟨hf,ho⟩:=Tr.guard ho
  cases ho
  refine (Jl b p m t).trans ?_
  have hb:b.length≤maxLen:=hw.1.1.1
  rw[aB] at hb
  have hf:oz m t=true:=hf
  have hm0:5≤m∧m≤10:=by
   simp only[oz,Bool.or_eq_true,zA,zB] at hf
   omega
  unfold t9
  show _=oR (((ab m.toNat t b p).1,(ab m.toNat t b p).2.1,(ab m.toNat t b p).2.2,()),())
  unfold ab
  by_cases h1:p<0
  ·rw[aa (by simpa using h1),if_pos (.inl h1)]
  ·by_cases h2:(b.length:Int)<p
   ·rw[ac (by simpa using h1),aa (by simpa using h2),if_pos (.inr h2)]
   ·rw[ac (by simpa using h1),ac (by simpa using h2),aa (by simp;omega),if_neg (by omega),show (b.length:Int).toNat=b.length by omega,List.take_length]
    have hlen:((b.drop p.toNat).length:Int)=b.length - p:=by simp;omega
    have hr:=oD m.toNat t (b.drop p.toNat) 0
    unfold kC
    generalize b.drop p.toNat=l at hlen hr ⊢
    generalize bn m.toNat t l 0=r at hr ⊢
    obtain ⟨r1,r2⟩:=r
    have h9:(0:Int)≤p:=by omega
    have h8:p+(l.length:Int)≤9223372036854775807:=by omega
    simp only[Tr.run_ite,Tr.run_ret,zA,zB]
    rw[if_pos ⟨hf,trivial,trivial,trivial,h9,h8⟩]
    by_cases h3:r2=0
    ·simp[h3]
    ·by_cases h4:r2=1
     ·simp[h4]
     ·simp[h3,h4]
abbrev kQ:Io:=⟨[dL,dI],[],[],[N5,dI,dI],none⟩
def CB (d:kQ.In):Tr kQ.Res:=.ret (.ret ((ak (ab 10 1 d.1.1 d.1.2.1).1,(ab 10 1 d.1.1 d.1.2.1).2.1,(ab 10 1 d.1.1 d.1.2.1).2.2,()),()))
abbrev Br:List (Nat×Hc):=[(101,ah jK AT),(102,ah mP GB)]
def M3:Hd:=br Br
def Ie:Lp:=bA []
def rF (a0:LI)(a1:Int):Option kQ.Res:=oR ((ak (ab (Int.toNat 10) 1 a0 a1).1,(ab (Int.toNat 10) 1 a0 a1).2.1,(ab (Int.toNat 10) 1 a0 a1).2.2,()),())
theorem L3 (a0:LI)(a1:Int):Io.run tt M3 dr Ie kQ Tryz.f99 ((a0,a1,()),())=rF a0 a1:=by kernel_rfl
theorem IQ:HcOk prog 99 (ah kQ CB):=by
 refine bK (cs:=Br) (.cons Er (.cons IS .nil)) (lp:=Ie) (fn:=Tryz.f99) kQ (.done (by kernel_rfl)) CB ?_
 rintro ⟨⟨(b:LI),(p:Int),⟨⟩⟩,⟨⟩⟩ out hw ho
 cases ho
 refine (L3 b p).trans ?_
 first | rfl | (unfold rF;simp[oz];done) | (unfold rF;rfl)
abbrev fL:Io:=⟨[dL,dI],[],[],[OY,dI,dI],none⟩
def qv (d:fL.In):Tr fL.Res:=.ret (.ret ((IntKind.wrap .i32 (ak (ab 5 15 d.1.1 d.1.2.1).1),(ab 5 15 d.1.1 d.1.2.1).2.1,(ab 5 15 d.1.1 d.1.2.1).2.2,()),()))
abbrev ym:List (Nat×Hc):=Br
def HO:Hd:=br ym
def zo:Lp:=bA []
def mA (a0:LI)(a1:Int):Option fL.Res:=oR ((i32.wrap (ak (ab (Int.toNat 5) 15 a0 a1).1),(ab (Int.toNat 5) 15 a0 a1).2.1,(ab (Int.toNat 5) 15 a0 a1).2.2,()),())
theorem FI (a0:LI)(a1:Int):Io.run tt HO dr zo fL Tryz.f72 ((a0,a1,()),())=mA a0 a1:=by kernel_rfl
theorem zP:HcOk prog 72 (ah fL qv):=by
 refine bK (cs:=ym) (.cons Er (.cons IS .nil)) (lp:=zo) (fn:=Tryz.f72) fL (.done (by kernel_rfl)) qv ?_
 rintro ⟨⟨(b:LI),(p:Int),⟨⟩⟩,⟨⟩⟩ out hw ho
 cases ho
 refine (FI b p).trans ?_
 first | rfl | (unfold mA;simp[oz];done) | (unfold mA;rfl)
theorem LR:∀c:Nat,c<256→jr .u8 (c:Int) 128=(c:Int) % 128+128:=by decide +kernel
theorem NJ {u:Int}:jr .u8 (IntKind.wrap .u8 u) 128=u % 128+128:=by
 have e:IntKind.wrap .u8 u=((u % 256).toNat:Int):=by simp[IntKind.wrap,IntKind.signed,IntKind.bits];omega
 rw[e,LR _ (by omega)]
 omega
abbrev Po:Sh:=.dat (.sl 2 (.int .i64)) false false
abbrev ew:Io:=⟨[Po],[],[],[dO],none⟩
def dK (vs:LI):LI:=vs.flatMap fun v=>b7 (bd v)
def nA (d:ew.In):Tr ew.Res:=.ite (decide (d.1.1.length≤100000000)) (.ret (.ret ((dK d.1.1,()),()))) .no
abbrev uB:List (Nat×Hc):=[(147,ah mQ GC)]
def o6:Hd:=br uB
abbrev cg:Lo:=⟨⟨(.any::bt (.one (.onl 5 (Ty.int u8) 7)::bt (.one (.hol (.int u64))::.any::.one (.hol (.sl 2 (Ty.int i64)))::.one hI::.one hI::aj (bO (bt []))))),[]⟩,[(.exit 2,⟨(.any::bt (.one (.onl 5 (Ty.int u8) 7)::bt (.one (.hol (.int u64))::.any::.one (.hol (.sl 2 (Ty.int i64)))::.one hI::.one hI::aj (bO (bt []))))),[]⟩)]⟩
abbrev cf:Lo:=⟨⟨(.any::bt (.one (.onl 5 (Ty.int u8) 7)::bO (.one (.hol (.sl 2 (Ty.int i64)))::.one hI::.one hI::aj (bO (bt []))))),[]⟩,[(.exit 0,⟨(.any::bt (.one (.onl 5 (Ty.int u8) 7)::.any::aj (dC (bO [])))),[]⟩)]⟩
def gv (d:cg.st.den):Tr (ao cg.xs):=
 .ite (decide (d.1.1.length≤4294967000)) (.ret (.ret ((),((d.1.1++qu 10 d.1.2.1,(py 10 d.1.2.1,(d.1.2.2.1,(d.1.2.2.2.1,(d.1.2.2.2.2.1,()))))),())))) .no
def gu (d:cf.st.den):Tr (ao cf.xs):=
 .ite (decide (d.1.1.length=0)&&(decide ((d.1.2.1.length:Int)=d.1.2.2.1)&&(decide (d.1.2.2.2.1=(0:Int))&&decide (d.1.2.1.length≤100000000)))) (.ret (.ret ((),((dK d.1.2.1,()),())))) .no
def gn:Lp:=bA [(4,aD cf gu),(7,aD cg gv)]
def i0 {R:Type}(h5:LI)(h6:Int)(h7:LI)(h8 h9:Int)(next:LI→Int→LI→Int→Int→Option R)(out:ao cg.xs→Option R):Option R:=bif decide (128≤h6) then bif decide (h5.length+[jr u8 (u8.wrap h6) 128].length≤4294967296) then next (h5++[jr u8 (u8.wrap h6) 128]) (dH u64 h6 7) (h7) (h8) (h9) else none else out (.ret ((),((h5,(h6,(h7,(h8,(h9,()))))),())))
def kV (n:Nat)(h5:LI)(h6:Int)(h7:LI)(h8 h9:Int):Option (ao cg.xs):=ik tt o6 dr gn 0 Tryz.f127 (OE Tryz.f127 (cb Tryz.f127 0) 0) n (cg.st.mk' ((h5,(h6,(h7,(h8,(h9,()))))),())) (bG cg.xs)
theorem p4 (n:Nat)(h5:LI)(h6:Int)(h7:LI)(h8 h9:Int):kV (n+1) h5 h6 h7 h8 h9=i0 h5 h6 h7 h8 h9 (kV n) some:=by kernel_rfl
def mr {R:Type}(h1 h2:LI)(h3 h4:Int)(next:LI→LI→Int→Int→Option R)(out:ao cf.xs→Option R):Option R:=bif decide (h4<h3) then bif decide (0≤h4)&&decide (h4<(↑h2.length:Int)) then (gv ((h1,(bd (h2.getD h4.toNat 0),(h2,(h3,(h4,()))))),())).run fun y=>match y with | .ret ((),((x20,x21,x22,x23,x24,()),()))=>(bif decide (x20.length+[u8.wrap x21].length≤4294967296) then next (x20++[u8.wrap x21]) (x22) (x23) (i64.wrap (x24+1)) else none) else none else out (.ret ((),((h1,()),())))
def kU (n:Nat)(h1 h2:LI)(h3 h4:Int):Option (ao cf.xs):=ik tt o6 dr gn 0 Tryz.f127 (cb Tryz.f127 0) n (cf.st.mk' ((h1,(h2,(h3,(h4,())))),())) (bG cf.xs)
theorem Ah (n:Nat)(h1 h2:LI)(h3 h4:Int):kU (n+1) h1 h2 h3 h4=mr h1 h2 h3 h4 (kU n) some:=by kernel_rfl
theorem tw (l:LI)(a i:Int):∀(n k:Nat) (u:Int) (o:LI),0≤u→u<128 ^ n→u<18446744073709551616→n<k→o.length+n≤4294967296→
  kV k o u l a i=some (.ret ((),((o++qu n u,(py n u,(l,(a,(i,()))))),()))):=by
 intro n
 induction n with
 |zero=>
  intro k u o h0 h1 h2 h3 h4
  obtain ⟨k,rfl⟩:∃m,k=m+1:=⟨k - 1,by omega⟩
  rw[p4]
  unfold i0
  have:¬ 128≤u:=by simp at h1;omega
  simp[this,py,qu]
 |succ n ih=>
  intro k u o h0 h1 h2 h3 h4
  obtain ⟨k,rfl⟩:∃m,k=m+1:=⟨k - 1,by omega⟩
  rw[p4]
  unfold i0
  have e1:dH .u64 u 7=u / 128:=by
   show IntKind.wrap .u64 (u.fdiv (2 ^ 7))=_
   rw[Int.fdiv_eq_ediv_of_nonneg _ (by decide),dm] <;> omega
  rw[NJ,e1]
  by_cases h:127<u
  ·rw[ih k (u / 128) _ (by omega) (by rw[Int.pow_succ] at h1;exact Int.ediv_lt_of_lt_mul (by omega) h1) (by omega) (by omega) (by simp;omega)]
   have h5:o.length+1≤4294967296:=by omega
   have h6:128≤u:=by omega
   simp[h,h5,h6,py,qu]
  ·have h6:¬ 128≤u:=by omega
   simp[h,h6,py,qu]
theorem As:∀(n:Nat) (u:Int),(qu n u).length≤n:=by
 intro n
 induction n with
 |zero=>intro u;simp[qu]
 |succ n ih=>intro u;simp only[qu];split;have:=ih (u / 128);simp;omega;simp
theorem AC {v:Int}(hr:bi .i64 v):0≤bd v∧bd v<18446744073709551616:=by
 have hr:=DI.1 hr
 unfold bd;split <;> omega
theorem Aq (v:Int)(l:LI):dK (v::l)=qu 10 (bd v)++(py 10 (bd v)::dK l):=by simp[dK,b7]
theorem tv (vs:LI)(hl:vs.length≤100000000)(hr:∀v∈vs,bi .i64 v):∀(k:Nat) (o:LI) (i:Nat),i≤vs.length→vs.length<i+k→o.length≤11*i→
  kU k o vs vs.length i=some (.ret ((),((o++dK (vs.drop i),()),()))):=by
 intro k
 induction k with
 |zero=>intro o i h1 h2;omega
 |succ k ih=>
  intro o i h1 h2 h3
  rw[Ah]
  unfold mr
  by_cases hi:i<vs.length
  ·have hz:=AC (hr vs[i] (List.getElem_mem hi))
   obtain ⟨l1,l2⟩:=EK 10 (bd vs[i]) hz.1 (by have:=hz.2;omega)
   have h4:=As 10 (bd vs[i])
   have h5:o.length≤4294967000:=by omega
   have h6:o.length+(qu 10 (bd vs[i])).length+1≤4294967296:=by omega
   have e4:i64.wrap ((i:Int)+1)=((i+1:Nat):Int):=by rw[af] <;> omega
   rw[aa (by simpa using hi),aa (by simpa using hi),zE hi]
   simp only[zG,aF hi,gv,Tr.run_ite,Tr.run_ret,h5,decide_true,if_true,e4]
   rw[aa (by simp;omega),tl (n:=py 10 (bd vs[i])) l1 (by omega),ih _ (i+1) hi (by omega) (by simp;omega)]
   rw[Aq]
   simp
  ·rw[zI (by omega)]
   simp[hi,dK]
def pJ (a0:LI):Option ew.Res:=(gu (([],(a0,((↑a0.length:Int),(0,())))),())).run fun y=>match y with | .ret ((),((x30,()),()))=>(oR ((x30,()),()))
theorem B3 (a0:LI):Io.run tt o6 dr gn ew Tryz.f127 ((a0,()),())=pJ a0:=by kernel_rfl
theorem kN:HcsOk prog uB:=.cons Nx .nil
theorem vi:HcOk prog 127 (ah ew nA):=by
 refine bK kN (lp:=gn) (fn:=Tryz.f127) ew
  (.step (h0:=aD cf gu) (by kernel_rfl) (iK kN (lp:=gn) (fn:=Tryz.f127)
   (.step (h0:=aD cg gv) (by kernel_rfl) (iK kN (lp:=gn) (fn:=Tryz.f127) (.done (by kernel_rfl)) cg gv ?_) (.done (by kernel_rfl)))
   cf gu ?_) (.done (by kernel_rfl))) nA ?_
 ·rintro ⟨⟨(o:LI),(u:Int),(l:LI),(a:Int),(i:Int),⟨⟩⟩,⟨⟩⟩ y hw hy
  obtain ⟨hg,hy⟩:=Tr.guard hy
  have hg:o.length≤4294967000:=by simpa using hg
  have hr:=qI.1 (show bi .u64 u from hw.1.2.1)
  refine ⟨11,(tw l a i 10 11 u o hr.1 (by omega) (by omega) (by omega) (by omega)).trans ?_⟩
  rw[← hy];rfl
 ·rintro ⟨⟨(o:LI),(l:LI),(a:Int),(i:Int),⟨⟩⟩,⟨⟩⟩ y hw hy
  obtain ⟨hg,hy⟩:=Tr.guard hy
  simp only[zA,zB] at hg
  obtain ⟨h1,rfl,rfl,h2⟩:=hg
  have h1:o=[]:=List.length_eq_zero_iff.1 h1
  subst h1
  have h2:l.length≤100000000:=h2
  refine ⟨l.length+1,(tv l h2 (fun v hv=>hw.1.2.1.2 v hv) (l.length+1) [] 0 (by omega) (by omega) (by simp)).trans ?_⟩
  rw[← hy];rfl
 ·rintro ⟨⟨(l:LI),⟨⟩⟩,⟨⟩⟩ out hw ho
  obtain ⟨hg,ho⟩:=Tr.guard ho
  cases ho
  refine (B3 l).trans ?_
  have hg:l.length≤100000000:=by simpa using hg
  unfold pJ gu
  simp[Tr.run_ite,Tr.run_ret,hg]
abbrev jI:Io:=⟨[N5],[],[],[dO],none⟩
def xx (d:jI.In):Tr jI.Res:=.ret (.ret ((b7 (bd d.1.1),()),()))
abbrev G8:List (Nat×Hc):=[(127,ah ew nA)]
def M5:Hd:=br G8
def Ig:Lp:=bA []
def xK (a0:Int):Option jI.Res:=oR ((dK [a0],()),())
theorem L5 (a0:Int):Io.run tt M5 dr Ig jI Tryz.f86 ((a0,()),())=xK a0:=by kernel_rfl
theorem BR:HcOk prog 86 (ah jI xx):=by
 refine bK (cs:=G8) (.cons vi .nil) (lp:=Ig) (fn:=Tryz.f86) jI (.done (by kernel_rfl)) xx ?_
 rintro ⟨⟨(v:Int),⟨⟩⟩,⟨⟩⟩ out hw ho
 cases ho
 refine (L5 v).trans ?_
 unfold xK
 simp[dK]
abbrev vq:Ty:=.prod .bool (.prod bs .unit)
abbrev co:Ty:=.prod .str (.prod vq .unit)
abbrev Cq:Ty:=.sl 51 co
abbrev O4:Ty:=.prod (.int .i64) (.prod (.int .i32) (.prod vq (.prod vq (.prod Cq .unit))))
abbrev uJ:Sh:=.dat vq true false
abbrev yy:Sh:=.dat O4 true false
abbrev Bv:Sh:=.dat Cq false false
abbrev cc:Io:=⟨[uJ,uJ],[],[],[dB],none⟩
def im (d:cc.In):Tr cc.Res:=.ret (.ret ((decide (d.1.1=d.1.2.1),()),()))
abbrev nS:List (Nat×Hc):=[(31,ah iU tJ)]
def wn:Hd:=br nS
def od:Lp:=bA []
def kI (a0:Bool)(a1:LI)(a2:Bool)(a3:LI):Option cc.Res:=bif a0 == a2 then oR ((decide (a1=a3),()),()) else oR ((false,()),())
theorem tD (a0:Bool)(a1:LI)(a2:Bool)(a3:LI):Io.run tt wn dr od cc Tryz.f117 (((a0,a1,()),(a2,a3,()),()),())=kI a0 a1 a2 a3:=by kernel_rfl
theorem ot:HcOk prog 117 (ah cc im):=by
 refine bK (cs:=nS) (.cons wW .nil) (lp:=od) (fn:=Tryz.f117) cc (.done (by kernel_rfl)) im ?_
 rintro ⟨⟨⟨(n:Bool),(b:LI),⟨⟩⟩,⟨(m:Bool),(c:LI),⟨⟩⟩,⟨⟩⟩,⟨⟩⟩ out hw ho
 cases ho
 refine (tD n b m c).trans ?_
 unfold kI
 show _=oR ((decide (((n,b,()):Bool×LI×Unit)=(m,c,())),()),())
 cases n <;> cases m <;> simp
abbrev xw:Type:=Bool×LI×Unit
abbrev cx:Type:=LI×xw×Unit
abbrev l8:Type:=Int×Int×xw×xw×List cx×Unit
abbrev cq:Io:=⟨[Bv,Bv],[],[],[dB],none⟩
def jt (d:cq.In):Tr cq.Res:=.ret (.ret ((decide (d.1.1=d.1.2.1),()),()))
abbrev me:List (Nat×Hc):=[(117,ah cc im)]
def mf:Hd:=br me
abbrev be:Lo:=⟨⟨(.one (.hol (.sl 51 (Ty.str.prod ((Ty.bool.prod ((Ty.sl 5 (Ty.int u8)).prod Ty.unit)).prod Ty.unit))))::.one (.hol (.sl 51 (Ty.str.prod ((Ty.bool.prod ((Ty.sl 5 (Ty.int u8)).prod Ty.unit)).prod Ty.unit))))::.any::bt (.one hI::aj (aj (bO [])))),[]⟩,[(.ret,⟨(bO (.one hL::.any::aj (aj (bO [])))),[]⟩),(.exit 0,⟨(aj (aj (dC (bt [])))),[]⟩)]⟩
def dh (d:be.st.den):Tr (ao be.xs):=
 .ite (decide (d.1.2.2.1=(0:Int))&&decide (d.1.1.length=d.1.2.1.length)) (.ite (decide (d.1.1=d.1.2.1)) (.ret (.pan (.ret ((),((),()))))) (.ret (.ret ((),((false,()),()))))) .no
def fD:Lp:=bA [(5,aD be dh)]
def iO {R:Type}(h2 h3:List co.den)(h4:Int)(next:List co.den→List co.den→Int→Option R)(out:ao be.xs→Option R):Option R:=bif decide (h4<(↑h2.length:Int)) then bif decide (0≤h4)&&decide (h4<(↑h2.length:Int)) then bif decide (0≤h4)&&decide (h4<(↑h3.length:Int)) then bif !decide ((h2.getD h4.toNat ([],(false,[],()),())).1=(h3.getD h4.toNat ([],(false,[],()),())).1) then out (.ret ((),((false,()),()))) else bif decide (0≤h4)&&decide (h4<(↑h2.length:Int)) then bif decide (0≤h4)&&decide (h4<(↑h3.length:Int)) then bif !decide (((h2.getD h4.toNat ([],(false,[],()),())).2.1.1,(h2.getD h4.toNat ([],(false,[],()),())).2.1.2.1,())=((h3.getD h4.toNat ([],(false,[],()),())).2.1.1,(h3.getD h4.toNat ([],(false,[],()),())).2.1.2.1,())) then out (.ret ((),((false,()),()))) else next (h2) (h3) (i64.wrap (h4+1)) else none else none else none else none else out (.pan (.ret ((),((),()))))
def fV (n:Nat)(h2 h3:List co.den)(h4:Int):Option (ao be.xs):=ik tt mf dr fD 0 Tryz.f118 (cb Tryz.f118 0) n (be.st.mk' ((h2,(h3,(h4,()))),())) (bG be.xs)
theorem qt (n:Nat)(h2 h3:List co.den)(h4:Int):fV (n+1) h2 h3 h4=iO h2 h3 h4 (fV n) some:=by kernel_rfl
theorem qq (xs ys:List cx)(hl:xs.length=ys.length)(hb:xs.length≤maxLen):∀(k i:Nat),i≤xs.length→xs.length<i+k→
  fV k xs ys (i:Int)=if xs.drop i=ys.drop i then some (.pan (.ret ((),((),())))) else some (.ret ((),((false,()),()))):=by
 intro k
 induction k with
 |zero=>intro i h h';omega
 |succ k ih=>
  intro i hi h
  rw[qt]
  unfold iO
  by_cases h1:i<xs.length
  ·have h2:i<ys.length:=by omega
   rw[aQ h1 hb,ih (i+1) h1 (by omega)]
   have e:(xs.drop i=ys.drop i)↔(xs[i]=ys[i]∧xs.drop (i+1)=ys.drop (i+1)):=by rw[zE h1,zE h2,List.cons.injEq]
   have e1:(xs.getD (i:Int).toNat ([],(false,[],()),()):cx)=xs[i]:=aF h1
   have e2:(ys.getD (i:Int).toNat ([],(false,[],()),()):cx)=ys[i]:=aF h2
   rw[← e1,← e2] at e
   generalize (xs.getD (i:Int).toNat ([],(false,[],()),()):cx)=x at *
   generalize (ys.getD (i:Int).toNat ([],(false,[],()),()):cx)=y at *
   obtain ⟨x1,⟨x2,x3,⟨⟩⟩,⟨⟩⟩:=x
   obtain ⟨y1,⟨y2,y3,⟨⟩⟩,⟨⟩⟩:=y
   by_cases he:x1=y1 <;> by_cases he2:x2=y2 <;> by_cases he3:x3=y3 <;> simp[h1,h2,he,he2,he3,e,cond_eq_ite]
  ·rw[zI (by omega),zI (by omega)]
   simp[h1]
def kj (a0 a1:List co.den):Option cq.Res:=bif (↑a0.length:Int) != (↑a1.length:Int) then oR ((false,()),()) else (dh ((a0,(a1,(0,()))),())).run fun y=>match y with | .ret ((),((x10,()),()))=>(oR ((x10,()),())) | .pan (.ret ((),((),())))=>(oR ((true,()),()))
theorem sR (a0 a1:List co.den):Io.run tt mf dr fD cq Tryz.f118 ((a0,a1,()),())=kj a0 a1:=by kernel_rfl
theorem km:HcsOk prog me:=.cons ot .nil
theorem tB:HcOk prog 118 (ah cq jt):=by
 refine bK km (lp:=fD) (fn:=Tryz.f118) cq
  (.step (h0:=aD be dh) (by kernel_rfl) (iK km (lp:=fD) (fn:=Tryz.f118) (.done (by kernel_rfl)) be dh ?_) (.done (by kernel_rfl))) jt ?_
 ·rintro ⟨⟨(xs:List cx),(ys:List cx),(i:Int),⟨⟩⟩,⟨⟩⟩ y hw hy
  obtain ⟨hg,hy⟩:=Tr.guard hy
  simp only[zA,zB] at hg
  obtain ⟨hi,hl⟩:=hg
  have hi:i=0:=hi
  have hl:xs.length=ys.length:=hl
  subst hi
  refine ⟨xs.length+1,(qq xs ys hl hw.1.1.1 _ 0 (by omega) (by omega)).trans ?_⟩
  rw[← hy]
  simp only[Tr.val_ite,zB,Tr.val_ret,List.drop_zero]
 ·rintro ⟨⟨(xs:List cx),(ys:List cx),⟨⟩⟩,⟨⟩⟩ out hw ho
  cases ho
  refine (sR xs ys).trans ?_
  unfold kj dh
  show _=oR ((decide (xs=ys),()),())
  by_cases hl:xs.length=ys.length
  ·by_cases he:xs=ys
   ·subst he;simp[Tr.run]
   ·simp[Tr.run,hl,he]
  ·have:xs≠ys:=fun e=>hl (by rw[e])
   have h2:(xs.length:Int)≠ys.length:=by omega
   simp[this,h2,cond_eq_ite]
def ag (b:LI)(p:Int):Int×Int×Int:=(IntKind.wrap .i32 (ak (ab 5 15 b p).1),(ab 5 15 b p).2.1,(ab 5 15 b p).2.2)
def ae (b:LI)(p least:Int):xw×Int×Int:=
 if (ag b p).2.2≠0 then ((false,[],()),0,(ag b p).2.2)
 else if (ag b p).1<least then ((false,[],()),0,5)
 else if (ag b p).1<0 then ((true,[],()),(ag b p).2.1,0)
 else if (b.length:Int) - (ag b p).2.1<(ag b p).1 then ((false,[],()),0,1)
 else ((false,(b.drop (ag b p).2.1.toNat).take (ag b p).1.toNat,()),(ag b p).2.1+(ag b p).1,0)
def au (b:LI):Nat→List cx→Int→List cx×Int×Int
 |0,out,p=>(out,p,0)
 |n+1,out,p=>
  if (ae b p 0).2.2≠0 then ([],0,(ae b p 0).2.2)
  else if (cn (ae b p 0).1.2.1).2=false then ([],0,6)
  else if (ae b (ae b p 0).2.1 (-1)).2.2≠0 then ([],0,(ae b (ae b p 0).2.1 (-1)).2.2)
  else au b n (out++[((ae b p 0).1.2.1,(ae b (ae b p 0).2.1 (-1)).1,())]) (ae b (ae b p 0).2.1 (-1)).2.1
theorem oA (b:LI):∀(n:Nat) (o:List cx) (p:Int),(au b n o p).2.2≠0→(au b n o p).1=[]∧(au b n o p).2.1=0
 |0,o,p,h=>absurd rfl h
 |n+1,o,p,h=>by
  unfold au at h ⊢
  split
  ·exact ⟨rfl,rfl⟩
  split
  ·exact ⟨rfl,rfl⟩
  split
  ·exact ⟨rfl,rfl⟩
  rename_i h1 h2 h3
  rw[if_neg h1,if_neg h2,if_neg h3] at h
  exact oA b n _ _ h
def av (b:LI)(p:Int):List cx×Int×Int:=
 if (ag b p).2.2≠0 then ([],0,(ag b p).2.2)
 else if (ag b p).1<0 then ([],0,5)
 else if 16<(ag b p).1 then ([],0,9)
 else au b (ag b p).1.toNat [] (ag b p).2.1
def ax:l8:=(0,0,(false,[],()),(false,[],()),[],())
def aM (b:LI):l8×Int:=
 if b.length=0 then (ax,1)
 else if b.getD 0 0≠0 then (ax,71)
 else if (ab 10 1 b 1).2.2≠0 then (ax,(ab 10 1 b 1).2.2)
 else if (ag b (ab 10 1 b 1).2.1).2.2≠0 then (ax,(ag b (ab 10 1 b 1).2.1).2.2)
 else if (ag b (ab 10 1 b 1).2.1).1<0 then (ax,72)
 else if (ae b (ag b (ab 10 1 b 1).2.1).2.1 (-1)).2.2≠0 then (ax,(ae b (ag b (ab 10 1 b 1).2.1).2.1 (-1)).2.2)
 else if (ae b (ae b (ag b (ab 10 1 b 1).2.1).2.1 (-1)).2.1 (-1)).2.2≠0 then (ax,(ae b (ae b (ag b (ab 10 1 b 1).2.1).2.1 (-1)).2.1 (-1)).2.2)
 else if (av b (ae b (ae b (ag b (ab 10 1 b 1).2.1).2.1 (-1)).2.1 (-1)).2.1).2.2≠0 then (ax,(av b (ae b (ae b (ag b (ab 10 1 b 1).2.1).2.1 (-1)).2.1 (-1)).2.1).2.2)
 else if (av b (ae b (ae b (ag b (ab 10 1 b 1).2.1).2.1 (-1)).2.1 (-1)).2.1).2.1<(b.length:Int) then (ax,2)
 else ((ak (ab 10 1 b 1).1,(ag b (ab 10 1 b 1).2.1).1,(ae b (ag b (ab 10 1 b 1).2.1).2.1 (-1)).1,(ae b (ae b (ag b (ab 10 1 b 1).2.1).2.1 (-1)).2.1 (-1)).1,(av b (ae b (ae b (ag b (ab 10 1 b 1).2.1).2.1 (-1)).2.1 (-1)).2.1).1,()),0)
def am (b:LI)(p:Int):l8×Int×Int:=
 if (ag b p).2.2≠0 then (ax,0,(ag b p).2.2)
 else if (ag b p).1<0 then (ax,0,5)
 else if 16384<(ag b p).1 then (ax,0,4)
 else if (b.length:Int) - (ag b p).2.1<(ag b p).1 then (ax,0,1)
 else if (aM ((b.drop (ag b p).2.1.toNat).take (ag b p).1.toNat)).2≠0 then (ax,0,(aM ((b.drop (ag b p).2.1.toNat).take (ag b p).1.toNat)).2)
 else ((aM ((b.drop (ag b p).2.1.toNat).take (ag b p).1.toNat)).1,(ag b p).2.1+(ag b p).1,0)
theorem Tr.run_of_val {α R:Type}:∀{t:Tr α} {K:α→Option R} {a:α},t.val=some a→t.run K=K a
 |.ret a,K,b,h=>by cases h;rfl
 |.no,K,b,h=>by cases h
 |.ite c t e,K,b,h=>by
  cases c with
  |true=>exact Tr.run_of_val (t:=t) h
  |false=>exact Tr.run_of_val (t:=e) h
theorem HcOk.weak {P:Program}{f:Nat}{io:Io}{F F':io.In→Tr io.Res}(hF:∀d y,(F' d).val=some y→(F d).val=some y)(h:HcOk P f (ah io F)):HcOk P f (ah io F'):=by
 intro R args id A K r Fr G ts cst w vals hid hr Rl hv
 refine h R args id A K r Fr G ts cst w vals hid ?_ Rl hv
 unfold ah at hr ⊢
 split at hr
 ·cases hr
 ·split at hr
  ·cases hr
  ·rename_i a β1 e1 o β e2
   simp only at hr ⊢
   simp only[cond_eq_ite] at hr ⊢
   split at hr
   ·rename_i hc
    rw[if_pos hc]
    obtain ⟨y,h1,h2⟩:=Tr.run_val hr
    rw[Tr.run_of_val (hF _ _ h1)]
    exact h2
   ·cases hr
theorem vn {m:Nat}{t:Int}{b:LI}{p:Int}(h:(ab m t b p).2.2≠0):(ab m t b p).1=0∧(ab m t b p).2.1=0:=by
 unfold ab at h ⊢
 split
 ·exact ⟨rfl,rfl⟩
 ·split
  ·rename_i h1 h2
   rw[if_neg h1,if_pos h2] at h
   exact absurd rfl h
  ·exact ⟨rfl,rfl⟩
def tK (d:cB.In):Tr cB.Res:=.ret (.ret (((ag d.1.1 d.1.2.1).1,(ag d.1.1 d.1.2.1).2.1,(ag d.1.1 d.1.2.1).2.2,()),()))
theorem wZ:HcOk prog 115 (ah cB tK):=by
 refine IT.weak ?_
 rintro ⟨⟨(b:LI),(p:Int),⟨⟩⟩,⟨⟩⟩ y h
 rw[← h]
 unfold qw tK ag
 simp only[Tr.val_ite,Tr.val_ret,zB]
 by_cases h1:(ab 5 15 b p).2.2=0
 ·rw[if_pos h1,h1]
 ·obtain ⟨h2,h3⟩:=vn h1
  rw[if_neg h1,h2,h3]
  rfl
def vI (d:gQ.In):Tr gQ.Res:=.ret (.ret ((ak (ab 10 1 d.1.1 d.1.2.1).1,(ab 10 1 d.1.1 d.1.2.1).2.1,(ab 10 1 d.1.1 d.1.2.1).2.2,()),()))
theorem Es:HcOk prog 76 (ah gQ vI):=by
 refine Ny.weak ?_
 rintro ⟨⟨(b:LI),(p:Int),⟨⟩⟩,⟨⟩⟩ y h
 rw[← h]
 unfold CD vI
 simp only[Tr.val_ite,Tr.val_ret,zB]
 by_cases h1:(ab 10 1 b p).2.2=0
 ·rw[if_pos h1,h1]
 ·obtain ⟨h2,h3⟩:=vn h1
  rw[if_neg h1,h2,h3]
  rfl
theorem sW {m:Nat}{t:Int}{b:LI}{p:Int}(h:(ab m t b p).2.2=0):0≤p∧p<(ab m t b p).2.1∧(ab m t b p).2.1≤b.length:=by
 unfold ab at h ⊢
 split
 ·rename_i h1
  rw[if_pos h1] at h
  cases h
 ·rename_i h1
  rw[if_neg h1] at h
  split
  ·rename_i h2
   have h3:=oD m t (b.drop p.toNat) 0 h2
   simp only[List.length_drop] at h3
   generalize (bn m t (b.drop p.toNat) 0).1=k at h3 ⊢
   simp only
   omega
  ·rename_i h2
   rw[if_neg h2] at h
   exact absurd h h2
theorem lk {b:LI}{p:Int}(h:(ag b p).2.2=0):0≤p∧p<(ag b p).2.1∧(ag b p).2.1≤b.length:=sW h
theorem cH {b:LI}{p:Int} : -2147483648≤(ag b p).1∧(ag b p).1≤2147483647:=by
 have:=bQ .i32 (ak (ab 5 15 b p).1)
 simp[bi,IntKind.min,IntKind.max,IntKind.signed,IntKind.bits] at this
 exact this
abbrev iB:Io:=⟨[dL,dI,OY],[],[],[uJ,dI,dI],none⟩
def vN (d:iB.In):Tr iB.Res:=.ret (.ret (((ae d.1.1 d.1.2.1 d.1.2.2.1).1,(ae d.1.1 d.1.2.1 d.1.2.2.1).2.1,(ae d.1.1 d.1.2.1 d.1.2.2.1).2.2,()),()))
abbrev Db:List (Nat×Hc):=[(115,ah cB tK),(33,ah iT tI)]
def K2:Hd:=br Db
def D6:Lp:=bA []
def ET (a0:LI)(a1 a2:Int):Option iB.Res:=bif (ab 5 15 a0 a1).2.2 != 0 then oR (((false,[],()),0,(ab 5 15 a0 a1).2.2,()),()) else bif decide (i32.wrap (ak (ab 5 15 a0 a1).1)<a2) then oR (((false,[],()),0,5,()),()) else bif decide (i32.wrap (ak (ab 5 15 a0 a1).1)<0) then oR (((true,[],()),(ab 5 15 a0 a1).2.1,0,()),()) else bif decide (i64.wrap ((↑a0.length:Int) - (ab 5 15 a0 a1).2.1)<i64.wrap (i32.wrap (ak (ab 5 15 a0 a1).1))) then oR (((false,[],()),0,1,()),()) else bif decide (0≤(ab 5 15 a0 a1).2.1)&&(decide ((ab 5 15 a0 a1).2.1≤i64.wrap ((ab 5 15 a0 a1).2.1+i64.wrap (i32.wrap (ak (ab 5 15 a0 a1).1))))&&decide (i64.wrap ((ab 5 15 a0 a1).2.1+i64.wrap (i32.wrap (ak (ab 5 15 a0 a1).1)))≤(↑a0.length:Int))) then bif decide ((List.drop (ab 5 15 a0 a1).2.1.toNat (List.take (i64.wrap ((ab 5 15 a0 a1).2.1+i64.wrap (i32.wrap (ak (ab 5 15 a0 a1).1)))).toNat a0)).length≤4294967296) then oR (((false,List.drop (ab 5 15 a0 a1).2.1.toNat (List.take (i64.wrap ((ab 5 15 a0 a1).2.1+i64.wrap (i32.wrap (ak (ab 5 15 a0 a1).1)))).toNat a0),()),i64.wrap ((ab 5 15 a0 a1).2.1+i64.wrap (i32.wrap (ak (ab 5 15 a0 a1).1))),0,()),()) else none else none
theorem Jt (a0:LI)(a1 a2:Int):Io.run tt K2 dr D6 iB Tryz.f138 ((a0,a1,a2,()),())=ET a0 a1 a2:=by kernel_rfl
theorem Ev:HcOk prog 138 (ah iB vN):=by
 refine bK (cs:=Db) (.cons wZ (.cons wV .nil)) (lp:=D6) (fn:=Tryz.f138) iB (.done (by kernel_rfl)) vN ?_
 rintro ⟨⟨(b:LI),(p:Int),(l:Int),⟨⟩⟩,⟨⟩⟩ out hw ho
 cases ho
 refine (Jt b p l).trans ?_
 have hb:b.length≤maxLen:=hw.1.1.1
 rw[aB] at hb
 show _=oR (((ae b p l).1,(ae b p l).2.1,(ae b p l).2.2,()),())
 change (bif (ag b p).2.2 != 0 then oR (((false,[],()),0,(ag b p).2.2,()),()) else bif decide ((ag b p).1<l) then _ else bif decide ((ag b p).1<0) then oR (((true,[],()),(ag b p).2.1,0,()),()) else bif decide (i64.wrap ((b.length:Int) - (ag b p).2.1)<i64.wrap (ag b p).1) then _
  else bif decide (0≤(ag b p).2.1)&&(decide ((ag b p).2.1≤i64.wrap ((ag b p).2.1+i64.wrap (ag b p).1))&&decide (i64.wrap ((ag b p).2.1+i64.wrap (ag b p).1)≤(b.length:Int))) then bif decide ((List.drop (ag b p).2.1.toNat (List.take (i64.wrap ((ag b p).2.1+i64.wrap (ag b p).1)).toNat b)).length≤4294967296) then oR (((false,List.drop (ag b p).2.1.toNat (List.take (i64.wrap ((ag b p).2.1+i64.wrap (ag b p).1)).toNat b),()),i64.wrap ((ag b p).2.1+i64.wrap (ag b p).1),0,()),()) else none else none)=_
 have hr:=@cH b p
 by_cases h0:(ag b p).2.2=0
 ·have hk:=lk h0
  rw[ac (by simpa using h0)]
  by_cases h1:(ag b p).1<l
  ·have e:ae b p l=((false,[],()),0,5):=by unfold ae;rw[if_neg (by simpa using h0),if_pos h1]
   rw[e,aa (by simpa using h1)]
   first | done | rfl
  ·rw[ac (by simpa using h1)]
   by_cases h2:(ag b p).1<0
   ·have e:ae b p l=((true,[],()),(ag b p).2.1,0):=by unfold ae;rw[if_neg (by simpa using h0),if_neg h1,if_pos h2]
    rw[e,aa (by simpa using h2)]
   ·rw[ac (by simpa using h2),af (n:=(b.length:Int) - (ag b p).2.1) (by omega) (by omega),af (n:=(ag b p).1) (by omega) (by omega)]
    by_cases h3:(b.length:Int) - (ag b p).2.1<(ag b p).1
    ·have e:ae b p l=((false,[],()),0,1):=by unfold ae;rw[if_neg (by simpa using h0),if_neg h1,if_neg h2,if_pos h3]
     rw[e,aa (by simpa using h3)]
     first | done | rfl
    ·have e:ae b p l=((false,(b.drop (ag b p).2.1.toNat).take (ag b p).1.toNat,()),(ag b p).2.1+(ag b p).1,0):=by unfold ae;rw[if_neg (by simpa using h0),if_neg h1,if_neg h2,if_neg h3]
     rw[e,ac (by simpa using h3),af (n:=(ag b p).2.1+(ag b p).1) (by omega) (by omega)]
     rw[aa (by simp;omega),List.drop_take,show ((ag b p).2.1+(ag b p).1).toNat - (ag b p).2.1.toNat=(ag b p).1.toNat by omega,aa (by simp;omega)]
 ·have e:ae b p l=((false,[],()),0,(ag b p).2.2):=by unfold ae;rw[if_pos h0]
  rw[e,aa (by simpa using h0)]
abbrev gS:Io:=⟨[dL,dI],[],[],[Bv,dI,dI],none⟩
def vM (d:gS.In):Tr gS.Res:=.ret (.ret (((av d.1.1 d.1.2.1).1,(av d.1.1 d.1.2.1).2.1,(av d.1.1 d.1.2.1).2.2,()),()))
abbrev yq:List (Nat×Hc):=[(115,ah cB tK),(138,ah iB vN),(141,ah mR GD)]
def yP:Hd:=br yq
abbrev ch:Lo:=⟨⟨(.one (.hol (.sl 5 (Ty.int u8)))::.one hI::.any::bO (.one hJ::bt (.one (.onl 51 (Ty.str.prod ((Ty.bool.prod ((Ty.sl 5 (Ty.int u8)).prod Ty.unit)).prod Ty.unit)) 21)::.one hI::.any::aj (aj (aj (aj (bO []))))))),[]⟩,[(.ret,⟨(bO (.one (.onl 51 (Ty.str.prod ((Ty.bool.prod ((Ty.sl 5 (Ty.int u8)).prod Ty.unit)).prod Ty.unit)) 9)::.one hI::.one hI::aj (aj (aj (aj (dC (bt []))))))),[]⟩),(.exit 0,⟨(.any::.one hI::dC (.one (.onl 51 (Ty.str.prod ((Ty.bool.prod ((Ty.sl 5 (Ty.int u8)).prod Ty.unit)).prod Ty.unit)) 21)::aj (aj (aj (aj (bO (bt []))))))),[]⟩)]⟩
def fj (d:ch.st.den):Tr (ao ch.xs):=
 .ite (decide (d.1.2.2.2.2.1=(0:Int))&&(decide ((0:Int)≤d.1.2.2.1)&&(decide (d.1.2.2.1≤(16:Int))&&decide (d.1.2.2.2.1=([]:List cx)))))
  (.ite (decide ((au d.1.1 (d.1.2.2.1:Int).toNat [] d.1.2.1).2.2=(0:Int)))
   (.ret (.pan (.ret ((),(((au d.1.1 (d.1.2.2.1:Int).toNat [] d.1.2.1).2.1,((au d.1.1 (d.1.2.2.1:Int).toNat [] d.1.2.1).1,())),())))))
   (.ret (.ret ((),(([],(0,((au d.1.1 (d.1.2.2.1:Int).toNat [] d.1.2.1).2.2,()))),()))))) .no
def oe:Lp:=bA [(12,aD ch fj)]
def mt {R:Type}(h2:LI)(h3 h4:Int)(h5:List (Ty.str.prod ((Ty.bool.prod ((Ty.sl 5 (Ty.int u8)).prod Ty.unit)).prod Ty.unit)).den)(h6:Int)(next:LI→Int→Int→List (Ty.str.prod ((Ty.bool.prod ((Ty.sl 5 (Ty.int u8)).prod Ty.unit)).prod Ty.unit)).den→Int→Option R)(out:ao ch.xs→Option R):Option R:=bif decide (h6<i64.wrap h4) then bif (ae h2 h3 0).2.2 != 0 then out (.ret ((),(([],(0,((ae h2 h3 0).2.2,()))),()))) else bif !(cn (ae h2 h3 0).1.2.1).2 then out (.ret ((),(([],(0,(6,()))),()))) else bif (ae h2 (ae h2 h3 0).2.1 (-1)).2.2 != 0 then out (.ret ((),(([],(0,((ae h2 (ae h2 h3 0).2.1 (-1)).2.2,()))),()))) else bif decide (h5.length+[((ae h2 h3 0).1.2.1,((ae h2 (ae h2 h3 0).2.1 (-1)).1.1,(ae h2 (ae h2 h3 0).2.1 (-1)).1.2.1,()),())].length≤4294967296) then next (h2) ((ae h2 (ae h2 h3 0).2.1 (-1)).2.1) (h4) (h5++[((ae h2 h3 0).1.2.1,((ae h2 (ae h2 h3 0).2.1 (-1)).1.1,(ae h2 (ae h2 h3 0).2.1 (-1)).1.2.1,()),())]) (i64.wrap (h6+1)) else none else out (.pan (.ret ((),((h3,(h5,())),()))))
def kX (n:Nat)(h2:LI)(h3 h4:Int)(h5:List (Ty.str.prod ((Ty.bool.prod ((Ty.sl 5 (Ty.int u8)).prod Ty.unit)).prod Ty.unit)).den)(h6:Int):Option (ao ch.xs):=ik tt yP dr oe 0 Tryz.f139 (cb Tryz.f139 0) n (ch.st.mk' ((h2,(h3,(h4,(h5,(h6,()))))),())) (bG ch.xs)
theorem Ai (n:Nat)(h2:LI)(h3 h4:Int)(h5:List (Ty.str.prod ((Ty.bool.prod ((Ty.sl 5 (Ty.int u8)).prod Ty.unit)).prod Ty.unit)).den)(h6:Int):kX (n+1) h2 h3 h4 h5 h6=mt h2 h3 h4 h5 h6 (kX n) some:=by kernel_rfl
theorem BM (b:LI)(n:Int)(hn:0≤n)(hn':n≤16):∀(k m:Nat) (p:Int) (o:List cx) (i:Int),i+m=n→0≤i→m<k→o.length=i.toNat→
  kX k b p n o i=if (au b m o p).2.2=0 then some (.pan (.ret ((),(((au b m o p).2.1,((au b m o p).1,())),())))) else some (.ret ((),(([],(0,((au b m o p).2.2,()))),()))):=by
 intro k
 induction k with
 |zero=>intro m p o i h1 h2 h3;omega
 |succ k ih=>
  intro m p o i h1 h2 h3 h4
  rw[Ai]
  unfold mt
  rw[af (n:=n) (by omega) (by omega)]
  cases m with
  |zero=>
   rw[ac (by simp;omega)]
   rw[if_pos (by rfl)]
   first | done | rfl
  |succ m=>
   rw[aa (by simp;omega)]
   by_cases a1:(ae b p 0).2.2=0
   ·rw[ac (by simpa using a1)]
    by_cases a2:(cn (ae b p 0).1.2.1).2=false
    ·have e:au b (m+1) o p=([],0,6):=by unfold au;rw[if_neg (by simpa using a1),if_pos a2]
     rw[e,aa (by simpa using a2)]
     first | done | rfl
    ·rw[ac (by simpa using a2)]
     by_cases a3:(ae b (ae b p 0).2.1 (-1)).2.2=0
     ·have e:au b (m+1) o p=au b m (o++[((ae b p 0).1.2.1,(ae b (ae b p 0).2.1 (-1)).1,())]) (ae b (ae b p 0).2.1 (-1)).2.1:=by
       rw[au,if_neg (by simpa using a1),if_neg a2,if_neg (by simpa using a3)]
      rw[e,ac (by simpa using a3),aa (by simp;omega),af (n:=i+1) (by omega) (by omega)]
      exact ih m _ _ (i+1) (by omega) (by omega) (by omega) (by simp;omega)
     ·have e:au b (m+1) o p=([],0,(ae b (ae b p 0).2.1 (-1)).2.2):=by rw[au,if_neg (by simpa using a1),if_neg a2,if_pos a3]
      rw[e,aa (by simpa using a3),if_neg a3]
   ·have e:au b (m+1) o p=([],0,(ae b p 0).2.2):=by rw[au,if_pos a1]
    rw[e,aa (by simpa using a1),if_neg a1]
def rI (a0:LI)(a1:Int):Option gS.Res:=bif (ab 5 15 a0 a1).2.2 != 0 then oR (([],0,(ab 5 15 a0 a1).2.2,()),()) else bif decide (i32.wrap (ak (ab 5 15 a0 a1).1)<0) then oR (([],0,5,()),()) else bif decide (16<i32.wrap (ak (ab 5 15 a0 a1).1)) then oR (([],0,9,()),()) else (fj ((a0,((ab 5 15 a0 a1).2.1,(i32.wrap (ak (ab 5 15 a0 a1).1),([],(0,()))))),())).run fun y=>match y with | .ret ((),((x23,x24,x25,()),()))=>(oR ((x23,x24,x25,()),())) | .pan (.ret ((),((x26,x27,()),())))=>(oR ((x27,x26,0,()),()))
theorem FM (a0:LI)(a1:Int):Io.run tt yP dr oe gS Tryz.f139 ((a0,a1,()),())=rI a0 a1:=by kernel_rfl
theorem r4:HcsOk prog yq:=.cons wZ (.cons Ev (.cons Nz .nil))
theorem IX:HcOk prog 139 (ah gS vM):=by
 refine bK r4 (lp:=oe) (fn:=Tryz.f139) gS
  (.step (h0:=aD ch fj) (by kernel_rfl) (iK r4 (lp:=oe) (fn:=Tryz.f139) (.done (by kernel_rfl)) ch fj ?_) (.done (by kernel_rfl))) vM ?_
 ·rintro ⟨⟨(b:LI),(p:Int),(n:Int),(o:List cx),(i:Int),⟨⟩⟩,⟨⟩⟩ y hw hy
  obtain ⟨hg,hy⟩:=Tr.guard hy
  simp only[zA,zB] at hg
  obtain ⟨hi,h0,h16,ho⟩:=hg
  have hi:i=0:=hi
  have h0:0≤n:=h0
  have h16:n≤16:=h16
  have ho:o=[]:=ho
  subst hi ho
  refine ⟨n.toNat+1,(BM b n h0 h16 _ n.toNat p [] 0 (by omega) (by omega) (by omega) rfl).trans ?_⟩
  rw[← hy]
  simp only[Tr.val_ite,zB,Tr.val_ret]
 ·rintro ⟨⟨(b:LI),(p:Int),⟨⟩⟩,⟨⟩⟩ out hw ho
  cases ho
  refine (FM b p).trans ?_
  show _=oR (((av b p).1,(av b p).2.1,(av b p).2.2,()),())
  have hr:=@cH b p
  unfold rI
  by_cases h0:(ag b p).2.2=0
  ·have h0':(ab 5 15 b p).2.2=0:=h0
   rw[ac (by simpa using h0')]
   change (bif decide ((ag b p).1<0) then _ else bif decide (16<(ag b p).1) then _ else (fj ((b,((ag b p).2.1,((ag b p).1,([],(0,()))))),())).run _)=_
   by_cases h1:(ag b p).1<0
   ·have e:av b p=([],0,5):=by unfold av;rw[if_neg (by simpa using h0),if_pos h1]
    rw[e,aa (by simpa using h1)]
    first | done | rfl
   ·rw[ac (by simpa using h1)]
    by_cases h2:16<(ag b p).1
    ·have e:av b p=([],0,9):=by unfold av;rw[if_neg (by simpa using h0),if_neg h1,if_pos h2]
     rw[e,aa (by simpa using h2)]
     first | done | rfl
    ·have e:av b p=au b (ag b p).1.toNat [] (ag b p).2.1:=by unfold av;rw[if_neg (by simpa using h0),if_neg h1,if_neg h2]
     rw[e,ac (by simpa using h2)]
     unfold fj
     simp only[Tr.run_ite,Tr.run_ret]
     have hg:(decide True&&(decide ((0:Int)≤(ag b p).1)&&(decide ((ag b p).1≤(16:Int))&&decide True)))=true:=by
      simp only[zA,zB]
      exact ⟨trivial,by omega,by omega,trivial⟩
     rw[if_pos hg]
     by_cases h3:(au b (ag b p).1.toNat [] (ag b p).2.1).2.2=0
     ·rw[if_pos (by simpa using h3),h3]
     ·obtain ⟨e1,e2⟩:=oA b _ _ _ h3
      rw[if_neg (by simpa using h3),e1,e2]
  ·have h0':(ab 5 15 b p).2.2≠0:=h0
   have e:av b p=([],0,(ab 5 15 b p).2.2):=by unfold av;rw[if_pos h0];rfl
   rw[e,aa (by simpa using h0')]
abbrev mW:Io:=⟨[dL],[],[],[yy,dI],none⟩
def GF (d:mW.In):Tr mW.Res:=.ret (.ret (((aM d.1.1).1,(aM d.1.1).2,()),()))
abbrev Hh:List (Nat×Hc):=[(76,ah gQ vI),(115,ah cB tK),(138,ah iB vN),(139,ah gS vM)]
def Nb:Hd:=br Hh
def Im:Lp:=bA []
def xU (a0:LI):Option mW.Res:=bif (↑a0.length:Int) == 0 then oR (((0,0,(false,[],()),(false,[],()),[],()),1,()),()) else bif decide (0≤0)&&decide (0<(↑a0.length:Int)) then bif a0.getD (Int.toNat 0) 0 != 0 then oR (((0,0,(false,[],()),(false,[],()),[],()),71,()),()) else bif (ab 10 1 a0 1).2.2 != 0 then oR (((0,0,(false,[],()),(false,[],()),[],()),(ab 10 1 a0 1).2.2,()),()) else bif (ab 5 15 a0 (ab 10 1 a0 1).2.1).2.2 != 0 then oR (((0,0,(false,[],()),(false,[],()),[],()),(ab 5 15 a0 (ab 10 1 a0 1).2.1).2.2,()),()) else bif decide (i32.wrap (ak (ab 5 15 a0 (ab 10 1 a0 1).2.1).1)<0) then oR (((0,0,(false,[],()),(false,[],()),[],()),72,()),()) else bif (ae a0 (ab 5 15 a0 (ab 10 1 a0 1).2.1).2.1 (-1)).2.2 != 0 then oR (((0,0,(false,[],()),(false,[],()),[],()),(ae a0 (ab 5 15 a0 (ab 10 1 a0 1).2.1).2.1 (-1)).2.2,()),()) else bif (ae a0 (ae a0 (ab 5 15 a0 (ab 10 1 a0 1).2.1).2.1 (-1)).2.1 (-1)).2.2 != 0 then oR (((0,0,(false,[],()),(false,[],()),[],()),(ae a0 (ae a0 (ab 5 15 a0 (ab 10 1 a0 1).2.1).2.1 (-1)).2.1 (-1)).2.2,()),()) else bif (av a0 (ae a0 (ae a0 (ab 5 15 a0 (ab 10 1 a0 1).2.1).2.1 (-1)).2.1 (-1)).2.1).2.2 != 0 then oR (((0,0,(false,[],()),(false,[],()),[],()),(av a0 (ae a0 (ae a0 (ab 5 15 a0 (ab 10 1 a0 1).2.1).2.1 (-1)).2.1 (-1)).2.1).2.2,()),()) else bif decide ((av a0 (ae a0 (ae a0 (ab 5 15 a0 (ab 10 1 a0 1).2.1).2.1 (-1)).2.1 (-1)).2.1).2.1<(↑a0.length:Int)) then oR (((0,0,(false,[],()),(false,[],()),[],()),2,()),()) else oR (((ak (ab 10 1 a0 1).1,i32.wrap (ak (ab 5 15 a0 (ab 10 1 a0 1).2.1).1),((ae a0 (ab 5 15 a0 (ab 10 1 a0 1).2.1).2.1 (-1)).1.1,(ae a0 (ab 5 15 a0 (ab 10 1 a0 1).2.1).2.1 (-1)).1.2.1,()),((ae a0 (ae a0 (ab 5 15 a0 (ab 10 1 a0 1).2.1).2.1 (-1)).2.1 (-1)).1.1,(ae a0 (ae a0 (ab 5 15 a0 (ab 10 1 a0 1).2.1).2.1 (-1)).2.1 (-1)).1.2.1,()),(av a0 (ae a0 (ae a0 (ab 5 15 a0 (ab 10 1 a0 1).2.1).2.1 (-1)).2.1 (-1)).2.1).1,()),0,()),()) else none
theorem Me (a0:LI):Io.run tt Nb dr Im mW Tryz.f116 ((a0,()),())=xU a0:=by kernel_rfl
theorem NB:HcOk prog 116 (ah mW GF):=by
 refine bK (cs:=Hh) (.cons Es (.cons wZ (.cons Ev (.cons IX .nil)))) (lp:=Im) (fn:=Tryz.f116) mW (.done (by kernel_rfl)) GF ?_
 rintro ⟨⟨(b:LI),⟨⟩⟩,⟨⟩⟩ out hw ho
 cases ho
 refine (Me b).trans ?_
 show _=oR (((aM b).1,(aM b).2,()),())
 unfold xU
 by_cases h0:b.length=0
 ·have e:aM b=(ax,1):=by unfold aM;rw[if_pos h0]
  rw[e,aa (by simp[h0])]
  first | done | rfl
 rw[ac (beq_false_of_ne (by omega)),aa (by rw[zA,zB,zB];omega)]
 by_cases h1:b.getD 0 0=0
 rotate_left
 ·have e:aM b=(ax,71):=by unfold aM;rw[if_neg h0,if_pos h1]
  have h1':b.getD (Int.toNat 0) 0≠0:=h1
  rw[e,aa (by simpa using h1')]
  first | done | rfl
 have h1':b.getD (Int.toNat 0) 0=0:=h1
 rw[ac (by simpa using h1')]
 by_cases h2:(ab 10 1 b 1).2.2=0
 rotate_left
 ·have e:aM b=(ax,(ab 10 1 b 1).2.2):=by unfold aM;rw[if_neg h0,if_neg (by simpa using h1),if_pos h2]
  rw[e,aa (by simpa using h2)]
  first | done | rfl
 rw[ac (by simpa using h2)]
 generalize hq1:(ab 10 1 b 1).2.1=q1
 change (bif (ag b q1).2.2 != 0 then oR ((ax,(ag b q1).2.2,()),()) else bif decide ((ag b q1).1<0) then oR ((ax,72,()),()) else bif (ae b (ag b q1).2.1 (-1)).2.2 != 0 then oR ((ax,(ae b (ag b q1).2.1 (-1)).2.2,()),()) else
  bif (ae b (ae b (ag b q1).2.1 (-1)).2.1 (-1)).2.2 != 0 then oR ((ax,(ae b (ae b (ag b q1).2.1 (-1)).2.1 (-1)).2.2,()),()) else
  bif (av b (ae b (ae b (ag b q1).2.1 (-1)).2.1 (-1)).2.1).2.2 != 0 then oR ((ax,(av b (ae b (ae b (ag b q1).2.1 (-1)).2.1 (-1)).2.1).2.2,()),()) else
  bif decide ((av b (ae b (ae b (ag b q1).2.1 (-1)).2.1 (-1)).2.1).2.1<(b.length:Int)) then oR ((ax,2,()),()) else
  oR (((ak (ab 10 1 b 1).1,(ag b q1).1,(ae b (ag b q1).2.1 (-1)).1,(ae b (ae b (ag b q1).2.1 (-1)).2.1 (-1)).1,(av b (ae b (ae b (ag b q1).2.1 (-1)).2.1 (-1)).2.1).1,()),0,()),()))=_
 have e:aM b=if (ag b q1).2.2≠0 then (ax,(ag b q1).2.2) else if (ag b q1).1<0 then (ax,72) else if (ae b (ag b q1).2.1 (-1)).2.2≠0 then (ax,(ae b (ag b q1).2.1 (-1)).2.2) else
  if (ae b (ae b (ag b q1).2.1 (-1)).2.1 (-1)).2.2≠0 then (ax,(ae b (ae b (ag b q1).2.1 (-1)).2.1 (-1)).2.2) else
  if (av b (ae b (ae b (ag b q1).2.1 (-1)).2.1 (-1)).2.1).2.2≠0 then (ax,(av b (ae b (ae b (ag b q1).2.1 (-1)).2.1 (-1)).2.1).2.2) else
  if (av b (ae b (ae b (ag b q1).2.1 (-1)).2.1 (-1)).2.1).2.1<(b.length:Int) then (ax,2) else
  ((ak (ab 10 1 b 1).1,(ag b q1).1,(ae b (ag b q1).2.1 (-1)).1,(ae b (ae b (ag b q1).2.1 (-1)).2.1 (-1)).1,(av b (ae b (ae b (ag b q1).2.1 (-1)).2.1 (-1)).2.1).1,()),0):=by
  unfold aM;rw[if_neg h0,if_neg (by simpa using h1),if_neg (by simpa using h2),hq1]
 rw[e]
 generalize ag b q1=n1
 generalize ae b n1.2.1 (-1)=n2
 generalize ae b n2.2.1 (-1)=n3
 generalize av b n3.2.1=n4
 simp only[cond_eq_ite,bne_iff_ne,zB]
 split
 ·rfl
 split
 ·rfl
 split
 ·rfl
 split
 ·rfl
 split
 ·rfl
 split
 ·rfl
 first | done | rfl
abbrev jM:Io:=⟨[dL,dI],[],[],[yy,dI,dI],none⟩
def AW (d:jM.In):Tr jM.Res:=.ret (.ret (((am d.1.1 d.1.2.1).1,(am d.1.1 d.1.2.1).2.1,(am d.1.1 d.1.2.1).2.2,()),()))
abbrev C6:List (Nat×Hc):=[(115,ah cB tK),(116,ah mW GF)]
def KX:Hd:=br C6
def D1:Lp:=bA []
def ue (a0:LI)(a1:Int):Option jM.Res:=bif (ab 5 15 a0 a1).2.2 != 0 then oR (((0,0,(false,[],()),(false,[],()),[],()),0,(ab 5 15 a0 a1).2.2,()),()) else bif decide (i32.wrap (ak (ab 5 15 a0 a1).1)<0) then oR (((0,0,(false,[],()),(false,[],()),[],()),0,5,()),()) else bif decide (16384<i32.wrap (ak (ab 5 15 a0 a1).1)) then oR (((0,0,(false,[],()),(false,[],()),[],()),0,4,()),()) else bif decide (i64.wrap ((↑a0.length:Int) - (ab 5 15 a0 a1).2.1)<i64.wrap (i32.wrap (ak (ab 5 15 a0 a1).1))) then oR (((0,0,(false,[],()),(false,[],()),[],()),0,1,()),()) else bif decide (0≤(ab 5 15 a0 a1).2.1)&&(decide ((ab 5 15 a0 a1).2.1≤i64.wrap ((ab 5 15 a0 a1).2.1+i64.wrap (i32.wrap (ak (ab 5 15 a0 a1).1))))&&decide (i64.wrap ((ab 5 15 a0 a1).2.1+i64.wrap (i32.wrap (ak (ab 5 15 a0 a1).1)))≤(↑a0.length:Int))) then bif (aM (List.drop (ab 5 15 a0 a1).2.1.toNat (List.take (i64.wrap ((ab 5 15 a0 a1).2.1+i64.wrap (i32.wrap (ak (ab 5 15 a0 a1).1)))).toNat a0))).2 != 0 then oR (((0,0,(false,[],()),(false,[],()),[],()),0,(aM (List.drop (ab 5 15 a0 a1).2.1.toNat (List.take (i64.wrap ((ab 5 15 a0 a1).2.1+i64.wrap (i32.wrap (ak (ab 5 15 a0 a1).1)))).toNat a0))).2,()),()) else oR ((((aM (List.drop (ab 5 15 a0 a1).2.1.toNat (List.take (i64.wrap ((ab 5 15 a0 a1).2.1+i64.wrap (i32.wrap (ak (ab 5 15 a0 a1).1)))).toNat a0))).1.1,(aM (List.drop (ab 5 15 a0 a1).2.1.toNat (List.take (i64.wrap ((ab 5 15 a0 a1).2.1+i64.wrap (i32.wrap (ak (ab 5 15 a0 a1).1)))).toNat a0))).1.2.1,((aM (List.drop (ab 5 15 a0 a1).2.1.toNat (List.take (i64.wrap ((ab 5 15 a0 a1).2.1+i64.wrap (i32.wrap (ak (ab 5 15 a0 a1).1)))).toNat a0))).1.2.2.1.1,(aM (List.drop (ab 5 15 a0 a1).2.1.toNat (List.take (i64.wrap ((ab 5 15 a0 a1).2.1+i64.wrap (i32.wrap (ak (ab 5 15 a0 a1).1)))).toNat a0))).1.2.2.1.2.1,()),((aM (List.drop (ab 5 15 a0 a1).2.1.toNat (List.take (i64.wrap ((ab 5 15 a0 a1).2.1+i64.wrap (i32.wrap (ak (ab 5 15 a0 a1).1)))).toNat a0))).1.2.2.2.1.1,(aM (List.drop (ab 5 15 a0 a1).2.1.toNat (List.take (i64.wrap ((ab 5 15 a0 a1).2.1+i64.wrap (i32.wrap (ak (ab 5 15 a0 a1).1)))).toNat a0))).1.2.2.2.1.2.1,()),(aM (List.drop (ab 5 15 a0 a1).2.1.toNat (List.take (i64.wrap ((ab 5 15 a0 a1).2.1+i64.wrap (i32.wrap (ak (ab 5 15 a0 a1).1)))).toNat a0))).1.2.2.2.2.1,()),i64.wrap ((ab 5 15 a0 a1).2.1+i64.wrap (i32.wrap (ak (ab 5 15 a0 a1).1))),0,()),()) else none
theorem Jo (a0:LI)(a1:Int):Io.run tt KX dr D1 jM Tryz.f78 ((a0,a1,()),())=ue a0 a1:=by kernel_rfl
theorem LB:HcOk prog 78 (ah jM AW):=by
 refine bK (cs:=C6) (.cons wZ (.cons NB .nil)) (lp:=D1) (fn:=Tryz.f78) jM (.done (by kernel_rfl)) AW ?_
 rintro ⟨⟨(b:LI),(p:Int),⟨⟩⟩,⟨⟩⟩ out hw ho
 cases ho
 refine (Jo b p).trans ?_
 have hb:b.length≤maxLen:=hw.1.1.1
 rw[aB] at hb
 show _=oR (((am b p).1,(am b p).2.1,(am b p).2.2,()),())
 have hr:=@cH b p
 unfold ue
 by_cases h0:(ag b p).2.2=0
 rotate_left
 ·have h0':(ab 5 15 b p).2.2≠0:=h0
  have e:am b p=(ax,0,(ab 5 15 b p).2.2):=by unfold am;rw[if_pos h0];rfl
  rw[e,aa (by simpa using h0')]
  first | done | rfl
 have hk:=lk h0
 have h0':(ab 5 15 b p).2.2=0:=h0
 rw[ac (by simpa using h0')]
 generalize hq:(ab 5 15 b p).2.1=q
 generalize hn:IntKind.wrap .i32 (ak (ab 5 15 b p).1)=n
 have hq:(ag b p).2.1=q:=hq
 have hn:(ag b p).1=n:=hn
 have e0:am b p=if n<0 then (ax,0,5) else if 16384<n then (ax,0,4) else if (b.length:Int) - q<n then (ax,0,1)
   else if (aM ((b.drop q.toNat).take n.toNat)).2≠0 then (ax,0,(aM ((b.drop q.toNat).take n.toNat)).2)
   else ((aM ((b.drop q.toNat).take n.toNat)).1,q+n,0):=by unfold am;rw[if_neg (by simpa using h0),hq,hn]
 rw[e0]
 rw[hq] at hk
 rw[hn] at hr
 by_cases h1:n<0
 ·rw[aa (by simpa using h1),if_pos h1]
  first | done | rfl
 rw[ac (by simpa using h1),if_neg h1]
 by_cases h2:16384<n
 ·rw[aa (by simpa using h2),if_pos h2]
  first | done | rfl
 rw[ac (by simpa using h2),if_neg h2,af (n:=(b.length:Int) - q) (by omega) (by omega),af (n:=n) (by omega) (by omega)]
 by_cases h3:(b.length:Int) - q<n
 ·rw[aa (by simpa using h3),if_pos h3]
  first | done | rfl
 rw[ac (by simpa using h3),if_neg h3,af (n:=q+n) (by omega) (by omega),aa (by simp;omega),List.drop_take,show (q+n).toNat - q.toNat=n.toNat by omega]
 generalize aM ((b.drop q.toNat).take n.toNat)=r
 simp only[cond_eq_ite,bne_iff_ne,zB]
 split
 ·rfl
 ·rfl
abbrev NW:Ty:=.prod (.int .i64) .unit
abbrev pk:Option (Nat×Ty):=some (120,NW)
abbrev N7:List Sh:=[dL,dI]
abbrev ee:Io:=⟨[.ptr 0 0],[N7],[],[dI],pk⟩
def kA (d:ee.In):Tr ee.Res:=
 .ite (decide ((ag d.2.1.1 d.2.1.2.1).2.2=0)) (.ret (.ret (((ag d.2.1.1 d.2.1.2.1).1,()),((d.2.1.1,((ag d.2.1.1 d.2.1.2.1).2.1,())),())))) (.ret (.pan ((ag d.2.1.1 d.2.1.2.1).2.2,())))
abbrev uA:List (Nat×Hc):=[(72,ah fL qv)]
def E6:Hd:=br uA
def uZ:Lp:=bA []
def pG (a0:LI)(a1:Int):Option ee.Res:=bif (ab 5 15 a0 a1).2.2 != 0 then some (Out.pan ((ab 5 15 a0 a1).2.2,())) else oR ((i64.wrap (i32.wrap (ak (ab 5 15 a0 a1).1)),()),(a0,(ab 5 15 a0 a1).2.1,()),())
theorem B0 (a0:LI)(a1:Int):Io.run tt E6 dr uZ ee Tryz.f104 (((),()),(a0,a1,()),())=pG a0 a1:=by kernel_rfl
theorem vg:HcOk prog 104 (ah ee kA):=by
 refine bK (cs:=uA) (.cons zP .nil) (lp:=uZ) (fn:=Tryz.f104) ee (.done (by kernel_rfl)) kA ?_
 rintro ⟨⟨⟨⟩,⟨⟩⟩,⟨⟨(b:LI),(p:Int),⟨⟩⟩,⟨⟩⟩⟩ out hw ho
 refine (B0 b p).trans ?_
 rw[← ho]
 have hr:=@cH b p
 unfold pG kA
 change (bif (ag b p).2.2 != 0 then some (Out.pan ((ag b p).2.2,())) else oR ((i64.wrap (ag b p).1,()),(b,(ag b p).2.1,()),()))=_
 rw[af (n:=(ag b p).1) (by omega) (by omega)]
 simp only[Tr.val_ite,Tr.val_ret,zB]
 by_cases h:(ag b p).2.2=0
 ·rw[ac (by simpa using h),if_pos h]
 ·rw[aa (by simpa using h),if_neg h]
abbrev ga:Io:=⟨[.ptr 0 0,dI],[N7],[],[dO],pk⟩
def rf (d:ga.In):Tr ga.Res:=
 .ite (decide ((0:Int)≤d.1.2.1)&&(decide (d.1.2.1≤(4294967296:Int))&&(decide ((0:Int)≤d.2.1.2.1)&&decide (d.2.1.2.1≤(d.2.1.1.length:Int)))))
  (.ite (decide ((d.2.1.1.length:Int) - d.2.1.2.1<d.1.2.1)) (.ret (.pan (1,()))) (.ret (.ret (((d.2.1.1.drop d.2.1.2.1.toNat).take d.1.2.1.toNat,()),((d.2.1.1,((d.2.1.2.1:Int)+d.1.2.1,())),()))))) .no
abbrev C0:List (Nat×Hc):=[(90,ah dM nz)]
def KR:Hd:=br C0
def DV:Lp:=bA []
def t5 (a0:Int)(a1:LI)(a2:Int):Option ga.Res:=bif decide (i64.wrap ((↑a1.length:Int) - a2)<a0) then some (Out.pan (1,())) else bif decide (0≤i64.wrap (i64.wrap (a2+a0) - a0))&&(decide (i64.wrap (i64.wrap (a2+a0) - a0)≤i64.wrap (a2+a0))&&decide (i64.wrap (a2+a0)≤(↑a1.length:Int))) then bif decide ((List.drop (i64.wrap (i64.wrap (a2+a0) - a0)).toNat (List.take (i64.wrap (a2+a0)).toNat a1)).length≤4294967296) then oR ((List.drop (i64.wrap (i64.wrap (a2+a0) - a0)).toNat (List.take (i64.wrap (a2+a0)).toNat a1),()),(a1,i64.wrap (a2+a0),()),()) else none else none
theorem Jh (a0:Int)(a1:LI)(a2:Int):Io.run tt KR dr DV ga Tryz.f103 (((),a0,()),(a1,a2,()),())=t5 a0 a1 a2:=by kernel_rfl
theorem wY:HcOk prog 103 (ah ga rf):=by
 refine bK (cs:=C0) (.cons sy .nil) (lp:=DV) (fn:=Tryz.f103) ga (.done (by kernel_rfl)) rf ?_
 rintro ⟨⟨⟨⟩,(n:Int),⟨⟩⟩,⟨⟨(b:LI),(p:Int),⟨⟩⟩,⟨⟩⟩⟩ out hw ho
 obtain ⟨hg,ho⟩:=Tr.guard ho
 simp only[zA,zB] at hg
 have h0:0≤n:=hg.1
 have h1:n≤4294967296:=hg.2.1
 have h2:0≤p:=hg.2.2.1
 have h3:p≤b.length:=hg.2.2.2
 refine (Jh n b p).trans ?_
 rw[← ho]
 have hb:b.length≤maxLen:=hw.2.1.1.1
 rw[aB] at hb
 unfold t5
 rw[af (n:=(b.length:Int) - p) (by omega) (by omega)]
 simp only[Tr.val_ite,Tr.val_ret,zB]
 by_cases h:(b.length:Int) - p<n
 ·rw[aa (by simpa using h),if_pos h]
 ·rw[ac (by simpa using h),if_neg h,af (n:=p+n) (by omega) (by omega),show p+n - n=p by omega,af (n:=p) (by omega) (by omega)]
  rw[aa (by simp;omega),List.drop_take,show (p+n).toNat - p.toNat=n.toNat by omega,aa (by simp;omega)]
abbrev eK:Io:=⟨[.ptr 0 0,dI],[N7],[],[dI],pk⟩
def lA (d:eK.In):Tr eK.Res:=
 .ite (decide ((ag d.2.1.1 d.2.1.2.1).2.2=0)) (.ite (decide ((ag d.2.1.1 d.2.1.2.1).1<d.1.2.1)) (.ret (.pan (5,()))) (.ret (.ret (((ag d.2.1.1 d.2.1.2.1).1,()),((d.2.1.1,((ag d.2.1.1 d.2.1.2.1).2.1,())),())))))
  (.ret (.pan ((ag d.2.1.1 d.2.1.2.1).2.2,())))
abbrev yi:List (Nat×Hc):=[(104,ah ee kA)]
def HJ:Hd:=br yi
def zk:Lp:=bA []
def rB (a0:Int)(a1:LI)(a2:Int):Option eK.Res:=bif decide ((ab 5 15 a1 a2).2.2=0) then bif decide (i32.wrap (ak (ab 5 15 a1 a2).1)<a0) then some (Out.pan (5,())) else oR ((i32.wrap (ak (ab 5 15 a1 a2).1),()),(a1,(ab 5 15 a1 a2).2.1,()),()) else some (Out.pan ((ab 5 15 a1 a2).2.2,()))
theorem FD (a0:Int)(a1:LI)(a2:Int):Io.run tt HJ dr zk eK Tryz.f106 (((),a0,()),(a1,a2,()),())=rB a0 a1 a2:=by kernel_rfl
theorem sx:HcOk prog 106 (ah eK lA):=by
 refine bK (cs:=yi) (.cons vg .nil) (lp:=zk) (fn:=Tryz.f106) eK (.done (by kernel_rfl)) lA ?_
 rintro ⟨⟨⟨⟩,(l:Int),⟨⟩⟩,⟨⟨(b:LI),(p:Int),⟨⟩⟩,⟨⟩⟩⟩ out hw ho
 refine (FD l b p).trans ?_
 rw[← ho]
 unfold rB lA
 change (bif decide ((ag b p).2.2=0) then bif decide ((ag b p).1<l) then some (Out.pan (5,())) else oR (((ag b p).1,()),(b,(ag b p).2.1,()),()) else some (Out.pan ((ag b p).2.2,())))=_
 simp only[Tr.val_ite,Tr.val_ret,cond_eq_ite]
abbrev iw:Io:=⟨[.ptr 0 0],[N7],[],[uJ],pk⟩
def re (d:iw.In):Tr iw.Res:=
 .ite (decide ((ae d.2.1.1 d.2.1.2.1 (-1)).2.2=0)) (.ret (.ret (((ae d.2.1.1 d.2.1.2.1 (-1)).1,()),((d.2.1.1,((ae d.2.1.1 d.2.1.2.1 (-1)).2.1,())),())))) (.ret (.pan ((ae d.2.1.1 d.2.1.2.1 (-1)).2.2,())))
abbrev CZ:List (Nat×Hc):=[(106,ah eK lA),(103,ah ga rf)]
def KQ:Hd:=br CZ
def DU:Lp:=bA []
def tZ (a0:LI)(a1:Int):Option iw.Res:=bif decide ((ab 5 15 a0 a1).2.2=0) then bif decide (i32.wrap (ak (ab 5 15 a0 a1).1) < -1) then some (Out.pan (5,())) else bif decide (i32.wrap (ak (ab 5 15 a0 a1).1)<0) then oR (((true,[],()),()),(a0,(ab 5 15 a0 a1).2.1,()),()) else bif decide (0≤i32.wrap (ak (ab 5 15 a0 a1).1))&&(decide (i32.wrap (ak (ab 5 15 a0 a1).1)≤4294967296)&&(decide (0≤(ab 5 15 a0 a1).2.1)&&decide ((ab 5 15 a0 a1).2.1≤(↑a0.length:Int)))) then bif decide ((↑a0.length:Int) - (ab 5 15 a0 a1).2.1<i32.wrap (ak (ab 5 15 a0 a1).1)) then some (Out.pan (1,())) else oR (((false,List.take (i32.wrap (ak (ab 5 15 a0 a1).1)).toNat (List.drop (ab 5 15 a0 a1).2.1.toNat a0),()),()),(a0,(ab 5 15 a0 a1).2.1+i32.wrap (ak (ab 5 15 a0 a1).1),()),()) else none else some (Out.pan ((ab 5 15 a0 a1).2.2,()))
theorem Jf (a0:LI)(a1:Int):Io.run tt KQ dr DU iw Tryz.f105 (((),()),(a0,a1,()),())=tZ a0 a1:=by kernel_rfl
theorem Eq:HcOk prog 105 (ah iw re):=by
 refine bK (cs:=CZ) (.cons sx (.cons wY .nil)) (lp:=DU) (fn:=Tryz.f105) iw (.done (by kernel_rfl)) re ?_
 rintro ⟨⟨⟨⟩,⟨⟩⟩,⟨⟨(b:LI),(p:Int),⟨⟩⟩,⟨⟩⟩⟩ out hw ho
 refine (Jf b p).trans ?_
 rw[← ho]
 have hr:=@cH b p
 unfold tZ re
 simp only[Tr.val_ite,Tr.val_ret,zB]
 change (bif decide ((ag b p).2.2=0) then bif decide ((ag b p).1 < -1) then some (Out.pan (5,())) else bif decide ((ag b p).1<0) then oR (((true,[],()),()),(b,(ag b p).2.1,()),()) else
  bif decide (0≤(ag b p).1)&&(decide ((ag b p).1≤4294967296)&&(decide (0≤(ag b p).2.1)&&decide ((ag b p).2.1≤(b.length:Int)))) then bif decide ((b.length:Int) - (ag b p).2.1<(ag b p).1) then some (Out.pan (1,())) else
   oR (((false,List.take (ag b p).1.toNat (List.drop (ag b p).2.1.toNat b),()),()),(b,(ag b p).2.1+(ag b p).1,()),()) else none else some (Out.pan ((ag b p).2.2,())))=_
 by_cases h0:(ag b p).2.2=0
 rotate_left
 ·have e:ae b p (-1)=((false,[],()),0,(ag b p).2.2):=by unfold ae;rw[if_pos h0]
  rw[e,ac (by simpa using h0),if_neg h0]
 have hk:=lk h0
 rw[aa (by simpa using h0)]
 by_cases h1:(ag b p).1 < -1
 ·have e:ae b p (-1)=((false,[],()),0,5):=by unfold ae;rw[if_neg (by simpa using h0),if_pos h1]
  rw[e,aa (by simpa using h1)]
  rfl
 rw[ac (by simpa using h1)]
 by_cases h2:(ag b p).1<0
 ·have e:ae b p (-1)=((true,[],()),(ag b p).2.1,0):=by unfold ae;rw[if_neg (by simpa using h0),if_neg h1,if_pos h2]
  rw[e,aa (by simpa using h2)]
  rfl
 rw[ac (by simpa using h2),aa (by simp;omega)]
 by_cases h3:(b.length:Int) - (ag b p).2.1<(ag b p).1
 ·have e:ae b p (-1)=((false,[],()),0,1):=by unfold ae;rw[if_neg (by simpa using h0),if_neg h1,if_neg h2,if_pos h3]
  rw[e,aa (by simpa using h3)]
  rfl
 ·have e:ae b p (-1)=((false,(b.drop (ag b p).2.1.toNat).take (ag b p).1.toNat,()),(ag b p).2.1+(ag b p).1,0):=by unfold ae;rw[if_neg (by simpa using h0),if_neg h1,if_neg h2,if_neg h3]
  rw[e,ac (by simpa using h3)]
  rfl
def aU (b:LI)(p:Int):cx×Int×Int:=
 if (ae b p 0).2.2≠0 then (([],(false,[],()),()),0,(ae b p 0).2.2)
 else if (cn (ae b p 0).1.2.1).2=false then (([],(false,[],()),()),0,6)
 else (((ae b p 0).1.2.1,(ae b (ae b p 0).2.1 (-1)).1,()),(ae b (ae b p 0).2.1 (-1)).2.1,(ae b (ae b p 0).2.1 (-1)).2.2)
abbrev Ol:Sh:=.dat co true false
abbrev fm:Io:=⟨[.ptr 0 0],[N7],[],[Ol],pk⟩
def nx (d:fm.In):Tr fm.Res:=
 .ite (decide ((aU d.2.1.1 d.2.1.2.1).2.2=0)) (.ret (.ret (((aU d.2.1.1 d.2.1.2.1).1,()),((d.2.1.1,((aU d.2.1.1 d.2.1.2.1).2.1,())),())))) (.ret (.pan ((aU d.2.1.1 d.2.1.2.1).2.2,())))
abbrev uz:List (Nat×Hc):=[(106,ah eK lA),(103,ah ga rf),(137,ah kR CC),(105,ah iw re)]
def E5:Hd:=br uz
def uY:Lp:=bA []
def pF (a0:LI)(a1:Int):Option fm.Res:=bif decide ((ab 5 15 a0 a1).2.2=0) then bif decide (i32.wrap (ak (ab 5 15 a0 a1).1)<0) then some (Out.pan (5,())) else bif decide (0≤i32.wrap (ak (ab 5 15 a0 a1).1))&&(decide (i32.wrap (ak (ab 5 15 a0 a1).1)≤4294967296)&&(decide (0≤(ab 5 15 a0 a1).2.1)&&decide ((ab 5 15 a0 a1).2.1≤(↑a0.length:Int)))) then bif decide ((↑a0.length:Int) - (ab 5 15 a0 a1).2.1<i32.wrap (ak (ab 5 15 a0 a1).1)) then some (Out.pan (1,())) else bif !(cn (List.take (i32.wrap (ak (ab 5 15 a0 a1).1)).toNat (List.drop (ab 5 15 a0 a1).2.1.toNat a0))).2 then some (Out.pan (6,())) else bif decide ((ae a0 ((ab 5 15 a0 a1).2.1+i32.wrap (ak (ab 5 15 a0 a1).1)) (-1)).2.2=0) then oR (((List.take (i32.wrap (ak (ab 5 15 a0 a1).1)).toNat (List.drop (ab 5 15 a0 a1).2.1.toNat a0),((ae a0 ((ab 5 15 a0 a1).2.1+i32.wrap (ak (ab 5 15 a0 a1).1)) (-1)).1.1,(ae a0 ((ab 5 15 a0 a1).2.1+i32.wrap (ak (ab 5 15 a0 a1).1)) (-1)).1.2.1,()),()),()),(a0,(ae a0 ((ab 5 15 a0 a1).2.1+i32.wrap (ak (ab 5 15 a0 a1).1)) (-1)).2.1,()),()) else some (Out.pan ((ae a0 ((ab 5 15 a0 a1).2.1+i32.wrap (ak (ab 5 15 a0 a1).1)) (-1)).2.2,())) else none else some (Out.pan ((ab 5 15 a0 a1).2.2,()))
theorem BZ (a0:LI)(a1:Int):Io.run tt E5 dr uY fm Tryz.f107 (((),()),(a0,a1,()),())=pF a0 a1:=by kernel_rfl
theorem Fm:HcOk prog 107 (ah fm nx):=by
 refine bK (cs:=uz) (.cons sx (.cons wY (.cons IR (.cons Eq .nil)))) (lp:=uY) (fn:=Tryz.f107) fm (.done (by kernel_rfl)) nx ?_
 rintro ⟨⟨⟨⟩,⟨⟩⟩,⟨⟨(b:LI),(p:Int),⟨⟩⟩,⟨⟩⟩⟩ out hw ho
 refine (BZ b p).trans ?_
 rw[← ho]
 have hr:=@cH b p
 unfold pF nx
 simp only[Tr.val_ite,Tr.val_ret,zB]
 have hn:i32.wrap (ak (ab 5 15 b p).1)=(ag b p).1:=rfl
 have hq:(ab 5 15 b p).2.1=(ag b p).2.1:=rfl
 have he:(ab 5 15 b p).2.2=(ag b p).2.2:=rfl
 rw[hn,hq,he]
 by_cases h0:(ag b p).2.2=0
 rotate_left
 ·have e0:ae b p 0=((false,[],()),0,(ag b p).2.2):=by unfold ae;rw[if_pos h0]
  have e:aU b p=(([],(false,[],()),()),0,(ag b p).2.2):=by unfold aU;rw[e0,if_pos h0]
  rw[e,ac (by simpa using h0),if_neg h0]
 have hk:=lk h0
 rw[aa (by simpa using h0)]
 by_cases h2:(ag b p).1<0
 ·have e0:ae b p 0=((false,[],()),0,5):=by unfold ae;rw[if_neg (by simpa using h0),if_pos h2]
  have e:aU b p=(([],(false,[],()),()),0,5):=by unfold aU;rw[e0];rfl
  rw[e,aa (by simpa using h2)]
  rfl
 rw[ac (by simpa using h2),aa (by simp;omega)]
 by_cases h3:(b.length:Int) - (ag b p).2.1<(ag b p).1
 ·have e0:ae b p 0=((false,[],()),0,1):=by unfold ae;rw[if_neg (by simpa using h0),if_neg h2,if_neg h2,if_pos h3]
  have e:aU b p=(([],(false,[],()),()),0,1):=by unfold aU;rw[e0];rfl
  rw[e,aa (by simpa using h3)]
  rfl
 have e0:ae b p 0=((false,(b.drop (ag b p).2.1.toNat).take (ag b p).1.toNat,()),(ag b p).2.1+(ag b p).1,0):=by unfold ae;rw[if_neg (by simpa using h0),if_neg h2,if_neg h2,if_neg h3]
 rw[ac (by simpa using h3)]
 by_cases h4:(cn ((b.drop (ag b p).2.1.toNat).take (ag b p).1.toNat)).2=false
 ·have e:aU b p=(([],(false,[],()),()),0,6):=by
   unfold aU
   rw[e0,if_neg (by simp),if_pos h4]
  rw[e,h4]
  rfl
 have e:aU b p=(((b.drop (ag b p).2.1.toNat).take (ag b p).1.toNat,(ae b ((ag b p).2.1+(ag b p).1) (-1)).1,()),(ae b ((ag b p).2.1+(ag b p).1) (-1)).2.1,(ae b ((ag b p).2.1+(ag b p).1) (-1)).2.2):=by
  unfold aU
  rw[e0,if_neg (by simp),if_neg h4]
 rw[e,ac (by simpa using h4)]
 simp only[cond_eq_ite,zB]
abbrev mN:Io:=⟨[.ptr 0 0],[N7],[],[yy],pk⟩
def Aw (b:LI):Int:=(av b (ae b (ae b (ag b (ab 10 1 b 1).2.1).2.1 (-1)).2.1 (-1)).2.1).2.1
def Gz (d:mN.In):Tr mN.Res:=
 .ite (decide (d.2.1.2.1=(0:Int))) (.ite (decide ((aM d.2.1.1).2=0)) (.ret (.ret (((aM d.2.1.1).1,()),((d.2.1.1,(Aw d.2.1.1,())),())))) (.ret (.pan ((aM d.2.1.1).2,())))) .no
abbrev wb:List (Nat×Hc):=[(104,ah ee kA),(106,ah eK lA),(103,ah ga rf),(99,ah kQ CB),(105,ah iw re),(107,ah fm nx)]
def HK:Hd:=br wb
abbrev dw:Lo:=⟨⟨(.one (.ptr 0 0)::.any::.one (.ptr 3 0)::.one (.ptr 4 0)::.any::aj (aj (aj (dC (.one hI::.one hI::aj (bO (bt []))))))),[some [.hol (.sl 5 (Ty.int u8)),hI],none,none,some [hI,hJ,hL,.onl 5 (Ty.int u8) 1544,hL,.onl 5 (Ty.int u8) 1548,.onl 51 (Ty.str.prod ((Ty.bool.prod ((Ty.sl 5 (Ty.int u8)).prod Ty.unit)).prod Ty.unit)) 1550],some [hI,hJ,hL,.hol (.sl 5 (Ty.int u8)),hL,.hol (.sl 5 (Ty.int u8)),.onl 51 (Ty.str.prod ((Ty.bool.prod ((Ty.sl 5 (Ty.int u8)).prod Ty.unit)).prod Ty.unit)) 2062]]⟩,[(.panic 120 ((Ty.int i64).prod Ty.unit),⟨(.any::aj (aj (aj (aj (aj (bO [])))))),[]⟩),(.exit 0,⟨(.one (.ptr 0 0)::.any::.one (.ptr 3 0)::.one (.ptr 4 0)::.any::aj (aj (aj (aj (aj []))))),[some [.hol (.sl 5 (Ty.int u8)),hI],none,none,some [hI,hJ,hL,.onl 5 (Ty.int u8) 1544,hL,.onl 5 (Ty.int u8) 1548,.onl 51 (Ty.str.prod ((Ty.bool.prod ((Ty.sl 5 (Ty.int u8)).prod Ty.unit)).prod Ty.unit)) 1550],some [hI,hJ,hL,.hol (.sl 5 (Ty.int u8)),hL,.hol (.sl 5 (Ty.int u8)),.onl 51 (Ty.str.prod ((Ty.bool.prod ((Ty.sl 5 (Ty.int u8)).prod Ty.unit)).prod Ty.unit)) 2062]]⟩)]⟩
def kB (d:dw.st.den):Tr (ao dw.xs):=
 .ite (decide (d.1.2.1=(0:Int))&&(decide ((0:Int)≤d.1.1)&&(decide (d.1.1≤(16:Int))&&decide (d.2.2.2.1.2.2.2.2.2.2.1=([]:List cx)))))
  (.ite (decide ((au d.2.1.1 (d.1.1:Int).toNat [] d.2.1.2.1).2.2=(0:Int)))
   (.ret (.pan (.ret ((),((),((d.2.1.1,((au d.2.1.1 (d.1.1:Int).toNat [] d.2.1.2.1).2.1,())),(d.2.2.1,((d.2.2.2.1.1,(d.2.2.2.1.2.1,(d.2.2.2.1.2.2.1,(d.2.2.2.1.2.2.2.1,(d.2.2.2.1.2.2.2.2.1,(d.2.2.2.1.2.2.2.2.2.1,((au d.2.1.1 (d.1.1:Int).toNat [] d.2.1.2.1).1,()))))))),()))))))))
   (.ret (.ret (((au d.2.1.1 (d.1.1:Int).toNat [] d.2.1.2.1).2.2,()),((),()))))) .no
def wM:Lp:=bA [(19,aD dw kB)]
def qd {R:Type}(h2 h3:Int)(h4:LI)(h5 h6 h7:Int)(h8:Bool)(h9:LI)(h10:Bool)(h11:LI)(h12:List (Ty.str.prod ((Ty.bool.prod ((Ty.sl 5 (Ty.int u8)).prod Ty.unit)).prod Ty.unit)).den)(h13 h14:Int)(h15:Bool)(h16:LI)(h17:Bool)(h18:LI)(h19:List (Ty.str.prod ((Ty.bool.prod ((Ty.sl 5 (Ty.int u8)).prod Ty.unit)).prod Ty.unit)).den)(next:Int→Int→LI→Int→Int→Int→Bool→LI→Bool→LI→List (Ty.str.prod ((Ty.bool.prod ((Ty.sl 5 (Ty.int u8)).prod Ty.unit)).prod Ty.unit)).den→Int→Int→Bool→LI→Bool→LI→List (Ty.str.prod ((Ty.bool.prod ((Ty.sl 5 (Ty.int u8)).prod Ty.unit)).prod Ty.unit)).den→Option R)(out:ao dw.xs→Option R):Option R:=bif decide (h3<h2) then bif decide ((aU h4 h5).2.2=0) then bif !([[Sh.dat (Ty.sl 5 (Ty.int u8)) false false,Sh.dat (Ty.int i64) false false]].length+3 == 1+69 || false)&&true&&decide (h19.length+[((aU h4 h5).1.1,((aU h4 h5).1.2.1.1,(aU h4 h5).1.2.1.2.1,()),())].length≤4294967296) then next (h2) (i64.wrap (h3+1)) (h4) ((aU h4 h5).2.1) (h6) (h7) (h8) (h9) (h10) (h11) (h12) (h13) (h14) (h15) (h16) (h17) (h18) (h19++[((aU h4 h5).1.1,((aU h4 h5).1.2.1.1,(aU h4 h5).1.2.1.2.1,()),())]) else none else out (.ret (((aU h4 h5).2.2,()),((),()))) else out (.pan (.ret ((),((),((h4,(h5,())),((h6,(h7,(h8,(h9,(h10,(h11,(h12,()))))))),((h13,(h14,(h15,(h16,(h17,(h18,(h19,()))))))),())))))))
def pd (n:Nat)(h2 h3:Int)(h4:LI)(h5 h6 h7:Int)(h8:Bool)(h9:LI)(h10:Bool)(h11:LI)(h12:List (Ty.str.prod ((Ty.bool.prod ((Ty.sl 5 (Ty.int u8)).prod Ty.unit)).prod Ty.unit)).den)(h13 h14:Int)(h15:Bool)(h16:LI)(h17:Bool)(h18:LI)(h19:List (Ty.str.prod ((Ty.bool.prod ((Ty.sl 5 (Ty.int u8)).prod Ty.unit)).prod Ty.unit)).den):Option (ao dw.xs):=ik tt HK dr wM 1 Tryz.f73 (cb Tryz.f73 0) n (dw.st.mk' ((h2,(h3,())),((h4,(h5,())),((h6,(h7,(h8,(h9,(h10,(h11,(h12,()))))))),((h13,(h14,(h15,(h16,(h17,(h18,(h19,()))))))),()))))) (bG dw.xs)
theorem FZ (n:Nat)(h2 h3:Int)(h4:LI)(h5 h6 h7:Int)(h8:Bool)(h9:LI)(h10:Bool)(h11:LI)(h12:List (Ty.str.prod ((Ty.bool.prod ((Ty.sl 5 (Ty.int u8)).prod Ty.unit)).prod Ty.unit)).den)(h13 h14:Int)(h15:Bool)(h16:LI)(h17:Bool)(h18:LI)(h19:List (Ty.str.prod ((Ty.bool.prod ((Ty.sl 5 (Ty.int u8)).prod Ty.unit)).prod Ty.unit)).den):pd (n+1) h2 h3 h4 h5 h6 h7 h8 h9 h10 h11 h12 h13 h14 h15 h16 h17 h18 h19=qd h2 h3 h4 h5 h6 h7 h8 h9 h10 h11 h12 h13 h14 h15 h16 h17 h18 h19 (pd n) some:=by kernel_rfl
theorem tE (b:LI)(m:Nat)(o:List cx)(p:Int):au b (m+1) o p=if (aU b p).2.2≠0 then ([],0,(aU b p).2.2) else au b m (o++[(aU b p).1]) (aU b p).2.1:=by
 rw[au]
 by_cases a1:(ae b p 0).2.2=0
 ·rw[if_neg (by simpa using a1)]
  by_cases a2:(cn (ae b p 0).1.2.1).2=false
  ·have e:aU b p=(([],(false,[],()),()),0,6):=by unfold aU;rw[if_neg (by simpa using a1),if_pos a2]
   rw[if_pos a2,e]
   rfl
  ·have e:aU b p=(((ae b p 0).1.2.1,(ae b (ae b p 0).2.1 (-1)).1,()),(ae b (ae b p 0).2.1 (-1)).2.1,(ae b (ae b p 0).2.1 (-1)).2.2):=by unfold aU;rw[if_neg (by simpa using a1),if_neg a2]
   rw[if_neg a2,e]
 ·have e:aU b p=(([],(false,[],()),()),0,(ae b p 0).2.2):=by unfold aU;rw[if_pos a1]
  rw[if_pos a1,e,if_pos a1]
theorem aC {α:Type}{a b:α}(h:a=b):¬ a≠b:=fun h'=>h' h
theorem H5 (b:LI)(n:Int)(hn:0≤n)(hn':n≤16)(h6 h7:Int)(h8:Bool)(h9:LI)(h10:Bool)(h11:LI)(h12:List cx)(h13 h14:Int)(h15:Bool)(h16:LI)(h17:Bool)(h18:LI):∀(k m:Nat) (p:Int) (o:List cx) (i:Int),i+m=n→0≤i→m<k→o.length=i.toNat→
  pd k n i b p h6 h7 h8 h9 h10 h11 h12 h13 h14 h15 h16 h17 h18 o=if (au b m o p).2.2=0 then some (.pan (.ret ((),((),((b,((au b m o p).2.1,())),((h6,(h7,(h8,(h9,(h10,(h11,(h12,()))))))),((h13,(h14,(h15,(h16,(h17,(h18,((au b m o p).1,()))))))),()))))))) else some (.ret (((au b m o p).2.2,()),((),()))):=by
 intro k
 induction k with
 |zero=>intro m p o i h1 h2 h3;omega
 |succ k ih=>
  intro m p o i h1 h2 h3 h4
  rw[FZ]
  unfold qd
  cases m with
  |zero=>
   rw[ac (by simp;omega),if_pos (by rfl)]
   rfl
  |succ m=>
   rw[aa (by simp;omega),tE]
   by_cases a1:(aU b p).2.2=0
   ·rw[aa (by simpa using a1),if_neg (aC a1)]
    have hg:decide (o.length+[((aU b p).1.1,((aU b p).1.2.1.1,(aU b p).1.2.1.2.1,()),())].length≤4294967296)=true:=decide_eq_true (show o.length+1≤4294967296 by omega)
    rw[aa (by rw[zA];exact ⟨rfl,hg⟩),af (n:=i+1) (by omega) (by omega)]
    exact ih m _ _ (i+1) (by omega) (by omega) (by omega) (by simp;omega)
   ·rw[ac (by simpa using a1),if_pos a1,if_neg a1]
def xJ (a0:LI)(a1:Int):Option mN.Res:=bif decide (0≤1)&&(decide (1≤4294967296)&&(decide (0≤a1)&&decide (a1≤(↑a0.length:Int)))) then bif decide ((↑a0.length:Int) - a1<1) then some (Out.pan (1,())) else bif decide (0≤0)&&decide (0<(↑(List.take (Int.toNat 1) (List.drop a1.toNat a0)).length:Int)) then bif (List.take (Int.toNat 1) (List.drop a1.toNat a0)).getD (Int.toNat 0) 0 != 0 then some (Out.pan (71,())) else bif (ab 10 1 a0 (a1+1)).2.2 != 0 then some (Out.pan ((ab 10 1 a0 (a1+1)).2.2,())) else bif decide ((ab 5 15 a0 (ab 10 1 a0 (a1+1)).2.1).2.2=0) then bif decide (i32.wrap (ak (ab 5 15 a0 (ab 10 1 a0 (a1+1)).2.1).1)<0) then some (Out.pan (72,())) else bif decide ((ae a0 (ab 5 15 a0 (ab 10 1 a0 (a1+1)).2.1).2.1 (-1)).2.2=0) then bif decide ((ae a0 (ae a0 (ab 5 15 a0 (ab 10 1 a0 (a1+1)).2.1).2.1 (-1)).2.1 (-1)).2.2=0) then bif decide ((ab 5 15 a0 (ae a0 (ae a0 (ab 5 15 a0 (ab 10 1 a0 (a1+1)).2.1).2.1 (-1)).2.1 (-1)).2.1).2.2=0) then bif decide (i32.wrap (ak (ab 5 15 a0 (ae a0 (ae a0 (ab 5 15 a0 (ab 10 1 a0 (a1+1)).2.1).2.1 (-1)).2.1 (-1)).2.1).1)<0) then some (Out.pan (5,())) else bif decide (16<i32.wrap (ak (ab 5 15 a0 (ae a0 (ae a0 (ab 5 15 a0 (ab 10 1 a0 (a1+1)).2.1).2.1 (-1)).2.1 (-1)).2.1).1)) then some (Out.pan (9,())) else (kB ((i32.wrap (ak (ab 5 15 a0 (ae a0 (ae a0 (ab 5 15 a0 (ab 10 1 a0 (a1+1)).2.1).2.1 (-1)).2.1 (-1)).2.1).1),(0,())),((a0,((ab 5 15 a0 (ae a0 (ae a0 (ab 5 15 a0 (ab 10 1 a0 (a1+1)).2.1).2.1 (-1)).2.1 (-1)).2.1).2.1,())),((0,(0,(false,([],(false,([],([],()))))))),((ak (ab 10 1 a0 (a1+1)).1,(i32.wrap (i32.wrap (ak (ab 5 15 a0 (ab 10 1 a0 (a1+1)).2.1).1)),((ae a0 (ab 5 15 a0 (ab 10 1 a0 (a1+1)).2.1).2.1 (-1)).1.1,((ae a0 (ab 5 15 a0 (ab 10 1 a0 (a1+1)).2.1).2.1 (-1)).1.2.1,((ae a0 (ae a0 (ab 5 15 a0 (ab 10 1 a0 (a1+1)).2.1).2.1 (-1)).2.1 (-1)).1.1,((ae a0 (ae a0 (ab 5 15 a0 (ab 10 1 a0 (a1+1)).2.1).2.1 (-1)).2.1 (-1)).1.2.1,([],()))))))),()))))).run fun y=>match y with | .ret ((x54,()),((),()))=>(some (Out.pan (x54,()))) | .pan (.ret ((),((),(x55,x56,()),(x57,x58,x59,x60,x61,x62,x63,()),(x64,x65,x66,x67,x68,x69,x70,()),())))=>(bif decide (x56<(↑x55.length:Int)) then some (Out.pan (2,())) else oR (((x64,x65,(x66,x67,()),(x68,x69,()),x70,()),()),(x55,x56,()),())) else some (Out.pan ((ab 5 15 a0 (ae a0 (ae a0 (ab 5 15 a0 (ab 10 1 a0 (a1+1)).2.1).2.1 (-1)).2.1 (-1)).2.1).2.2,())) else some (Out.pan ((ae a0 (ae a0 (ab 5 15 a0 (ab 10 1 a0 (a1+1)).2.1).2.1 (-1)).2.1 (-1)).2.2,())) else some (Out.pan ((ae a0 (ab 5 15 a0 (ab 10 1 a0 (a1+1)).2.1).2.1 (-1)).2.2,())) else some (Out.pan ((ab 5 15 a0 (ab 10 1 a0 (a1+1)).2.1).2.2,())) else none else none
theorem L2 (a0:LI)(a1:Int):Io.run tt HK dr wM mN Tryz.f73 (((),()),(a0,a1,()),())=xJ a0 a1:=by kernel_rfl
theorem Nv:HcOk prog 73 (ah mN Gz):=by
 have hcs:HcsOk prog wb:=.cons vg (.cons sx (.cons wY (.cons IQ (.cons Eq (.cons Fm .nil)))))
 refine bK (cs:=wb) hcs (lp:=wM) (fn:=Tryz.f73) mN
  (.step (h0:=aD dw kB) (by kernel_rfl) (iK (cs:=wb) hcs (lp:=wM) (fn:=Tryz.f73) (.done (by kernel_rfl)) dw kB ?_) (.done (by kernel_rfl))) Gz ?_
 ·rintro ⟨⟨(n:Int),(i:Int),⟨⟩⟩,⟨(b:LI),(p:Int),⟨⟩⟩,⟨(h6:Int),(h7:Int),(h8:Bool),(h9:LI),(h10:Bool),(h11:LI),(h12:List cx),⟨⟩⟩,⟨(h13:Int),(h14:Int),(h15:Bool),(h16:LI),(h17:Bool),(h18:LI),(o:List cx),⟨⟩⟩,⟨⟩⟩ y hw hy
  obtain ⟨hg,hy⟩:=Tr.guard hy
  simp only[zA,zB] at hg
  obtain ⟨hi,h0,hs,ho⟩:=hg
  have hi:i=0:=hi
  have h0:0≤n:=h0
  have hs:n≤16:=hs
  have ho:o=[]:=ho
  subst hi ho
  refine ⟨n.toNat+1,(H5 b n h0 hs h6 h7 h8 h9 h10 h11 h12 h13 h14 h15 h16 h17 h18 _ n.toNat p [] 0 (by omega) (by omega) (by omega) rfl).trans ?_⟩
  rw[← hy]
  simp only[Tr.val_ite,zB,Tr.val_ret]
 ·rintro ⟨⟨⟨⟩,⟨⟩⟩,⟨⟨(b:LI),(p:Int),⟨⟩⟩,⟨⟩⟩⟩ out hw ho
  obtain ⟨hg,ho⟩:=Tr.guard ho
  have hg:p=0:=by simpa using hg
  subst hg
  refine (L2 b 0).trans ?_
  rw[← ho]
  simp only[Tr.val_ite,Tr.val_ret,zB]
  unfold xJ
  rw[aa (by simp)]
  by_cases h0:b.length=0
  ·have e:aM b=(ax,1):=by unfold aM;rw[if_pos h0]
   rw[e,aa (by simp;omega)]
   rfl
  rw[ac (by simp;omega)]
  obtain ⟨c,l,rfl⟩:∃c l,b=c::l:=by
   cases b with
   |nil=>exact absurd rfl h0
   |cons c l=>exact ⟨c,l,rfl⟩
  rw[aa (by simp)]
  by_cases h1:c=0
  rotate_left
  ·have e:aM (c::l)=(ax,71):=by unfold aM;rw[if_neg h0,if_pos (by simpa using h1)]
   rw[e,aa (by simpa using h1)]
   rfl
  have h1':(c::l).getD 0 0=0:=h1
  rw[ac (by simpa using h1)]
  generalize hb:c::l=b at *
  have hz:(0:Int)+1=1:=rfl
  rw[hz]
  by_cases h2:(ab 10 1 b 1).2.2=0
  rotate_left
  ·have e:aM b=(ax,(ab 10 1 b 1).2.2):=by unfold aM;rw[if_neg h0,if_neg (by simpa using h1'),if_pos h2]
   rw[e,aa (by simpa using h2),if_neg h2]
  rw[ac (by simpa using h2)]
  have hr:=@cH b
  have hE:Aw b=(av b (ae b (ae b (ag b (ab 10 1 b 1).2.1).2.1 (-1)).2.1 (-1)).2.1).2.1:=rfl
  generalize hq1:(ab 10 1 b 1).2.1=q1 at *
  have eR:aM b=if (ag b q1).2.2≠0 then (ax,(ag b q1).2.2) else if (ag b q1).1<0 then (ax,72) else if (ae b (ag b q1).2.1 (-1)).2.2≠0 then (ax,(ae b (ag b q1).2.1 (-1)).2.2) else
   if (ae b (ae b (ag b q1).2.1 (-1)).2.1 (-1)).2.2≠0 then (ax,(ae b (ae b (ag b q1).2.1 (-1)).2.1 (-1)).2.2) else
   if (av b (ae b (ae b (ag b q1).2.1 (-1)).2.1 (-1)).2.1).2.2≠0 then (ax,(av b (ae b (ae b (ag b q1).2.1 (-1)).2.1 (-1)).2.1).2.2) else
   if (av b (ae b (ae b (ag b q1).2.1 (-1)).2.1 (-1)).2.1).2.1<(b.length:Int) then (ax,2) else
   ((ak (ab 10 1 b 1).1,(ag b q1).1,(ae b (ag b q1).2.1 (-1)).1,(ae b (ae b (ag b q1).2.1 (-1)).2.1 (-1)).1,(av b (ae b (ae b (ag b q1).2.1 (-1)).2.1 (-1)).2.1).1,()),0):=by
   unfold aM;rw[if_neg h0,if_neg (by simpa using h1'),if_neg (by simpa using h2),hq1]
  have hn:∀p,i32.wrap (ak (ab 5 15 b p).1)=(ag b p).1:=fun _=>rfl
  have hq:∀p,(ab 5 15 b p).2.1=(ag b p).2.1:=fun _=>rfl
  have he:∀p,(ab 5 15 b p).2.2=(ag b p).2.2:=fun _=>rfl
  have hw32:i32.wrap (ag b q1).1=(ag b q1).1:=bD (k:=.i32) (bQ _ _)
  simp only[hn,hq,he]
  rw[eR,hE,hw32]
  by_cases c1:(ag b q1).2.2=0
  rotate_left
  ·rw[ac (by simpa using c1),if_pos c1,if_neg c1]
  rw[aa (by simpa using c1),if_neg (aC c1)]
  by_cases c2:(ag b q1).1<0
  ·rw[aa (by simpa using c2),if_pos c2];rfl
  rw[ac (by simpa using c2),if_neg c2]
  generalize hT1:ae b (ag b q1).2.1 (-1)=T1
  by_cases c3:T1.2.2=0
  rotate_left
  ·rw[ac (by simpa using c3),if_pos c3,if_neg c3]
  rw[aa (by simpa using c3),if_neg (aC c3)]
  generalize hT2:ae b T1.2.1 (-1)=T2
  by_cases c4:T2.2.2=0
  rotate_left
  ·rw[ac (by simpa using c4),if_pos c4,if_neg c4]
  rw[aa (by simpa using c4),if_neg (aC c4)]
  by_cases c5:(ag b T2.2.1).2.2=0
  rotate_left
  ·have eH:av b T2.2.1=([],0,(ag b T2.2.1).2.2):=by unfold av;rw[if_pos c5]
   rw[ac (by simpa using c5),eH,if_pos c5,if_neg c5]
  rw[aa (by simpa using c5)]
  by_cases c6:(ag b T2.2.1).1<0
  ·have eH:av b T2.2.1=([],0,5):=by unfold av;rw[if_neg (aC c5),if_pos c6]
   rw[aa (by simpa using c6),eH];rfl
  rw[ac (by simpa using c6)]
  by_cases c7:16<(ag b T2.2.1).1
  ·have eH:av b T2.2.1=([],0,9):=by unfold av;rw[if_neg (aC c5),if_neg c6,if_pos c7]
   rw[aa (by simpa using c7),eH];rfl
  have eH:av b T2.2.1=au b (ag b T2.2.1).1.toNat [] (ag b T2.2.1).2.1:=by unfold av;rw[if_neg (aC c5),if_neg c6,if_neg c7]
  rw[ac (by simpa using c7),eH]
  unfold kB
  simp only[Tr.run_ite,Tr.run_ret]
  have hgd:(decide True&&(decide ((0:Int)≤(ag b T2.2.1).1)&&(decide ((ag b T2.2.1).1≤(16:Int))&&decide True)))=true:=by
   simp only[zA,zB]
   exact ⟨trivial,by omega,by omega,trivial⟩
  rw[if_pos hgd]
  generalize au b (ag b T2.2.1).1.toNat [] (ag b T2.2.1).2.1=r
  by_cases c8:r.2.2=0
  ·rw[if_pos (decide_eq_true c8),if_neg (aC c8)]
   by_cases c9:r.2.1<(b.length:Int)
   ·simp only[c9,decide_true,cond_true,if_true]
    rfl
   ·simp only[c9,decide_false,cond_false,if_false]
    rfl
  ·rw[if_neg (by simpa using c8),if_pos c8,if_neg c8]
abbrev mK:Io:=⟨[dL,dI],[],[],[yy,dI,dI],none⟩
def Gw (d:mK.In):Tr mK.Res:=.ret (.ret (((am d.1.1 d.1.2.1).1,(am d.1.1 d.1.2.1).2.1,(am d.1.1 d.1.2.1).2.2,()),()))
abbrev G4:List (Nat×Hc):=[(72,ah fL qv),(73,ah mN Gz)]
def M0:Hd:=br G4
def Ib:Lp:=bA []
def xH (a0:LI)(a1:Int):Option mK.Res:=bif (ab 5 15 a0 a1).2.2 != 0 then oR (((0,0,(false,[],()),(false,[],()),[],()),0,(ab 5 15 a0 a1).2.2,()),()) else bif decide (i32.wrap (ak (ab 5 15 a0 a1).1)<0) then oR (((0,0,(false,[],()),(false,[],()),[],()),0,5,()),()) else bif decide (16384<i32.wrap (ak (ab 5 15 a0 a1).1)) then oR (((0,0,(false,[],()),(false,[],()),[],()),0,4,()),()) else bif decide (i64.wrap ((↑a0.length:Int) - (ab 5 15 a0 a1).2.1)<i64.wrap (i32.wrap (ak (ab 5 15 a0 a1).1))) then oR (((0,0,(false,[],()),(false,[],()),[],()),0,1,()),()) else bif decide (0≤(ab 5 15 a0 a1).2.1)&&(decide ((ab 5 15 a0 a1).2.1≤i64.wrap ((ab 5 15 a0 a1).2.1+i64.wrap (i32.wrap (ak (ab 5 15 a0 a1).1))))&&(decide (i64.wrap ((ab 5 15 a0 a1).2.1+i64.wrap (i32.wrap (ak (ab 5 15 a0 a1).1)))≤i64.wrap ((ab 5 15 a0 a1).2.1+i64.wrap (i32.wrap (ak (ab 5 15 a0 a1).1))))&&decide (i64.wrap ((ab 5 15 a0 a1).2.1+i64.wrap (i32.wrap (ak (ab 5 15 a0 a1).1)))≤(↑a0.length:Int)))) then bif decide ((aM (List.drop (ab 5 15 a0 a1).2.1.toNat (List.take (i64.wrap ((ab 5 15 a0 a1).2.1+i64.wrap (i32.wrap (ak (ab 5 15 a0 a1).1)))).toNat a0))).2=0) then oR ((((aM (List.drop (ab 5 15 a0 a1).2.1.toNat (List.take (i64.wrap ((ab 5 15 a0 a1).2.1+i64.wrap (i32.wrap (ak (ab 5 15 a0 a1).1)))).toNat a0))).1.1,(aM (List.drop (ab 5 15 a0 a1).2.1.toNat (List.take (i64.wrap ((ab 5 15 a0 a1).2.1+i64.wrap (i32.wrap (ak (ab 5 15 a0 a1).1)))).toNat a0))).1.2.1,((aM (List.drop (ab 5 15 a0 a1).2.1.toNat (List.take (i64.wrap ((ab 5 15 a0 a1).2.1+i64.wrap (i32.wrap (ak (ab 5 15 a0 a1).1)))).toNat a0))).1.2.2.1.1,(aM (List.drop (ab 5 15 a0 a1).2.1.toNat (List.take (i64.wrap ((ab 5 15 a0 a1).2.1+i64.wrap (i32.wrap (ak (ab 5 15 a0 a1).1)))).toNat a0))).1.2.2.1.2.1,()),((aM (List.drop (ab 5 15 a0 a1).2.1.toNat (List.take (i64.wrap ((ab 5 15 a0 a1).2.1+i64.wrap (i32.wrap (ak (ab 5 15 a0 a1).1)))).toNat a0))).1.2.2.2.1.1,(aM (List.drop (ab 5 15 a0 a1).2.1.toNat (List.take (i64.wrap ((ab 5 15 a0 a1).2.1+i64.wrap (i32.wrap (ak (ab 5 15 a0 a1).1)))).toNat a0))).1.2.2.2.1.2.1,()),(aM (List.drop (ab 5 15 a0 a1).2.1.toNat (List.take (i64.wrap ((ab 5 15 a0 a1).2.1+i64.wrap (i32.wrap (ak (ab 5 15 a0 a1).1)))).toNat a0))).1.2.2.2.2.1,()),i64.wrap ((ab 5 15 a0 a1).2.1+i64.wrap (i32.wrap (ak (ab 5 15 a0 a1).1))),0,()),()) else oR (((0,0,(false,[],()),(false,[],()),[],()),0,(aM (List.drop (ab 5 15 a0 a1).2.1.toNat (List.take (i64.wrap ((ab 5 15 a0 a1).2.1+i64.wrap (i32.wrap (ak (ab 5 15 a0 a1).1)))).toNat a0))).2,()),()) else none
theorem LZ (a0:LI)(a1:Int):Io.runD tt M0 dr Ib 64 128 mK Tryz.f36 71 Tryz.f71 11 ((a0,a1,()),())=xH a0 a1:=by kernel_rfl
theorem Ns:HcOk prog 36 (ah mK Gw):=by
 have htt:=cY Tryz.prog 400
 have hcs:HcsOk prog G4:=.cons zP (.cons Nv .nil)
 refine yB (P:=prog) htt hm (gD hcs) (dc htt) (fn:=Tryz.f36) (by kernel_rfl) (by kernel_rfl) mK (kb2:=64) (kbG:=128) (by decide) (by decide)
  (i1:=1) (ops1:=dX (gY (fR (aR Tryz.f36)))) (by kernel_rfl) rfl (by kernel_rfl)
  (o1:=((dX (gY (fR (aR Tryz.f36))))[1]?).getD default) (t:=11) (aT:=#[]) (by kernel_rfl) (by kernel_rfl) (by kernel_rfl) (by kernel_rfl) (lp:=Ib) (by kernel_rfl) (lT (by kernel_rfl))
  (g:=71) (gfn:=Tryz.f71) (i2:=0) (gops:=dX (gY (aR Tryz.f71))) (grest:=fR (aR Tryz.f71))
  (by kernel_rfl) (by kernel_rfl) (by kernel_rfl) rfl rfl (by kernel_rfl) (oo:=((dX (gY (aR Tryz.f71)))[0]?).getD default) (by kernel_rfl) (by kernel_rfl) (by kernel_rfl) (by kernel_rfl) (by kernel_rfl) Gw ?_
 rintro ⟨⟨(b:LI),(p:Int),⟨⟩⟩,⟨⟩⟩ out hw ho
 cases ho
 refine (LZ b p).trans ?_
 have hb:b.length≤maxLen:=hw.1.1.1
 rw[aB] at hb
 show _=oR (((am b p).1,(am b p).2.1,(am b p).2.2,()),())
 have hr:=@cH b p
 unfold xH
 by_cases h0:(ag b p).2.2=0
 rotate_left
 ·have h0':(ab 5 15 b p).2.2≠0:=h0
  have e:am b p=(ax,0,(ab 5 15 b p).2.2):=by unfold am;rw[if_pos h0];rfl
  rw[e,aa (by simpa using h0')]
  rfl
 have hk:=lk h0
 have h0':(ab 5 15 b p).2.2=0:=h0
 rw[ac (by simpa using h0')]
 generalize hq:(ab 5 15 b p).2.1=q
 generalize hn:IntKind.wrap .i32 (ak (ab 5 15 b p).1)=n
 have hq:(ag b p).2.1=q:=hq
 have hn:(ag b p).1=n:=hn
 have e0:am b p=if n<0 then (ax,0,5) else if 16384<n then (ax,0,4) else if (b.length:Int) - q<n then (ax,0,1)
   else if (aM ((b.drop q.toNat).take n.toNat)).2≠0 then (ax,0,(aM ((b.drop q.toNat).take n.toNat)).2)
   else ((aM ((b.drop q.toNat).take n.toNat)).1,q+n,0):=by unfold am;rw[if_neg (by simpa using h0),hq,hn]
 rw[e0]
 rw[hq] at hk
 rw[hn] at hr
 by_cases h1:n<0
 ·rw[aa (by simpa using h1),if_pos h1]
  rfl
 rw[ac (by simpa using h1),if_neg h1]
 by_cases h2:16384<n
 ·rw[aa (by simpa using h2),if_pos h2]
  rfl
 rw[ac (by simpa using h2),if_neg h2,af (n:=(b.length:Int) - q) (by omega) (by omega),af (n:=n) (by omega) (by omega)]
 by_cases h3:(b.length:Int) - q<n
 ·rw[aa (by simpa using h3),if_pos h3]
  rfl
 rw[ac (by simpa using h3),if_neg h3,af (n:=q+n) (by omega) (by omega),aa (by simp;omega),List.drop_take,show (q+n).toNat - q.toNat=n.toNat by omega]
 generalize aM ((b.drop q.toNat).take n.toNat)=r
 by_cases h4:r.2=0
 ·rw[aa (by simpa using h4),if_neg (aC h4)]
 ·rw[ac (by simpa using h4),if_pos h4]
  rfl
def kp (b:xw):Bool:=b.1&&decide ((0:Int)<(b.2.1.length:Int))
def ct (b:xw):LI:=if b.1=true then b7 (bd (-1)) else b7 (bd b.2.1.length)++b.2.1
def EL (h:cx):LI:=b7 (bd h.1.length)++(h.1++ct h.2.1)
def dN (hs:List cx):LI:=hs.flatMap EL
def cU (r:l8):LI:=0::(b7 (bd r.1)++(b7 (bd r.2.1)++(ct r.2.2.1++(ct r.2.2.2.1++(b7 (bd r.2.2.2.2.1.length)++dN r.2.2.2.2.1)))))
def fa:List cx→Int
 |[]=>0
 |h::hs=>if (cn h.1).2=false then 6 else if kp h.2.1=true then 70 else fa hs
def gf (r:l8):Int:=
 if r.2.1<0 then 72 else if kp r.2.2.1=true∨kp r.2.2.2.1=true then 70 else if 16<(r.2.2.2.2.1.length:Int) then 9 else fa r.2.2.2.2.1
def bM (r:l8):Int:=if gf r≠0 then gf r else if 16384<((cU r).length:Int) then 4 else 0
def cV (r:l8):LI×Int:=if bM r=0 then (cU r,0) else ([],bM r)
def cE (r:l8):LI×Int:=if bM r=0 then (b7 (bd (cU r).length)++cU r,0) else ([],bM r)
def pz (r:l8):Bool:=decide ((cU r).length≤4294967000)
theorem vl (u:Int):(b7 u).length≤11:=by
 unfold b7
 have:=As 10 u
 simp only[zH,zN,List.length_nil]
 omega
abbrev mM:Io:=⟨[uJ],[],[],[dB],none⟩
def Gy (d:mM.In):Tr mM.Res:=.ret (.ret ((kp d.1.1,()),()))
abbrev G6:List (Nat×Hc):=[]
def M2:Hd:=br G6
def Id:Lp:=bA []
def GO (a0:Bool)(a1:LI):Option mM.Res:=bif a0 then oR ((decide (0<(↑a1.length:Int)),()),()) else oR ((false,()),())
theorem L1 (a0:Bool)(a1:LI):Io.run tt M2 dr Id mM Tryz.f151 (((a0,a1,()),()),())=GO a0 a1:=by kernel_rfl
theorem Nu:HcOk prog 151 (ah mM Gy):=by
 refine bK (cs:=G6) .nil (lp:=Id) (fn:=Tryz.f151) mM (.done (by kernel_rfl)) Gy ?_
 rintro ⟨⟨⟨(n:Bool),(b:LI),⟨⟩⟩,⟨⟩⟩,⟨⟩⟩ out hw ho
 cases ho
 refine (L1 n b).trans ?_
 cases n <;> rfl
abbrev gM:Io:=⟨[yy],[],[],[dI],none⟩
def vD (d:gM.In):Tr gM.Res:=.ret (.ret ((gf d.1.1,()),()))
abbrev nR:List (Nat×Hc):=[(151,ah mM Gy),(137,ah kR CC)]
def yO:Hd:=br nR
abbrev cQ:Lo:=⟨⟨(aj (dC (bt (.one (.hol (.sl 51 (Ty.str.prod ((Ty.bool.prod ((Ty.sl 5 (Ty.int u8)).prod Ty.unit)).prod Ty.unit))))::.one hI::.one hI::aj [])))),[]⟩,[(.ret,⟨(bt (.one hI::aj (aj (dC (bt []))))),[]⟩),(.exit 1,⟨(.any::aj (aj (dC (bO [])))),[]⟩)]⟩
def jf (d:cQ.st.den):Tr (ao cQ.xs):=
 .ite (decide (d.1.2.2.1=(0:Int))&&decide (d.1.2.1=(d.1.1.length:Int))) (.ite (decide (fa d.1.1=(0:Int))) (.ret (.pan (.ret ((),((),()))))) (.ret (.ret ((),((fa d.1.1,()),()))))) .no
def oa:Lp:=bA [(9,aD cQ jf)]
def oL {R:Type}(h7:List co.den)(h8 h9:Int)(next:List co.den→Int→Int→Option R)(out:ao cQ.xs→Option R):Option R:=bif decide (h9<h8) then bif decide (0≤h9)&&decide (h9<(↑h7.length:Int)) then bif !(cn (h7.getD h9.toNat ([],(false,[],()),())).1).2 then out (.ret ((),((6,()),()))) else bif kp ((h7.getD h9.toNat ([],(false,[],()),())).2.1.1,(h7.getD h9.toNat ([],(false,[],()),())).2.1.2.1,()) then out (.ret ((),((70,()),()))) else next (h7) (h8) (i64.wrap (h9+1)) else none else out (.pan (.ret ((),((),()))))
def nb (n:Nat)(h7:List co.den)(h8 h9:Int):Option (ao cQ.xs):=ik tt yO dr oa 0 Tryz.f143 (cb Tryz.f143 0) n (cQ.st.mk' ((h7,(h8,(h9,()))),())) (bG cQ.xs)
theorem Ch (n:Nat)(h7:List co.den)(h8 h9:Int):nb (n+1) h7 h8 h9=oL h7 h8 h9 (nb n) some:=by kernel_rfl
theorem BL (hs:List cx)(hm:hs.length≤maxLen):∀(k i:Nat),i≤hs.length→hs.length<i+k→
  nb k hs (hs.length:Int) (i:Int)=if fa (hs.drop i)=0 then some (.pan (.ret ((),((),())))) else some (.ret ((),((fa (hs.drop i),()),()))):=by
 intro k
 induction k with
 |zero=>intro i h1 h2;omega
 |succ k ih=>
  intro i h1 h2
  rw[Ch]
  unfold oL
  by_cases h3:i<hs.length
  ·have e:(hs.getD (i:Int).toNat ([],(false,[],()),()):cx)=hs[i]:=aF h3
   rw[zE h3,← e,aQ h3 hm]
   generalize (hs.getD (i:Int).toNat ([],(false,[],()),()):cx)=x
   obtain ⟨x1,⟨x2,x3,⟨⟩⟩,⟨⟩⟩:=x
   rw[aa (by simpa using h3),aa (by simp[h3])]
   by_cases h4:(cn x1).2=false
   ·have eE:fa ((x1,(x2,x3,()),())::hs.drop (i+1))=6:=by unfold fa;rw[if_pos h4]
    rw[eE,aa (by simpa using h4)]
    rfl
   ·rw[ac (by simpa using h4)]
    by_cases h5:kp (x2,x3,())=true
    ·have eE:fa ((x1,(x2,x3,()),())::hs.drop (i+1))=70:=by unfold fa;rw[if_neg h4,if_pos h5]
     rw[eE,aa h5]
     rfl
    ·have eE:fa ((x1,(x2,x3,()),())::hs.drop (i+1))=fa (hs.drop (i+1)):=by rw[fa,if_neg h4,if_neg h5]
     rw[eE,ac (by simpa using h5)]
     exact ih (i+1) h3 (by omega)
  ·rw[zI (by omega)]
   rw[ac (by simpa using h3)]
   rfl
def rC (a0 a1:Int)(a2:Bool)(a3:LI)(a4:Bool)(a5:LI)(a6:List co.den):Option gM.Res:=bif decide (a1<0) then oR ((72,()),()) else bif kp (a2,a3,()) then oR ((70,()),()) else bif kp (a4,a5,()) then oR ((70,()),()) else bif decide (16<(↑a6.length:Int)) then oR ((9,()),()) else (jf ((a6,((↑a6.length:Int),(0,()))),())).run fun y=>match y with | .ret ((),((x15,()),()))=>(oR ((x15,()),())) | .pan (.ret ((),((),())))=>(oR ((0,()),()))
theorem FE (a0 a1:Int)(a2:Bool)(a3:LI)(a4:Bool)(a5:LI)(a6:List co.den):Io.run tt yO dr oa gM Tryz.f143 (((a0,a1,(a2,a3,()),(a4,a5,()),a6,()),()),())=rC a0 a1 a2 a3 a4 a5 a6:=by kernel_rfl
theorem IM:HcOk prog 143 (ah gM vD):=by
 have hcs:HcsOk prog nR:=.cons Nu (.cons IR .nil)
 refine bK (cs:=nR) hcs (lp:=oa) (fn:=Tryz.f143) gM
  (.step (h0:=aD cQ jf) (by kernel_rfl) (iK (cs:=nR) hcs (lp:=oa) (fn:=Tryz.f143) (.done (by kernel_rfl)) cQ jf ?_) (.done (by kernel_rfl))) vD ?_
 ·rintro ⟨⟨(hs:List cx),(n:Int),(i:Int),⟨⟩⟩,⟨⟩⟩ y hw hy
  obtain ⟨hg,hy⟩:=Tr.guard hy
  simp only[zA,zB] at hg
  obtain ⟨hi,hn⟩:=hg
  have hi:i=0:=hi
  have hn:n=hs.length:=hn
  subst hi hn
  refine ⟨hs.length+1,(BL hs hw.1.1.1 _ 0 (by omega) (by omega)).trans ?_⟩
  rw[← hy]
  simp only[Tr.val_ite,zB,Tr.val_ret,List.drop_zero]
 ·rintro ⟨⟨⟨(a0:Int),(a1:Int),⟨(a2:Bool),(a3:LI),⟨⟩⟩,⟨(a4:Bool),(a5:LI),⟨⟩⟩,(a6:List cx),⟨⟩⟩,⟨⟩⟩,⟨⟩⟩ out hw ho
  cases ho
  refine (FE a0 a1 a2 a3 a4 a5 a6).trans ?_
  unfold rC jf
  show _=oR ((gf (a0,a1,(a2,a3,()),(a4,a5,()),a6,()),()),())
  unfold gf
  simp only[Tr.run_ite,Tr.run_ret]
  by_cases h1:a1<0
  ·rw[aa (by simpa using h1),if_pos h1]
  rw[ac (by simpa using h1),if_neg h1]
  by_cases h2:kp (a2,a3,())=true
  ·rw[aa h2,if_pos (.inl h2)]
  rw[ac (by simpa using h2)]
  by_cases h3:kp (a4,a5,())=true
  ·rw[aa h3,if_pos (.inr h3)]
  rw[ac (by simpa using h3),if_neg (show ¬(kp (a2,a3,())=true∨kp (a4,a5,())=true) from fun h=>h.elim h2 h3)]
  by_cases h4:16<(a6.length:Int)
  ·rw[aa (by simpa using h4),if_pos h4]
  rw[ac (by simpa using h4),if_neg h4]
  rw[if_pos (by simp)]
  by_cases h5:fa a6=0
  ·rw[if_pos (decide_eq_true h5),h5]
  ·rw[if_neg (by simpa using h5)]
abbrev gN:Io:=⟨[dO,uJ],[],[],[dO],none⟩
def vE (d:gN.In):Tr gN.Res:=.ite (decide (d.1.1.length+(ct d.1.2.1).length≤4294967296)) (.ret (.ret ((d.1.1++ct d.1.2.1,()),()))) .no
abbrev yj:List (Nat×Hc):=[(86,ah jI xx)]
def HL:Hd:=br yj
def zl:Lp:=bA []
def rD (a0:LI)(a1:Bool)(a2:LI):Option gN.Res:=bif a1 then bif decide (a0.length+(b7 (bd (-1))).length≤4294967296) then oR ((a0++b7 (bd (-1)),()),()) else none else bif decide (a0.length+(b7 (bd (↑a2.length:Int))).length≤4294967296) then bif decide ((a0++b7 (bd (↑a2.length:Int))).length+a2.length≤4294967296) then oR ((a0++b7 (bd (↑a2.length:Int))++a2,()),()) else none else none
theorem FF (a0:LI)(a1:Bool)(a2:LI):Io.run tt HL dr zl gN Tryz.f144 ((a0,(a1,a2,()),()),())=rD a0 a1 a2:=by kernel_rfl
theorem IN:HcOk prog 144 (ah gN vE):=by
 refine bK (cs:=yj) (.cons BR .nil) (lp:=zl) (fn:=Tryz.f144) gN (.done (by kernel_rfl)) vE ?_
 rintro ⟨⟨(o:LI),⟨(n:Bool),(b:LI),⟨⟩⟩,⟨⟩⟩,⟨⟩⟩ out hw ho
 obtain ⟨hg,ho⟩:=Tr.guard ho
 have hg:o.length+(ct (n,b,())).length≤4294967296:=by simpa using hg
 cases ho
 refine (FF o n b).trans ?_
 show _=oR ((o++ct (n,b,()),()),())
 unfold rD
 cases n with
 |true=>
  have e:ct (true,b,())=b7 (bd (-1)):=rfl
  rw[e] at hg ⊢
  rw[aa rfl,aa (by simpa using hg)]
 |false=>
  have e:ct (false,b,())=b7 (bd b.length)++b:=rfl
  rw[e] at hg ⊢
  simp only[zH] at hg
  rw[ac rfl,aa (by simp;omega),aa (by simp;omega),zK]
abbrev jG:Io:=⟨[yy],[],[],[dO,dI],none⟩
def AP (d:jG.In):Tr jG.Res:=.ite (pz d.1.1) (.ret (.ret (((cV d.1.1).1,(cV d.1.1).2,()),()))) .no
abbrev qD:List (Nat×Hc):=[(143,ah gM vD),(127,ah ew nA),(86,ah jI xx),(144,ah gN vE)]
def DA:Hd:=br qD
abbrev cP:Lo:=⟨⟨(.any::bO (.one (.onl 5 (Ty.int u8) 11)::.any::aj (dC (bO (bt (.one (.hol (.sl 51 (Ty.str.prod ((Ty.bool.prod ((Ty.sl 5 (Ty.int u8)).prod Ty.unit)).prod Ty.unit))))::.one hI::.one hI::aj (bO (bt [])))))))),[]⟩,[(.exit 0,⟨(.any::bO (.one (.onl 5 (Ty.int u8) 11)::aj (aj (aj (dC []))))),[]⟩)]⟩
def je (d:cP.st.den):Tr (ao cP.xs):=
 .ite (decide (d.1.2.2.2.1=(0:Int))&&(decide (d.1.2.2.1=(d.1.2.1.length:Int))&&decide (d.1.1.length+(dN d.1.2.1).length≤4294967296))) (.ret (.ret ((),((d.1.1++dN d.1.2.1,()),())))) .no
def qO:Lp:=bA [(10,aD cP je)]
def oK {R:Type}(h7:LI)(h8:List co.den)(h9 h10:Int)(next:LI→List co.den→Int→Int→Option R)(out:ao cP.xs→Option R):Option R:=bif decide (h10<h9) then bif decide (0≤h10)&&decide (h10<(↑h8.length:Int)) then bif decide (h7.length+(b7 (bd (↑(List.length (h8.getD h10.toNat ([],(false,[],()),())).1):Int))).length≤4294967296) then bif decide ((h7++b7 (bd (↑(List.length (h8.getD h10.toNat ([],(false,[],()),())).1):Int))).length+List.length (h8.getD h10.toNat ([],(false,[],()),())).1≤4294967296) then bif decide ((h7++b7 (bd (↑(List.length (h8.getD h10.toNat ([],(false,[],()),())).1):Int))++(h8.getD h10.toNat ([],(false,[],()),())).1).length+(ct ((h8.getD h10.toNat ([],(false,[],()),())).2.1.1,(h8.getD h10.toNat ([],(false,[],()),())).2.1.2.1,())).length≤4294967296) then next (h7++b7 (bd (↑(List.length (h8.getD h10.toNat ([],(false,[],()),())).1):Int))++(h8.getD h10.toNat ([],(false,[],()),())).1++ct ((h8.getD h10.toNat ([],(false,[],()),())).2.1.1,(h8.getD h10.toNat ([],(false,[],()),())).2.1.2.1,())) (h8) (h9) (i64.wrap (h10+1)) else none else none else none else none else out (.ret ((),((h7,()),())))
def na (n:Nat)(h7:LI)(h8:List co.den)(h9 h10:Int):Option (ao cP.xs):=ik tt DA dr qO 0 Tryz.f121 (cb Tryz.f121 0) n (cP.st.mk' ((h7,(h8,(h9,(h10,())))),())) (bG cP.xs)
theorem Cg (n:Nat)(h7:LI)(h8:List co.den)(h9 h10:Int):na (n+1) h7 h8 h9 h10=oK h7 h8 h9 h10 (na n) some:=by kernel_rfl
theorem Ff (hs:List cx)(hm:hs.length≤maxLen):∀(k i:Nat) (o:LI),i≤hs.length→hs.length<i+k→o.length+(dN (hs.drop i)).length≤4294967296→
  na k o hs (hs.length:Int) (i:Int)=some (.ret ((),((o++dN (hs.drop i),()),()))):=by
 intro k
 induction k with
 |zero=>intro i o h1 h2;omega
 |succ k ih=>
  intro i o h1 h2 h3
  rw[Cg]
  unfold oK
  by_cases h4:i<hs.length
  ·have e:(hs.getD (i:Int).toNat ([],(false,[],()),()):cx)=hs[i]:=aF h4
   rw[zE h4,← e] at h3 ⊢
   rw[aQ h4 hm]
   generalize (hs.getD (i:Int).toNat ([],(false,[],()),()):cx)=x at *
   obtain ⟨x1,⟨x2,x3,⟨⟩⟩,⟨⟩⟩:=x
   have eW:dN ((x1,(x2,x3,()),())::hs.drop (i+1))=b7 (bd x1.length)++(x1++ct (x2,x3,()))++dN (hs.drop (i+1)):=by simp[dN,EL]
   rw[eW] at h3 ⊢
   simp only[zH] at h3
   rw[aa (by simpa using h4),aa (by simp[h4]),aa (by simp;omega),aa (by simp;omega),aa (by simp;omega)]
   refine (ih (i+1) _ h4 (by omega) (by simp only[zH];omega)).trans ?_
   simp only[zK]
  ·rw[zI (by omega)]
   rw[ac (by simpa using h4)]
   simp[dN]
def t4 (a0 a1:Int)(a2:Bool)(a3:LI)(a4:Bool)(a5:LI)(a6:List co.den):Option jG.Res:=bif gf (a0,a1,(a2,a3,()),(a4,a5,()),a6,()) != 0 then oR (([],gf (a0,a1,(a2,a3,()),(a4,a5,()),a6,()),()),()) else bif decide ([0].length+(dK [a0,i64.wrap a1]).length≤4294967296) then bif decide (([0]++dK [a0,i64.wrap a1]).length+(ct (a2,a3,())).length≤4294967296) then bif decide (List.length ([0]++dK [a0,i64.wrap a1]++ct (a2,a3,()))+(ct (a4,a5,())).length≤4294967296) then bif decide (List.length ([0]++dK [a0,i64.wrap a1]++ct (a2,a3,())++ct (a4,a5,()))+(b7 (bd (↑a6.length:Int))).length≤4294967296) then (je (([0]++dK [a0,i64.wrap a1]++ct (a2,a3,())++ct (a4,a5,())++b7 (bd (↑a6.length:Int)),(a6,((↑a6.length:Int),(0,())))),())).run fun y=>match y with | .ret ((),((x16,()),()))=>(bif decide (16384<(↑x16.length:Int)) then oR (([],4,()),()) else oR ((x16,0,()),())) else none else none else none else none
theorem Jg (a0 a1:Int)(a2:Bool)(a3:LI)(a4:Bool)(a5:LI)(a6:List co.den):Io.run tt DA dr qO jG Tryz.f121 (((a0,a1,(a2,a3,()),(a4,a5,()),a6,()),()),())=t4 a0 a1 a2 a3 a4 a5 a6:=by kernel_rfl
theorem Lu:HcOk prog 121 (ah jG AP):=by
 have hcs:HcsOk prog qD:=.cons IM (.cons vi (.cons BR (.cons IN .nil)))
 refine bK (cs:=qD) hcs (lp:=qO) (fn:=Tryz.f121) jG
  (.step (h0:=aD cP je) (by kernel_rfl) (iK (cs:=qD) hcs (lp:=qO) (fn:=Tryz.f121) (.done (by kernel_rfl)) cP je ?_) (.done (by kernel_rfl))) AP ?_
 ·rintro ⟨⟨(o:LI),(hs:List cx),(n:Int),(i:Int),⟨⟩⟩,⟨⟩⟩ y hw hy
  obtain ⟨hg,hy⟩:=Tr.guard hy
  simp only[zA,zB] at hg
  obtain ⟨hi,hn,hl⟩:=hg
  have hi:i=0:=hi
  have hn:n=hs.length:=hn
  subst hi hn
  refine ⟨hs.length+1,(Ff hs hw.1.2.1.1 _ 0 o (by omega) (by omega) hl).trans ?_⟩
  rw[← hy]
  rfl
 ·rintro ⟨⟨⟨(a0:Int),(a1:Int),⟨(a2:Bool),(a3:LI),⟨⟩⟩,⟨(a4:Bool),(a5:LI),⟨⟩⟩,(a6:List cx),⟨⟩⟩,⟨⟩⟩,⟨⟩⟩ out hw ho
  obtain ⟨hg,ho⟩:=Tr.guard ho
  cases ho
  refine (Jg a0 a1 a2 a3 a4 a5 a6).trans ?_
  have ha1:bi .i32 a1:=hw.1.1.2.1
  have ha1 : -2147483648≤a1∧a1≤2147483647:=by simpa [bi,IntKind.min,IntKind.max,IntKind.signed,IntKind.bits] using ha1
  have hg:(cU (a0,a1,(a2,a3,()),(a4,a5,()),a6,())).length≤4294967000:=of_decide_eq_true hg
  show _=oR (((cV (a0,a1,(a2,a3,()),(a4,a5,()),a6,())).1,(cV (a0,a1,(a2,a3,()),(a4,a5,()),a6,())).2,()),())
  have eb:cU (a0,a1,(a2,a3,()),(a4,a5,()),a6,())=[0]++dK [a0,a1]++ct (a2,a3,())++ct (a4,a5,())++b7 (bd a6.length)++dN a6:=by
   simp[cU,dK]
  have hl:=hg
  rw[eb] at hl
  simp only[zH] at hl
  unfold t4 cV
  rw[af (n:=a1) (by omega) (by omega)]
  generalize hr:((a0,a1,(a2,a3,()),(a4,a5,()),a6,()):l8)=r at *
  by_cases h1:gf r=0
  rotate_left
  ·have ec:bM r=gf r:=by unfold bM;rw[if_pos h1]
   rw[aa (by simpa using h1),ec,if_neg h1]
  have ec:bM r=if 16384<((cU r).length:Int) then 4 else 0:=by unfold bM;rw[if_neg (aC h1)]
  rw[ac (by simpa using h1),aa (by simp;omega),aa (by simp;omega),aa (by simp;omega),aa (by simp;omega)]
  unfold je
  simp only[Tr.run_ite,Tr.run_ret]
  rw[if_pos (by simp;omega),← eb,ec]
  by_cases h2:16384<((cU r).length:Int)
  ·rw[aa (by simpa using h2),if_pos h2]
   rfl
  ·rw[ac (by simpa using h2),if_neg h2]
   rfl
abbrev mL:Io:=⟨[yy],[],[],[dO,dI],none⟩
def Gx (d:mL.In):Tr mL.Res:=.ite (pz d.1.1) (.ret (.ret (((cE d.1.1).1,(cE d.1.1).2,()),()))) .no
abbrev G5:List (Nat×Hc):=[(121,ah jG AP),(86,ah jI xx)]
def M1:Hd:=br G5
def Ic:Lp:=bA []
def xI (a0 a1:Int)(a2:Bool)(a3:LI)(a4:Bool)(a5:LI)(a6:List co.den):Option mL.Res:=bif pz (a0,a1,(a2,a3,()),(a4,a5,()),a6,()) then bif (cV (a0,a1,(a2,a3,()),(a4,a5,()),a6,())).2 != 0 then oR (([],(cV (a0,a1,(a2,a3,()),(a4,a5,()),a6,())).2,()),()) else bif decide ((b7 (bd (↑(cV (a0,a1,(a2,a3,()),(a4,a5,()),a6,())).1.length:Int))).length+(cV (a0,a1,(a2,a3,()),(a4,a5,()),a6,())).1.length≤4294967296) then oR ((b7 (bd (↑(cV (a0,a1,(a2,a3,()),(a4,a5,()),a6,())).1.length:Int))++(cV (a0,a1,(a2,a3,()),(a4,a5,()),a6,())).1,0,()),()) else none else none
theorem L0 (a0 a1:Int)(a2:Bool)(a3:LI)(a4:Bool)(a5:LI)(a6:List co.den):Io.run tt M1 dr Ic mL Tryz.f83 (((a0,a1,(a2,a3,()),(a4,a5,()),a6,()),()),())=xI a0 a1 a2 a3 a4 a5 a6:=by kernel_rfl
theorem Nt:HcOk prog 83 (ah mL Gx):=by
 refine bK (cs:=G5) (.cons Lu (.cons BR .nil)) (lp:=Ic) (fn:=Tryz.f83) mL (.done (by kernel_rfl)) Gx ?_
 rintro ⟨⟨⟨(a0:Int),(a1:Int),⟨(a2:Bool),(a3:LI),⟨⟩⟩,⟨(a4:Bool),(a5:LI),⟨⟩⟩,(a6:List cx),⟨⟩⟩,⟨⟩⟩,⟨⟩⟩ out hw ho
 obtain ⟨hg,ho⟩:=Tr.guard ho
 cases ho
 refine (L0 a0 a1 a2 a3 a4 a5 a6).trans ?_
 show _=oR (((cE (a0,a1,(a2,a3,()),(a4,a5,()),a6,())).1,(cE (a0,a1,(a2,a3,()),(a4,a5,()),a6,())).2,()),())
 have hg:pz (a0,a1,(a2,a3,()),(a4,a5,()),a6,())=true:=hg
 unfold xI
 generalize ((a0,a1,(a2,a3,()),(a4,a5,()),a6,()):l8)=r at *
 have hl:(cU r).length≤4294967000:=of_decide_eq_true hg
 rw[aa hg]
 by_cases h1:bM r=0
 ·have e1:cV r=(cU r,0):=by unfold cV;rw[if_pos h1]
  have e2:cE r=(b7 (bd (cU r).length)++cU r,0):=by unfold cE;rw[if_pos h1]
  have:=vl (bd (cU r).length)
  rw[e1,e2]
  rw[ac (by rfl),aa (by simp;omega)]
 ·have e1:cV r=([],bM r):=by unfold cV;rw[if_neg h1]
  have e2:cE r=([],bM r):=by unfold cE;rw[if_neg h1]
  rw[e1,e2,aa (by simpa using h1)]
end
end Go.Proofs.YtcbcbjdobbgddaaGreatDoor.Sym
namespace Go.Proofs.YtcbcbjdobbgddaaGreatDoor.Sym
open Go
open Go.ChangeShapes Go.WideShapes Go.ChangeAt Go.RowKit
def dJ (P:Program):Ty→(TypeId ⊕ (List Field×Nat))→Bool
 |.int k,.inl t=>match P.underlying t with
  |some (.int k')=>decide (k'=k)
  |_=>false
 |.bool,.inl t=>match P.underlying t with
  |some .bool=>true
  |_=>false
 |.str,.inl t=>match P.underlying t with
  |some .string=>true
  |_=>false
 |.sl e ty,.inl t=>match P.underlying t with
  |some (.slice e')=>(e' == e)&&(dJ P ty (.inl e)&&((P.cellsOf e == ty.size)&&!(ty.size == 0)))
  |_=>false
 |.prod a b,.inl t=>match P.underlying t with
  |some (.struct fs)=>(P.cellsOf t == a.size+b.size)&&match fs.toList with
   |f::fs'=>(f.offset == 0)&&((P.cellsOf f.type == a.size)&&(dJ P a (.inl f.type)&&dJ P b (.inr (fs',a.size))))
   |[]=>false
  |_=>false
 |.unit,.inr ([],_)=>true
 |.prod a b,.inr (f::fs,off)=>(f.offset == off)&&((P.cellsOf f.type == a.size)&&(dJ P a (.inl f.type)&&dJ P b (.inr (fs,off+a.size))))
 |_,_=>false
def yD:(t:Ty)→t.den→Nat
 |.int _,_=>1
 |.bool,_=>1
 |.str,s=>List.length (α:=Int) s+1
 |.sl _ t,xs=>(List.map (yD t) xs).sum+1
 |.unit,_=>0
 |.prod a b,x=>yD a x.1+yD b x.2
 |.tree _ _,_=>0
def S0 (W:World)(b o:Nat):Prop:=∃v,W.cell? ⟨b,o,none⟩=some v
section
variable {P:Program} {W:World} {H:Type} {enc:TypeId×Value→H} {sp:Nat→Bool} {held:Bool}
theorem GT {a:Addr}{n:Nat}{cs:List Value}(h:W.cells? 0 a n=some cs)(hn:0<n):a.spot=none∧cs.length=n∧At (S0 W) W a.block a.off cs:=by
 simp only[World.cells?,Nat.zero_le,if_true] at h
 have hl:=mapM_some_length h
 rw[List.length_range] at hl
 have hg:∀i,i<n→W.cell? (a.add i)=cs[i]?:=fun i hi=>mapM_some_get h i i (by simp[hi])
 have hsp:a.spot=none:=by
  have h0:=hg 0 hn
  rw[List.getElem?_eq_getElem (by omega)] at h0
  unfold World.cell? at h0
  split at h0
  ·split at h0
   ·cases h0
   ·rename_i hs
    cases e:a.spot with
    |none=>rfl
    |some x=>simp[Addr.add,e] at hs
  ·cases h0
 refine ⟨hsp,hl,fun j v hv=>?_⟩
 have hj:j<n:=by rw[← hl];exact (List.getElem?_eq_some_iff.1 hv).1
 have:=hg j hj
 rw[hv] at this
 have e:a.add j=⟨a.block,a.off+j,none⟩:=by
  obtain ⟨b,o,s⟩:=a
  simp only at hsp
  subst hsp
  exact Addr.add_plain ..
 rw[e] at this
 exact ⟨⟨v,this⟩,this⟩
theorem oO (ub:DataW H→Nat)(uba:List (DataW H)→Nat)(u1:∀l,1≤ub (.lit l))(u2:∀bs,bs.length+1≤ub (.lit (.string bs)))(u3:1≤ub .nil)(u4:∀es ss,uba es+1≤ub (.slice es ss))(u5:∀ps,uba ps≤ub (.agg ps))
  (u6:∀d ds,uba (d::ds)=ub d+uba ds) (u7:uba []=0):
  ∀(ty:Ty),(∀(t:TypeId),dJ P ty (.inl t)=true→∀(fuel:Nat) (cs:List Value) (x:DataW H×List MemPlace),DataW.trod enc P W 0 sp held fuel t cs=some x→∃y:ty.den,Rt (S0 W) W ty y cs∧yD ty y≤ub x.1)∧
   (∀(fs:List Field) (off:Nat),dJ P ty (.inr (fs,off))=true→∀(fuel:Nat) (cs:List Value) (xs:List (DataW H×List MemPlace)),fs.mapM (fun f=>DataW.trod enc P W 0 sp held fuel f.type ((cs.drop f.offset).take (P.cellsOf f.type)))=some xs→
    (cs.drop off).length=ty.size→∃y:ty.den,Rt (S0 W) W ty y (cs.drop off)∧yD ty y≤uba (xs.map (·.1)))
 |.int k=>by
  refine ⟨fun t ht fuel cs x h=>?_,fun fs off ht=>by cases fs <;> simp[dJ] at ht⟩
  simp only[dJ] at ht
  split at ht
  ·rename_i k' hu
   have ht:=of_decide_eq_true ht
   subst ht
   obtain ⟨n2,rfl,rfl,hw⟩:=DataW.trod_int hu h
   refine ⟨n2,⟨rfl,?_⟩,u1 _⟩
   simpa [Lit.wf,bi] using hw
  ·cases ht
 |.bool=>by
  refine ⟨fun t ht fuel cs x h=>?_,fun fs off ht=>by cases fs <;> simp[dJ] at ht⟩
  simp only[dJ] at ht
  split at ht
  ·rename_i hu
   obtain ⟨b,rfl,rfl⟩:=DataW.trod_bool hu h
   exact ⟨b,rfl,u1 _⟩
  ·cases ht
 |.str=>by
  refine ⟨fun t ht fuel cs x h=>?_,fun fs off ht=>by cases fs <;> simp[dJ] at ht⟩
  simp only[dJ] at ht
  split at ht
  ·rename_i hu
   obtain ⟨s,rfl,rfl,hl⟩:=DataW.trod_string hu h
   refine ⟨iP s,⟨by rw[k7],qi s,?_⟩,?_⟩
   ·have:(iP s).length=s.size:=by rw[← bN,k7]
    rw[this];exact hl
   ·have:(iP s).length=s.data.toList.length:=by unfold iP;exact List.length_map _
    show (iP s).length+1≤_
    rw[this]
    exact u2 _
  ·cases ht
 |.unit=>by
  refine ⟨fun t ht=>by simp[dJ] at ht,fun fs off ht fuel cs xs h hl=>?_⟩
  refine ⟨(),?_,Nat.zero_le _⟩
  exact zF hl
 |.sl e ty=>by
  refine ⟨fun t ht fuel cs x h=>?_,fun fs off ht=>by cases fs <;> simp[dJ] at ht⟩
  simp only[dJ] at ht
  split at ht
  ·rename_i e' hu
   simp only[zA,beq_iff_eq,Bool.not_eq_true',beq_eq_false_iff_ne] at ht
   obtain ⟨rfl,hT,hsz,hpos⟩:=ht
   have ih:=(oO ub uba u1 u2 u3 u4 u5 u6 u7 ty).1 e' hT
   rcases DataW.trod_slice hu h with ⟨rfl,rfl⟩ | ⟨a,len,cap,elems,rest,n,_,rfl,rfl,hb,hl,hm,hlen,hel,_,_⟩
   ·exact ⟨[],⟨none,0,rfl,Nat.le_refl _,Nat.zero_le _,fun h=>absurd rfl h⟩,u3⟩
   ·have each:∀i,i<len→∃y:ty.den,(∃c,Rt (S0 W) W ty y c∧(i=0→a.spot=none)∧At (S0 W) W a.block (a.off+i*ty.size) c)∧∃d,elems[i]?=some d∧yD ty y≤ub d.1:=by
     intro i hi
     have h1:=hel i hi
     rw[List.getElem?_eq_getElem (by omega)] at h1
     obtain ⟨c,hc,hd⟩:=Option.bind_eq_some_iff.1 h1
     obtain ⟨y,hy,hs⟩:=ih _ _ _ hd
     rw[hsz] at hc
     obtain ⟨h2,h3,h4⟩:=GT hc (by omega)
     have e1:(a.add (i*ty.size)).block=a.block:=by unfold Addr.add;split <;> rfl
     have e2:(a.add (i*ty.size)).off=a.off+i*ty.size:=by
      unfold Addr.add
      split
      ·rename_i h0;rw[h0];rfl
      ·rfl
     rw[e1,e2] at h4
     refine ⟨y,⟨c,hy,fun h0=>?_,h4⟩,elems[i],by simp,hs⟩
     subst h0
     simpa [Addr.add] using h2
    have mk:∀m,m≤len→∃ys:List ty.den,ys.length=m∧(∀i y,ys[i]?=some y→∃c,Rt (S0 W) W ty y c∧(i=0→a.spot=none)∧At (S0 W) W a.block (a.off+i*ty.size) c)∧(ys.map (yD ty)).sum≤uba ((elems.take m).map (·.1)):=by
     intro m
     induction m with
     |zero=>intro _;exact ⟨[],rfl,fun i y h=>by simp at h,by simp⟩
     |succ m ihm=>
      intro hm'
      obtain ⟨ys,g1,g2,g3⟩:=ihm (by omega)
      obtain ⟨y,g4,d,g5,g6⟩:=each m (by omega)
      refine ⟨ys++[y],by simp[g1],fun i z hz=>?_,?_⟩
      ·rw[List.getElem?_append] at hz
       split at hz
       ·exact g2 i z hz
       ·rename_i hlt
        have:i=m:=by
         have:=(List.getElem?_eq_some_iff.1 hz).1
         simp at this;omega
        subst this
        simp[g1] at hz
        subst hz
        exact g4
      ·have hap:∀(xs bs:List (DataW H)),uba (xs++bs)=uba xs+uba bs:=by
        intro xs bs
        induction xs with
        |nil=>simp[u7]
        |cons c xs ih=>rw[List.cons_append,u6,u6,ih];omega
       rw[List.take_add_one,g5]
       simp only[List.map_append,List.sum_append,hap,Option.toList,zL,List.map_nil,List.sum_cons,List.sum_nil,u6,u7]
       omega
    obtain ⟨ys,g1,g2,g3⟩:=mk len (Nat.le_refl _)
    refine ⟨ys,⟨some a,cap,by rw[g1],by omega,hm,fun hne=>?_⟩,?_⟩
    ·have h0:0<ys.length:=List.length_pos_iff.2 hne
     obtain ⟨c,_,hsp,_⟩:=g2 0 ys[0] (by simp)
     have hsp:=hsp rfl
     refine ⟨a.block,a.off,?_,fun i y hy=>?_⟩
     ·obtain ⟨b,o,s⟩:=a
      simp only at hsp
      rw[hsp]
     ·obtain ⟨c,hc,_,hat⟩:=g2 i y hy
      exact ⟨c,hc,hat⟩
    ·rw[List.take_of_length_le (by omega)] at g3
     show (ys.map (yD ty)).sum+1≤_
     exact Nat.le_trans (by omega) (u4 _ _)
  ·cases ht
 |.tree a e=>⟨fun t ht=>by simp[dJ] at ht,fun fs off ht=>by cases fs <;> simp[dJ] at ht⟩
 |.prod a b=>by
  have step:∀(f:Field) (fs:List Field) (off:Nat),((f.offset == off)&&((P.cellsOf f.type == a.size)&&(dJ P a (.inl f.type)&&dJ P b (.inr (fs,off+a.size)))))=true→
    ∀(fuel:Nat) (cs:List Value) (xs:List (DataW H×List MemPlace)),(f::fs).mapM (fun f=>DataW.trod enc P W 0 sp held fuel f.type ((cs.drop f.offset).take (P.cellsOf f.type)))=some xs→
    (cs.drop off).length=a.size+b.size→∃y:a.den×b.den,Rt (S0 W) W (.prod a b) y (cs.drop off)∧yD a y.1+yD b y.2≤uba (xs.map (·.1)):=by
   intro f fs off ht fuel cs xs h hl
   simp only[zA,beq_iff_eq] at ht
   obtain ⟨rfl,hs,hA,hB⟩:=ht
   simp only[List.mapM_cons,Option.bind_eq_bind,Option.bind_eq_some_iff] at h
   obtain ⟨x0,h0,xs',h1,h2⟩:=h
   simp only[Option.pure_def,zC] at h2
   subst h2
   rw[hs] at h0
   obtain ⟨y1,hy1,hd1⟩:=(oO ub uba u1 u2 u3 u4 u5 u6 u7 a).1 f.type hA _ _ _ h0
   have hl2:(cs.drop (f.offset+a.size)).length=b.size:=by
    simp only[List.length_drop] at hl ⊢
    omega
   obtain ⟨y2,hy2,hd2⟩:=(oO ub uba u1 u2 u3 u4 u5 u6 u7 b).2 fs _ hB _ _ _ h1 hl2
   refine ⟨(y1,y2),⟨_,_,?_,hy1,hy2⟩,?_⟩
   ·rw[← List.drop_drop,List.take_append_drop]
   ·simp only[zL,u6]
    omega
  refine ⟨fun t ht fuel cs x h=>?_,fun fs off ht fuel cs xs h hl=>?_⟩
  ·simp only[dJ] at ht
   split at ht
   ·rename_i fs hu
    simp only[zA,beq_iff_eq] at ht
    obtain ⟨hsz,ht⟩:=ht
    split at ht
    ·rename_i f fs' hfs
     cases fuel with
     |zero=>simp[DataW.trod] at h
     |succ n=>
      unfold DataW.trod at h
      rw[hu] at h
      simp only at h
      split at h
      ·rename_i hlen
       obtain ⟨xs,hxs,rfl⟩:=Option.map_eq_some_iff.1 h
       rw[hfs] at hxs
       obtain ⟨y,hy,hd⟩:=step f fs' 0 (by simpa using ht) n cs xs hxs (by simpa [hsz] using hlen)
       exact ⟨y,by simpa using hy,Nat.le_trans hd (u5 _)⟩
      ·cases h
    ·cases ht
   ·cases ht
  ·cases fs with
   |nil=>simp[dJ] at ht
   |cons f fs=>exact step f fs off (by simpa only [dJ] using ht) fuel cs xs h hl
theorem Om {ty:Ty}{t:TypeId}(ht:dJ P ty (.inl t)=true){fuel:Nat}{cs:List Value}{d:DataW H}{ps:List MemPlace}(h:DataW.trod enc P W 0 sp held fuel t cs=some (d,ps)):∃y:ty.den,Rt (S0 W) W ty y cs∧yD ty y≤Rows.uptoBulk d:=
 (oO Rows.uptoBulk Rows.uptoBulkAll (fun l=>by cases l <;> simp[Rows.uptoBulk]) (fun bs=>by simp[Rows.uptoBulk]) (by simp[Rows.uptoBulk]) (fun es ss=>by simp[Rows.uptoBulk]) (fun ps=>by simp[Rows.uptoBulk]) (fun d ds=>by simp[Rows.uptoBulkAll]) (by simp[Rows.uptoBulkAll]) ty).1 t ht fuel cs _ h
theorem pR {t:Ty}(hp:∀x:t.den,1≤yD t x):∀xs:List t.den,xs.length≤(xs.map (yD t)).sum
 |[]=>by simp
 |x::xs=>by
  have:=pR hp xs
  have:=hp x
  simp only[zN,zL,List.sum_cons]
  omega
theorem KC {e:Nat}{k:IntKind}(xs:(Ty.sl e (.int k)).den):List.length xs≤yD (.sl e (.int k)) xs:=by
 have:=pR (t:=.int k) (fun _=>Nat.le_refl 1) xs
 show _≤(List.map (yD (.int k)) xs).sum+1
 exact Nat.le_trans this (Nat.le_succ _)
def G0 (W:World):Gh:=⟨S0 W,fun _=>none,fun _=>none⟩
def F0 (W:World):Fra:=⟨W,fun _=>False,S0 W,fun _=>none⟩
theorem OH (h:∀g,Mu g=false)(W:World):fY (S0 W) W:=fun g i hg _=>absurd hg (by rw[h g];decide)
theorem O0 (W:World)(htab:fY (S0 W) W):Rel (F0 W) (G0 W) ⟨[],[],[]⟩ #[] [] W where
 tm:=trivial
 stk:=trivial
 ob:=fun k cs h=>by simp at h
 gh:=⟨fun _ _ h=>(by cases h),fun _ _ _ h=>(by cases h),fun _ _ _ h=>(by cases h),fun _ _ _ _ _ h=>(by cases h),fun b o h=>(by
   obtain ⟨v,h⟩:=h
   unfold World.cell? at h
   split at h
   ·rename_i e
    exact (Array.getElem?_eq_some_iff.1 e).1
   ·cases h),⟨rfl,rfl,rfl,Nat.le_refl _,fun _ _ _=>rfl⟩,fun _ _ h=>h,fun _ _ h=>.inl h,fun _ _ _=>rfl,fun _ _ h=>(by cases h),htab⟩
def Fd (oc:Oc)(A:AS):Option Unit:=match oc with
 |.ret (.one (.bool true)) _=>some ()
 |_=>none
theorem Fe {f:Nat}{io:Io}{Fn:io.In→Tr io.Res}(hok:HcOk P f (ah io Fn)){args:List V}{vals:Array Value}(hargs:All2 (Rv (G0 W) W) args vals.toList)(hrun:ah io Fn Unit args 1 ⟨[],[],[]⟩ Fd=some ())(htab:fY (S0 W) W:=by exact OH (fun _=>rfl) _):
  Calls P f vals W fun e w'=>e=.returned (.bool true)∧w'.os=W.os∧w'.output=W.output∧∀i,i<W.heap.size→w'.heap[i]?=W.heap[i]?:=by
 refine (hok Unit args 1 _ Fd () (F0 W) (G0 W) #[] [] W vals (fun _=>rfl) hrun (O0 W htab) hargs).2.mono ?_
 rintro e w' ⟨G',A',v,u,R',hv,h⟩
 have hfr:=R'.gh.fr
 refine ⟨?_,hfr.os,hfr.output,fun i hi=>hfr.block i hi (fun h=>h)⟩
 rcases h with ⟨rfl,ks,_,hk⟩ | ⟨rfl,hk⟩
 ·unfold Fd at hk
  split at hk
  ·rename_i e
   cases e
   rw[show u=.bool true from hv]
  ·cases hk
 ·cases hk
def vY (ty:Ty)(y:ty.den):V:=bif ty.isProd then .agg (l9 ty y) else match l9 ty y with
 |[c]=>.one c
 |_=>.any
theorem Be {G:Gh}{ty:Ty}{y:ty.den}{v:Value}(h:Rt G.S W ty y v.cells.toList)(hp:ty.isProd=true→∃vs,v=.agg vs)(hn:ty.isProd=false→v.cells = #[v]):Rv G W (vY ty y) v:=by
 have hs:=bP (G:=G) (w:=W) ty y _ h
 unfold vY
 cases hb:ty.isProd with
 |true=>
  obtain ⟨vs,rfl⟩:=hp hb
  exact ⟨vs,rfl,hs⟩
 |false=>
  rw[hn hb] at hs
  simp only[cond_false]
  split
  ·rename_i c e
   rw[e] at hs
   exact hs.1
  ·trivial
theorem EQ {ty:Ty}{t:TypeId}(ht:dJ P ty (.inl t)=true){r:Reach}{base:Nat}{v:Value}(hval:Value.okWide P W r base t v):(ty.isProd=true→∃vs,v=.agg vs)∧(ty.isProd=false→v.cells = #[v]):=by
 cases ty with
 |tree a e=>simp[dJ] at ht
 |int k=>
  refine ⟨fun h=>(by cases h),fun _=>?_⟩
  simp only[dJ] at ht
  split at ht
  ·rename_i k' hu
   cases v <;> simp[Value.okWide,hu,Cell.okWide,Cell.ok] at hval <;> rfl
  ·cases ht
 |bool=>
  refine ⟨fun h=>(by cases h),fun _=>?_⟩
  simp only[dJ] at ht
  split at ht
  ·rename_i hu
   cases v <;> simp[Value.okWide,hu,Cell.okWide,Cell.ok] at hval <;> rfl
  ·cases ht
 |str=>
  refine ⟨fun h=>(by cases h),fun _=>?_⟩
  simp only[dJ] at ht
  split at ht
  ·rename_i hu
   cases v <;> simp[Value.okWide,hu,Cell.okWide,Cell.ok] at hval <;> rfl
  ·cases ht
 |sl e ty=>
  refine ⟨fun h=>(by cases h),fun _=>?_⟩
  simp only[dJ] at ht
  split at ht
  ·rename_i e' hu
   cases v <;> simp[Value.okWide,hu,Cell.okWide,Cell.ok] at hval <;> rfl
  ·cases ht
 |unit=>simp[dJ] at ht
 |prod a b=>
  refine ⟨fun _=>?_,fun h=>(by cases h)⟩
  simp only[dJ] at ht
  split at ht
  ·rename_i fs hu
   simp only[Value.okWide,hu] at hval
   obtain ⟨cs,rfl,_⟩:=hval
   exact ⟨cs,rfl⟩
  ·cases ht
def qY (P:Program):Bool:=(List.range P.types.size).all fun t=>match P.underlying t with
 |some (.slice e)=>decide (0<P.cellsOf e)
 |_=>true
theorem tO (hl:laidOutB P=true)(hm:mapsRowed P=true)(hs:qY P=true){W':World}(hk:∀i,i<W.heap.size→W'.heap[i]?=W.heap[i]?):∀{ts:List TypeId} {vs:List Value} {ds:List (DataW H)} {ps:List MemPlace},
  (∀t∈ts,t<P.types.size)→DataW.TrodAll enc P W 0 (fun _=>true) true ts vs ds ps→(∀p∈ps,sp p.block=true)→DataW.TrodAll enc P W' 0 sp true ts vs ds ps
 |[],[],[],_,_,h,_=>h
 |t::ts,v::vs,d::ds,ps,hT,⟨p,q,⟨fuel,h1⟩,h2,e⟩,hsp=>by
  refine ⟨p,q,⟨fuel,DataW.trod_stays (kids_rows hl hm) (fun {t e} ht hu=>?_) (fun h=>(by cases h)) (hT t (by simp)) h1 (fun x hx=>?_) fun x hx=>hsp x (by rw[e];exact List.mem_append_left _ hx)⟩,
   tO hl hm hs hk (fun t ht=>hT t (by simp[ht])) h2 (fun x hx=>hsp x (by rw[e];exact List.mem_append_right _ hx)),e⟩
  ·have:=List.all_eq_true.1 hs t (by simpa using ht)
   rw[hu] at this
   exact of_decide_eq_true this
  ·have hb:=DataW.trod_lt _ _ _ _ h1 x hx
   cases x with
   |cell b off=>simp[World.sameAt,World.cell?,hk b hb]
   |map b=>exact hk b hb
 |[],[],_::_,_,_,h,_=>h.elim
 |[],_::_,_,_,_,h,_=>h.elim
 |_::_,[],_,_,_,h,_=>h.elim
 |_::_,_::_,[],_,_,h,_=>h.elim
theorem I3 {f:Func}{s:ChangeSpec}{apart fresh handsOn again:Bool}{W':World}{args:Array Value}{ds gs:List (DataW H)}{before:List MemPlace}
  (hl:laidOutB P=true) (hm:mapsRowed P=true) (hs:qY P=true) (hT:∀t∈f.params.toList,t<P.types.size) {tb:TypeId} (hr:f.resultTypes = #[tb]) (htb:P.underlying tb=some .bool) (hv:s.vars=[])
  (hW:DataW.Whole enc P f.params.toList s.vars apart W args.toList ds gs before) (hfn:s.fn H (ds++gs)={ results:=[.lit (.bool true)],args:=ds })
  (hos:W'.os=W.os) (hout:W'.output=W.output) (hk:∀i,i<W.heap.size→W'.heap[i]?=W.heap[i]?):s.post enc P f apart fresh handsOn again W args (.bool true) W':=by
 have hlt:=hW.lt
 obtain ⟨p,q,hA,hV,hpq,hfz,hnd⟩:=id hW
 rw[hv] at hV
 obtain ⟨rfl,rfl⟩:=trodVars_none hV
 rw[List.append_nil] at hpq
 subst hpq
 have hres:∀(b:Nat) (sp:Nat→Bool) (hd:Bool),DataW.TrodAll enc P W' b sp hd f.resultTypes.toList ((Value.bool true).resultList f.resultTypes.size) [.lit (.bool true)] []:=by
  intro b sp hd
  rw[hr]
  exact trodAll_cons_mk (shut_bool htb _) trodAll_mk0
 have hargs:∀sp:Nat→Bool,(∀x∈before,sp x.block=true)→DataW.TrodAll enc P W' 0 sp true f.params.toList args.toList ds before:=
  fun sp hsp=>tO hl hm hs hk hT hA hsp
 have hvars:∀sp:Nat→Bool,DataW.TrodVars enc P W' sp s.vars [] []:=by
  intro sp
  rw[hv]
  rfl
 have hold:∀x∈before,(fun b=>decide (b<W.heap.size)) x.block=true:=fun x hx=>by simpa using hlt x hx
 have hkept:∀may:MemPlace→Prop,W.keptBut W' may:=fun may=>⟨hos,hout,fun i hi=>by
  rw[hk i hi]
  cases h:W.heap[i]? with
  |none=>rfl
  |some o=>cases o <;> simp⟩
 refine ⟨ds,[],before,[],before,[],hW,by rw[hfn];exact hres _ _ _,by rw[hfn];exact hargs _ hold,by rw[hfn];exact hvars _,hkept _,fun _=>?_⟩
 refine ⟨ok_one hr rfl (okWide_bool_mk htb true),[.lit (.bool true)]++ds,[],[]++before,⟨[]++before,[],trodAll_append (hargs _ fun _ _=>rfl) (hres _ _ _),hvars _,by simp,fun b off hx=>?_,fun ha=>by simpa using hnd ha⟩,fun x hx _=>by simpa using hx⟩
 have hx:MemPlace.cell b off∈before:=by simpa using hx
 rw[← hfz b off hx]
 simp[World.frozen?,hk b (hlt _ hx)]
@[reducible] def oS:List Ty→Type
 |[]=>Unit
 |t::ts=>t.den×oS ts
def CL:(tys:List Ty)→oS tys→List V
 |[],_=>[]
 |t::ts,y=>vY t y.1::CL ts y.2
def Ht:(tys:List Ty)→oS tys→Nat
 |[],_=>0
 |t::ts,y=>yD t y.1+Ht ts y.2
def O8:(tys:List Ty)→oS tys→Prop
 |[],_=>True
 |t::ts,y=>t.wf y.1∧O8 ts y.2
def Ll (P:Program):List Ty→List TypeId→Bool
 |[],[]=>true
 |ty::tys,t::ts=>dJ P ty (.inl t)&&Ll P tys ts
 |_,_=>false
theorem xz {r:Reach}{base:Nat}:∀(tys:List Ty) (ts:List TypeId),Ll P tys ts=true→∀{vs:List Value} {ds:List (DataW H)} {ps:List MemPlace},DataW.TrodAll enc P W 0 sp held ts vs ds ps→
  (∀(j:Nat) t v,ts[j]?=some t→vs[j]?=some v→Value.okWide P W r base t v)→
  ∃ys:oS tys,All2 (Rv (G0 W) W) (CL tys ys) vs∧Ht tys ys≤Rows.uptoBulkAll ds∧O8 tys ys∧ds.length=tys.length
 |[],[],_,[],[],_,_,_=>⟨(),trivial,Nat.zero_le _,trivial,rfl⟩
 |ty::tys,t::ts,ht,v::vs,d::ds,_,⟨p,q,⟨fuel,h1⟩,h2,_⟩,hv=>by
  simp only[Ll,zA] at ht
  obtain ⟨y,hy,hs⟩:=Om ht.1 h1
  obtain ⟨k1,k2⟩:=EQ ht.1 (hv 0 t v rfl rfl)
  obtain ⟨ys,g1,g2,g3,g4⟩:=xz tys ts ht.2 h2 fun j t' v' e1 e2=>hv (j+1) t' v' (by simpa using e1) (by simpa using e2)
  refine ⟨(y,ys),⟨Be hy k1 k2,g1⟩,?_,⟨Rt.wf ty y _ hy,g3⟩,by simp[g4]⟩
  simp only[Ht,Rows.uptoBulkAll]
  omega
 |[],[],_,[],_::_,_,h,_=>h.elim
 |[],[],_,_::_,_,_,h,_=>h.elim
 |_::_,_::_,_,[],_,_,h,_=>h.elim
 |_::_,_::_,_,_::_,[],_,h,_=>h.elim
 |[],_::_,h,_,_,_,_,_=>by cases h
 |_::_,[],h,_,_,_,_,_=>by cases h
theorem wz {fn:Func}{f:Nat}{io:Io}{Fn:io.In→Tr io.Res}(hok:HcOk P f (ah io Fn)){s:ChangeSpec}(tys:List Ty)(hts:Ll P tys fn.params.toList=true)
  (hl:laidOutB P=true) (hm:mapsRowed P=true) (hs:qY P=true) (hT:∀t∈fn.params.toList,t<P.types.size) {tb:TypeId} (hr:fn.resultTypes = #[tb]) (htb:P.underlying tb=some .bool) (hv:s.vars=[])
  (hfn:∀ds:List (DataW H),ds.length=tys.length→s.fn H ds={ results:=[.lit (.bool true)],args:=ds })
  (hrun:∀ys:oS tys,Ht tys ys≤1048576→O8 tys ys→ah io Fn Unit (CL tys ys) 1 ⟨[],[],[]⟩ Fd=some ())
  (base:Nat) (args:Array Value) (ds gs:List (DataW H)) (before:List MemPlace)
  (hval:∀(j:Nat) t v,fn.params[j]?=some t→args[j]?=some v→Value.okWide P W .any base t v)
  (hW:DataW.Whole enc P fn.params.toList s.vars false W args.toList ds gs before) (hk:Rows.uptoSmall H (ds++gs)=true) (htab:fY (S0 W) W:=by exact OH (fun _=>rfl) _):
  Calls P f args W fun e W'=>∃v,e=.returned v∧s.post enc P fn false true false false W args v W':=by
 have hW':=hW
 obtain ⟨p,q,hA,hV,_,_,_⟩:=hW
 rw[hv] at hV
 obtain ⟨rfl,rfl⟩:=trodVars_none hV
 obtain ⟨ys,g1,g2,g3,g4⟩:=xz tys fn.params.toList hts hA fun j t v e1 e2=>hval j t v (by simpa using e1) (by simpa using e2)
 have hb:Rows.uptoBulkAll ds≤1048576:=by simpa [Rows.uptoSmall] using hk
 refine (Fe hok (vals:=args) (args:=CL tys ys) g1 (hrun ys (by omega) g3) htab).mono ?_
 rintro e W' ⟨rfl,hos,hout,hkeep⟩
 exact ⟨_,rfl,I3 hl hm hs hT hr htb hv hW' (by rw[List.append_nil];exact hfn ds g4) hos hout hkeep⟩
end
end Go.Proofs.YtcbcbjdobbgddaaGreatDoor.Sym
namespace Go.Proofs.YtcbcbjdobbgddaaGreatDoor.Sym
open Go
noncomputable section
section
variable {P:Program} {tt:TT}
end
end
end Go.Proofs.YtcbcbjdobbgddaaGreatDoor.Sym
namespace Go.Proofs.YtcbcbjdobbgddaaGreatDoor.Sym
open Go
def C.thaw:C→C
 |.ex e t lo xs i j=>bif Nat.beq lo 0 then .lst e t xs 0 else .top
 |.eel _ _ _ _ _=>.top
 |.lst e t xs _=>.lst e t xs 0
 |.ptr _ _=>.top
 |.fn _ _ _=>.top
 |c=>c
def V.thaw:V→V
 |.one c=>.one c.thaw
 |.agg cs=>.agg (cs.map C.thaw)
 |_=>.any
def Ty.flatB:Ty→Bool
 |.sl _ _=>false
 |.tree _ _=>false
 |.prod a b=>a.flatB&&b.flatB
 |_=>true
theorem Rt.flat {S S':Nat→Nat→Prop}{w w':World}:∀(t:Ty) (x:t.den) (cs:List Value),t.flatB=true→Rt S w t x cs→Rt S' w' t x cs
 |.int _,_,_,_,h=>h
 |.bool,_,_,_,h=>h
 |.str,_,_,_,h=>h
 |.unit,_,_,_,h=>h
 |.prod a b,_,_,hf,⟨c1,c2,e,h1,h2⟩=>by
  simp only[Ty.flatB,zA] at hf
  exact ⟨c1,c2,e,Rt.flat a _ _ hf.1 h1,Rt.flat b _ _ hf.2 h2⟩
 |.sl _ _,_,_,hf,_=>by cases hf
 |.tree _ _,_,_,hf,_=>by cases hf
def uM:C→Option C
 |.int k n=>some (.int k n)
 |.bool b=>some (.bool b)
 |.str s=>some (.str s)
 |.lst e t xs own=>bif !(own == 0)&&t.flatB then some (.ex e t 0 xs own own) else none
 |_=>none
def kM:List C→Option (List C)
 |[]=>some []
 |c::cs=>match uM c,kM cs with
  |some c,some cs=>some (c::cs)
  |_,_=>none
def rZ:List (Bool×List C)→Option (List (Bool×List C))
 |[]=>some []
 |p::ps=>match kM p.2,rZ ps with
  |some cs,some ps=>some ((p.1,cs)::ps)
  |_,_=>none
def MJ:V→Option V
 |.one c=>(uM c).map .one
 |.agg cs=>(kM cs).map .agg
 |.tup ps=>(rZ ps).map .tup
 |.any=>none
def sJ:C→List Nat
 |.lst _ _ _ own=>[own]
 |_=>[]
def I2:V→List Nat
 |.one c=>sJ c
 |.agg cs=>cs.flatMap sJ
 |.tup ps=>ps.flatMap fun p=>p.2.flatMap sJ
 |.any=>[]
def Bd (i:Nat):List Nat→Bool
 |[]=>true
 |j::js=>Nat.beq j i&&Bd i js
noncomputable section
def w9 (h:Hc):Hc:=fun _ args id A K=>h _ (args.map V.thaw) id ⟨[],[],[]⟩ fun oc _=>match oc with
 |.ret v _=>match MJ v,I2 v with
  |some v',[]=>v'.force fun v'=>K (.ret v' (some [])) A
  |some v',i::is=>bif !(i == 0)&&Bd i is then v'.force fun v'=>(A.map (C.noOwn i)).force fun A=>K (.ret v' (some [])) A else none
  |none,_=>none
 |.pan _=>none
structure Grown (w w':World):Prop where
 os:w'.os=w.os
 tape:w'.tape=w.tape
 output:w'.output=w.output
 size:w.heap.size≤w'.heap.size
 old:∀k,k<w.heap.size→w'.heap[k]?=w.heap[k]?
theorem Grown.cell {w w':World}(g:Grown w w'){b o:Nat}(hb:b<w.heap.size):w'.cell? ⟨b,o,none⟩=w.cell? ⟨b,o,none⟩:=by
 simp[World.cell?,g.old b hb]
section
variable {F:Fra} {G:Gh} {w w':World}
def Gh.owned (G:Gh)(i:Nat)(o:Option Nat):Gh:=⟨G.S,G.mu,fun j=>if j=i then o.map (·,0) else G.ow j⟩
theorem Goes.grown (h:GhOk F G w)(g:Grown w w')(i:Nat)(o:Option Nat):Goes G (G.owned i o) w w' none (some i) where
 kept:=fun b p hs=>⟨hs,g.cell (h.sB b p hs)⟩
 mu:=fun _ _ hb _=>hb
 ow:=fun j b l hj hne=>by
  have:j≠i:=fun e=>hne (by rw[e])
  exact ⟨by simp[Gh.owned,this,hj],g.old b (h.ow j b l hj).2.2.1⟩
theorem GhOk.grown (h:GhOk F G w)(g:Grown w w')(i:Nat)(o:Option Nat)(ho:∀b,o=some b→w.heap.size≤b∧b<w'.heap.size):GhOk F (G.owned i o) w' where
 mu:=fun key b hb=>let ⟨h1,h2,h3⟩:=h.mu key b hb;⟨h1,h2,Nat.lt_of_lt_of_le h3 g.size⟩
 muI:=h.muI
 ow:=fun j b l hj=>by
  simp only[Gh.owned] at hj ⊢
  split at hj
  ·cases o with
   |none=>cases hj
   |some b0=>
    simp only[Option.map_some,zC,zD] at hj
    obtain ⟨rfl,rfl⟩:=hj
    obtain ⟨h1,h2⟩:=ho b0 rfl
    exact ⟨fun p _ hs=>by have:=h.sB _ _ hs;omega,.inl (Nat.le_trans h.fr.size h1),h2,fun key hk=>by have:=(h.mu key _ hk).2.2;omega⟩
  ·obtain ⟨h1,h2,h3,h4⟩:=h.ow j b l hj
   exact ⟨h1,h2,Nat.lt_of_lt_of_le h3 g.size,h4⟩
 owI:=fun j k b l l' hj hk=>by
  simp only[Gh.owned] at hj hk
  have hb:∀b l,o.map (·,0)=some (b,l)→w.heap.size≤b:=fun b l e=>by
   cases o with
   |none=>cases e
   |some b0=>cases e;exact (ho _ rfl).1
  split at hj <;> split at hk
  ·rename_i e1 e2;exact e1.trans e2.symm
  ·have:=hb _ _ hj;have:=(h.ow k _ _ hk).2.2.1;omega
  ·have:=hb _ _ hk;have:=(h.ow j _ _ hj).2.2.1;omega
  ·exact h.owI j k b l l' hj hk
 sB:=fun b p hs=>Nat.lt_of_lt_of_le (h.sB b p hs) g.size
 fr:=h.fr.alloc g.os g.tape g.output g.size g.old
 sub:=h.sub
 sup:=h.sup
 keep:=fun b p hs=>(g.cell (h.sB b p (h.sub b p hs))).trans (h.keep b p hs)
 fix_:=h.fix_
 tab:=h.tab
theorem Rel.grown {A:AS}{ts:Array Value}{cst:List (Array Value)}(R:Rel F G A ts cst w)(g:Grown w w')(i:Nat)(o:Option Nat)(ho:∀b,o=some b→w.heap.size≤b∧b<w'.heap.size):Rel F (G.owned i o) (A.map (C.noOwn i)) ts cst w':=
 R.map (fun c v h=>h.noOwn (Goes.grown R.gh g i o)) (fun _=>rfl) (fun key b hb=>⟨hb,g.old b (R.gh.mu key b hb).2.2⟩) (R.gh.grown g i o ho)
theorem Goes.grown0 (h:GhOk F G w)(g:Grown w w'):Goes G G w w' none none where
 kept:=fun b p hs=>⟨hs,g.cell (h.sB b p hs)⟩
 mu:=fun _ _ hb _=>hb
 ow:=fun j b l hj _=>⟨hj,g.old b (h.ow j b l hj).2.2.1⟩
theorem Rel.grown0 {A:AS}{ts:Array Value}{cst:List (Array Value)}(R:Rel F G A ts cst w)(g:Grown w w'):Rel F G A ts cst w':=by
 have h0:GhOk F G w':=by
  refine ⟨fun key b hb=>?_,R.gh.muI,fun j b l hj=>?_,R.gh.owI,fun b p hs=>Nat.lt_of_lt_of_le (R.gh.sB b p hs) g.size,R.gh.fr.alloc g.os g.tape g.output g.size g.old,R.gh.sub,R.gh.sup,fun b p hs=>(g.cell (R.gh.sB b p (R.gh.sub b p hs))).trans (R.gh.keep b p hs),R.gh.fix_,R.gh.tab⟩
  ·obtain ⟨h1,h2,h3⟩:=R.gh.mu key b hb
   exact ⟨h1,h2,Nat.lt_of_lt_of_le h3 g.size⟩
  ·obtain ⟨h1,h2,h3,h4⟩:=R.gh.ow j b l hj
   exact ⟨h1,h2,Nat.lt_of_lt_of_le h3 g.size,h4⟩
 have:=R.map (f:=id) (fun c v h=>h.goes (Goes.grown0 R.gh g) (fun _ e=>by cases e) (fun _ e=>by cases e)) (fun _=>rfl) (fun key b hb=>⟨hb,g.old b (R.gh.mu key b hb).2.2⟩) h0
 rwa [AS.map_id] at this
def Kd (G:Gh):Nat→Nat→Prop:=fun b o=>G.S b o∨∃i,G.ow i=some (b,0)
def ja (G:Gh):Gh:=⟨Kd G,fun _=>none,fun _=>none⟩
def lZ (G:Gh)(w:World):Fra:=⟨w,fun _=>False,Kd G,fun _=>none⟩
theorem Ke (h:GhOk F G w):Rel (lZ G w) (ja G) ⟨[],[],[]⟩ #[] [] w:=by
 have hs:∀b o,Kd G b o→b<w.heap.size:=by
  rintro b o (hs | ⟨i,hi⟩)
  ·exact h.sB b o hs
  ·exact (h.ow i b 0 hi).2.2.1
 have hg:GhOk (lZ G w) (ja G) w:=
  {mu:=fun _ _ h=>by cases h
   muI:=fun _ _ _ h=>by cases h
   ow:=fun _ _ _ h=>by cases h
   owI:=fun _ _ _ _ _ h=>by cases h
   sB:=hs
   fr:=⟨rfl,rfl,rfl,Nat.le_refl _,fun _ _ _=>rfl⟩
   sub:=fun _ _ h=>h
   sup:=fun _ _ h=>.inl h
   keep:=fun _ _ _=>rfl
   fix_:=fun _ _ h=>by cases h
   tab:=fun g i hg hi=>⟨.inl (h.tabs g i hg hi).1,(h.tabs g i hg hi).2⟩ }
 exact ⟨trivial,trivial,fun k cs hk=>by simp at hk,hg⟩
theorem vr (G:Gh)(w:World):Kept G.S (ja G).S w w:=fun _ _ h=>⟨.inl h,rfl⟩
theorem C.thaw_sound {c:C}{v:Value}(h:Rc G w c v):Rc (ja G) w c.thaw v:=by
 have hcell:=h.cell
 cases c with
 |ex e t lo xs i j=>
  simp only[C.thaw]
  cases hl:Nat.beq lo 0 with
  |false=>exact hcell
  |true=>
   have hl:=Nat.eq_of_beq_eq_true hl
   subst hl
   simp only[cond_true]
   rcases h with ⟨_,rfl,rfl⟩ | ⟨b,cap,rfl,⟨_,_,ho⟩,cur,el,hh,h1,h2,h3,h4⟩
   ·exact ⟨none,0,rfl,Nat.le_refl _,by simp[maxLen],fun hne=>absurd rfl hne,.inl rfl⟩
   ·rw[Nat.zero_add] at h2 ⊢
    refine ⟨_,cap,rfl,h2,h3,fun _=>⟨b,0,rfl,fun k x hx=>?_⟩,.inl rfl⟩
    obtain ⟨c,hc,hu⟩:=h4 k x hx
    refine ⟨c,Rt.kept (vr G w) t x c hc,fun q u hq=>?_⟩
    have:=hu q u hq
    rw[Nat.zero_add] at this ⊢
    refine ⟨.inr (by rcases ho with h | h;exact ⟨_,h⟩;exact ⟨_,h⟩),?_⟩
    rw[de hh,Array.getElem?_toList]
    exact this
 |eel t k x i j=>exact hcell
 |lst e t xs own=>
  obtain ⟨A,cap,e,h1,h2,h3,_⟩:=h
  exact ⟨A,cap,e,h1,h2,h3.kept (vr G w),.inl rfl⟩
 |ptr k o=>exact hcell
 |fn f m caps=>exact hcell
 |ro t x=>
  obtain ⟨b,o,cs,e,h1,h2⟩:=h
  exact ⟨b,o,cs,e,Rt.kept (vr G w) t x cs h1,h2.kept (vr G w)⟩
 |ifc T t x=>
  obtain ⟨u,e,hu,ha⟩:=h
  exact ⟨u,e,Rt.kept (vr G w) t x _ hu,ha⟩
 |pin v0 t x=>exact ⟨h.1,Rt.kept (vr G w) t x _ h.2⟩
 |_=>exact h
theorem V.thaw_sound {x:V}{v:Value}(h:Rv G w x v):Rv (ja G) w x.thaw v:=by
 cases x with
 |one c=>exact C.thaw_sound h
 |agg cs=>
  obtain ⟨vs,e,hv⟩:=h
  exact ⟨vs,e,hv.map_left _ fun a b h=>C.thaw_sound h⟩
 |tup ps=>trivial
 |any=>trivial
variable {G':Gh}
def OwnsTo (G' H:Gh)(l:List Nat):Prop:=∀j∈l,j≠0∧∀b n,G'.ow j=some (b,n)→H.ow j=some (b,0)
theorem OwnsTo.l {H:Gh}{l l':List Nat}(h:OwnsTo G' H (l++l')):OwnsTo G' H l:=fun j hj=>h j (List.mem_append_left _ hj)
theorem OwnsTo.r {H:Gh}{l l':List Nat}(h:OwnsTo G' H (l++l')):OwnsTo G' H l':=fun j hj=>h j (List.mem_append_right _ hj)
theorem kL {H:Gh}{c c':C}{v:Value}(hc:uM c=some c')(ho:OwnsTo G' H (sJ c))(h:Rc G' w' c v):Rc H w' c' v:=by
 cases c <;> simp only[uM] at hc <;> try cases hc
 case int=>exact h
 case bool=>exact h
 case str=>exact h
 case lst e t xs own=>
  cases hz : !(own == 0)&&t.flatB with
  |false=>rw[hz] at hc;cases hc
  |true=>
   rw[hz] at hc
   simp only[cond_true,zC] at hc
   subst hc
   simp only[zA,Bool.not_eq_true',beq_eq_false_iff_ne] at hz
   obtain ⟨hi,hown⟩:=ho own (by simp[sJ])
   obtain ⟨A,cap,rfl,h1,h2,hrow,hO⟩:=h
   rcases hO with hO | ⟨rfl,rfl⟩ | ⟨b,cur,el,rfl,how,hh,hcs⟩
   ·exact absurd hO hz.1
   ·have:xs=[]:=zF (by omega)
    subst this
    exact .inl ⟨rfl,rfl,rfl⟩
   ·refine .inr ⟨b,cap,by rw[Nat.zero_add],⟨hi,hi,.inl (hown b _ how)⟩,cur,el,hh,hcs,by rw[Nat.zero_add];exact h1,h2,fun k x hx=>?_⟩
    obtain ⟨b',o',c,e',hc,ha⟩:=hrow.cellAt hx
    cases e'
    refine ⟨c,Rt.flat t x c hz.2 hc,fun q u hq=>?_⟩
    have:=(ha q u hq).2
    rw[de hh,Array.getElem?_toList] at this
    rw[Nat.zero_add] at this ⊢
    exact this
theorem jB {H:Gh}:∀{cs cs':List C} {vs:List Value},kM cs=some cs'→OwnsTo G' H (cs.flatMap sJ)→All2 (Rc G' w') cs vs→All2 (Rc H w') cs' vs
 |[],cs',vs,h,_,hv=>by simp only[kM,zC] at h;subst h;cases vs <;> exact hv
 |c::cs,cs',[],h,_,hv=>hv.elim
 |c::cs,cs',v::vs,h,ho,hv=>by
  simp only[kM] at h
  split at h
  ·rename_i c' cs'' h1 h2
   cases h
   rw[List.flatMap_cons] at ho
   exact ⟨kL h1 ho.l hv.1,jB h2 ho.r hv.2⟩
  ·cases h
theorem BA {c:C}{cs':List C}(h:kM [c]=some cs'):∃c',uM c=some c'∧cs'=[c']:=by
 simp only[kM] at h
 cases hc:uM c with
 |none=>rw[hc] at h;cases h
 |some c'=>rw[hc] at h;cases h;exact ⟨c',rfl,rfl⟩
theorem nY {H:Gh}:∀{ps ps':List (Bool×List C)} {us:List Value},rZ ps=some ps'→OwnsTo G' H (ps.flatMap fun p=>p.2.flatMap sJ)→All2 (RcOne G' w') ps us→All2 (RcOne H w') ps' us
 |[],ps',us,h,_,hv=>by simp only[rZ,zC] at h;subst h;cases us <;> exact hv
 |p::ps,ps',[],h,_,hv=>hv.elim
 |(b,cs0)::ps,ps',u::us,h,ho,hv=>by
  simp only[rZ] at h
  split at h
  ·rename_i cs ps'' h1 h2
   cases h
   rw[List.flatMap_cons] at ho
   refine ⟨?_,nY h2 ho.r hv.2⟩
   have o1:=ho.l
   rcases hv.1 with ⟨e1,vs,e2,h3⟩ | ⟨e1,c,e2,h3⟩
   ·exact .inl ⟨e1,vs,e2,jB h1 o1 h3⟩
   ·simp only at e2
    subst e2
    obtain ⟨c',hc',rfl⟩:=BA h1
    exact .inr ⟨e1,c',rfl,kL hc' (by simpa using o1) h3⟩
  ·cases h
theorem pU {H:Gh}{x x':V}{v:Value}(hx:MJ x=some x')(ho:OwnsTo G' H (I2 x))(h:Rv G' w' x v):Rv H w' x' v:=by
 cases x with
 |one c=>
  obtain ⟨c',hc,rfl⟩:=Option.map_eq_some_iff.1 hx
  exact kL hc ho h
 |agg cs=>
  obtain ⟨cs',hc,rfl⟩:=Option.map_eq_some_iff.1 hx
  obtain ⟨vs,e,hv⟩:=h
  exact ⟨vs,e,jB hc ho hv⟩
 |tup ps=>
  obtain ⟨ps',hc,rfl⟩:=Option.map_eq_some_iff.1 hx
  obtain ⟨us,e,hv⟩:=h
  exact ⟨us,e,nY hc ho hv⟩
 |any=>cases hx
theorem xy {i:Nat}:∀{l:List Nat},Bd i l=true→∀j∈l,j=i
 |[],_,j,hj=>by cases hj
 |m::l,h,j,hj=>by
  simp only[Bd,zA] at h
  rcases List.mem_cons.1 hj with rfl | hj
  ·exact Nat.eq_of_beq_eq_true h.1
  ·exact xy h.2 j hj
end
theorem nj {P:Program}{f:Nat}{h:Hc}(hok:HcOk P f h):HcOk P f (w9 h):=by
 intro R args id A K r F G ts cst w vals hid hrun Rl hv
 have hthaw:∀{vs:List V} {us:List Value},All2 (Rv G w) vs us→All2 (Rv (ja G) w) (vs.map V.thaw) us:=fun hh=>hh.map_left _ fun a b h=>V.thaw_sound h
 obtain ⟨hfn,hcalls⟩:=hok R (args.map V.thaw) id ⟨[],[],[]⟩ _ r (lZ G w) (ja G) #[] [] w vals (fun _=>rfl) hrun (Ke Rl.gh) (hthaw hv)
 refine ⟨hfn,hcalls.mono ?_⟩
 rintro e w' ⟨G',A',v,u,R',hu,⟨he,ks,_,hk⟩ | ⟨_,hk⟩⟩
 ·have hg:Grown w w':=⟨R'.gh.fr.os,R'.gh.fr.tape,R'.gh.fr.output,R'.gh.fr.size,fun k hk=>R'.gh.fr.block k hk (fun h=>h)⟩
  have hfresh:∀i b l,G'.ow i=some (b,l)→w.heap.size≤b∧b<w'.heap.size:=fun i b l hi=>by
   obtain ⟨_,h2,h3,_⟩:=R'.gh.ow i b l hi
   exact ⟨by rcases h2 with h | h;exact h;exact h.elim,h3⟩
  simp only[V.force_eq,AS.force_eq] at hk
  split at hk
  ·rename_i v' hv' ho
   have R2:=Rl.grown0 hg
   exact ⟨G,A,v',u,R2,pU hv' (fun j hj=>by rw[ho] at hj;cases hj) hu,.inl ⟨he,some [],⟨(Goes.grown0 Rl.gh hg).kept,fun key b _ hb=>⟨hb,hg.old b (Rl.gh.mu key b hb).2.2⟩⟩,hk⟩⟩
  ·rename_i v' i is hv' ho
   cases hz : !(i == 0)&&Bd i is with
   |false=>rw[hz] at hk;cases hk
   |true=>
    rw[hz] at hk
    simp only[cond_true] at hk
    simp only[zA,Bool.not_eq_true',beq_eq_false_iff_ne] at hz
    have hall:Bd i (I2 v)=true:=by rw[ho];simp[Bd,hz.2]
    have hob:∀b,(G'.ow i).map (·.1)=some b→w.heap.size≤b∧b<w'.heap.size:=fun b hb=>by
     obtain ⟨p,hp,rfl⟩:=Option.map_eq_some_iff.1 hb
     exact hfresh i p.1 p.2 hp
    refine ⟨_,_,v',u,Rl.grown hg i ((G'.ow i).map (·.1)) hob,pU hv' (fun j hj=>by
     have:=xy hall j hj
     subst this
     exact ⟨hz.1,fun b n hb=>by simp[Gh.owned,hb]⟩) hu,.inl ⟨he,some [],⟨(Goes.grown Rl.gh hg i _).kept,fun key b _ hb=>⟨hb,hg.old b (Rl.gh.mu key b hb).2.2⟩⟩,hk⟩⟩
  ·cases hk
 ·cases hk
end
end Go.Proofs.YtcbcbjdobbgddaaGreatDoor.Sym
namespace Go.Proofs.YtcbcbjdobbgddaaGreatDoor.Sym
open Go
open Go.IntKind (i8 i16 i32 i64 u8 u16 u32 u64)
noncomputable section
def rV (tt:TT)(kb:Nat)(ops:Array Oper):List Nat→AS→Option AS
 |[],A=>some A
 |i::is,A=>match ops[i]? with
  |none=>none
  |some o=>match o.guard with
   |some _=>none
   |none=>match KH tt (cA kb (o.dst.getD 0)) A o.type o.op with
    |some (chk,v)=>bif chk then rV tt kb ops is (A.put o.dst v) else none
    |none=>match o.op with
     |.load t x=>match opd A x with
      |.one (.eel t' k d i j)=>bif t'.size == (tt.at t).size then (match fQ tt t (l9 t' d) with
        |some v=>rV tt kb ops is (A.put o.dst v)
        |none=>none) else none
      |_=>none
     |_=>none
theorem wA {P:Program}{tt:TT}(htt:bR P tt){G:Gh}{w:World}{a:Act}{x:Operand}{t k i j:Nat}{t':Ty}{d:t'.den}{v:V}(hz:(t'.size == (tt.at t).size)=true)(hp:fQ tt t (l9 t' d)=some v)(hx:Rc G w (.eel t' k d i j) (a.eval x)):
  ∃u,Rv G w v u∧∀o:Oper,o.op=.load t x→(execOp a.eval o).run P w=.ok (.value u) w:=by
 obtain ⟨b,cap,eu,_,cur,el,hh,_,_,_,h4⟩:=hx
 obtain ⟨cs,hr,hu⟩:=h4 0 d rfl
 have h2:=bP t' d cs hr
 obtain ⟨u,hru,hrv⟩:=gW (P:=P) (b:=b) (o:=k*t'.size) htt hp h2 (by rw[h2.length,Rt.len _ _ _ hr];simpa using hz) (fun j u hj=>by
  rw[de hh]
  have:=hu j u hj
  simpa using this)
 exact ⟨u,hrv,fun o ho=>by simp[execOp,ho,Instr.loadAt,eu,Instr.sureAddr,hru]⟩
theorem dT {P:Program}{tt:TT}(htt:bR P tt){F:Fra}{G:Gh}{cst:List (Array Value)}{w:World}{kb:Nat}{ops:Array Oper}{Q:Exit→Act→World→Prop}:
  ∀{is rest:List Nat} {A A':AS} {a:Act},rV tt kb ops is A=some A'→Rel F G A a.tmps cst w→
   (∀a',Rel F G A' a'.tmps cst w→a'.defers=a.defers→wpOps P ops Q rest a' w)→wpOps P ops Q (is++rest) a w
 |[],rest,A,A',a,h,R,hK=>by
  simp only[rV,zC] at h
  subst h
  exact hK a R rfl
 |i::is,rest,A,A',a,h,R,hK=>by
  simp only[rV] at h
  simp only[List.cons_append,wpOps]
  cases ho:ops[i]? with
  |none=>rw[ho] at h;cases h
  |some o=>
   rw[ho] at h
   simp only at h ⊢
   cases hg:o.guard with
   |some g=>rw[hg] at h;cases h
   |none=>
    rw[hg] at h
    simp only at h
    rw[if_pos (by simp[Region.wanted,hg])]
    refine .inl ?_
    unfold Oper.wp
    have fin:∀v u,Rv G w v u→rV tt kb ops is (A.put o.dst v)=some A'→wpOps P ops Q (is++rest) (a.put o.dst u) w:=fun v u hv h'=>
     dT htt h' (R.puts hv o.dst) fun a' R' hd'=>hK a' R' (hd'.trans (Act.put_defers' _ _ _))
    split at h
    ·rename_i chk v he
     cases chk with
     |false=>cases h
     |true=>
      obtain ⟨u,hu,hv⟩:=lF htt R.gh.tabs (fun x=>R.opd x) R.ob o he rfl
      rw[hu,Oper.upon_value]
      exact fin v u hv h
    ·split at h
     ·rename_i t x hop
      split at h
      ·rename_i t' k d i' j e1
       cases hz:t'.size == (tt.at t).size with
       |false=>rw[hz] at h;cases h
       |true=>
        rw[hz] at h
        simp only[cond_true] at h
        split at h
        ·rename_i v hp
         have hx:=R.opd x
         rw[e1] at hx
         obtain ⟨u,hv,hr⟩:=wA (P:=P) htt hz hp hx
         rw[hr o hop,Oper.upon_value]
         exact fin v u hv h
        ·cases h
      ·cases h
     ·cases h
def fA (lo:Nat)(zs xs:LI):LI:=(zs.drop lo).take xs.length++xs.drop (zs.length - lo)
def C.over (i:Nat)(zs:LI):C→C
 |.lst e t xs own=>.lst e t xs (bif own == i then 0 else own)
 |.ex e t lo xs a b=>bif !(a == i)&&!(b == i) then .ex e t lo xs a b else
   (if h:t=.int .u8 then (bif (a == i)&&(b == i) then .ex e (.int .u8) lo (fA lo zs (h▸xs:List (Ty.int .u8).den)) a b
    else bif Nat.beq lo 0 then .ex e (.int .u8) zs.length (List.drop zs.length (h▸xs:List (Ty.int .u8).den)) a b else .top) else .top)
 |.eel t k x a b=>bif !(a == i)&&!(b == i) then .eel t k x a b else .top
 |c=>c
def C.longs (i:Nat):C→List Nat
 |.ex _ _ _ xs a b=>bif (!(a == i)&&!(b == i)) || ((a == i)&&(b == i)) then [] else [xs.length]
 |_=>[]
def d0 (x:Int):Int:=bC .u8 x 90
def xj:Hc:=fun _ args _ A K=>match args with
 |[.one (.ex _ t lo xs i j)]=>bif Nat.beq i j&&Nat.beq lo 0 then (if h:t=.int .u8 then
   (bif di xs.length (A.coll (C.longs i)) then (A.map (C.over i (List.map d0 (h▸xs:List (Ty.int .u8).den)))).force fun A=>K (.ret (.tup []) (some [])) A else none) else none) else none
 |_=>none
theorem ml (lo:Nat)(zs xs:LI):(fA lo zs xs).length=xs.length:=by simp[fA];omega
theorem Ck (lo:Nat)(zs xs:LI)(k:Nat)(x:Int)(h:(fA lo zs xs)[k]?=some x):(lo+k<zs.length∧zs[lo+k]?=some x)∨(zs.length≤lo+k∧xs[k]?=some x):=by
 have hk:k<xs.length:=by rw[← ml lo zs xs];exact (List.getElem?_eq_some_iff.1 h).1
 unfold fA at h
 rw[List.getElem?_append] at h
 split at h
 ·rename_i hlt
  simp at hlt
  rw[List.getElem?_take,if_pos hk,List.getElem?_drop] at h
  exact .inl ⟨by omega,h⟩
 ·rename_i hlt
  simp at hlt
  rw[List.getElem?_drop] at h
  refine .inr ⟨by omega,?_⟩
  rw[← h]
  congr 1
  simp
  omega
theorem p6 {zs xs:LI}(h:zs.length=xs.length):fA 0 zs xs=zs:=by
 simp[fA,h]
 rw[← h];simp
theorem Rel.over {F:Fra}{G:Gh}{A:AS}{ts:Array Value}{cst:List (Array Value)}{w w':World}(R:Rel F G A ts cst w){b i:Nat}{zs:LI}{cur cur':Array Value}{el:TypeId}
  (ho:G.ow i=some (b,0)) (hwr:Wrote w w' b) (hh:w.heap[b]?=some (.cells cur el (0,0))) (hh':w'.heap[b]?=some (.cells cur' el (0,0))) (hsz:cur'.size=cur.size)
  (hlow:∀(k:Nat) (z:Int),zs[k]?=some z→cur'[k]?=some (Value.int .u8 z)∧bi .u8 z) (hhigh:∀q:Nat,zs.length≤q→cur'[q]?=cur[q]?) (hg:di zs.length (A.coll (C.longs i))=true):Rel F G (A.map (C.over i zs)) ts cst w':=by
 have R0:=R
 rw[← AS.upto_eq (f3 _) hg] at R0
 have e:(A.map (C.upto (C.longs i) (di zs.length))).map (C.over i zs)=A.map (C.over i zs):=by rw[AS.upto_eq (f3 _) hg]
 have hk:=(Goes.exWrote R.gh ho hwr).kept
 have key:∀c v,Rc G w c v→di zs.length (c.longs i)=true→Rc G w' (c.over i zs) v:=by
  intro c v hc hl
  have hcell:=hc.cell
  have go:=Goes.exWrote R.gh ho hwr
  cases c with
  |lst e t xs own=>
   have h0:=hc.beyond R.gh ho hwr hh hh' hsz (fun t2 lo2 xs2 i2 j2 cap2 hform _=>by rcases hform with ⟨h,_⟩ | ⟨_,h⟩ <;> cases h)
   simp only[C.over]
   obtain ⟨A',cap,e0,h1,h2,h3,h4⟩:=h0
   refine ⟨A',cap,e0,h1,h2,h3,?_⟩
   cases hb:own == i with
   |true=>exact .inl rfl
   |false=>exact h4
  |ex e t lo xs a b'=>
   simp only[C.over]
   cases hn : !(a == i)&&!(b' == i) with
   |true=>
    simp only[cond_true]
    simp only[zA,Bool.not_eq_true',beq_eq_false_iff_ne] at hn
    exact hc.goes go (fun _ e=>by cases e) (fun j e=>by cases e;simp[C.hasOwn,hn.1,hn.2])
   |false=>
    simp only[cond_false]
    split
    ·rename_i ht
     subst ht
     simp only
     cases hy:(a == i)&&(b' == i) with
     |true=>
      simp only[cond_true]
      simp only[zA,beq_iff_eq] at hy
      obtain ⟨rfl,rfl⟩:=hy
      have hlen:=ml lo zs xs
      rcases hc with ⟨rfl,rfl,e0⟩ | ⟨bl,cap,e0,⟨n1,n2,ho2⟩,cu,el2,hb2,h1,h2,h3,h4⟩
      ·exact .inl ⟨rfl,zF hlen,e0⟩
      ·have hbb:bl=b:=by rcases ho2 with h | h <;> (rw[ho] at h;cases h;rfl)
       subst hbb
       rw[hh] at hb2;cases hb2
       have hlen':List.length (α:=(Ty.int .u8).den) (fA lo zs xs)=xs.length:=hlen
       refine .inr ⟨bl,cap,by rw[hlen'];exact e0,⟨n1,n2,ho2⟩,cur',el,hh',hsz.trans h1,by rw[hlen'];exact h2,h3,fun k x hx=>?_⟩
       rcases Ck lo zs xs k x hx with ⟨hlt,hz⟩ | ⟨hge,hxk⟩
       ·obtain ⟨g1,g2⟩:=hlow _ _ hz
        refine ⟨[.int .u8 x],⟨rfl,g2⟩,fun q u hq=>?_⟩
        cases q with
        |succ q=>simp at hq
        |zero=>
         simp only[List.getElem?_cons_zero,zC] at hq
         subst hq
         simpa [Ty.size] using g1
       ·obtain ⟨c,hcr,hu⟩:=h4 k x hxk
        refine ⟨c,Rt.kept hk _ _ _ hcr,fun q u hq=>?_⟩
        have hqs:q<1:=by have:=Rt.len _ _ _ hcr;rw[show (Ty.int .u8).size=1 from rfl] at this;rw[← this];exact (List.getElem?_eq_some_iff.1 hq).1
        have:=hu q u hq
        rw[hhigh _ (by simp only[Ty.size];omega)]
        exact this
     |false=>
      simp only[cond_false]
      simp only[C.longs,hn,hy,Bool.or_self,cond_false,di,Bool.and_true,zB] at hl
      cases hlo:Nat.beq lo 0 with
      |false=>exact hcell
      |true=>
       simp only[cond_true]
       have hlo:=Nat.eq_of_beq_eq_true hlo
       subst hlo
       rcases hc with ⟨_,rfl,e0⟩ | ⟨bl,cap,e0,⟨n1,n2,ho2⟩,cu,el2,hb2,h1,h2,h3,h4⟩
       ·have:zs=[]:=zF (by simpa using hl)
        subst this
        exact .inl ⟨rfl,rfl,e0⟩
       ·have hdl:zs.length+(List.drop zs.length xs).length=0+xs.length:=by simp;omega
        by_cases hbb:bl=b
        ·subst hbb
         rw[hh] at hb2;cases hb2
         refine .inr ⟨bl,cap,by rw[hdl];exact e0,⟨n1,n2,ho2⟩,cur',el,hh',hsz.trans h1,by rw[hdl];exact h2,h3,fun k x hx=>?_⟩
         rw[List.getElem?_drop] at hx
         obtain ⟨c,hcr,hu⟩:=h4 _ x hx
         refine ⟨c,Rt.kept hk _ _ _ hcr,fun q u hq=>?_⟩
         have:=hu q u hq
         rw[hhigh _ (by simp only[Ty.size];omega)]
         rw[Nat.zero_add] at this
         exact this
        ·refine .inr ⟨bl,cap,by rw[hdl];exact e0,⟨n1,n2,ho2⟩,cu,el2,(hwr.other bl hbb).trans hb2,h1,by rw[hdl];exact h2,h3,fun k x hx=>?_⟩
         rw[List.getElem?_drop] at hx
         obtain ⟨c,hcr,hu⟩:=h4 _ x hx
         refine ⟨c,Rt.kept hk _ _ _ hcr,fun q u hq=>?_⟩
         have:=hu q u hq
         rw[Nat.zero_add] at this
         exact this
    ·exact hcell
  |eel t' k' x a b'=>
   simp only[C.over]
   cases hn : !(a == i)&&!(b' == i) with
   |true=>
    simp only[cond_true]
    simp only[zA,Bool.not_eq_true',beq_eq_false_iff_ne] at hn
    exact hc.goes go (fun _ e=>by cases e) (fun j e=>by cases e;simp[C.hasOwn,hn.1,hn.2])
   |false=>exact hcell
  |ro t x=>exact hc.goes go (fun _ e=>by cases e) (fun _ _=>rfl)
  |fn f m caps=>exact hc.goes go (fun _ e=>by cases e) (fun _ _=>rfl)
  |ifc T t x=>exact hc.goes go (fun _ e=>by cases e) (fun _ _=>rfl)
  |pin v0 t x=>exact hc.goes go (fun _ e=>by cases e) (fun _ _=>rfl)
  |_=>exact hc
 have R1:=R.exWrote ho hwr (f:=fun c=>if di zs.length (c.longs i)=true then c.over i zs else .top) (fun c v hc=>by
  split
  ·rename_i h;exact key c v hc h
  ·exact hc.cell) (fun x=>rfl)
 have e2:A.map (fun c=>if di zs.length (c.longs i)=true then c.over i zs else .top)=A.map (C.over i zs):=by
  rw[← e]
  conv=>lhs;rw[← AS.upto_eq (f3 _) hg]
  obtain ⟨tm,stk,ob⟩:=A
  have hf:∀c:C,(if di zs.length ((c.upto (C.longs i) (di zs.length)).longs i)=true then (c.upto (C.longs i) (di zs.length)).over i zs else .top)=(c.upto (C.longs i) (di zs.length)).over i zs:=by
   intro c
   unfold C.upto
   cases h:di zs.length (c.longs i) with
   |true=>simp[h]
   |false=>simp[C.longs,di,C.over]
  have hcs:∀cs:List C,(cs.map (C.upto (C.longs i) (di zs.length))).map (fun c=>if di zs.length (c.longs i)=true then c.over i zs else .top)=(cs.map (C.upto (C.longs i) (di zs.length))).map (C.over i zs):=by
   intro cs
   rw[List.map_map,List.map_map]
   exact List.map_congr_left fun c _=>hf c
  have hv:∀v:V,(v.map (C.upto (C.longs i) (di zs.length))).map (fun c=>if di zs.length (c.longs i)=true then c.over i zs else .top)=(v.map (C.upto (C.longs i) (di zs.length))).map (C.over i zs):=by
   intro v
   cases v with
   |one c=>simp only[V.map];rw[hf c]
   |agg cs=>simp only[V.map];rw[hcs cs]
   |tup ps=>
    simp only[V.map,List.map_map]
    congr 1
    refine List.map_congr_left fun p _=>?_
    simp only[Function.comp_apply]
    rw[hcs p.2]
   |any=>rfl
  simp only[AS.map,List.map_map,AS.mk.injEq]
  refine ⟨List.map_congr_left fun v _=>hv v,List.map_congr_left fun l _=>?_,List.map_congr_left fun o _=>?_⟩
  ·simp only[Function.comp_apply,List.map_map]
   exact List.map_congr_left fun v _=>hv v
  ·cases o with
   |none=>rfl
   |some cs=>simp only[Function.comp_apply,Option.map_some];rw[hcs cs]
 rw[e2] at R1
 exact R1
abbrev N6:Io:=⟨[],[],[],[.dat .bool false false],none⟩
def Io.runX (tt:TT)(hd:Hd)(okDraw:Dr)(lp:Lp)(io:Io)(fn:Func)(A0:AS):Option io.Res:=
 match fn.body with
 |some c=>ev tt hd okDraw lp 0 (eG fn) c (eG fn) [] A0 (io.fin tt fn)
 |none=>none
theorem Bz {P:Program}{tt:TT}(htt:bR P tt)(hm:P.follows .mixedOrders=true){hd:Hd}(hh:jj P hd){okDraw:Dr}(hdr:gq P tt okDraw){f:Nat}{fn:Func}(hf:P.funcs[f]?=some fn){lp:Lp}
  (hlp:LpsOk P 0 lp (xm fn) 0) {r:Bool} {F:Fra} {G:Gh} {A:AS} {ts:Array Value} {cst:List (Array Value)} {w:World} {vals:Array Value} {id:Nat} (hid:∀d,F.mu0 (id / 2+d)=none) (Rl:Rel F G A ts cst w)
  {ow:List (Nat×Nat)} {A0:AS} (R0:Rel (gF G w [] ow) (eF G [] ow) A0 (vals++Array.replicate (fn.ntmps - vals.size) undef) [] w)
  (hrun:Io.runX tt hd okDraw lp N6 fn A0=some (.ret ((r,()),()))) {R':Type} {K:Oc→AS→Option R'} {rr:R'} (hK:K (.ret (.one (.bool r)) (some [])) (A.map (C.strip (ow.map (·.2)) []))=some rr):
  Calls P f vals w fun e w'=>∃G' A' v u,Rel F G' A' ts cst w'∧Rv G' w' v u∧
   ((e=.returned u∧∃ks,Unt G G' (Fa ks) w w'∧K (.ret v ks) A'=some rr)∨(e=.panicked [{ v:=u,recovered:=false }]∧K (.pan v) A'=some rr)):=by
 obtain ⟨c,hc⟩:∃c,fn.body=some c:=by
  cases hb:fn.body with
  |none=>simp only[Io.runX,hb] at hrun;cases hrun
  |some c=>exact ⟨c,rfl⟩
 simp only[Io.runX,hc] at hrun
 have hfc:aR fn=c:=by unfold aR;rw[hc]
 have hkb:∀d,(gF G w [] ow).mu0 (0+d)=none:=fun d=>rfl
 have hl:=hlp.all
 unfold xm at hl
 rw[hfc] at hl
 refine calls_of_wp hf hc (cz htt hm hh hdr hkb c hl hrun R0 ?_)
 intro ex A' G' a' w' Re hdf hk
 have fin:gC tt N6 fn A'=some (.ret ((r,()),()))→∃v,(results fn a'.tmps).run P w'=.ok v w'∧(∃G' A' v_1 u,Rel F G' A' ts cst w'∧Rv G' w' v_1 u∧
   ((Ending.returned v=.returned u∧∃ks,Unt G G' (Fa ks) w w'∧K (.ret v_1 ks) A'=some rr)∨(Ending.returned v=.panicked [{ v:=u,recovered:=false }]∧K (.pan v_1) A'=some rr))):=by
  intro hfin
  unfold gC at hfin
  split at hfin
  ·rename_i r0 β g1
   split at hfin
   ·rename_i o β' g2
    cases hnd:aZ ((fg _root_.id N6.res (fn.results.toList.map (sN tt A')) 0++ka A'.ob β' β' (N6.obs++N6.nobs) 0).map (·.2)) with
    |false=>rw[hnd] at hfin;cases hfin
    |true=>
     rw[hnd] at hfin
     simp only[cond_true,zC,Out.ret.injEq,zD] at hfin
     obtain ⟨us,hres,hus⟩:=lh htt Re fn (ng g1)
     obtain ⟨_,g3,_⟩:=jl g1 hus
     obtain ⟨u,us',rfl,⟨hrt,_,hone⟩,hnil⟩:=g3 β (.refl _)
     have hnil:us'=[]:=hnil
     subst hnil
     have hr0:r0.1=r:=by rw[hfin.1]
     rw[hr0] at hrt
     have hu:u.cells = #[u]:=by
      have:=hone rfl
      cases u <;> first | rfl | cases this
     rw[hu] at hrt
     have hub:u=.bool r:=by
      have h1:[u]=[Value.bool r]:=hrt
      simpa using h1
     subst hub
     refine ⟨_,hres,?_⟩
     have hgo:=sD (I:=ow.map (·.2)) (OW:=[]) (base:=id / 2) (nn:=0) (mn:=fun _=>none) Rl.gh Re.gh (fun p hp=>List.mem_map.2 ⟨p,hp,rfl⟩) rfl hid (fun _ _ h=>by cases h) (fun _ _ _ h=>by cases h)
     have hval:∀c v,Rc G w c v→Rc (bL G G' (ow.map (·.2)) [] (id / 2) 0 fun _=>none) w' (c.strip (ow.map (·.2)) []) v:=fun c v hc=>
      pp (base:=id / 2) (nn:=0) (mn:=fun _=>none) Rl.gh Re.gh (fun p hp=>List.mem_map.2 ⟨p,hp,rfl⟩) (OW:=[]) (fun p hp=>by cases hp) hc
     have hheap:∀key b,G.mu key=some b→(bL G G' (ow.map (·.2)) [] (id / 2) 0 fun _=>none).mu key=some b∧w'.heap[b]?=w.heap[b]?:=fun key b hb=>
      ⟨by simp only[bL];rw[if_neg (by omega)];exact hb,j9 Rl.gh Re.gh hb fun j hj=>by
       obtain ⟨k,hk,_⟩:=dP hj
       simp[Bn.at] at hk⟩
     refine ⟨_,_,.one (.bool r),.bool r,Rl.map hval (pB _ _) hheap hgo,rfl,.inl ⟨rfl,some [],⟨fun b o hs=>⟨Re.gh.sub b o hs,Re.gh.keep b o hs⟩,fun key b _ hb=>hheap key b hb⟩,hK⟩⟩
   ·cases hfin
  ·cases hfin
 cases ex with
 |normal=>exact ⟨hdf,fin hk⟩
 |ret=>exact ⟨hdf,fin hk⟩
 |exit i=>cases hk
 |panic v=>
  simp only[Io.fin] at hk
  split at hk
  ·rename_i x _;exact nomatch x
  ·cases hk
abbrev Pu:Code:=aR Tryz.f21
abbrev O2:Code:=(cb Tryz.f21 0).2.1
def OV:Code→Code
 |.block _ b=>b
 |c=>c
abbrev JZ:Array Oper:=dX (gY Pu)
abbrev J0:Array Oper:=dX (gY (gY O2))
abbrev F6:Array Oper:=dX (OV (gY (fR O2)))
abbrev J1:Array Oper:=dX (fR (fR O2))
abbrev Kq:Ty:=.int .u8
abbrev EP (n:Nat):List V:=List.replicate n .any
abbrev Dt (xs:LI):V:=.one (.ex 5 Kq 0 xs 1 1)
def iZ (k:Nat)(xs:LI):LI:=(xs.take k).map d0++xs.drop k
theorem Az (k:Nat)(xs:LI):(iZ k xs).length=xs.length:=by simp[iZ];omega
theorem J6 {k:Nat}{xs:LI}(h:k<xs.length):(iZ k xs).getD k 0=xs[k]:=by
 unfold iZ
 rw[List.getD_eq_getElem?_getD,List.getElem?_append_right (by simp;omega)]
 have:k - (List.map d0 (List.take k xs)).length=0:=by simp;omega
 rw[this,List.getElem?_drop]
 simp[h]
theorem J7 {k:Nat}{xs:LI}(h:k<xs.length):(iZ k xs).set k (d0 xs[k])=iZ (k+1) xs:=by
 unfold iZ
 rw[List.set_append_right _ _ (by simp;omega)]
 have:k - (List.map d0 (List.take k xs)).length=0:=by simp;omega
 rw[this,zE h,List.set_cons_zero,List.take_succ_eq_append_getElem h]
 simp only[List.map_append,zL,List.map_nil,zK,zM]
def OQ (ys:LI)(k:Int):AS:=⟨[Dt ys,.any,.one (.int .i64 k)]++EP 14,[],[]⟩
abbrev JY (ys:LI)(k:Int):Int:=((0:Nat):Int)+(ys.length:Int)
def NT (ys:LI)(k:Int):AS:=⟨[Dt ys,.any,.one (.int .i64 k),.one (.int .i64 k),Dt ys,.one (.int .i64 (JY ys k)),.one (.bool (decide (k<JY ys k)))]++EP 10,[],[]⟩
theorem Pg (ys:LI):rV tt 0 JZ [0] ⟨Dt ys::EP 16,[],[]⟩=some (OQ ys 0):=by kernel_rfl
theorem Ph (ys:LI)(k:Int):rV tt 0 J0 [0,1,2,3] (OQ ys k)=some (NT ys k):=by kernel_rfl
abbrev Pi (ys:LI)(k:Nat):V:=.one (.eel Kq k (ys.getD k 0) 1 1)
def NU (ys:LI)(k:Nat):AS:=⟨[Dt ys,.any,.one (.int .i64 k),.one (.int .i64 k),Dt ys,.one (.int .i64 (JY ys k)),.one (.bool (decide ((k:Int)<JY ys k))),.any,.any,
 Dt ys,.one (.int .i64 k),Dt ys,.one (.int .i64 k),Pi ys k,.one (.int .u8 (ys.getD k 0)),.one (.int .u8 (d0 (ys.getD k 0))),Pi ys k],[],[]⟩
theorem Pt (ys:LI)(k:Nat):rV tt 0 F6 [0,1,2,3,4,5,6,7] (NT ys k)=bif decide (((0:Nat):Int)≤(k:Int))&&decide ((k:Int)<((0:Nat):Int)+(ys.length:Int)) then some (NU ys k) else none:=by
 have h:rV tt 0 F6 [0,1,2,3,4,5,6,7] (NT ys k)=bif decide (((0:Nat):Int)≤(k:Int))&&decide ((k:Int)<((0:Nat):Int)+(ys.length:Int)) then (bif decide (((0:Nat):Int)≤(k:Int))&&decide ((k:Int)<((0:Nat):Int)+(ys.length:Int)) then some (NU ys k) else none) else none:=by kernel_rfl
 rw[h]
 cases (decide (((0:Nat):Int)≤(k:Int))&&decide ((k:Int)<((0:Nat):Int)+(ys.length:Int))) <;> rfl
def Pj (ys:LI)(k:Nat):AS:=((NU ys k).map (C.updEx 1 Kq k (d0 (ys.getD k 0)))).put none (.tup [])
theorem Ps (ys:LI)(k:Nat):rV tt 0 J1 [0,1,2] (Pj ys k)=some ⟨[Dt (lm 0 k ys (d0 (ys.getD k 0))),.any,.one (.int .i64 (IntKind.wrap .i64 ((k:Int)+1))),.one (.int .i64 k),Dt (lm 0 k ys (d0 (ys.getD k 0))),.one (.int .i64 (JY ys k)),.one (.bool (decide ((k:Int)<JY ys k))),
 .one (.int .i64 k),.one (.int .i64 (IntKind.wrap .i64 ((k:Int)+1))),Dt (lm 0 k ys (d0 (ys.getD k 0))),.one (.int .i64 k),Dt (lm 0 k ys (d0 (ys.getD k 0))),.one (.int .i64 k),.one .top,.one (.int .u8 (ys.getD k 0)),.one (.int .u8 (d0 (ys.getD k 0))),.one .top],[],[]⟩:=by kernel_rfl
def OR (w:World)(b:Nat):Nat→Nat→Prop:=fun b' o=>b'≠b∧∃v,w.cell? ⟨b',o,none⟩=some v
def Ar (w:World)(b:Nat):Fra:=⟨w,fun b'=>b'=b,OR w b,fun _=>none⟩
def px (w:World)(b:Nat):Gh:=⟨OR w b,fun _=>none,fun j=>if j=1 then some (b,0) else none⟩
theorem Mr {w:World}{b:Nat}(hb:b<w.heap.size)(ht:fY (OR w b) w):GhOk (Ar w b) (px w b) w where
 mu:=fun _ _ h=>by cases h
 muI:=fun _ _ _ h=>by cases h
 ow:=fun i b' l h=>by
  simp only[px] at h
  split at h
  ·cases h;exact ⟨fun _ _ h=>h.1 rfl,.inr rfl,hb,fun _ h=>by cases h⟩
  ·cases h
 owI:=fun i j b' l l' h h'=>by
  simp only[px] at h h'
  by_cases e1:i=1
  ·by_cases e2:j=1
   ·rw[e1,e2]
   ·rw[if_neg e2] at h';cases h'
  ·rw[if_neg e1] at h;cases h
 sB:=fun b' o h=>by
  obtain ⟨_,v,h⟩:=h
  unfold World.cell? at h
  split at h
  ·rename_i e
   exact (Array.getElem?_eq_some_iff.1 e).1
  ·cases h
 fr:=⟨rfl,rfl,rfl,Nat.le_refl _,fun _ _ _=>rfl⟩
 sub:=fun _ _ h=>h
 sup:=fun _ _ h=>.inl h
 keep:=fun _ _ _=>rfl
 fix_:=fun _ _ h=>by cases h
 tab:=ht
theorem wo {w:World}{b:Nat}{o:Obj}(h:w.heap[b]?=some o):b<w.heap.size:=(Array.getElem?_eq_some_iff.1 h).1
theorem AD (w:World)(xs:LI)(cap b:Nat)(cur:Array Value)(el:TypeId)(hh:w.heap[b]?=some (.cells cur el (0,0)))(hcs:cur.size=cap)(ht:fY (OR w b) w)(hle:xs.length≤cap)(hcap:cap≤maxLen)
  (hx:∀(k:Nat) (x:Int),xs[k]?=some x→bi .u8 x∧cur[k]?=some (Value.int .u8 x)):
  Calls prog 21 #[.slice (some ⟨b,0,none⟩) xs.length cap] w fun e w'=>e=.returned (.tuple #[])∧∃cur',Wrote w w' b∧w'.heap[b]?=some (.cells cur' el (0,0))∧cur'.size=cur.size∧
   (∀(k:Nat) (z:Int),(xs.map d0)[k]?=some z→cur'[k]?=some (Value.int .u8 z)∧bi .u8 z)∧∀q:Nat,xs.length≤q→cur'[q]?=cur[q]?:=by
 have htt:=cY Tryz.prog 400
 have hc:(Tryz.f21).body=some (.seq (.region 0 JZ false) (.block 0 (.loop (.seq (.seq (.region 1 J0 false) (.cond (.tmp 6) .skip (.exit 0))) (.seq (.block 1 (.region 3 F6 false)) (.region 2 J1 false)))))):=by kernel_rfl
 refine calls_of_wp (P:=prog) (fn:=Tryz.f21) (by kernel_rfl) hc ?_
 have ho:(px w b).ow 1=some (b,0):=rfl
 have R0:Rel (Ar w b) (px w b) ⟨Dt xs::EP 16,[],[]⟩ (#[Value.slice (some ⟨b,0,none⟩) xs.length cap]++Array.replicate ((Tryz.f21).ntmps - 1) undef) [] w:=by
  refine ⟨?_,trivial,fun k cs hk=>by simp at hk,Mr (wo hh) ht⟩
  rw[show (Tryz.f21).ntmps - 1=16 by kernel_rfl,Array.toList_append,Array.toList_replicate]
  refine ⟨.inr ⟨b,cap,by rw[Nat.zero_add],⟨by decide,by decide,.inl ho⟩,cur,el,hh,by rw[hcs];simp[Ty.size],by rw[Nat.zero_add];exact hle,hcap,fun k x hk=>?_⟩,All2.replicate (R:=Rv (px w b) w) (a:=.any) (b:=undef) trivial 16⟩
  obtain ⟨h1,h2⟩:=hx k x hk
  refine ⟨[.int .u8 x],⟨rfl,h1⟩,fun q u hq=>?_⟩
  cases q with
  |succ q=>simp at hq
  |zero=>
   simp only[List.getElem?_cons_zero,zC] at hq
   subst hq
   simpa [Ty.size] using h2
 have hxl:(xs.length:Int)≤9223372036854775807:=by rw[aB] at hcap;omega
 refine wp_seq (wp_region ?_)
 rw[show List.range JZ.size=[0]++[] by kernel_rfl]
 refine dT htt (Pg xs) R0 fun a1 R1 hd1=>?_
 show (Code.block 0 _).wp prog _ a1 w
 refine wp_block (wp_loop_ghost (fun m a' w'=>∃k,m=xs.length - k∧k≤xs.length∧Rel (Ar w b) (px w b) (OQ (iZ k xs) (k:Int)) a'.tmps [] w'∧a'.defers=[]∧
  ∃cu:Array Value,Wrote w w' b∧w'.heap[b]?=some (.cells cu el (0,0))∧cu.size=cur.size∧∀q:Nat,xs.length≤q→cu[q]?=cur[q]?) (xs.length - 0) ⟨0,rfl,Nat.zero_le _,R1,hd1,cur,⟨rfl,rfl,rfl,rfl,fun _ _=>rfl⟩,hh,rfl,fun _ _=>rfl⟩ ?_)
 rintro m a w1 ⟨k,rfl,hk,R,hd,cu,hwr,hcu,hcus,hhigh⟩
 refine wp_seq (wp_seq (wp_region ?_))
 rw[show List.range J0.size=[0,1,2,3]++[] by kernel_rfl]
 refine dT htt (Ph _ _) R fun a2 R2 hd2=>?_
 show (Code.cond _ _ _).wp prog _ a2 w1
 refine wp_cond (t:=decide ((k:Int)<JY (iZ k xs) k)) (R2.opd (.tmp 6)) ?_
 have hT:=Az k xs
 by_cases hlt:k<xs.length
 ·have e:decide ((k:Int)<JY (iZ k xs) k)=true:=by simp only[JY,hT,zB];omega
  rw[e]
  refine wp_skip ?_
  show (Code.seq _ _).wp prog _ a2 w1
  refine wp_seq (wp_block (wp_region ?_))
  rw[show List.range F6.size=[0,1,2,3,4,5,6,7]++[8] by kernel_rfl]
  refine dT htt ((Pt _ _).trans (aa (by simp only[hT,zA,zB];omega) _ _)) R2 fun a3 R3 hd3=>?_
  obtain ⟨p0,f0,ho8⟩:∃pos after,F6[8]?=some { dst:=none,op:=.store 5 (.tmp 16) (.tmp 15),type:=0,pos:=pos,after:=after,guard:=none }:=⟨_,_,rfl⟩
  simp only[wpOps,ho8]
  rw[if_pos (by rfl)]
  refine .inl ?_
  have hel:Rc (px w b) w1 (.eel Kq k ((iZ k xs).getD k 0) 1 1) (a3.eval (.tmp 16)):=R3.opd (.tmp 16)
  have hyv:Rv (px w b) w1 (.one (.int .u8 (d0 ((iZ k xs).getD k 0)))) (a3.eval (.tmp 15)):=R3.opd (.tmp 15)
  have hyt:Rt (px w b).S w1 Kq (d0 ((iZ k xs).getD k 0)) (a3.eval (.tmp 15)).cells.toList:=by
   obtain ⟨e1,e2⟩:=hyv
   rw[e1]
   exact ⟨rfl,e2⟩
  obtain ⟨b',cu1,el1,cu2,g1,g2,g3,g4,g5,g6⟩:=tG (P:=prog) (t:=5) htt (by kernel_rfl) hel hyt
  rw[ho] at g1
  cases g1
  rw[hcu] at g2
  cases g2
  unfold Oper.wp
  rw[g6 _ rfl]
  have hwr2:=Wrote.setRow w1 b cu2
  have R4:Rel (Ar w b) (px w b) (Pj (iZ k xs) k) a3.tmps [] (w1.setRow b cu2):=R3.updEx ho hwr2 hcu g3 g4 g5 hyt
  simp only[Oper.upon]
  show (Code.region 2 J1 false).wp prog _ a3 _
  refine wp_region ?_
  rw[show List.range J1.size=[0,1,2]++[] by kernel_rfl]
  refine dT htt (Ps _ _) R4 fun a4 R5 hd5=>?_
  refine ⟨xs.length - (k+1),by omega,k+1,rfl,hlt,?_,hd5.trans (hd3.trans (hd2.trans hd)),cu2,⟨hwr2.os.trans hwr.os,hwr2.tape.trans hwr.tape,hwr2.output.trans hwr.output,hwr2.size.trans hwr.size,fun q hq=>(hwr2.other q hq).trans (hwr.other q hq)⟩,g3,?_,?_⟩
  ·have R6:Rel (Ar w b) (px w b) ⟨sr 5 0 _,[],[]⟩ a4.tmps [] (w1.setRow b cu2):=⟨j5 5 0 R5.tm,R5.stk,R5.ob,R5.gh⟩
   have e1:lm 0 k (iZ k xs) (d0 ((iZ k xs).getD k 0))=iZ (k+1) xs:=by
    rw[J6 hlt]
    exact J7 hlt
   rw[e1] at R6
   have e2:IntKind.wrap .i64 ((k:Int)+1)=((k+1:Nat):Int):=aQ hlt (by rw[aB];omega)
   rw[e2] at R6
   exact R6
  ·have:=congrArg Array.size g4
   have g5':k*1+1≤cu.size:=g5
   obtain ⟨e1,e2⟩:=hyv
   rw[← this,e1]
   simp[Value.cells,Ty.size]
   omega
  ·intro q hq
   obtain ⟨e1,e2⟩:=hyv
   rw[← hhigh q hq,← g4,e1,← Array.getElem?_toList,← Array.getElem?_toList]
   have g5':k*1+1≤cu.size:=g5
   simp only[Value.cells,Ty.size]
   rw[zK,List.getElem?_append_right (by simp;omega),List.getElem?_append_right (by simp;omega),List.getElem?_drop]
   congr 1
   simp
   omega
 ·have hkl:k=xs.length:=by omega
  have e:decide ((k:Int)<JY (iZ k xs) k)=false:=by simp only[JY,hT,decide_eq_false_iff_not];omega
  rw[e]
  refine wp_exit ?_
  simp only[Exit.then,Exit.inBlock,if_true]
  refine ⟨hd2.trans hd,.tuple #[],by kernel_rfl,rfl,cu,hwr,hcu,hcus,fun q z hz=>?_,hhigh⟩
  have he:=R.get 0
  have hex:Rc (px w b) w1 (.ex 5 Kq 0 (iZ k xs) 1 1) (a.tmps.getD 0 undef):=he
  have hz':(iZ k xs)[q]?=some z:=by
   rw[hkl]
   unfold iZ
   rw[List.take_length,List.drop_length,List.append_nil]
   exact hz
  rcases hex with ⟨_,h0,_⟩ | ⟨b',cap',_,⟨_,_,ho'⟩,cu',el',hcu',_,_,_,h4⟩
  ·rw[h0] at hz';simp at hz'
  ·have hbb:b'=b:=by rcases ho' with h | h <;> (rw[ho] at h;cases h;rfl)
   subst hbb
   rw[hcu] at hcu'
   cases hcu'
   obtain ⟨c,⟨rfl,hin⟩,hu⟩:=h4 q z hz'
   have:=hu 0 _ rfl
   exact ⟨by simpa [Ty.size] using this,hin⟩
theorem Ga (w:World)(S:Nat→Nat→Prop)(hS:∀b o,S b o→b<w.heap.size)(ht:fY S w):Calls prog 21 #[.slice none 0 0] w fun e w'=>e=.returned (.tuple #[])∧w'=w:=by
 have htt:=cY Tryz.prog 400
 have hc:(Tryz.f21).body=some (.seq (.region 0 JZ false) (.block 0 (.loop (.seq (.seq (.region 1 J0 false) (.cond (.tmp 6) .skip (.exit 0))) (.seq (.block 1 (.region 3 F6 false)) (.region 2 J1 false)))))):=by kernel_rfl
 refine calls_of_wp (P:=prog) (fn:=Tryz.f21) (by kernel_rfl) hc ?_
 have hg0:GhOk (lZ ⟨S,fun _=>none,fun _=>none⟩ w) (ja ⟨S,fun _=>none,fun _=>none⟩) w:=
  {mu:=fun _ _ h=>by cases h
   muI:=fun _ _ _ h=>by cases h
   ow:=fun _ _ _ h=>by cases h
   owI:=fun _ _ _ _ _ h=>by cases h
   sB:=fun b o h=>by rcases h with h | ⟨_,h⟩;exact hS b o h;cases h
   fr:=⟨rfl,rfl,rfl,Nat.le_refl _,fun _ _ _=>rfl⟩
   sub:=fun _ _ h=>h
   sup:=fun _ _ h=>.inl h
   keep:=fun _ _ _=>rfl
   fix_:=fun _ _ h=>by cases h
   tab:=fun g i hg hi=>⟨.inl (ht g i hg hi).1,(ht g i hg hi).2⟩ }
 have R0:Rel (lZ ⟨S,fun _=>none,fun _=>none⟩ w) (ja ⟨S,fun _=>none,fun _=>none⟩) ⟨Dt []::EP 16,[],[]⟩ (#[Value.slice none 0 0]++Array.replicate ((Tryz.f21).ntmps - 1) undef) [] w:=by
  refine ⟨?_,trivial,fun k cs hk=>by simp at hk,hg0⟩
  rw[show (Tryz.f21).ntmps - 1=16 by kernel_rfl,Array.toList_append,Array.toList_replicate]
  exact ⟨.inl ⟨rfl,rfl,rfl⟩,All2.replicate (a:=V.any) (b:=undef) trivial 16⟩
 refine wp_seq (wp_region ?_)
 rw[show List.range JZ.size=[0]++[] by kernel_rfl]
 refine dT htt (Pg []) R0 fun a1 R1 hd1=>?_
 show (Code.block 0 _).wp prog _ a1 w
 refine wp_block (wp_loop_ghost (fun _ a' w'=>Rel (lZ ⟨S,fun _=>none,fun _=>none⟩ w) (ja ⟨S,fun _=>none,fun _=>none⟩) (OQ [] 0) a'.tmps [] w'∧a'.defers=[]∧w'=w) 0 ⟨R1,hd1,rfl⟩ ?_)
 rintro m a w1 ⟨R,hd,rfl⟩
 refine wp_seq (wp_seq (wp_region ?_))
 rw[show List.range J0.size=[0,1,2,3]++[] by kernel_rfl]
 refine dT htt (Ph _ _) R fun a2 R2 hd2=>?_
 show (Code.cond _ _ _).wp prog _ a2 _
 refine wp_cond (t:=false) (R2.opd (.tmp 6)) ?_
 refine wp_exit ?_
 simp only[Exit.then,Exit.inBlock,if_true]
 exact ⟨hd2.trans hd,.tuple #[],by kernel_rfl,rfl,rfl⟩
theorem Grown.refl (w:World):Grown w w:=⟨rfl,rfl,rfl,Nat.le_refl _,fun _ _=>rfl⟩
theorem AS.map_noOp {F:Fra}{G:Gh}{A:AS}{ts:Array Value}{cst:List (Array Value)}{w:World}(R:Rel F G A ts cst w)(i:Nat):Rel F G (A.map (C.over i [])) ts cst w:=by
 refine R.map (fun c v h=>?_) (fun _=>rfl) (fun _ _ h=>⟨h,rfl⟩) R.gh
 have hcell:=h.cell
 cases c with
 |lst e t xs own=>
  obtain ⟨A',cap,e0,h1,h2,h3,h4⟩:=h
  refine ⟨A',cap,e0,h1,h2,h3,?_⟩
  cases hb:own == i with
  |true=>exact .inl rfl
  |false=>exact h4
 |ex e t lo xs a b=>
  simp only[C.over]
  cases hn : !(a == i)&&!(b == i) with
  |true=>exact h
  |false=>
   simp only[cond_false]
   split
   ·rename_i ht
    subst ht
    simp only
    cases hy:(a == i)&&(b == i) with
    |true=>
     have:fA lo [] xs=xs:=by simp[fA]
     rw[this]
     exact h
    |false=>
     simp only[cond_false]
     cases hlo:Nat.beq lo 0 with
     |false=>exact hcell
     |true=>
      have hlo:=Nat.eq_of_beq_eq_true hlo
      subst hlo
      exact h
   ·exact hcell
 |eel t k x a b=>
  simp only[C.over]
  cases hn : !(a == i)&&!(b == i) with
  |true=>exact h
  |false=>exact hcell
 |_=>exact h
theorem LE:HcOk prog 21 xj:=by
 intro R args id A K r F G ts cst w vals hid hrun Rl hv
 refine ⟨⟨Tryz.f21,by kernel_rfl,by kernel_rfl,by kernel_rfl⟩,?_⟩
 unfold xj at hrun
 split at hrun
 ·rename_i e t lo xs i j
  cases hz:Nat.beq i j&&Nat.beq lo 0 with
  |false=>rw[hz] at hrun;cases hrun
  |true=>
   rw[hz] at hrun
   simp only[cond_true] at hrun
   simp only[zA] at hz
   have hij:=Nat.eq_of_beq_eq_true hz.1
   have hlo:=Nat.eq_of_beq_eq_true hz.2
   subst hij hlo
   split at hrun
   ·rename_i ht
    subst ht
    simp only at hrun
    cases hg:di xs.length (A.coll (C.longs i)) with
    |false=>rw[hg] at hrun;cases hrun
    |true=>
     rw[hg] at hrun
     simp only[cond_true,AS.force_eq] at hrun
     obtain ⟨v,rfl⟩:∃v,vals = #[v]:=by
      have:=hv.length
      obtain ⟨v,hv⟩:∃v,vals.toList=[v]:=by
       cases h:vals.toList with
       |nil=>rw[h] at this;cases this
       |cons v l=>cases l with
        |nil=>exact ⟨v,rfl⟩
        |cons _ _=>rw[h] at this;simp at this
      exact ⟨v,by rw[← Array.toList_inj];exact hv⟩
     have hx:Rc G w (.ex e (.int .u8) 0 xs i i) v:=hv.1
     rcases hx with ⟨_,rfl,rfl⟩ | ⟨b,cap,rfl,⟨_,_,ho⟩,cur,el,hh,h1,h2,h3,h4⟩
     ·refine (Ga w G.S Rl.gh.sB Rl.gh.tabs).mono ?_
      rintro e' w' ⟨rfl,rfl⟩
      exact ⟨G,_,_,.tuple #[],AS.map_noOp Rl i,(show Rv G _ (.tup []) (.tuple #[]) from ⟨#[],rfl,trivial⟩),.inl ⟨rfl,some [],.refl _ _ _,hrun⟩⟩
     ·have ho:G.ow i=some (b,0):=by rcases ho with h | h <;> exact h
      rw[Nat.zero_add] at h2 ⊢
      refine (AD w xs cap b cur el hh (by rw[h1];simp[Ty.size]) (fun g q hg hq=>⟨⟨by rintro rfl;exact (Rl.gh.ow _ _ _ ho).1 _ (Nat.zero_le _) (Rl.gh.tabs g q hg hq).1,_,(Rl.gh.tabs g q hg hq).2⟩,(Rl.gh.tabs g q hg hq).2⟩) h2 h3 fun k x hk=>?_).mono ?_
      ·obtain ⟨c,⟨rfl,hin⟩,hu⟩:=h4 k x hk
       have:=hu 0 _ rfl
       exact ⟨hin,by simpa [Ty.size] using this⟩
      ·rintro e' w' ⟨rfl,cur',hwr,hh',hs',hlow,hhigh⟩
       have hl:(List.map d0 xs).length=xs.length:=List.length_map _
       have R':=Rl.over (zs:=List.map d0 xs) ho hwr hh hh' hs' hlow (by rw[hl];exact hhigh) (by rw[hl];exact hg)
       exact ⟨G,_,_,.tuple #[],R',(show Rv G w' (.tup []) (.tuple #[]) from ⟨#[],rfl,trivial⟩),.inl ⟨rfl,some [],⟨(Goes.exWrote Rl.gh ho hwr).kept,fun key b1 _ hb1=>⟨hb1,hwr.other b1 (by rintro rfl;exact (Rl.gh.ow i _ _ ho).2.2.2 key hb1)⟩⟩,hrun⟩⟩
   ·cases hrun
 ·cases hrun
abbrev gH:Io:=⟨[dL,dL],[],[],[dB],none⟩
def vv (d:gH.In):Tr gH.Res:=.ret (.ret ((decide (d.1.1=List.map d0 d.1.2.1),()),()))
abbrev rQ:List (Nat×Hc):=[]
def yN:Hd:=br rQ
abbrev cN:Lo:=⟨⟨(.one (.hol (.sl 5 (Ty.int u8)))::.one (.hol (.sl 5 (Ty.int u8)))::.any::bt (.one hI::.any::aj (bO []))),[]⟩,[(.ret,⟨(bO (.one hL::aj (bO (bt [])))),[]⟩),(.exit 0,⟨(.any::aj (dC (bt []))),[]⟩)]⟩
def gj (d:cN.st.den):Tr (ao cN.xs):=
 .ite (decide (0≤d.1.2.2.1)&&decide (d.1.1.length=d.1.2.1.length)) (.ite (decide (d.1.1.drop d.1.2.2.1.toNat=(List.map d0 d.1.2.1).drop d.1.2.2.1.toNat)) (.ret (.pan (.ret ((),((),()))))) (.ret (.ret ((),((false,()),()))))) .no
def n9:Lp:=bA [(5,aD cN gj)]
def kh {R:Type}(h2 h3:LI)(h4:Int)(next:LI→LI→Int→Option R)(out:ao cN.xs→Option R):Option R:=bif decide (h4<(↑h2.length:Int)) then bif decide (0≤h4)&&decide (h4<(↑h2.length:Int)) then bif decide (0≤h4)&&decide (h4<(↑h3.length:Int)) then bif h2.getD h4.toNat 0 != bC u8 (h3.getD h4.toNat 0) 90 then out (.ret ((),((false,()),()))) else next (h2) (h3) (i64.wrap (h4+1)) else none else none else out (.pan (.ret ((),((),()))))
def jY (n:Nat)(h2 h3:LI)(h4:Int):Option (ao cN.xs):=ik tt yN dr n9 0 Tryz.f57 (cb Tryz.f57 0) n (cN.st.mk' ((h2,(h3,(h4,()))),())) (bG cN.xs)
theorem sS (n:Nat)(h2 h3:LI)(h4:Int):jY (n+1) h2 h3 h4=kh h2 h3 h4 (jY n) some:=by kernel_rfl
theorem BI (xs ys:LI)(hl:xs.length=ys.length)(hb:xs.length≤maxLen):∀(k i:Nat),i≤xs.length→xs.length<i+k→
  jY k xs ys i=if xs.drop i=(List.map d0 ys).drop i then some (.pan (.ret ((),((),())))) else some (.ret ((),((false,()),()))):=by
 intro k
 induction k with
 |zero=>intro i h h';omega
 |succ k ih=>
  intro i hi h
  rw[sS]
  unfold kh
  by_cases h1:i<xs.length
  ·have h2:i<ys.length:=by omega
   have h3:i<(List.map d0 ys).length:=by simpa using h2
   rw[aQ h1 hb,ih (i+1) h1 (by omega)]
   have e:(xs.drop i=(List.map d0 ys).drop i)↔(xs[i]=d0 ys[i]∧xs.drop (i+1)=(List.map d0 ys).drop (i+1)):=by rw[zE h1,zE h3,List.cons.injEq,List.getElem_map]
   have e2:bC .u8 ys[i] 90=d0 ys[i]:=rfl
   simp only[zG,aF h1,aF h2,e2]
   by_cases he:xs[i]=d0 ys[i] <;> simp[h1,h2,he,e,cond_eq_ite]
  ·rw[zI (by omega),zI (by simp;omega)]
   simp[h1]
def rx (a0 a1:LI):Option gH.Res:=bif (↑a0.length:Int) != (↑a1.length:Int) then oR ((false,()),()) else (gj ((a0,(a1,(0,()))),())).run fun y=>match y with | .ret ((),((x9,()),()))=>(oR ((x9,()),())) | .pan (.ret ((),((),())))=>(oR ((true,()),()))
theorem Fx (a0 a1:LI):Io.run tt yN dr n9 gH Tryz.f57 ((a0,a1,()),())=rx a0 a1:=by kernel_rfl
theorem IA:HcOk prog 57 (ah gH vv):=by
 refine bK (cs:=rQ) HcsOk.nil (lp:=n9) (fn:=Tryz.f57) gH
  (.step (h0:=aD cN gj) (by kernel_rfl) (iK (cs:=rQ) HcsOk.nil (lp:=n9) (fn:=Tryz.f57) (.done (by kernel_rfl)) cN gj ?_) (.done (by kernel_rfl))) vv ?_
 ·rintro ⟨⟨xs,ys,i,⟨⟩⟩,⟨⟩⟩ y hw hy
  obtain ⟨hg,hy⟩:=Tr.guard hy
  simp only[zA,zB] at hg
  obtain ⟨n,rfl⟩:=aq hg.1
  by_cases hn:n≤xs.length
  ·refine ⟨xs.length+1,(BI xs ys hg.2 hw.1.1.1 _ n hn (by omega)).trans ?_⟩
   rw[← hy]
   simp only[Tr.val_ite,zB,zG,Tr.val_ret]
  ·refine ⟨1,?_⟩
   show jY (0+1) xs ys n=_
   rw[sS,← hy]
   unfold kh
   have h1:¬ n<xs.length:=by omega
   simp[Tr.val_ite,Tr.val_ret,h1,zI (show xs.length≤n by omega),zI (show (List.map d0 ys).length≤n by simp;omega)]
 ·rintro ⟨⟨(xs:LI),(ys:LI),⟨⟩⟩,⟨⟩⟩ out hw ho
  refine (Fx xs ys).trans ?_
  cases ho
  unfold rx
  by_cases hl:xs.length=ys.length
  ·by_cases he:xs=List.map d0 ys
   ·subst he;simp[gj,Tr.run]
   ·simp[gj,Tr.run,hl,he]
  ·have:xs≠List.map d0 ys:=fun e=>hl (by rw[e];simp)
   have h2:(xs.length:Int)≠ys.length:=by omega
   simp[this,h2,cond_eq_ite]
abbrev DJ:Io:=N6
abbrev Ku:Type:=LI×(LI×(LI×Unit))
def xk (d:Ku):AS:=⟨[.one (.ex 5 Kq 0 d.1 1 1),.one (.ex 5 Kq 0 d.2.1 3 3),.one (.lst 5 Kq d.2.2.1 0)]++EP 94,[],[]⟩
abbrev nQ:List (Nat×Hc):=[(31,w9 (ah iU tJ)),(21,xj),(57,w9 (ah gH vv))]
def qH:Hd:=br nQ
def eJ (c:Nat):LI:=(List.range 80).map fun i=>((i+c:Nat):Int)
theorem fc (c:Nat):(eJ c).length=80:=by simp[eJ]
theorem sZ {c i:Nat}(h:i<80):(eJ c)[i]'(by rw[fc];exact h)=((i+c:Nat):Int):=by simp[eJ]
abbrev dn:Lo:=⟨⟨(.one (.exl 5 (Ty.int u8) 1 1)::.one (.exl 5 (Ty.int u8) 3 3)::.one (.hol (.sl 5 (Ty.int u8)))::bO (.one (.exl 5 (Ty.int u8) 1 15)::.one hI::aj (aj (aj (aj (aj (dC []))))))),[]⟩,[(.exit 0,⟨(.one (.exl 5 (Ty.int u8) 1 1)::.one (.exl 5 (Ty.int u8) 3 3)::.one (.hol (.sl 5 (Ty.int u8)))::bO (.one (.exl 5 (Ty.int u8) 1 15)::.any::aj (aj (aj (aj (aj (dC []))))))),[]⟩)]⟩
abbrev cL:Lo:=⟨⟨(.one (.exl 5 (Ty.int u8) 1 1)::.one (.exl 5 (Ty.int u8) 3 3)::.one (.hol (.sl 5 (Ty.int u8)))::bO (.one (.exl 5 (Ty.int u8) 1 15)::.any::.one (.exl 5 (Ty.int u8) 3 19)::.one hI::aj (aj (aj (aj (aj (bO (bt [])))))))),[]⟩,[(.exit 2,⟨(.one (.exl 5 (Ty.int u8) 1 1)::.one (.exl 5 (Ty.int u8) 3 3)::.one (.hol (.sl 5 (Ty.int u8)))::bO (.one (.exl 5 (Ty.int u8) 1 15)::.any::.one (.exl 5 (Ty.int u8) 3 19)::.any::aj (aj (aj (aj (aj (bO (bt [])))))))),[]⟩)]⟩
abbrev cM:Lo:=⟨⟨(.one (.exl 5 (Ty.int u8) 1 1)::.one (.exl 5 (Ty.int u8) 3 3)::.one (.hol (.sl 5 (Ty.int u8)))::bO (.one (.exl 5 (Ty.int u8) 1 15)::.any::.one (.ext 5 (Ty.int u8) 3 19)::.any::.one hI::.any::aj (aj (aj (aj (aj (bO []))))))),[]⟩,[(.ret,⟨(bO (bt (.one hL::aj (aj (aj (aj (aj (dC (bt []))))))))),[]⟩),(.exit 4,⟨(.one (.exl 5 (Ty.int u8) 1 1)::.one (.exl 5 (Ty.int u8) 3 3)::.one (.hol (.sl 5 (Ty.int u8)))::aj (aj (aj (aj (aj (dC (bO (bt [])))))))),[]⟩)]⟩
def ku (d:dn.st.den):Tr (ao dn.xs):=
 .ite (decide (d.1.2.2.2.2.1=0)&&(decide (d.1.2.2.2.1.length≤4294967000)&&decide (d.1.1.length≤d.1.2.2.2.1.length))) (.ret (.ret ((),((d.1.1,d.1.2.1,d.1.2.2.1,d.1.2.2.2.1++eJ 1,()),())))) .no
def jb (d:cL.st.den):Tr (ao cL.xs):=
 .ite (decide (d.1.2.2.2.2.2.1=0)&&(decide (d.1.2.2.2.2.1.length≤4294967000)&&decide (d.1.2.1.length≤d.1.2.2.2.2.1.length))) (.ret (.ret ((),((d.1.1,d.1.2.1,d.1.2.2.1,d.1.2.2.2.1,d.1.2.2.2.2.1++eJ 101,()),())))) .no
def jc (d:cM.st.den):Tr (ao cM.xs):=
 .ite (decide (d.1.2.2.2.2.2.1=0)&&(decide (List.drop d.1.1.length d.1.2.2.2.1=eJ 1)&&(decide (d.1.2.2.2.2.1.1=d.1.2.1.length)&&decide (d.1.2.2.2.2.1.2=eJ 101)))) (.ret (.pan (.ret ((),((d.1.1,d.1.2.1,d.1.2.2.1,()),()))))) .no
def iJ:Lp:=bA [(7,aD dn ku),(14,aD cL jb),(19,aD cM jc)]
def p8 {R:Type}(h8 h9 h10 h11:LI)(h12:Int)(next:LI→LI→LI→LI→Int→Option R)(out:ao dn.xs→Option R):Option R:=bif decide (h12<80) then bif decide (0+h11.length+[u8.wrap (i64.wrap (h12+1))].length≤4294967296)&&(decide ((0+h8.length)*1≤(0+h11.length)*1)&&true) then next (h8) (h9) (h10) (h11++[u8.wrap (i64.wrap (h12+1))]) (i64.wrap (h12+1)) else none else out (.ret ((),((h8,(h9,(h10,(h11,())))),())))
def o8 (n:Nat)(h8 h9 h10 h11:LI)(h12:Int):Option (ao dn.xs):=ik tt qH dr iJ 0 Tryz.f28 (cb Tryz.f28 0) n (dn.st.mk' ((h8,(h9,(h10,(h11,(h12,()))))),())) (bG dn.xs)
theorem FU (n:Nat)(h8 h9 h10 h11:LI)(h12:Int):o8 (n+1) h8 h9 h10 h11 h12=p8 h8 h9 h10 h11 h12 (o8 n) some:=by kernel_rfl
def oG {R:Type}(h32 h33 h34 h35 h36:LI)(h37:Int)(next:LI→LI→LI→LI→LI→Int→Option R)(out:ao cL.xs→Option R):Option R:=bif decide (h37<80) then bif decide (0+h36.length+[u8.wrap (i64.wrap (h37+101))].length≤4294967296)&&(decide ((0+h33.length)*1≤(0+h36.length)*1)&&true) then next (h32) (h33) (h34) (h35) (h36++[u8.wrap (i64.wrap (h37+101))]) (i64.wrap (h37+1)) else none else out (.ret ((),((h32,(h33,(h34,(h35,(h36,()))))),())))
def m7 (n:Nat)(h32 h33 h34 h35 h36:LI)(h37:Int):Option (ao cL.xs):=ik tt qH dr iJ 0 Tryz.f28 (cb Tryz.f28 1) n (cL.st.mk' ((h32,(h33,(h34,(h35,(h36,(h37,())))))),())) (bG cL.xs)
theorem Cc (n:Nat)(h32 h33 h34 h35 h36:LI)(h37:Int):m7 (n+1) h32 h33 h34 h35 h36 h37=oG h32 h33 h34 h35 h36 h37 (m7 n) some:=by kernel_rfl
def oH {R:Type}(h54 h55 h56 h57:LI)(h58:Nat)(h59:LI)(h60:Int)(next:LI→LI→LI→LI→Nat→LI→Int→Option R)(out:ao cM.xs→Option R):Option R:=bif decide (h60<80) then bif decide ((↑0:Int)≤i64.wrap ((↑0:Int)+(↑h54.length:Int)+h60))&&decide (i64.wrap ((↑0:Int)+(↑h54.length:Int)+h60)<(↑0:Int)+(↑h57.length:Int)) then bif h57.getD ((i64.wrap ((↑0:Int)+(↑h54.length:Int)+h60)).toNat - 0) 0 != u8.wrap (i64.wrap (h60+1)) then out (.ret ((),((false,()),()))) else bif decide ((↑h58:Int)≤i64.wrap ((↑0:Int)+(↑h55.length:Int)+h60))&&decide (i64.wrap ((↑0:Int)+(↑h55.length:Int)+h60)<(↑h58:Int)+(↑h59.length:Int)) then bif h59.getD ((i64.wrap ((↑0:Int)+(↑h55.length:Int)+h60)).toNat - h58) 0 != u8.wrap (i64.wrap (h60+101)) then out (.ret ((),((false,()),()))) else next (h54) (h55) (h56) (h57) (h58) (h59) (i64.wrap (h60+1)) else none else none else out (.pan (.ret ((),((h54,(h55,(h56,()))),()))))
def m8 (n:Nat)(h54 h55 h56 h57:LI)(h58:Nat)(h59:LI)(h60:Int):Option (ao cM.xs):=ik tt qH dr iJ 0 Tryz.f28 (cb Tryz.f28 2) n (cM.st.mk' ((h54,(h55,(h56,(h57,((h58,h59),(h60,())))))),())) (bG cM.xs)
theorem Cd (n:Nat)(h54 h55 h56 h57:LI)(h58:Nat)(h59:LI)(h60:Int):m8 (n+1) h54 h55 h56 h57 h58 h59 h60=oH h54 h55 h56 h57 h58 h59 h60 (m8 n) some:=by kernel_rfl
theorem Ek {i c:Nat}(h:i<80)(hc:c≤101)(o:LI):(o++[u8.wrap (i64.wrap ((i:Int)+(c:Int)))])++(eJ c).drop (i+1)=o++(eJ c).drop i:=by
 rw[zE (show i<(eJ c).length by rw[fc];exact h),sZ h,af (n:=(i:Int)+(c:Int)) (by omega) (by omega)]
 have:u8.wrap ((i:Int)+(c:Int))=((i+c:Nat):Int):=by
  simp[IntKind.wrap,IntKind.signed,IntKind.bits]
  omega
 rw[this]
 simp
theorem yX (a b w:LI):∀(k:Nat) (g:LI) (i:Nat),80<i+k→i≤80→g.length+(80 - i)≤4294967296→a.length≤g.length→
  o8 k a b w g i=some (.ret ((),((a,(b,(w,(g++(eJ 1).drop i,())))),()))):=by
 intro k
 induction k with
 |zero=>intro g i _ _ _;omega
 |succ k ih=>
  intro g i h1 h2 h3 h4
  rw[FU]
  unfold p8
  by_cases hl:i<80
  ·have h5:(i:Int)<80:=by omega
   rw[aa (by simpa using h5),aa (by simp;omega),aQ hl (by rw[aB];omega),ih _ (i+1) (by omega) (by omega) (by simp;omega) (by simp;omega)]
   have:=Ek (c:=1) hl (by omega) g
   have e:(((1:Nat):Int))=1:=rfl
   rw[e,aQ hl (by rw[aB];omega)] at this
   rw[this]
  ·rw[ac (by simp;omega),zI (by rw[fc];omega),List.append_nil]
theorem wB (a b w g:LI):∀(k:Nat) (h:LI) (i:Nat),80<i+k→i≤80→h.length+(80 - i)≤4294967296→b.length≤h.length→
  m7 k a b w g h i=some (.ret ((),((a,(b,(w,(g,(h++(eJ 101).drop i,()))))),()))):=by
 intro k
 induction k with
 |zero=>intro g i _ _ _;omega
 |succ k ih=>
  intro h i h1 h2 h3 h4
  rw[Cc]
  unfold oG
  by_cases hl:i<80
  ·have h5:(i:Int)<80:=by omega
   rw[aa (by simpa using h5),aa (by simp;omega),aQ hl (by rw[aB];omega),ih _ (i+1) (by omega) (by omega) (by simp;omega) (by simp;omega)]
   have:=Ek (c:=101) hl (by omega) h
   have e:(((101:Nat):Int))=101:=rfl
   rw[e] at this
   rw[this]
  ·rw[ac (by simp;omega),zI (by rw[fc];omega),List.append_nil]
theorem wC (a b w g:LI)(hg:g.drop a.length=eJ 1)(hgl:g.length≤maxLen)(hbl:b.length+80≤maxLen):∀(k i:Nat),80<i+k→i≤80→
  m8 k a b w g b.length (eJ 101) i=some (.pan (.ret ((),((a,(b,(w,()))),())))):=by
 have hl:g.length=a.length+80:=by
  have:=congrArg List.length hg
  rw[List.length_drop,fc] at this
  omega
 rw[aB] at hgl hbl
 intro k
 induction k with
 |zero=>intro i _ _;omega
 |succ k ih=>
  intro i h1 h2
  rw[Cd]
  unfold oH
  by_cases hlt:i<80
  ·have h5:(i:Int)<80:=by omega
   have e1:i64.wrap ((0:Int)+(a.length:Int)+(i:Int))=((a.length+i:Nat):Int):=by rw[af] <;> omega
   have e2:i64.wrap ((0:Int)+(b.length:Int)+(i:Int))=((b.length+i:Nat):Int):=by rw[af] <;> omega
   have e3:u8.wrap (i64.wrap ((i:Int)+1))=((i+1:Nat):Int):=by
    rw[af (by omega) (by omega)]
    simp[IntKind.wrap,IntKind.signed,IntKind.bits]
    omega
   have e4:u8.wrap (i64.wrap ((i:Int)+101))=((i+101:Nat):Int):=by
    rw[af (by omega) (by omega)]
    simp[IntKind.wrap,IntKind.signed,IntKind.bits]
    omega
   have e5:g.getD (a.length+i) 0=((i+1:Nat):Int):=by
    have h7:(g.drop a.length)[i]?=some ((i+1:Nat):Int):=by
     rw[hg,List.getElem?_eq_getElem (by rw[fc];exact hlt),sZ hlt]
    rw[List.getElem?_drop] at h7
    rw[List.getD_eq_getElem?_getD,h7]
    rfl
   have e6:(eJ 101).getD i 0=((i+101:Nat):Int):=by
    rw[List.getD_eq_getElem?_getD,List.getElem?_eq_getElem (by rw[fc];exact hlt),sZ hlt]
    rfl
   have hml:(eJ 101).length=80:=fc 101
   rw[aa (by simpa using h5),e1,e2,e3,e4,aa (by simp;omega)]
   rw[show ((a.length+i:Nat):Int).toNat - 0=a.length+i by omega,show ((b.length+i:Nat):Int).toNat - b.length=i by omega,e5,e6,ac (by simp),aa (by simp;omega),ac (by simp),aQ hlt (by rw[aB];omega),ih (i+1) (by omega) (by omega)]
  ·rw[ac (by simp;omega)]
def oV (a0 a1 a2:LI):Option DJ.Res:=bif !decide (a0=a2) then oR ((false,()),()) else bif !decide (a1=a2) then oR ((false,()),()) else (ku ((fA 0 (List.map d0 a0) a0,(a1,(a2,(fA 0 (List.map d0 a0) a0,(0,()))))),())).run fun y=>match y with | .ret ((),((x22,x23,x24,x25,()),()))=>(bif !decide (x23=x24) then oR ((false,()),()) else bif decide (0≤(↑0:Int)+(↑x22.length:Int))&&decide ((↑0:Int)+(↑x22.length:Int)≤(↑x25.length:Int)) then bif !decide (List.take ((↑0:Int)+(↑x22.length:Int)).toNat x25=List.map d0 x24) then oR ((false,()),()) else (jb ((x22,(x23,(x24,(x25,(x23,(0,())))))),())).run fun y=>match y with | .ret ((),((x49,x50,x51,x52,x53,()),()))=>(bif decide (x50.length≤x53.length)&&true then (jc ((x49,(fA 0 (List.map d0 x50) x50,(x51,(x52,(((List.map d0 x50).length,List.drop (List.map d0 x50).length x53),(0,())))))),())).run fun y=>match y with | .ret ((),((x73,()),()))=>(oR ((x73,()),())) | .pan (.ret ((),((x74,x75,x76,()),())))=>(bif decide (x74=List.map d0 x76) then oR ((decide (x75=List.map d0 x76),()),()) else oR ((false,()),())) else none) else none)
theorem I5 (a0 a1 a2:LI):Io.runX tt qH dr iJ DJ Tryz.f28 (xk (a0,a1,a2,()))=oV a0 a1 a2:=by kernel_rfl
def sw (a b w:LI):Bool:=decide (a=w)&&decide (b=w)
theorem v6 (a b w:LI)(ha:a.length≤4294967000)(hb:b.length≤4294967000):oV a b w=some (.ret ((sw a b w,()),())):=by
 unfold oV sw
 by_cases h1:a=w
 rotate_left
 ·simp[h1]
 subst h1
 by_cases h2:b=a
 rotate_left
 ·simp[h2]
 subst h2
 have hl:(List.map d0 b).length=b.length:=by simp
 rw[p6 hl]
 have e7:ku ((List.map d0 b,b,b,List.map d0 b,0,()),())=.ite true (.ret (.ret ((),((List.map d0 b,b,b,List.map d0 b++eJ 1,()),())))) .no:=by
  have:(decide ((0:Int)=0)&&(decide ((List.map d0 b).length≤4294967000)&&decide ((List.map d0 b).length≤(List.map d0 b).length)))=true:=by simp;omega
  exact congrArg (fun c=>Tr.ite c _ _) this
 rw[e7]
 simp only[decide_true,Bool.not_true,cond_false,Tr.run,cond_true]
 have e0:((0:Int)+((List.map d0 b).length:Int)).toNat=(List.map d0 b).length:=by omega
 rw[aa (by simp;omega),e0,List.take_left']
 rotate_left
 ·rfl
 simp only[decide_true,Bool.not_true,cond_false]
 have e14:jb ((List.map d0 b,b,b,List.map d0 b++eJ 1,b,0,()),())=.ite true (.ret (.ret ((),((List.map d0 b,b,b,List.map d0 b++eJ 1,b++eJ 101,()),())))) .no:=by
  have:(decide ((0:Int)=0)&&(decide (b.length≤4294967000)&&decide (b.length≤b.length)))=true:=by simp;omega
  exact congrArg (fun c=>Tr.ite c _ _) this
 rw[e14]
 simp only[Tr.run,cond_true]
 rw[aa (by simp)]
 have ed:List.drop (List.map d0 b).length (b++eJ 101)=eJ 101:=by rw[hl];simp
 rw[ed,p6 hl]
 have e19:jc ((List.map d0 b,List.map d0 b,b,List.map d0 b++eJ 1,((List.map d0 b).length,eJ 101),0,()),())=.ite true (.ret (.pan (.ret ((),((List.map d0 b,List.map d0 b,b,()),()))))) .no:=by
  have:(decide ((0:Int)=0)&&(decide (List.drop (List.map d0 b).length (List.map d0 b++eJ 1)=eJ 1)&&(decide ((List.map d0 b).length=(List.map d0 b).length)&&decide (eJ 101=eJ 101))))=true:=by simp
  exact congrArg (fun c=>Tr.ite c _ _) this
 rw[e19]
 simp[Tr.run]
def vW:Hc:=fun _ args _ A K=>match args with
 |[.one (.ex _ t lo xs i j),.one (.ex _ t2 lo2 ys i2 j2),.one (.lst _ t3 ws _)]=>
  bif Nat.beq i j&&(Nat.beq i2 j2&&(Nat.beq lo 0&&(Nat.beq lo2 0&&!(Nat.beq i i2)))) then
   (if h:t=.int .u8∧t2=.int .u8∧t3=.int .u8 then (bif decide (xs.length≤4294967000)&&decide (ys.length≤4294967000) then
    (A.map (C.strip [i,i2] [])).force fun A=>K (.ret (.one (.bool (sw (h.1▸xs:List (Ty.int .u8).den) (h.2.1▸ys:List (Ty.int .u8).den) (h.2.2▸ws:List (Ty.int .u8).den)))) (some [])) A else none) else none) else none
 |_=>none
theorem Lm:HcOk prog 28 vW:=by
 have htt:=cY Tryz.prog 400
 have hcs:HcsOk prog nQ:=.cons (nj wW) (.cons LE (.cons (nj IA) .nil))
 intro R args id A K r F G ts cst w vals hid hrun Rl hv
 refine ⟨⟨Tryz.f28,by kernel_rfl,by kernel_rfl,by kernel_rfl⟩,?_⟩
 unfold vW at hrun
 split at hrun
 ·rename_i e1 t lo xs i j e2 t2 lo2 ys i2 j2 e3 t3 ws own
  cases hz:Nat.beq i j&&(Nat.beq i2 j2&&(Nat.beq lo 0&&(Nat.beq lo2 0&&!(Nat.beq i i2)))) with
  |false=>rw[hz] at hrun;cases hrun
  |true=>
   rw[hz] at hrun
   simp only[cond_true] at hrun
   simp only[zA,Bool.not_eq_true'] at hz
   obtain ⟨z1,z2,z3,z4,z5⟩:=hz
   have z1:=Nat.eq_of_beq_eq_true z1
   have z2:=Nat.eq_of_beq_eq_true z2
   have z3:=Nat.eq_of_beq_eq_true z3
   have z4:=Nat.eq_of_beq_eq_true z4
   have z5:i≠i2:=by rintro rfl;rw[Nat.beq_refl] at z5;cases z5
   subst z1 z2 z3 z4
   split at hrun
   ·rename_i h
    obtain ⟨rfl,rfl,rfl⟩:=h
    simp only at hrun
    cases hg:decide (xs.length≤4294967000)&&decide (ys.length≤4294967000) with
    |false=>rw[hg] at hrun;cases hrun
    |true=>
     rw[hg] at hrun
     simp only[cond_true,AS.force_eq] at hrun
     simp only[zA,zB] at hg
     have hvl:vals.toList.length=3:=hv.length.symm
     obtain ⟨v1,v2,v3,hvs⟩:∃v1 v2 v3,vals.toList=[v1,v2,v3]:=by
      match h:vals.toList with
      |[]=>rw[h] at hvl;cases hvl
      |[_]=>rw[h] at hvl;simp at hvl
      |[_,_]=>rw[h] at hvl;simp at hvl
      |[a,b,c]=>exact ⟨a,b,c,rfl⟩
      |_::_::_::_::_=>rw[h] at hvl;simp at hvl
     rw[hvs] at hv
     obtain ⟨hx1,hx2,hx3,_⟩:=hv
     have hn2:aZ (([(1,i),(3,i2)]:List (Nat×Nat)).map (·.2))=true:=by simp[aZ,z5.symm]
     have hto:∀{xs:LI} {k k':Nat} {v:Value},k'≠0→(∀b,G.ow k=some (b,0)→(eF G [] [(1,i),(3,i2)]).ow k'=some (b,0))→Rc G w (.ex e1 (.int .u8) 0 xs k k) v→Rc (eF G [] [(1,i),(3,i2)]) w (.ex 5 Kq 0 xs k' k') v:=by
      intro xs k k' v hk0 hk h
      rcases h with h | ⟨b,cap,e0,⟨_,_,ho⟩,h⟩
      ·exact .inl h
      ·exact .inr ⟨b,cap,e0,⟨hk0,hk0,.inl (hk b (by rcases ho with h | h <;> exact h))⟩,h⟩
     have R0:Rel (gF G w [] [(1,i),(3,i2)]) (eF G [] [(1,i),(3,i2)]) (xk (xs,ys,ws,())) (vals++Array.replicate ((Tryz.f28).ntmps - vals.size) undef) [] w:=by
      refine ⟨?_,trivial,fun k cs hk=>by simp[xk] at hk,DG Rl.gh (fun i j k h=>by simp[Bn.at] at h) hn2⟩
      have hs:vals.size=3:=by simpa using hvl
      rw[hs,show (Tryz.f28).ntmps - 3=94 by kernel_rfl,Array.toList_append,Array.toList_replicate,hvs]
      refine ⟨hto (by decide) (fun b hb=>by simp[eF,hb]) hx1,hto (by decide) (fun b hb=>by simp[eF,hb]) hx2,?_,All2.replicate (a:=V.any) (b:=undef) trivial 94⟩
      obtain ⟨Aa,cap,e0,g1,g2,g3,_⟩:=hx3
      exact ⟨Aa,cap,e0,g1,g2,g3,.inl rfl⟩
     refine Bz (lp:=iJ) htt hm (gD hcs) (dc htt) (by kernel_rfl) ?_ hid Rl R0 ((I5 xs ys ws).trans (v6 xs ys ws hg.1 hg.2)) hrun
     refine .step (h0:=aD dn ku) (by kernel_rfl) (iK (cs:=nQ) hcs (lp:=iJ) (fn:=Tryz.f28) (.done (by kernel_rfl)) dn ku ?_)
      (.step (h0:=aD cL jb) (by kernel_rfl) (iK (cs:=nQ) hcs (lp:=iJ) (fn:=Tryz.f28) (.done (by kernel_rfl)) cL jb ?_)
      (.step (h0:=aD cM jc) (by kernel_rfl) (iK (cs:=nQ) hcs (lp:=iJ) (fn:=Tryz.f28) (.done (by kernel_rfl)) cM jc ?_) (.done (by kernel_rfl))))
     ·rintro ⟨⟨a,b,c,g,i,⟨⟩⟩,⟨⟩⟩ y hw hy
      obtain ⟨hg,hy⟩:=Tr.guard hy
      simp only[zA,zB] at hg
      obtain ⟨rfl,h1,h2⟩:=hg
      refine ⟨81,(yX a b c 81 g 0 (by omega) (by omega) (by omega) h2).trans ?_⟩
      rw[← hy];rfl
     ·rintro ⟨⟨a,b,c,g,h,i,⟨⟩⟩,⟨⟩⟩ y hw hy
      obtain ⟨hg,hy⟩:=Tr.guard hy
      simp only[zA,zB] at hg
      obtain ⟨rfl,h1,h2⟩:=hg
      refine ⟨81,(wB a b c g 81 h 0 (by omega) (by omega) (by omega) h2).trans ?_⟩
      rw[← hy];rfl
     ·rintro ⟨⟨a,b,c,g,⟨l,h⟩,i,⟨⟩⟩,⟨⟩⟩ y hw hy
      obtain ⟨hg,hy⟩:=Tr.guard hy
      simp only[zA,zB] at hg
      obtain ⟨rfl,h1,rfl,rfl⟩:=hg
      have w1:g.length≤maxLen:=hw.1.2.2.2.1.1
      have w2:b.length+(eJ 101).length≤maxLen:=hw.1.2.2.2.2.1.1
      rw[fc] at w2
      refine ⟨81,(wC a b c g h1 w1 w2 81 0 (by omega) (by omega)).trans ?_⟩
      rw[← hy];rfl
   ·cases hrun
 ·cases hrun
end
end Go.Proofs.YtcbcbjdobbgddaaGreatDoor.Sym
