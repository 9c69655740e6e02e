/- cursor.Writer: Room, number, I8 to I64, Raw, Bytes, NewWriter. -/
import Derived.Test.YthpcdhgpplmneaaGreatDoorQ4

set_option linter.unusedVariables false
set_option linter.unusedSimpArgs false
namespace Go.Proofs.YthpcdhgpplmneaaGreatDoor.Sym
open Go
open Go.IntKind (i8 i16 i32 i64 u8 u16 u32 u64)
noncomputable section
abbrev Py:List Sh:=[dO,dI]
abbrev To:Sh:=.dat (.int .i16) false false
abbrev yY:Sh:=.dat (.int .i32) false false
abbrev SU:Sh:=.dat (.int .u64) false false
def az (v:Int):Nat→LI
 |0=>[]
 |n+1=>(v / 256 ^ n) % 256::az v n
theorem dT (v:Int):∀n,(az v n).length=n
 |0=>rfl
 |n+1=>by rw[az,zN,dT v n]
def ct (b:LI)(most v:Int)(n:Nat):Int×LI:=if most - b.length<n then (10,b) else (0,b++az v n)
def cT (b:LI)(most:Int):Bool:=decide (b.length≤4294960000)&&(decide (0≤most)&&decide (most≤(1048576:Int)))
abbrev jl:Io:=⟨[.ptr 0 0],[Py],[],[dI],none⟩
def yF (d:jl.In):Tr jl.Res:=.ret (.ret ((i64.wrap (d.2.1.2.1 - d.2.1.1.length),()),((d.2.1.1,(d.2.1.2.1,())),())))
abbrev GK:List (Nat×Hc):=[]
def Pm:Hd:=bI GK
def HK:Lp:=bQ []
def Iy (a0:LI)(a1:Int):Option jl.Res:=oR ((i64.wrap (a1 - (↑a0.length:Int)),()),(a0,a1,()),())
theorem NF (a0:LI)(a1:Int):Io.run tt Pm dr HK jl Tryz.f130 (((),()),(a0,a1,()),())=Iy a0 a1:=by kernel_rfl
theorem H7:HcOk prog 130 (ah jl yF):=by
 refine bY (cs:=GK) HcsOk.nil (lp:=HK) (fn:=Tryz.f130) jl (.done (by kernel_rfl)) yF ?_
 rintro ⟨⟨⟨⟩,⟨⟩⟩,⟨⟨(b:LI),(m:Int),⟨⟩⟩,⟨⟩⟩⟩ out hw ho
 rw[← ho]
 exact NF b m
abbrev dz:Io:=⟨[.ptr 0 0,SU,dI],[Py],[],[dI],none⟩
def jY (d:dz.In):Tr dz.Res:=
 .ite (cT d.2.1.1 d.2.1.2.1&&(decide ((0:Int)≤d.1.2.2.1)&&decide (d.1.2.2.1≤(8:Int)))) (.ret (.ret (((ct d.2.1.1 d.2.1.2.1 d.1.2.1 d.1.2.2.1.toNat).1,()),(((ct d.2.1.1 d.2.1.2.1 d.1.2.1 d.1.2.2.1.toNat).2,(d.2.1.2.1,())),())))) .no
abbrev xm:List (Nat×Hc):=[(130,ah jl yF)]
def xB:Hd:=bI xm
abbrev cG:Lo:=⟨⟨(.one (.ptr 0 0)::.one (.hol (.int u64))::.any::bx (.one hI::ai (co []))),[some [.onl 5 (Ty.int u8) 2,hI]]⟩,[(.exit 0,⟨(ai (ai ([]))),[some [.onl 5 (Ty.int u8) 2,hI]]⟩)]⟩
def ig (d:cG.st.den):Tr (ap cG.xs):=
 .ite (decide (-1≤d.1.2.1)&&(decide (d.1.2.1≤7)&&decide (d.2.1.1.length≤4294960000))) (.ret (.ret ((),((),((d.2.1.1++az d.1.1 (d.1.2.1+1).toNat,(d.2.1.2.1,())),()))))) .no
def mS:Lp:=bQ [(5,aG cG ig)]
def ny {R:Type}(h4 h5:Int)(h6:LI)(h7:Int)(next:Int→Int→LI→Int→Option R)(out:ap cG.xs→Option R):Option R:=bif decide (0≤h5) then bif decide (0≤i64.wrap (8*h5)) then bif !(0 == 1+29 || false)&&true&&decide (h6.length+[u8.wrap (eK u64 h4 (i64.wrap (8*h5)))].length≤4294967296) then next (h4) (i64.wrap (h5 - 1)) (h6++[u8.wrap (eK u64 h4 (i64.wrap (8*h5)))]) (h7) else none else none else out (.ret ((),((),((h6,(h7,())),()))))
def l9 (n:Nat)(h4 h5:Int)(h6:LI)(h7:Int):Option (ap cG.xs):=fR tt xB dr mS 1 Tryz.f129 (bX Tryz.f129 0) n (cG.st.mk' ((h4,(h5,())),((h6,(h7,())),()))) (bC cG.xs)
theorem Dw (n:Nat)(h4 h5:Int)(h6:LI)(h7:Int):l9 (n+1) h4 h5 h6 h7=ny h4 h5 h6 h7 (l9 n) some:=by kernel_rfl
theorem NO {v:Int}(h0:0≤v)(h1:v≤18446744073709551615){i:Nat}(hi:i≤7):u8.wrap (eK .u64 v (i64.wrap (8*(i:Int))))=(v / 256 ^ i) % 256:=by
 rw[af (n:=8*(i:Int)) (by omega) (by omega)]
 unfold eK
 have e:min (8*(i:Int)).toNat (u64).bits=8*i:=by
  show min (8*(i:Int)).toNat 64=8*i
  omega
 rw[e]
 have e2:(2:Int) ^ (8*i)=256 ^ i:=by rw[Int.pow_mul];rfl
 have hp:(0:Int)<256 ^ i:=Int.pow_pos (by decide)
 rw[e2,Int.fdiv_eq_ediv_of_nonneg _ (Int.le_of_lt hp)]
 have h3:0≤v / 256 ^ i:=Int.ediv_nonneg h0 (Int.le_of_lt hp)
 have h4:v / 256 ^ i≤v:=Int.ediv_le_self _ h0
 rw[bW (k:=.u64) (by simp[bt,IntKind.min,IntKind.max,IntKind.signed,IntKind.bits];omega)]
 simp[IntKind.wrap,IntKind.signed,IntKind.bits]
theorem CO {v:Int}(h0:0≤v)(h1:v≤18446744073709551615)(most:Int):∀(k m:Nat) (b:LI),m<k→m≤8→b.length+m≤4294967296→
  l9 k v ((m:Int) - 1) b most=some (.ret ((),((),((b++az v m,(most,())),())))):=by
 intro k
 induction k with
 |zero=>intro m b h;omega
 |succ k ih=>
  intro m b h2 h3 h4
  rw[Dw]
  unfold ny
  cases m with
  |zero=>simp[az]
  |succ m=>
   have e:((m+1:Nat):Int) - 1=(m:Int):=by omega
   rw[e,aa (by simp),af (n:=(m:Int) - 1) (by omega) (by omega),NO h0 h1 (by omega),af (n:=8*(m:Int)) (by omega) (by omega),aa (by simp;omega),aa (by simp;omega),ih m _ (by omega) (by omega) (by simp;omega)]
   simp[az]
def rB (a0 a1:Int)(a2:LI)(a3:Int):Option dz.Res:=bif decide (i64.wrap (a3 - (↑a2.length:Int))<a1) then oR ((10,()),(a2,a3,()),()) else (ig ((a0,(i64.wrap (a1 - 1),())),((a2,(a3,())),()))).run fun y=>match y with | .ret ((),((),(x14,x15,()),()))=>(oR ((0,()),(x14,x15,()),()))
theorem Fh (a0 a1:Int)(a2:LI)(a3:Int):Io.run tt xB dr mS dz Tryz.f129 (((),a0,a1,()),(a2,a3,()),())=rB a0 a1 a2 a3:=by kernel_rfl
theorem rJ:HcsOk prog xm:=.cons H7 .nil
theorem mX:HcOk prog 129 (ah dz jY):=by
 refine bY rJ (lp:=mS) (fn:=Tryz.f129) dz (.step (h0:=aG cG ig) (by kernel_rfl) (f9 rJ (lp:=mS) (fn:=Tryz.f129) (.done (by kernel_rfl)) cG ig ?_) (.done (by kernel_rfl))) jY ?_
 ·rintro ⟨⟨(v:Int),(i:Int),⟨⟩⟩,⟨⟨(b:LI),(m:Int),⟨⟩⟩,⟨⟩⟩⟩ y hw hy
  obtain ⟨hg,hy⟩:=Tr.guard hy
  simp only[zA,zB] at hg
  have hv:bt .u64 v:=hw.1.1
  simp[bt,IntKind.min,IntKind.max,IntKind.signed,IntKind.bits] at hv
  have g1:(-1:Int)≤i:=hg.1
  have g2:i≤(7:Int):=hg.2.1
  have g3:b.length≤4294960000:=hg.2.2
  obtain ⟨n,hn⟩:∃n:Nat,i=(n:Int) - 1:=⟨(i+1).toNat,by omega⟩
  subst hn
  refine ⟨10,(CO hv.1 (by omega) m 10 n b (by omega) (by omega) (by omega)).trans ?_⟩
  rw[← hy,show ((n:Int) - 1+1).toNat=n by omega];rfl
 ·rintro ⟨⟨⟨⟩,(v:Int),(n:Int),⟨⟩⟩,⟨⟨(b:LI),(m:Int),⟨⟩⟩,⟨⟩⟩⟩ out hw ho
  obtain ⟨hg,ho⟩:=Tr.guard ho
  simp only[cT,zA,zB] at hg
  obtain ⟨⟨h1,h2,h3⟩,h4,h5⟩:=hg
  have h4:(0:Int)≤n:=h4
  have h5:n≤(8:Int):=h5
  cases ho
  refine (Fh v n b m).trans ?_
  unfold rB ig
  simp only
  rw[af (n:=m - (b.length:Int)) (by omega) (by omega),af (n:=n - 1) (by omega) (by omega),show n - 1+1=n by omega]
  unfold ct
  by_cases hl:m - (b.length:Int)<n
  ·rw[aa (by simpa using hl),if_pos (by omega)]
  ·rw[ae (by simpa using hl),if_neg (by omega)]
   have:(decide (-1≤n - 1)&&(decide (n - 1≤7)&&decide (b.length≤4294960000)))=true:=by simp;omega
   rw[this]
   rfl
theorem pX (v:Int){n:Nat}(h:n≤8):az (u64.wrap v) n=az v n:=by
 have e:u64.wrap v=v % 18446744073709551616:=by simp[IntKind.wrap,IntKind.signed,IntKind.bits]
 rw[e]
 have key:∀k:Nat,k<8→(v % 18446744073709551616 / 256 ^ k) % 256=(v / 256 ^ k) % 256:=by
  intro k hk
  match k,hk with
  |0,_=>omega
  |1,_=>omega
  |2,_=>omega
  |3,_=>omega
  |4,_=>omega
  |5,_=>omega
  |6,_=>omega
  |7,_=>omega
 induction n with
 |zero=>rfl
 |succ n ih=>rw[az,az,key n (by omega),ih (by omega)]
abbrev nY:Io:=⟨[.ptr 0 0,To],[Py],[],[dI],none⟩
def F2 (d:nY.In):Tr nY.Res:=
 .ite (cT d.2.1.1 d.2.1.2.1) (.ret (.ret (((ct d.2.1.1 d.2.1.2.1 d.1.2.1 2).1,()),(((ct d.2.1.1 d.2.1.2.1 d.1.2.1 2).2,(d.2.1.2.1,())),())))) .no
abbrev K6:List (Nat×Hc):=[(129,ah dz jY)]
def RB:Hd:=bI K6
def Ml:Lp:=bQ []
def Bu (a0:Int)(a1:LI)(a2:Int):Option nY.Res:=bif cT a1 a2&&(decide (0≤2)&&decide (2≤8)) then oR (((ct a1 a2 (u64.wrap a0) (Int.toNat 2)).1,()),((ct a1 a2 (u64.wrap a0) (Int.toNat 2)).2,a2,()),()) else none
theorem Qt (a0:Int)(a1:LI)(a2:Int):Io.run tt RB dr Ml nY Tryz.f93 (((),a0,()),(a1,a2,()),())=Bu a0 a1 a2:=by kernel_rfl
theorem R8:HcOk prog 93 (ah nY F2):=by
 refine bY (cs:=K6) (.cons mX .nil) (lp:=Ml) (fn:=Tryz.f93) nY (.done (by kernel_rfl)) F2 ?_
 rintro ⟨⟨⟨⟩,(v:Int),⟨⟩⟩,⟨⟨(b:LI),(m:Int),⟨⟩⟩,⟨⟩⟩⟩ out hw ho
 obtain ⟨hg,ho⟩:=Tr.guard ho
 have hg:cT b m=true:=hg
 cases ho
 refine (Qt v b m).trans ?_
 unfold Bu
 have e:ct b m (u64.wrap v) 2=ct b m v 2:=by unfold ct;rw[pX v (by decide)]
 simp[hg,e]
abbrev nZ:Io:=⟨[.ptr 0 0,yY],[Py],[],[dI],none⟩
def F3 (d:nZ.In):Tr nZ.Res:=
 .ite (cT d.2.1.1 d.2.1.2.1) (.ret (.ret (((ct d.2.1.1 d.2.1.2.1 d.1.2.1 4).1,()),(((ct d.2.1.1 d.2.1.2.1 d.1.2.1 4).2,(d.2.1.2.1,())),())))) .no
abbrev K7:List (Nat×Hc):=[(129,ah dz jY)]
def RC:Hd:=bI K7
def Mm:Lp:=bQ []
def Bv (a0:Int)(a1:LI)(a2:Int):Option nZ.Res:=bif cT a1 a2&&(decide (0≤4)&&decide (4≤8)) then oR (((ct a1 a2 (u64.wrap a0) (Int.toNat 4)).1,()),((ct a1 a2 (u64.wrap a0) (Int.toNat 4)).2,a2,()),()) else none
theorem Qu (a0:Int)(a1:LI)(a2:Int):Io.run tt RC dr Mm nZ Tryz.f91 (((),a0,()),(a1,a2,()),())=Bv a0 a1 a2:=by kernel_rfl
theorem R9:HcOk prog 91 (ah nZ F3):=by
 refine bY (cs:=K7) (.cons mX .nil) (lp:=Mm) (fn:=Tryz.f91) nZ (.done (by kernel_rfl)) F3 ?_
 rintro ⟨⟨⟨⟩,(v:Int),⟨⟩⟩,⟨⟨(b:LI),(m:Int),⟨⟩⟩,⟨⟩⟩⟩ out hw ho
 obtain ⟨hg,ho⟩:=Tr.guard ho
 have hg:cT b m=true:=hg
 cases ho
 refine (Qu v b m).trans ?_
 unfold Bv
 have e:ct b m (u64.wrap v) 4=ct b m v 4:=by unfold ct;rw[pX v (by decide)]
 simp[hg,e]
abbrev n6:Io:=⟨[.ptr 0 0,.dat (.int .i64) false false],[Py],[],[dI],none⟩
def F4 (d:n6.In):Tr n6.Res:=
 .ite (cT d.2.1.1 d.2.1.2.1) (.ret (.ret (((ct d.2.1.1 d.2.1.2.1 d.1.2.1 8).1,()),(((ct d.2.1.1 d.2.1.2.1 d.1.2.1 8).2,(d.2.1.2.1,())),())))) .no
abbrev K8:List (Nat×Hc):=[(129,ah dz jY)]
def RD:Hd:=bI K8
def Mn:Lp:=bQ []
def Bw (a0:Int)(a1:LI)(a2:Int):Option n6.Res:=bif cT a1 a2&&(decide (0≤8)&&decide (8≤8)) then oR (((ct a1 a2 (u64.wrap a0) (Int.toNat 8)).1,()),((ct a1 a2 (u64.wrap a0) (Int.toNat 8)).2,a2,()),()) else none
theorem Qv (a0:Int)(a1:LI)(a2:Int):Io.run tt RD dr Mn n6 Tryz.f90 (((),a0,()),(a1,a2,()),())=Bw a0 a1 a2:=by kernel_rfl
theorem Sa:HcOk prog 90 (ah n6 F4):=by
 refine bY (cs:=K8) (.cons mX .nil) (lp:=Mn) (fn:=Tryz.f90) n6 (.done (by kernel_rfl)) F4 ?_
 rintro ⟨⟨⟨⟩,(v:Int),⟨⟩⟩,⟨⟨(b:LI),(m:Int),⟨⟩⟩,⟨⟩⟩⟩ out hw ho
 obtain ⟨hg,ho⟩:=Tr.guard ho
 have hg:cT b m=true:=hg
 cases ho
 refine (Qv v b m).trans ?_
 unfold Bw
 have e:ct b m (u64.wrap v) 8=ct b m v 8:=by unfold ct;rw[pX v (by decide)]
 simp[hg,e]
abbrev n7:Io:=⟨[dI],[],[Py],[.ptr 0 0],none⟩
def QS (d:n7.In):Tr n7.Res:=.ret (.ret (((),()),((([]:LI),(np (dK d.1.1 0) 1048576,())),())))
abbrev K9:List (Nat×Hc):=[]
def RE:Hd:=bI K9
def Mo:Lp:=bQ []
def KG (a0:Int):Option n7.Res:=oR (((),()),([],np (dK a0 0) 1048576,()),())
theorem Qw (a0:Int):Io.run tt RE dr Mo n7 Tryz.f89 ((a0,()),())=KG a0:=by kernel_rfl
theorem Sb:HcOk prog 89 (ah n7 QS):=by
 refine bY (cs:=K9) HcsOk.nil (lp:=Mo) (fn:=Tryz.f89) n7 (.done (by kernel_rfl)) QS ?_
 rintro ⟨⟨(m:Int),⟨⟩⟩,⟨⟩⟩ out hw ho
 rw[← ho]
 exact Qw m
abbrev gv:Io:=⟨[.ptr 0 0],[Py],[],[dO],none⟩
def sI (d:gv.In):Tr gv.Res:=.ite (decide (d.2.1.1.length≤4294967296)) (.ret (.ret ((d.2.1.1,()),((d.2.1.1,(d.2.1.2.1,())),())))) .no
abbrev BU:List (Nat×Hc):=[(47,ah dR mE)]
def LW:Hd:=bI BU
def C1:Lp:=bQ []
def Em (a0:LI)(a1:Int):Option gv.Res:=bif decide (a0.length≤4294967296) then oR ((a0,()),(a0,a1,()),()) else none
theorem JC (a0:LI)(a1:Int):Io.run tt LW dr C1 gv Tryz.f97 (((),()),(a0,a1,()),())=Em a0 a1:=by kernel_rfl
theorem Db:HcOk prog 97 (ah gv sI):=by
 refine bY (cs:=BU) (.cons pS .nil) (lp:=C1) (fn:=Tryz.f97) gv (.done (by kernel_rfl)) sI ?_
 rintro ⟨⟨⟨⟩,⟨⟩⟩,⟨⟨(b:LI),(m:Int),⟨⟩⟩,⟨⟩⟩⟩ out hw ho
 obtain ⟨hg,ho⟩:=Tr.guard ho
 cases ho
 exact (JC b m).trans (aa hg _ _)
def ao:List (LI)→Nat
 |[]=>0
 |p::ps=>p.length+ao ps
def aU:List (LI)→LI
 |[]=>[]
 |p::ps=>p++aU ps
def vA (b:LI)(most:Int)(ps:List (LI)):Int×LI:=if most - b.length<ao ps then (10,b) else (0,b++aU ps)
abbrev n8:Io:=⟨[.ptr 0 0,.dat (.sl 22 bs) false false],[Py],[],[dI],none⟩
def F5 (d:n8.In):Tr n8.Res:=
 .ite (cT d.2.1.1 d.2.1.2.1&&decide (ao d.1.2.1≤4294960000)) (.ret (.ret (((vA d.2.1.1 d.2.1.2.1 d.1.2.1).1,()),(((vA d.2.1.1 d.2.1.2.1 d.1.2.1).2,(d.2.1.2.1,())),())))) .no
abbrev La:List (Nat×Hc):=[(130,ah jl yF)]
def ED:Hd:=bI La
abbrev fK:Lo:=⟨⟨(.one (.ptr 0 0)::.one (.hol (.sl 22 (Ty.sl 5 (Ty.int u8))))::.any::bk (.one hI::bx (.one (.hol (.sl 22 (Ty.sl 5 (Ty.int u8))))::.one hI::.one hI::ai (co (bx []))))),[some [.onl 5 (Ty.int u8) 2,hI]]⟩,[(.exit 0,⟨(.one (.ptr 0 0)::.one (.hol (.sl 22 (Ty.sl 5 (Ty.int u8))))::.any::bk (.one hI::.any::ai (ai (bk [])))),[some [.onl 5 (Ty.int u8) 2,hI]]⟩)]⟩
abbrev eC:Lo:=⟨⟨(.one (.ptr 0 0)::ai (co (.one (.hol (.sl 22 (Ty.sl 5 (Ty.int u8))))::.one hI::.one hI::.any::co (bx [])))),[some [.onl 5 (Ty.int u8) 2,hI]]⟩,[(.exit 2,⟨(.any::ai (ai (co []))),[some [.onl 5 (Ty.int u8) 2,hI]]⟩)]⟩
def o6 (d:fK.st.den):Tr (ap fK.xs):=
 .ite (decide (d.1.2.1=0)&&(decide (d.1.2.2.2.2.1=0)&&(decide (d.1.2.2.2.1=(d.1.2.2.1.length:Int))&&decide (ao d.1.2.2.1≤4294960000)))) (.ret (.ret ((),((d.1.1,((ao d.1.2.2.1:Int),())),(d.2.1,()))))) .no
def lJ (d:eC.st.den):Tr (ap eC.xs):=
 .ite (decide (d.1.2.2.1=0)&&(decide (d.1.2.1=(d.1.1.length:Int))&&decide (d.2.1.1.length+ao d.1.1≤4294967296))) (.ret (.ret ((),((),((d.2.1.1++aU d.1.1,(d.2.1.2.1,())),()))))) .no
def qT:Lp:=bQ [(4,aG fK o6),(11,aG eC lJ)]
def vQ {R:Type}(h3:List bs.den)(h4:Int)(h5:List bs.den)(h6 h7:Int)(h8:LI)(h9:Int)(next:List bs.den→Int→List bs.den→Int→Int→LI→Int→Option R)(out:ap fK.xs→Option R):Option R:=bif decide (h7<h6) then bif decide (0≤h7)&&decide (h7<(↑h5.length:Int)) then next (h3) (i64.wrap (h4+(↑(List.length (h5.getD h7.toNat [])):Int))) (h5) (h6) (i64.wrap (h7+1)) (h8) (h9) else none else out (.ret ((),((h3,(h4,())),((h8,(h9,())),()))))
def uO (n:Nat)(h3:List bs.den)(h4:Int)(h5:List bs.den)(h6 h7:Int)(h8:LI)(h9:Int):Option (ap fK.xs):=fR tt ED dr qT 1 Tryz.f94 (bX Tryz.f94 0) n (fK.st.mk' ((h3,(h4,(h5,(h6,(h7,()))))),((h8,(h9,())),()))) (bC fK.xs)
theorem NY (n:Nat)(h3:List bs.den)(h4:Int)(h5:List bs.den)(h6 h7:Int)(h8:LI)(h9:Int):uO (n+1) h3 h4 h5 h6 h7 h8 h9=vQ h3 h4 h5 h6 h7 h8 h9 (uO n) some:=by kernel_rfl
def sg {R:Type}(h25:List (Ty.sl 5 (Ty.int u8)).den)(h26 h27:Int)(h28:LI)(h29:Int)(next:List (Ty.sl 5 (Ty.int u8)).den→Int→Int→LI→Int→Option R)(out:ap eC.xs→Option R):Option R:=bif decide (h27<h26) then bif decide (0≤h27)&&decide (h27<(↑h25.length:Int)) then bif decide (h28.length+List.length (h25.getD h27.toNat [])≤4294967296) then next (h25) (h26) (i64.wrap (h27+1)) (h28++h25.getD h27.toNat []) (h29) else none else none else out (.ret ((),((),((h28,(h29,())),()))))
def qR (n:Nat)(h25:List (Ty.sl 5 (Ty.int u8)).den)(h26 h27:Int)(h28:LI)(h29:Int):Option (ap eC.xs):=fR tt ED dr qT 1 Tryz.f94 (bX Tryz.f94 1) n (eC.st.mk' ((h25,(h26,(h27,()))),((h28,(h29,())),()))) (bC eC.xs)
theorem JR (n:Nat)(h25:List (Ty.sl 5 (Ty.int u8)).den)(h26 h27:Int)(h28:LI)(h29:Int):qR (n+1) h25 h26 h27 h28 h29=sg h25 h26 h27 h28 h29 (qR n) some:=by kernel_rfl
theorem jF {ps:List (LI)}{i:Nat}(h:i<ps.length):ao (ps.drop i)=ps[i].length+ao (ps.drop (i+1)):=by rw[zE h];rfl
theorem rS {ps:List (LI)}{i:Nat}(h:i<ps.length):aU (ps.drop i)=ps[i]++aU (ps.drop (i+1)):=by rw[zE h];rfl
theorem EU (ps0 ps:List (LI))(b:LI)(m:Int)(hl:ps.length≤maxLen):∀(k i s:Nat),ps.length<i+k→i≤ps.length→s+ao (ps.drop i)≤4294960000→
  uO k ps0 s ps (ps.length:Int) i b m=some (.ret ((),((ps0,(((s+ao (ps.drop i):Nat):Int),())),((b,(m,())),())))):=by
 intro k
 induction k with
 |zero=>intro i s h;omega
 |succ k ih=>
  intro i s h1 h2 h3
  rw[NY]
  unfold vQ
  by_cases hi:i<ps.length
  ·rw[jF hi] at h3 ⊢
   have e:List.getD ps (i:Int).toNat []=ps[i]:=by simp only[zG,aK hi]
   rw[aa (by simpa using hi),aa (by simpa using hi),e,aM hi hl,af (n:=(s:Int)+(List.length (α:=Int) ps[i]:Int)) (by omega) (by omega)]
   have e2:(s:Int)+(List.length (α:=Int) ps[i]:Int)=((s+ps[i].length:Nat):Int):=by omega
   rw[e2,ih (i+1) (s+ps[i].length) (by omega) (by omega) (by omega),Nat.add_assoc]
  ·rw[ae (by simp;omega),zI (by omega)]
   rfl
theorem CN (ps:List (LI))(m:Int)(hl:ps.length≤maxLen):∀(k i:Nat) (b:LI),ps.length<i+k→i≤ps.length→b.length+ao (ps.drop i)≤4294967296→
  qR k ps (ps.length:Int) i b m=some (.ret ((),((),((b++aU (ps.drop i),(m,())),())))):=by
 intro k
 induction k with
 |zero=>intro i b h;omega
 |succ k ih=>
  intro i b h1 h2 h3
  rw[JR]
  unfold sg
  by_cases hi:i<ps.length
  ·rw[jF hi] at h3
   rw[rS hi]
   have e:List.getD ps (i:Int).toNat []=ps[i]:=by simp only[zG,aK hi]
   rw[aa (by simpa using hi),aa (by simpa using hi),e,aM hi hl,aa (by simp;omega),ih (i+1) _ (by omega) (by omega) (by simp;omega),zK]
  ·rw[ae (by simp;omega),zI (by omega)]
   simp[aU]
def Bx (a0:List bs.den)(a1:LI)(a2:Int):Option n8.Res:=(o6 ((a0,(0,(a0,((↑a0.length:Int),(0,()))))),((a1,(a2,())),()))).run fun y=>match y with | .ret ((),((x21,x22,()),(x23,x24,()),()))=>(bif decide (i64.wrap (x24 - (↑x23.length:Int))<x22) then oR ((10,()),(x23,x24,()),()) else (lJ ((x21,((↑x21.length:Int),(0,()))),((x23,(x24,())),()))).run fun y=>match y with | .ret ((),((),(x37,x38,()),()))=>(oR ((0,()),(x37,x38,()),())))
theorem Qx (a0:List bs.den)(a1:LI)(a2:Int):Io.run tt ED dr qT n8 Tryz.f94 (((),a0,()),(a1,a2,()),())=Bx a0 a1 a2:=by kernel_rfl
theorem uy:HcsOk prog La:=.cons H7 .nil
theorem Sc:HcOk prog 94 (ah n8 F5):=by
 refine bY uy (lp:=qT) (fn:=Tryz.f94) n8 (.step (h0:=aG fK o6) (by kernel_rfl) (f9 uy (lp:=qT) (fn:=Tryz.f94) (.done (by kernel_rfl)) fK o6 ?_) (.step (h0:=aG eC lJ) (by kernel_rfl) (f9 uy (lp:=qT) (fn:=Tryz.f94) (.done (by kernel_rfl)) eC lJ ?_) (.done (by kernel_rfl)))) F5 ?_
 ·rintro ⟨⟨ps0,s,ps,n,i,⟨⟩⟩,⟨⟨b,m,⟨⟩⟩,⟨⟩⟩⟩ y hw hy
  obtain ⟨hg,hy⟩:=Tr.guard hy
  simp only[zA,zB] at hg
  obtain ⟨rfl,rfl,rfl,h4⟩:=hg
  refine ⟨ps.length+1,(EU ps0 ps b m hw.1.2.2.1.1 _ 0 0 (by omega) (by omega) (by simpa using h4)).trans ?_⟩
  rw[← hy,Nat.zero_add];rfl
 ·rintro ⟨⟨ps,n,i,⟨⟩⟩,⟨⟨b,m,⟨⟩⟩,⟨⟩⟩⟩ y hw hy
  obtain ⟨hg,hy⟩:=Tr.guard hy
  simp only[zA,zB] at hg
  obtain ⟨rfl,rfl,h4⟩:=hg
  refine ⟨ps.length+1,(CN ps m hw.1.1.1 _ 0 b (by omega) (by omega) (by simpa using h4)).trans ?_⟩
  rw[← hy];rfl
 ·rintro ⟨⟨⟨⟩,(ps:List (LI)),⟨⟩⟩,⟨⟨(b:LI),(m:Int),⟨⟩⟩,⟨⟩⟩⟩ out hw ho
  obtain ⟨hg,ho⟩:=Tr.guard ho
  simp only[cT,zA,zB] at hg
  obtain ⟨⟨h1,h2,h3⟩,h4⟩:=hg
  have h4:ao ps≤4294960000:=h4
  cases ho
  refine (Qx ps b m).trans ?_
  unfold Bx
  have c1:(decide ((0:Int)=0)&&(decide ((0:Int)=0)&&(decide ((ps.length:Int)=(ps.length:Int))&&decide (ao ps≤4294960000))))=true:=by simp;omega
  have e1:o6 ((ps,(0,(ps,((ps.length:Int),(0,()))))),((b,(m,())),()))=.ite true (.ret (.ret ((),((ps,((ao ps:Int),())),((b,(m,())),()))))) .no:=congrArg (fun c=>Tr.ite c _ _) c1
  rw[e1]
  simp only[Tr.run,cond_true]
  rw[af (n:=m - (b.length:Int)) (by omega) (by omega)]
  unfold vA
  by_cases hl:m - (b.length:Int)<(ao ps:Int)
  ·rw[aa (by simpa using hl),if_pos hl]
  ·rw[ae (by simpa using hl),if_neg hl]
   have c2:(decide ((0:Int)=0)&&(decide ((ps.length:Int)=(ps.length:Int))&&decide (b.length+ao ps≤4294967296)))=true:=by simp;omega
   have e2:lJ ((ps,((ps.length:Int),(0,()))),((b,(m,())),()))=.ite true (.ret (.ret ((),((),((b++aU ps,(m,())),()))))) .no:=congrArg (fun c=>Tr.ite c _ _) c2
   rw[e2]
   rfl
abbrev Q1:List Sh:=[dL,dI]
abbrev gl:Sh:=.dat (.int .i64) false false
def aZ (l:LI):Int:=l.foldl (fun v c=>v*256+c) 0
def bV (b:LI)(p:Int)(n:Nat):Int×(Int×Int):=if (b.length:Int) - p<n then (0,(p,1)) else (aZ ((b.drop p.toNat).take n),(p+n,0))
def cL (b:LI)(p:Int):Bool:=decide (b.length≤4294960000)&&(decide (0≤p)&&decide (p≤(b.length:Int)))
def oL (b:LI)(p n:Int):Int×Int:=if n<0 then (p,3) else if (b.length:Int) - p<n then (p,1) else (p+n,0)
abbrev gp:Io:=⟨[.ptr 0 0],[Q1],[],[dI],none⟩
def sC (d:gp.In):Tr gp.Res:=.ret (.ret ((i64.wrap ((d.2.1.1.length:Int) - d.2.1.2.1),()),((d.2.1.1,(d.2.1.2.1,())),())))
abbrev BM:List (Nat×Hc):=[]
def LQ:Hd:=bI BM
def CZ:Lp:=bQ []
def El (a0:LI)(a1:Int):Option gp.Res:=oR ((i64.wrap ((↑a0.length:Int) - a1),()),(a0,a1,()),())
theorem Jq (a0:LI)(a1:Int):Io.run tt LQ dr CZ gp Tryz.f134 (((),()),(a0,a1,()),())=El a0 a1:=by kernel_rfl
theorem C6:HcOk prog 134 (ah gp sC):=by
 refine bY (cs:=BM) HcsOk.nil (lp:=CZ) (fn:=Tryz.f134) gp (.done (by kernel_rfl)) sC ?_
 rintro ⟨⟨⟨⟩,⟨⟩⟩,⟨⟨(b:LI),(p:Int),⟨⟩⟩,⟨⟩⟩⟩ out hw ho
 rw[← ho]
 exact Jq b p
abbrev cI:Io:=⟨[.ptr 0 0,dI],[Q1],[],[SU,dI],none⟩
def gS (d:cI.In):Tr cI.Res:=
 .ite (cL d.2.1.1 d.2.1.2.1&&(decide ((0:Int)≤d.1.2.1)&&decide (d.1.2.1≤(8:Int)))) (.ret (.ret (((bV d.2.1.1 d.2.1.2.1 d.1.2.1.toNat).1,((bV d.2.1.1 d.2.1.2.1 d.1.2.1.toNat).2.2,())),((d.2.1.1,((bV d.2.1.1 d.2.1.2.1 d.1.2.1.toNat).2.1,())),())))) .no
abbrev ue:List (Nat×Hc):=[(134,ah gp sC)]
def uz:Hd:=bI ue
abbrev cj:Lo:=⟨⟨(.one (.ptr 0 0)::.one hI::bx (.one (.hol (.int u64))::ai (bx (.one (.hol (.sl 5 (Ty.int u8)))::.one hI::.one hI::ai (bk []))))),[some [.hol (.sl 5 (Ty.int u8)),hI]]⟩,[(.exit 0,⟨(.one (.ptr 0 0)::.one hI::bx (.one (.hol (.int u64))::.any::ai (ai (co [])))),[some [.hol (.sl 5 (Ty.int u8)),hI]]⟩)]⟩
def gi (d:cj.st.den):Tr (ap cj.xs):=
 .ite (decide (d.1.2.1=0)&&(decide (d.1.2.2.2.2.1=0)&&(decide (d.1.2.2.2.1=(d.1.2.2.1.length:Int))&&decide (d.1.2.2.1.length≤8)))) (.ret (.ret ((),((d.1.1,(aZ d.1.2.2.1,())),(d.2.1,()))))) .no
def kU:Lp:=bQ [(6,aG cj gi)]
def my {R:Type}(h3 h4:Int)(h5:LI)(h6 h7:Int)(h8:LI)(h9:Int)(next:Int→Int→LI→Int→Int→LI→Int→Option R)(out:ap cj.xs→Option R):Option R:=bif decide (h7<h6) then bif decide (0≤h7)&&decide (h7<(↑h5.length:Int)) then next (h3) (ke u64 (ft u64 h4 8) (u64.wrap (h5.getD h7.toNat 0))) (h5) (h6) (i64.wrap (h7+1)) (h8) (h9) else none else out (.ret ((),((h3,(h4,())),((h8,(h9,())),()))))
def kR (n:Nat)(h3 h4:Int)(h5:LI)(h6 h7:Int)(h8:LI)(h9:Int):Option (ap cj.xs):=fR tt uz dr kU 1 Tryz.f132 (bX Tryz.f132 0) n (cj.st.mk' ((h3,(h4,(h5,(h6,(h7,()))))),((h8,(h9,())),()))) (bC cj.xs)
theorem AE (n:Nat)(h3 h4:Int)(h5:LI)(h6 h7:Int)(h8:LI)(h9:Int):kR (n+1) h3 h4 h5 h6 h7 h8 h9=my h3 h4 h5 h6 h7 h8 h9 (kR n) some:=by kernel_rfl
theorem P1 {v c:Int}(h0:0≤v)(h1:v<72057594037927936)(h2:0≤c)(h3:c≤255):ke .u64 (ft .u64 v 8) (u64.wrap c)=v*256+c:=by
 have e1:ft .u64 v 8=v*256:=by
  show IntKind.wrap .u64 (v*2 ^ 8)=_
  rw[show v*2 ^ 8=v*256 by omega]
  exact bW (k:=.u64) (by simp[bt,IntKind.min,IntKind.max,IntKind.signed,IntKind.bits];omega)
 have e0:u64.wrap c=c:=bW (k:=.u64) (by simp[bt,IntKind.min,IntKind.max,IntKind.signed,IntKind.bits];omega)
 rw[e1,e0]
 obtain ⟨v,rfl⟩:=aB h0
 obtain ⟨c,rfl⟩:=aB h2
 have e4:=Nat.two_pow_add_eq_or_of_lt (show c<2 ^ 8 by omega) v
 show IntKind.wrap .u64 ((BitVec.ofInt 64 ((v:Int)*256) ||| BitVec.ofInt 64 (c:Int)).toNat:Int)=_
 have e2:(BitVec.ofInt 64 (c:Int)).toNat=c:=by rw[BitVec.toNat_ofInt];omega
 have e3:(BitVec.ofInt 64 ((v:Int)*256)).toNat=2 ^ 8*v:=by rw[BitVec.toNat_ofInt];omega
 rw[BitVec.toNat_or,e2,e3,← e4]
 refine (bW (k:=.u64) ?_).trans ?_
 ·simp[bt,IntKind.min,IntKind.max,IntKind.signed,IntKind.bits];omega
 ·omega
theorem AG (l:LI)(c:Int):aZ (l++[c])=aZ l*256+c:=by simp[aZ]
theorem un:∀(l:LI) (v:Int),(∀c∈l,0≤c∧c≤255)→0≤v→0≤l.foldl (fun v c=>v*256+c) v∧l.foldl (fun v c=>v*256+c) v<(v+1)*256 ^ l.length
 |[],v,_,h0=>⟨h0,by simp;omega⟩
 |c::l,v,h,h0=>by
  obtain ⟨h3,h4⟩:=h c (by simp)
  obtain ⟨h1,h2⟩:=un l (v*256+c) (fun d hd=>h d (by simp[hd])) (by omega)
  refine ⟨h1,Int.lt_of_lt_of_le h2 ?_⟩
  rw[zN,Int.pow_succ,Int.mul_comm (256 ^ l.length) 256,← Int.mul_assoc]
  exact Int.mul_le_mul_of_nonneg_right (by omega) (Int.le_of_lt (Int.pow_pos (by decide)))
theorem rQ (l:LI)(h:∀c∈l,0≤c∧c≤255):0≤aZ l∧aZ l<256 ^ l.length:=by
 have:=un l 0 h (Int.le_refl _)
 simpa [aZ] using this
theorem zq (n:Int)(l b:LI)(p:Int)(hl:l.length≤8)(hr:∀c∈l,0≤c∧c≤255):∀(k i:Nat),l.length<i+k→i≤l.length→
  kR k n (aZ (l.take i)) l (l.length:Int) i b p=some (.ret ((),((n,(aZ l,())),((b,(p,())),())))):=by
 intro k
 induction k with
 |zero=>intro i h;omega
 |succ k ih=>
  intro i h1 h2
  rw[AE]
  unfold my
  by_cases hi:i<l.length
  ·have hc:=hr l[i] (List.getElem_mem hi)
   have hb:=rQ (l.take i) fun c hc=>hr c (List.mem_of_mem_take hc)
   have hlt:(256:Int) ^ (l.take i).length≤72057594037927936:=by
    rw[List.length_take,show min i l.length=i by omega]
    have hi7:i≤7:=by omega
    match i,hi7 with
    |0,_=>decide
    |1,_=>decide
    |2,_=>decide
    |3,_=>decide
    |4,_=>decide
    |5,_=>decide
    |6,_=>decide
    |7,_=>decide
   have e1:List.getD l (i:Int).toNat 0=l[i]:=by simp only[zG,aK hi]
   rw[aa (by simpa using hi),aa (by simpa using hi),e1,P1 hb.1 (by omega) hc.1 hc.2,← AG,← List.take_succ_eq_append_getElem hi,aM hi (by rw[aP];omega),ih (i+1) (by omega) (by omega)]
  ·rw[ae (by simp;omega),List.take_of_length_le (by omega)]
def pg (a0:Int)(a1:LI)(a2:Int):Option cI.Res:=bif decide (i64.wrap ((↑a1.length:Int) - a2)<a0) then oR ((0,1,()),(a1,a2,()),()) else bif decide (0≤a2)&&(decide (a2≤i64.wrap (a2+a0))&&decide (i64.wrap (a2+a0)≤(↑a1.length:Int))) then (gi ((a0,(0,(List.drop a2.toNat (List.take (i64.wrap (a2+a0)).toNat a1),((↑(List.drop a2.toNat (List.take (i64.wrap (a2+a0)).toNat a1)).length:Int),(0,()))))),((a1,(a2,())),()))).run fun y=>match y with | .ret ((),((x21,x22,()),(x23,x24,()),()))=>(oR ((x22,0,()),(x23,i64.wrap (x24+x21),()),())) else none
theorem Dj (a0:Int)(a1:LI)(a2:Int):Io.run tt uz dr kU cI Tryz.f132 (((),a0,()),(a1,a2,()),())=pg a0 a1 a2:=by kernel_rfl
theorem dN {b:LI}(h:Ty.wf bs b):∀c∈b,0≤c∧c≤255:=fun c hc=>by
 have:=h.2 c hc
 simpa [Ty.wf,bt,IntKind.min,IntKind.max,IntKind.signed,IntKind.bits] using this
theorem px:HcsOk prog ue:=.cons C6 .nil
theorem kY:HcOk prog 132 (ah cI gS):=by
 refine bY px (lp:=kU) (fn:=Tryz.f132) cI (.step (h0:=aG cj gi) (by kernel_rfl) (f9 px (lp:=kU) (fn:=Tryz.f132) (.done (by kernel_rfl)) cj gi ?_) (.done (by kernel_rfl))) gS ?_
 ·rintro ⟨⟨(n:Int),(v:Int),(l:LI),(m:Int),(i:Int),⟨⟩⟩,⟨⟨(b:LI),(p:Int),⟨⟩⟩,⟨⟩⟩⟩ y hw hy
  obtain ⟨hg,hy⟩:=Tr.guard hy
  simp only[zA,zB] at hg
  obtain ⟨rfl,rfl,rfl,h4⟩:=hg
  refine ⟨l.length+1,(zq n l b p h4 (dN hw.1.2.2.1) _ 0 (by omega) (by omega)).trans ?_⟩
  rw[← hy];rfl
 ·rintro ⟨⟨⟨⟩,(n:Int),⟨⟩⟩,⟨⟨(b:LI),(p:Int),⟨⟩⟩,⟨⟩⟩⟩ out hw ho
  obtain ⟨hg,ho⟩:=Tr.guard ho
  simp only[cL,zA,zB] at hg
  obtain ⟨⟨h1,h2,h3⟩,h4,h5⟩:=hg
  have h1:b.length≤4294960000:=h1
  have h2:(0:Int)≤p:=h2
  have h3:p≤(b.length:Int):=h3
  have h4:(0:Int)≤n:=h4
  have h5:n≤(8:Int):=h5
  cases ho
  refine (Dj n b p).trans ?_
  show _=oR (((bV b p n.toNat).1,((bV b p n.toNat).2.2,())),((b,((bV b p n.toNat).2.1,())),()))
  unfold pg
  rw[af (n:=(b.length:Int) - p) (by omega) (by omega),af (n:=p+n) (by omega) (by omega)]
  unfold bV
  by_cases hl:(b.length:Int) - p<n
  ·rw[aa (by simpa using hl),if_pos (by omega)]
  ·have e0:List.drop p.toNat (List.take (p+n).toNat b)=(b.drop p.toNat).take n.toNat:=by rw[List.drop_take,show (p+n).toNat - p.toNat=n.toNat by omega]
   rw[ae (by simpa using hl),if_neg (by omega),aa (by simp;omega),e0]
   have hl8:((b.drop p.toNat).take n.toNat).length≤8:=by simp;omega
   have e1:gi ((n,(0,((b.drop p.toNat).take n.toNat,((((b.drop p.toNat).take n.toNat).length:Int),(0,()))))),((b,(p,())),()))=.ite true (.ret (.ret ((),((n,(aZ ((b.drop p.toNat).take n.toNat),())),((b,(p,())),()))))) .no:=
    congrArg (fun c=>Tr.ite c _ _) (show (decide ((0:Int)=0)&&(decide ((0:Int)=0)&&(decide ((((b.drop p.toNat).take n.toNat).length:Int)=(((b.drop p.toNat).take n.toNat).length:Int))&&decide (((b.drop p.toNat).take n.toNat).length≤8))))=true by simp;omega)
   rw[e1]
   simp only[Tr.run,cond_true]
   rw[af (n:=p+n) (by omega) (by omega),show ((n.toNat:Nat):Int)=n by omega]
abbrev kD:Io:=⟨[.ptr 0 0],[Q1],[],[To,dI],none⟩
def yt (d:kD.In):Tr kD.Res:=
 .ite (cL d.2.1.1 d.2.1.2.1) (.ret (.ret ((i16.wrap (bV d.2.1.1 d.2.1.2.1 2).1,((bV d.2.1.1 d.2.1.2.1 2).2.2,())),((d.2.1.1,((bV d.2.1.1 d.2.1.2.1 2).2.1,())),())))) .no
abbrev Gw:List (Nat×Hc):=[(132,ah cI gS)]
def Pb:Hd:=bI Gw
def Hz:Lp:=bQ []
def wL (a0:LI)(a1:Int):Option kD.Res:=bif cL a0 a1&&(decide (0≤2)&&decide (2≤8)) then oR ((i16.wrap (bV a0 a1 (Int.toNat 2)).1,(bV a0 a1 (Int.toNat 2)).2.2,()),(a0,(bV a0 a1 (Int.toNat 2)).2.1,()),()) else none
theorem Nr (a0:LI)(a1:Int):Io.run tt Pb dr Hz kD Tryz.f107 (((),()),(a0,a1,()),())=wL a0 a1:=by kernel_rfl
theorem PM:HcOk prog 107 (ah kD yt):=by
 refine bY (cs:=Gw) (.cons kY .nil) (lp:=Hz) (fn:=Tryz.f107) kD (.done (by kernel_rfl)) yt ?_
 rintro ⟨⟨⟨⟩,⟨⟩⟩,⟨⟨(b:LI),(p:Int),⟨⟩⟩,⟨⟩⟩⟩ out hw ho
 obtain ⟨hg,ho⟩:=Tr.guard ho
 have hg:cL b p=true:=hg
 cases ho
 refine (Nr b p).trans ?_
 unfold wL
 rw[aa (by simp[hg])]
 rfl
abbrev jg:Io:=⟨[.ptr 0 0],[Q1],[],[yY,dI],none⟩
def tr (d:jg.In):Tr jg.Res:=
 .ite (cL d.2.1.1 d.2.1.2.1) (.ret (.ret ((i32.wrap (bV d.2.1.1 d.2.1.2.1 4).1,((bV d.2.1.1 d.2.1.2.1 4).2.2,())),((d.2.1.1,((bV d.2.1.1 d.2.1.2.1 4).2.1,())),())))) .no
abbrev Gx:List (Nat×Hc):=[(132,ah cI gS)]
def Pc:Hd:=bI Gx
def HA:Lp:=bQ []
def wM (a0:LI)(a1:Int):Option jg.Res:=bif cL a0 a1&&(decide (0≤4)&&decide (4≤8)) then oR ((i32.wrap (bV a0 a1 (Int.toNat 4)).1,(bV a0 a1 (Int.toNat 4)).2.2,()),(a0,(bV a0 a1 (Int.toNat 4)).2.1,()),()) else none
theorem Ns (a0:LI)(a1:Int):Io.run tt Pc dr HA jg Tryz.f99 (((),()),(a0,a1,()),())=wM a0 a1:=by kernel_rfl
theorem H2:HcOk prog 99 (ah jg tr):=by
 refine bY (cs:=Gx) (.cons kY .nil) (lp:=HA) (fn:=Tryz.f99) jg (.done (by kernel_rfl)) tr ?_
 rintro ⟨⟨⟨⟩,⟨⟩⟩,⟨⟨(b:LI),(p:Int),⟨⟩⟩,⟨⟩⟩⟩ out hw ho
 obtain ⟨hg,ho⟩:=Tr.guard ho
 have hg:cL b p=true:=hg
 cases ho
 refine (Ns b p).trans ?_
 unfold wM
 rw[aa (by simp[hg])]
 rfl
abbrev kE:Io:=⟨[.ptr 0 0],[Q1],[],[gl,dI],none⟩
def yu (d:kE.In):Tr kE.Res:=
 .ite (cL d.2.1.1 d.2.1.2.1) (.ret (.ret ((i64.wrap (bV d.2.1.1 d.2.1.2.1 8).1,((bV d.2.1.1 d.2.1.2.1 8).2.2,())),((d.2.1.1,((bV d.2.1.1 d.2.1.2.1 8).2.1,())),())))) .no
abbrev Gy:List (Nat×Hc):=[(132,ah cI gS)]
def Pd:Hd:=bI Gy
def HB:Lp:=bQ []
def wN (a0:LI)(a1:Int):Option kE.Res:=bif cL a0 a1&&(decide (0≤8)&&decide (8≤8)) then oR ((i64.wrap (bV a0 a1 (Int.toNat 8)).1,(bV a0 a1 (Int.toNat 8)).2.2,()),(a0,(bV a0 a1 (Int.toNat 8)).2.1,()),()) else none
theorem Nt (a0:LI)(a1:Int):Io.run tt Pd dr HB kE Tryz.f104 (((),()),(a0,a1,()),())=wN a0 a1:=by kernel_rfl
theorem PN:HcOk prog 104 (ah kE yu):=by
 refine bY (cs:=Gy) (.cons kY .nil) (lp:=HB) (fn:=Tryz.f104) kE (.done (by kernel_rfl)) yu ?_
 rintro ⟨⟨⟨⟩,⟨⟩⟩,⟨⟨(b:LI),(p:Int),⟨⟩⟩,⟨⟩⟩⟩ out hw ho
 obtain ⟨hg,ho⟩:=Tr.guard ho
 have hg:cL b p=true:=hg
 cases ho
 refine (Nt b p).trans ?_
 unfold wN
 rw[aa (by simp[hg])]
 rfl
abbrev iz:Io:=⟨[.ptr 0 0,dI],[Q1],[],[dI],none⟩
def sD (d:iz.In):Tr iz.Res:=
 .ite (cL d.2.1.1 d.2.1.2.1) (.ret (.ret (((oL d.2.1.1 d.2.1.2.1 d.1.2.1).2,()),((d.2.1.1,((oL d.2.1.1 d.2.1.2.1 d.1.2.1).1,())),())))) .no
abbrev BN:List (Nat×Hc):=[(134,ah gp sC)]
def LR:Hd:=bI BN
def C0:Lp:=bQ []
def tP (a0:Int)(a1:LI)(a2:Int):Option iz.Res:=bif decide (a0<0) then oR ((3,()),(a1,a2,()),()) else bif decide (i64.wrap ((↑a1.length:Int) - a2)<a0) then oR ((1,()),(a1,a2,()),()) else oR ((0,()),(a1,i64.wrap (a2+a0),()),())
theorem Jr (a0:Int)(a1:LI)(a2:Int):Io.run tt LR dr C0 iz Tryz.f105 (((),a0,()),(a1,a2,()),())=tP a0 a1 a2:=by kernel_rfl
theorem MQ:HcOk prog 105 (ah iz sD):=by
 refine bY (cs:=BN) (.cons C6 .nil) (lp:=C0) (fn:=Tryz.f105) iz (.done (by kernel_rfl)) sD ?_
 rintro ⟨⟨⟨⟩,(n:Int),⟨⟩⟩,⟨⟨(b:LI),(p:Int),⟨⟩⟩,⟨⟩⟩⟩ out hw ho
 obtain ⟨hg,ho⟩:=Tr.guard ho
 simp only[cL,zA,zB] at hg
 obtain ⟨h1,h2,h3⟩:=hg
 have h1:b.length≤4294960000:=h1
 have h2:(0:Int)≤p:=h2
 have h3:p≤(b.length:Int):=h3
 cases ho
 refine (Jr n b p).trans ?_
 unfold tP oL
 rw[af (n:=(b.length:Int) - p) (by omega) (by omega)]
 by_cases h4:n<0
 ·rw[aa (by simpa using h4),if_pos h4]
 ·rw[ae (by simpa using h4),if_neg h4]
  by_cases h5:(b.length:Int) - p<n
  ·rw[aa (by simpa using h5),if_pos h5]
  ·rw[ae (by simpa using h5),if_neg h5,af (n:=p+n) (by omega) (by omega)]
abbrev jh:Io:=⟨[dL],[],[Q1],[.ptr 0 0],none⟩
def yv (d:jh.In):Tr jh.Res:=.ite (decide (d.1.1.length≤4294967296)) (.ret (.ret (((),()),((d.1.1,(0,())),())))) .no
abbrev Gz:List (Nat×Hc):=[(47,ah dR mE)]
def Pe:Hd:=bI Gz
def HC:Lp:=bQ []
def Iv (a0:LI):Option jh.Res:=bif decide (a0.length≤4294967296) then oR (((),()),(a0,0,()),()) else none
theorem Nu (a0:LI):Io.run tt Pe dr HC jh Tryz.f98 ((a0,()),())=Iv a0:=by kernel_rfl
theorem H3:HcOk prog 98 (ah jh yv):=by
 refine bY (cs:=Gz) (.cons pS .nil) (lp:=HC) (fn:=Tryz.f98) jh (.done (by kernel_rfl)) yv ?_
 rintro ⟨⟨(b:LI),⟨⟩⟩,⟨⟩⟩ out hw ho
 obtain ⟨hg,ho⟩:=Tr.guard ho
 cases ho
 exact (Nu b).trans (aa hg _ _)
abbrev fk:Io:=⟨[gl,dI],[],[],[dO],none⟩
def oV (d:fk.In):Tr fk.Res:=.ite (decide ((0:Int)≤d.1.2.1)&&decide (d.1.2.1≤(8:Int))) (.ret (.ret ((az d.1.1 d.1.2.1.toNat,()),()))) .no
abbrev mF:List (Nat×Hc):=[]
def qD:Hd:=bI mF
abbrev cz:Lo:=⟨⟨(.one hI::.one hI::.any::bk (.one (.onl 5 (Ty.int u8) 11)::.one hI::.any::ai (ai (bx (bk []))))),[]⟩,[(.exit 0,⟨(.any::.one hI::.any::bk (.one (.onl 5 (Ty.int u8) 11)::ai (ai (co [])))),[]⟩)]⟩
abbrev ci:Lo:=⟨⟨(.any::bx (.one (.onl 5 (Ty.int u8) 11)::bk (.one (.onl 5 (Ty.int u8) 17)::.one hI::ai (ai (bx []))))),[]⟩,[(.exit 2,⟨(co (.one (.onl 5 (Ty.int u8) 17)::.any::ai (ai (bx [])))),[]⟩)]⟩
def fq (v:Int):Nat→LI
 |0=>[]
 |n+1=>v % 256::fq (v / 256) n
def gY (d:cz.st.den):Tr (ap cz.xs):=
 .ite (decide (d.1.2.2.1.length=0)&&(decide (d.1.2.2.2.1=0)&&(decide ((0:Int)≤d.1.2.1)&&decide (d.1.2.1≤(8:Int))))) (.ret (.ret ((),((d.1.2.1,(fq d.1.1 d.1.2.1.toNat,())),())))) .no
def fg (d:ci.st.den):Tr (ap ci.xs):=
 .ite (decide (d.1.2.1.length=0)&&(decide (d.1.2.2.1=(d.1.1.length:Int) - 1)&&decide (d.1.1.length≤8))) (.ret (.ret ((),((d.1.1.reverse,()),())))) .no
def gU:Lp:=bQ [(4,aG cz gY),(13,aG ci fg)]
def nr {R:Type}(h2 h3:Int)(h4:LI)(h5:Int)(next:Int→Int→LI→Int→Option R)(out:ap cz.xs→Option R):Option R:=bif decide (h5<h3) then bif decide (i64.wrap (h2.tmod 256)<0) then bif decide (h4.length+[u8.wrap (i64.wrap (i64.wrap (h2.tmod 256)+256))].length≤4294967296) then next (i64.wrap ((i64.wrap (h2 - i64.wrap (i64.wrap (h2.tmod 256)+256))).tdiv 256)) (h3) (h4++[u8.wrap (i64.wrap (i64.wrap (h2.tmod 256)+256))]) (i64.wrap (h5+1)) else none else bif decide (h4.length+[u8.wrap (i64.wrap (h2.tmod 256))].length≤4294967296) then next (i64.wrap ((i64.wrap (h2 - i64.wrap (h2.tmod 256))).tdiv 256)) (h3) (h4++[u8.wrap (i64.wrap (h2.tmod 256))]) (i64.wrap (h5+1)) else none else out (.ret ((),((h3,(h4,())),())))
def jp (n:Nat)(h2 h3:Int)(h4:LI)(h5:Int):Option (ap cz.xs):=fR tt qD dr gU 0 Tryz.f85 (bX Tryz.f85 0) n (cz.st.mk' ((h2,(h3,(h4,(h5,())))),())) (bC cz.xs)
theorem Dn (n:Nat)(h2 h3:Int)(h4:LI)(h5:Int):jp (n+1) h2 h3 h4 h5=nr h2 h3 h4 h5 (jp n) some:=by kernel_rfl
def iS {R:Type}(h18 h19:LI)(h20:Int)(next:LI→LI→Int→Option R)(out:ap ci.xs→Option R):Option R:=bif decide (0≤h20) then bif decide (0≤h20)&&decide (h20<(↑h18.length:Int)) then bif decide (h19.length+[h18.getD h20.toNat 0].length≤4294967296) then next (h18) (h19++[h18.getD h20.toNat 0]) (i64.wrap (h20 - 1)) else none else none else out (.ret ((),((h19,()),())))
def kQ (n:Nat)(h18 h19:LI)(h20:Int):Option (ap ci.xs):=fR tt qD dr gU 0 Tryz.f85 (bX Tryz.f85 1) n (ci.st.mk' ((h18,(h19,(h20,()))),())) (bC ci.xs)
theorem pU (n:Nat)(h18 h19:LI)(h20:Int):kQ (n+1) h18 h19 h20=iS h18 h19 h20 (kQ n) some:=by kernel_rfl
theorem On (v:Int):(v.tmod 256<0→v.tmod 256+256=v % 256)∧(¬ v.tmod 256<0→v.tmod 256=v % 256):=by
 by_cases h:0≤v
 ·rw[Int.tmod_eq_emod_of_nonneg h];omega
 ·obtain ⟨u,rfl⟩:∃u,v = -u:=⟨-v,by omega⟩
  rw[Int.neg_tmod,Int.tmod_eq_emod_of_nonneg (by omega)];omega
theorem Ok (v:Int):(v - v % 256).tdiv 256=v / 256:=by
 have e:v - v % 256=v / 256*256:=by omega
 rw[e,Int.mul_tdiv_cancel _ (by decide)]
theorem QM {n:Int}(h0:0≤n)(h1:n<256):u8.wrap n=n:=bW (by simp[bt,IntKind.min,IntKind.max,IntKind.signed,IntKind.bits];omega)
theorem vZ {m:Nat}(hm:m≤8):∀(k j:Nat) (v:Int) (acc:LI),m<j+k→j≤m→acc.length=j→-9223372036854775808≤v→v≤9223372036854775807→
  jp k v (m:Int) acc j=some (.ret ((),(((m:Int),(acc++fq v (m - j),())),()))):=by
 intro k
 induction k with
 |zero=>intro j v acc h;omega
 |succ k ih=>
  intro j v acc h1 h2 h3 h4 h5
  rw[Dn]
  unfold nr
  by_cases hj:j<m
  ·refine bT (decide_eq_true (show (j:Int)<(m:Int) by omega)) ?_
   have ht:=On v
   have hd:∀x:Int,x=v % 256→jp k (i64.wrap ((i64.wrap (v - x)).tdiv 256)) (m:Int) (acc++[u8.wrap x]) (i64.wrap ((j:Int)+1))=some (.ret ((),(((m:Int),(acc++fq v (m - j),())),()))):=by
    rintro x rfl
    rw[af (n:=v - v % 256) (by omega) (by omega),Ok,af (n:=v / 256) (by omega) (by omega),af (n:=(j:Int)+1) (by omega) (by omega),QM (n:=v % 256) (by omega) (by omega)]
    refine (ih (j+1) (v / 256) (acc++[v % 256]) (by omega) (by omega) (by simp[h3]) (by omega) (by omega)).trans ?_
    obtain ⟨q,hq⟩:∃q,m - j=q+1:=⟨m - j - 1,by omega⟩
    rw[hq,show m - (j+1)=q by omega,fq]
    simp
   have hr : -256≤v.tmod 256∧v.tmod 256<256:=by
    by_cases h:v.tmod 256<0
    ·have:=ht.1 h;omega
    ·have:=ht.2 h;omega
   rw[af (n:=v.tmod 256) (by omega) (by omega),af (n:=v.tmod 256+256) (by omega) (by omega)]
   by_cases hn:v.tmod 256<0
   ·refine bT (by simpa using hn) ?_
    refine bT (decide_eq_true (show acc.length+1≤4294967296 by omega)) ?_
    exact hd _ (ht.1 hn)
   ·refine bF (by simpa using hn) ?_
    refine bT (decide_eq_true (show acc.length+1≤4294967296 by omega)) ?_
    exact hd _ (ht.2 hn)
  ·refine bF (decide_eq_false (show ¬(j:Int)<(m:Int) by omega)) ?_
   rw[show m - j=0 by omega,fq]
   simp
theorem uQ {low:LI}(hl:low.length≤8):∀(j:Nat) (acc:LI),j≤low.length→acc.length+j≤8→
  kQ (j+1) low acc ((j:Int) - 1)=some (.ret ((),((acc++(low.take j).reverse,()),()))):=by
 intro j
 induction j with
 |zero=>
  intro acc h1 h2
  rw[pU]
  unfold iS
  refine bF (by decide) ?_
  simp
 |succ j ih=>
  intro acc h1 h2
  rw[pU]
  unfold iS
  rw[show ((j+1:Nat):Int) - 1=(j:Int) by omega]
  have hg:List.getD low j (0:Int)=low[j]'(by omega):=aK (by omega)
  refine bT (by simp) ?_
  refine bT (by simp;omega) ?_
  simp only[zG,hg]
  refine bT (decide_eq_true (show acc.length+1≤4294967296 by omega)) ?_
  rw[af (n:=(j:Int) - 1) (by omega) (by omega)]
  refine (ih (acc++[low[j]'(by omega)]) (by omega) (by simp;omega)).trans ?_
  rw[List.take_succ_eq_append_getElem (by omega),List.reverse_append,List.reverse_singleton,zK]
theorem JS (v:Int):∀n,(fq v n).length=n:=by
 intro n
 induction n generalizing v with
 |zero=>rfl
 |succ n ih=>rw[fq,zN,ih]
theorem vw:∀(n:Nat) (v:Int),fq v (n+1)=fq v n++[(v / 256 ^ n) % 256]
 |0,v=>by simp[fq]
 |n+1,v=>by
  rw[fq,vw n (v / 256),fq]
  have e:v / 256 / 256 ^ n=v / 256 ^ (n+1):=by
   rw[Int.pow_succ,Int.mul_comm,Int.ediv_ediv_of_nonneg (by decide)]
  rw[e];rfl
theorem xZ (v:Int):∀n,(fq v n).reverse=az v n
 |0=>rfl
 |n+1=>by rw[vw,List.reverse_append,xZ v n];rfl
def rp (a0 a1:Int):Option fk.Res:=(gY ((a0,(a1,([],(0,())))),())).run fun y=>match y with | .ret ((),((x16,x17,()),()))=>((fg ((x17,([],(i64.wrap (x16 - 1),()))),())).run fun y=>match y with | .ret ((),((x25,()),()))=>(oR ((x25,()),())))
theorem E8 (a0 a1:Int):Io.run tt qD dr gU fk Tryz.f85 ((a0,a1,()),())=rp a0 a1:=by kernel_rfl
theorem xO:HcOk prog 85 (ah fk oV):=by
 refine bY (cs:=mF) HcsOk.nil (lp:=gU) (fn:=Tryz.f85) fk (.step (h0:=aG cz gY) (by kernel_rfl) (f9 (cs:=mF) HcsOk.nil (lp:=gU) (fn:=Tryz.f85) (.done (by kernel_rfl)) cz gY ?_) (.step (h0:=aG ci fg) (by kernel_rfl) (f9 (cs:=mF) HcsOk.nil (lp:=gU) (fn:=Tryz.f85) (.done (by kernel_rfl)) ci fg ?_) (.done (by kernel_rfl)))) oV ?_
 ·rintro ⟨⟨(v:Int),(m:Int),(acc:LI),(i:Int),⟨⟩⟩,⟨⟩⟩ y hw hy
  obtain ⟨hg,hy⟩:=Tr.guard hy
  simp only[zA,zB] at hg
  obtain ⟨h1,h2,h3,h4⟩:=hg
  have h1:acc=[]:=zF h1
  have h2:i=0:=h2
  have h3:(0:Int)≤m:=h3
  have h4:m≤(8:Int):=h4
  subst h1
  subst h2
  obtain ⟨m,rfl⟩:=aB h3
  have hv:bt .i64 v:=hw.1.1
  simp only[bt,IntKind.min,IntKind.max,IntKind.signed,IntKind.bits] at hv
  simp at hv
  refine ⟨m+1,(vZ (m:=m) (by omega) (m+1) 0 v [] (by omega) (by omega) rfl (by omega) (by omega)).trans ?_⟩
  rw[← hy];rfl
 ·rintro ⟨⟨(low:LI),(acc:LI),(i:Int),⟨⟩⟩,⟨⟩⟩ y hw hy
  obtain ⟨hg,hy⟩:=Tr.guard hy
  simp only[zA,zB] at hg
  obtain ⟨h1,h2,h3⟩:=hg
  have h1:acc=[]:=zF h1
  have h2:i=(low.length:Int) - 1:=h2
  have h3:low.length≤8:=h3
  subst h1
  subst h2
  refine ⟨low.length+1,(uQ h3 low.length [] (by omega) (by simpa using h3)).trans ?_⟩
  rw[← hy,List.take_length];rfl
 ·rintro ⟨⟨(v:Int),(m:Int),⟨⟩⟩,⟨⟩⟩ out hw ho
  obtain ⟨hg,ho⟩:=Tr.guard ho
  simp only[zA,zB] at hg
  obtain ⟨h5,h6⟩:=hg
  have h5:(0:Int)≤m:=h5
  have h6:m≤(8:Int):=h6
  cases ho
  refine (E8 v m).trans ?_
  unfold rp
  have c1:(decide (([]:LI).length=0)&&(decide ((0:Int)=0)&&(decide ((0:Int)≤m)&&decide (m≤(8:Int)))))=true:=by simp;omega
  have e1:gY ((v,(m,([],(0,())))),())=.ite true (.ret (.ret ((),((m,(fq v m.toNat,())),())))) .no:=congrArg (fun c=>Tr.ite c _ _) c1
  rw[e1]
  show (fg ((fq v m.toNat,([],(i64.wrap (m - 1),()))),())).run _=_
  rw[af (n:=m - 1) (by omega) (by omega)]
  have c2:(decide (([]:LI).length=0)&&(decide (m - 1=((fq v m.toNat).length:Int) - 1)&&decide ((fq v m.toNat).length≤8)))=true:=by
   rw[JS];simp;omega
  have e2:fg ((fq v m.toNat,([],(m - 1,()))),())=.ite true (.ret (.ret ((),(((fq v m.toNat).reverse,()),())))) .no:=congrArg (fun c=>Tr.ite c _ _) c2
  rw[e2,xZ]
  rfl
def cn (l:LI):Int:=match l with
 |[]=>0
 |c::l=>l.foldl (fun v c=>v*256+c) (if 128≤c then c - 256 else c)
def al (b:LI)(at_ n:Int):Int×Bool:=if at_<0∨(b.length:Int)<at_∨(b.length:Int) - at_<n then (0,false) else (cn ((b.drop at_.toNat).take n.toNat),true)
abbrev fZ:Io:=⟨[dL,dI,dI],[],[],[gl,dB],none⟩
def tq (d:fZ.In):Tr fZ.Res:=.ite (decide ((0:Int)≤d.1.2.2.1)&&decide (d.1.2.2.1≤(8:Int))) (.ret (.ret (((al d.1.1 d.1.2.1 d.1.2.2.1).1,((al d.1.1 d.1.2.1 d.1.2.2.1).2,())),()))) .no
abbrev qy:List (Nat×Hc):=[]
def xz:Hd:=bI qy
abbrev cA:Lo:=⟨⟨(.one (.hol (.sl 5 (Ty.int u8)))::.one hI::.one hI::.any::bx (.one hI::.one hI::ai (ai (co (bk []))))),[]⟩,[(.exit 0,⟨(co (.one hI::.any::ai (ai (co (bk []))))),[]⟩)]⟩
def gZ (d:cA.st.den):Tr (ap cA.xs):=
 .ite (decide (d.1.2.2.2.1=0)&&(decide (d.1.2.2.2.2.1=0)&&((decide ((0:Int)≤d.1.2.1)&&decide (d.1.2.1+d.1.2.2.1≤(d.1.1.length:Int)))&&(decide ((0:Int)≤d.1.2.2.1)&&decide (d.1.2.2.1≤(8:Int)))))) (.ret (.ret ((),((cn ((d.1.1.drop d.1.2.1.toNat).take d.1.2.2.1.toNat),()),())))) .no
def mQ:Lp:=bQ [(6,aG cA gZ)]
def nu {R:Type}(h3:LI)(h4 h5 h6 h7:Int)(next:LI→Int→Int→Int→Int→Option R)(out:ap cA.xs→Option R):Option R:=bif decide (h7<h5) then bif decide (0≤i64.wrap (h4+h7))&&decide (i64.wrap (h4+h7)<(↑h3.length:Int)) then bif h7 == 0 then bif decide (128≤i64.wrap (h3.getD (i64.wrap (h4+h7)).toNat 0)) then next (h3) (h4) (h5) (i64.wrap (i64.wrap (h6*256)+i64.wrap (i64.wrap (h3.getD (i64.wrap (h4+h7)).toNat 0) - 256))) (i64.wrap (h7+1)) else next (h3) (h4) (h5) (i64.wrap (i64.wrap (h6*256)+i64.wrap (h3.getD (i64.wrap (h4+h7)).toNat 0))) (i64.wrap (h7+1)) else next (h3) (h4) (h5) (i64.wrap (i64.wrap (h6*256)+i64.wrap (h3.getD (i64.wrap (h4+h7)).toNat 0))) (i64.wrap (h7+1)) else none else out (.ret ((),((h6,()),())))
def lW (n:Nat)(h3:LI)(h4 h5 h6 h7:Int):Option (ap cA.xs):=fR tt xz dr mQ 0 Tryz.f133 (bX Tryz.f133 0) n (cA.st.mk' ((h3,(h4,(h5,(h6,(h7,()))))),())) (bC cA.xs)
theorem Do (n:Nat)(h3:LI)(h4 h5 h6 h7:Int):lW (n+1) h3 h4 h5 h6 h7=nu h3 h4 h5 h6 h7 (lW n) some:=by kernel_rfl
theorem FI (l:LI)(c:Int):cn (l++[c])=if l=[] then (if 128≤c then c - 256 else c) else cn l*256+c:=by
 cases l with
 |nil=>simp[cn]
 |cons x l=>simp[cn,List.foldl_append]
theorem DH:∀(l:LI) (v B:Int),(∀c∈l,0≤c∧c<256)→-B≤v→v<B→-(B*256 ^ l.length)≤l.foldl (fun v c=>v*256+c) v∧l.foldl (fun v c=>v*256+c) v<B*256 ^ l.length
 |[],v,B,_,h1,h2=>by simp;omega
 |c::l,v,B,hc,h1,h2=>by
  have h:=hc c (by simp)
  have ih:=DH l (v*256+c) (B*256) (fun x hx=>hc x (by simp[hx])) (by omega) (by omega)
  have e:B*256*256 ^ l.length=B*256 ^ (c::l).length:=by rw[zN,Int.pow_succ,Int.mul_assoc,Int.mul_comm 256]
  rw[e] at ih
  exact ih
theorem N9 {l:LI}(hc:∀c∈l,0≤c∧c<256)(hl:l.length≤7) : -36028797018963968≤cn l∧cn l<36028797018963968:=by
 cases l with
 |nil=>simp[cn]
 |cons c l=>
  have h:=hc c (by simp)
  have h':=DH l (if 128≤c then c - 256 else c) 128 (fun x hx=>hc x (by simp[hx])) (by split <;> omega) (by split <;> omega)
  have hp:(256:Int) ^ l.length≤256 ^ 6:=by
   have:=Nat.pow_le_pow_right (show 0<256 by decide) (show l.length≤6 by simpa using hl)
   have e:((256 ^ l.length:Nat):Int)=(256:Int) ^ l.length:=by simp
   have e2:((256 ^ 6:Nat):Int)=(256:Int) ^ 6:=by simp
   omega
  have e6:(256:Int) ^ 6=281474976710656:=by decide
  show -36028797018963968≤l.foldl _ _∧l.foldl _ _<36028797018963968
  omega
theorem CK {b:LI}(hb:∀c∈b,0≤c∧c<256)(hl:b.length≤maxLen){a m:Nat}(h1:a+m≤b.length)(h2:m≤8):∀(k j:Nat),m<j+k→j≤m→
  lW k b (a:Int) (m:Int) (cn ((b.drop a).take j)) j=some (.ret ((),((cn ((b.drop a).take m),()),()))):=by
 intro k
 induction k with
 |zero=>intro j h;omega
 |succ k ih=>
  intro j h3 h4
  rw[Do]
  unfold nu
  by_cases hj:j<m
  ·have hm:=aP
   rw[hm] at hl
   refine bT (decide_eq_true (show (j:Int)<(m:Int) by omega)) ?_
   have ej:((a:Int)+(j:Int))=((a+j:Nat):Int):=by omega
   have hget:List.getD b (a+j) (0:Int)=b[a+j]'(by omega):=aK (by omega)
   have hc:=hb (b[a+j]'(by omega)) (List.getElem_mem _)
   have e:(b.drop a).take (j+1)=(b.drop a).take j++[b[a+j]'(by omega)]:=by
    rw[List.take_succ_eq_append_getElem (by simp;omega)];simp
   have hs:=N9 (l:=(b.drop a).take j) (fun c hc=>hb c (List.mem_of_mem_drop (List.mem_of_mem_take hc))) (by simp;omega)
   have he:=FI ((b.drop a).take j) (b[a+j]'(by omega))
   rw[← e] at he
   rw[ej,af (n:=((a+j:Nat):Int)) (by omega) (by omega)]
   refine bT (by simp;omega) ?_
   simp only[zG,hget]
   have ih':=ih (j+1) (by omega) (by omega)
   rw[he] at ih'
   have hv0:j=0→cn ((b.drop a).take j)=0:=by rintro rfl;simp[cn]
   have ht:(b.drop a).take j=[]↔j=0:=by
    constructor
    ·intro h
     have:=congrArg List.length h
     simp at this
     omega
    ·rintro rfl;simp
   generalize b[a+j]'(by omega)=c at hc ih' ⊢
   generalize cn ((b.drop a).take j)=v at hs ih' hv0 ⊢
   rw[af (n:=c) (by omega) (by omega),af (n:=v*256) (by omega) (by omega),af (n:=(j:Int)+1) (by omega) (by omega),af (n:=v*256+c) (by omega) (by omega),af (n:=c - 256) (by omega) (by omega)]
   by_cases h0:j=0
   ·have hv:=hv0 h0
    rw[if_pos (ht.2 h0)] at ih'
    refine bT (by simp[h0]) ?_
    by_cases h128:128≤c
    ·rw[if_pos h128] at ih'
     refine bT (by simpa using h128) ?_
     rw[show v*256+(c - 256)=c - 256 by omega,af (n:=c - 256) (by omega) (by omega)]
     exact ih'
    ·rw[if_neg h128] at ih'
     refine bF (by simpa using h128) ?_
     rw[show v*256+c=c by omega]
     exact ih'
   ·rw[if_neg (fun h=>h0 (ht.1 h))] at ih'
    refine bF (by simpa using h0) ?_
    exact ih'
  ·refine bF (by simpa using hj) ?_
   rw[show j=m by omega]
def rq (a0:LI)(a1 a2:Int):Option fZ.Res:=bif decide (a1<0) then oR ((0,false,()),()) else bif decide ((↑a0.length:Int)<a1) then oR ((0,false,()),()) else bif decide (i64.wrap ((↑a0.length:Int) - a1)<a2) then oR ((0,false,()),()) else (gZ ((a0,(a1,(a2,(0,(0,()))))),())).run fun y=>match y with | .ret ((),((x24,()),()))=>(oR ((x24,true,()),()))
theorem E9 (a0:LI)(a1 a2:Int):Io.run tt xz dr mQ fZ Tryz.f133 ((a0,a1,a2,()),())=rq a0 a1 a2:=by kernel_rfl
theorem I6:HcOk prog 133 (ah fZ tq):=by
 refine bY (cs:=qy) HcsOk.nil (lp:=mQ) (fn:=Tryz.f133) fZ (.step (h0:=aG cA gZ) (by kernel_rfl) (f9 (cs:=qy) HcsOk.nil (lp:=mQ) (fn:=Tryz.f133) (.done (by kernel_rfl)) cA gZ ?_) (.done (by kernel_rfl))) tq ?_
 ·rintro ⟨⟨(b:LI),(a:Int),(m:Int),(v:Int),(i:Int),⟨⟩⟩,⟨⟩⟩ y hw hy
  obtain ⟨hg,hy⟩:=Tr.guard hy
  simp only[zA,zB] at hg
  obtain ⟨h1,h2,⟨h3,h4⟩,h5,h6⟩:=hg
  have h1:v=0:=h1
  have h2:i=0:=h2
  have h3:(0:Int)≤a:=h3
  have h4:a+m≤(b.length:Int):=h4
  have h5:(0:Int)≤m:=h5
  have h6:m≤(8:Int):=h6
  subst h1
  subst h2
  obtain ⟨a,rfl⟩:=aB h3
  obtain ⟨m,rfl⟩:=aB h5
  have hb:∀c∈b,0≤c∧c<256:=fun c hc=>by
   have h:=hw.1.1.2 c hc
   simp only[Ty.wf,bt,IntKind.min,IntKind.max,IntKind.signed,IntKind.bits] at h
   simp at h
   omega
  refine ⟨m+1,(CK hb hw.1.1.1 (a:=a) (m:=m) (by omega) (by omega) (m+1) 0 (by omega) (by omega)).trans ?_⟩
  rw[← hy];rfl
 ·rintro ⟨⟨(b:LI),(a:Int),(m:Int),⟨⟩⟩,⟨⟩⟩ out hw ho
  obtain ⟨hg,ho⟩:=Tr.guard ho
  simp only[zA,zB] at hg
  obtain ⟨h5,h6⟩:=hg
  have h5:(0:Int)≤m:=h5
  have h6:m≤(8:Int):=h6
  cases ho
  refine (E9 b a m).trans ?_
  unfold rq
  show _=oR (((al b a m).1,((al b a m).2,())),())
  unfold al
  have hl:b.length≤maxLen:=hw.1.1.1
  rw[aP] at hl
  by_cases h1:a<0
  ·rw[if_pos (.inl h1)]
   exact aa (by simpa using h1) _ _
  ·refine bF (by simpa using h1) ?_
   by_cases h2:(b.length:Int)<a
   ·rw[if_pos (.inr (.inl h2))]
    exact aa (by simpa using h2) _ _
   ·refine bF (by simpa using h2) ?_
    rw[af (n:=(b.length:Int) - a) (by omega) (by omega)]
    by_cases h3:(b.length:Int) - a<m
    ·rw[if_pos (.inr (.inr h3))]
     exact aa (by simpa using h3) _ _
    ·rw[if_neg (by omega)]
     refine bF (by simpa using h3) ?_
     have c1:(decide ((0:Int)=0)&&(decide ((0:Int)=0)&&((decide ((0:Int)≤a)&&decide (a+m≤(b.length:Int)))&&(decide ((0:Int)≤m)&&decide (m≤(8:Int))))))=true:=by simp;omega
     have e1:gZ ((b,(a,(m,(0,(0,()))))),())=.ite true (.ret (.ret ((),((cn ((b.drop a.toNat).take m.toNat),()),())))) .no:=congrArg (fun c=>Tr.ite c _ _) c1
     rw[e1]
     rfl
abbrev BV:Sh:=.dat (.int .u32) false false
def iR (s:Nat):Nat:=if s % 2=1 then (s / 2) ^^^ 2197175160 else s / 2
theorem qc {s:Nat}(h:s<4294967296):iR s<4294967296:=by
 unfold iR
 split
 ·exact Nat.xor_lt_two_pow (n:=32) (by omega) (by omega)
 ·omega
theorem Ow (a b p:Nat):(a ^^^ p) ^^^ (b ^^^ p)=a ^^^ b:=by
 rw[Nat.xor_assoc,← Nat.xor_assoc p b p,Nat.xor_comm p b,Nat.xor_assoc b p p,Nat.xor_self,Nat.xor_zero]
theorem m7 (a b:Nat):iR (a ^^^ b)=iR a ^^^ iR b:=by
 have h1:(a ^^^ b) / 2=a / 2 ^^^ b / 2:=Nat.xor_div_two
 have h2:(a ^^^ b) % 2=1↔¬(a % 2=1↔b % 2=1):=Nat.xor_mod_two_eq_one
 unfold iR
 rw[h1]
 by_cases ha:a % 2=1
 ·by_cases hb:b % 2=1
  ·rw[if_neg (by rw[h2];simp[ha,hb]),if_pos ha,if_pos hb,Ow]
  ·rw[if_pos (by rw[h2];simp[ha,hb]),if_pos ha,if_neg hb,Nat.xor_assoc,Nat.xor_comm (b / 2),← Nat.xor_assoc]
 ·by_cases hb:b % 2=1
  ·rw[if_pos (by rw[h2];simp[ha,hb]),if_neg ha,if_pos hb,Nat.xor_assoc]
  ·rw[if_neg (by rw[h2];simp[ha,hb]),if_neg ha,if_neg hb]
theorem m6 (m:Nat):iR (2*m)=m:=by
 unfold iR
 rw[if_neg (by omega)]
 omega
def jw (s:Nat):Nat:=iR (iR (iR (iR s)))
theorem J1 (a b:Nat):jw (a ^^^ b)=jw a ^^^ jw b:=by unfold jw;rw[m7,m7,m7,m7]
theorem Of (q:Nat):jw (16*q)=q:=by
 unfold jw
 rw[show 16*q=2*(2*(2*(2*q))) by omega,m6,m6,m6,m6]
theorem p9 {s:Nat}(h:s<4294967296):jw s<4294967296:=qc (qc (qc (qc h)))
theorem QH (s:Nat):s=(16*(s / 16)) ^^^ (s % 16):=by
 refine Nat.eq_of_testBit_eq fun i=>?_
 rw[Nat.testBit_xor,show 16*(s / 16)=2 ^ 4*(s / 2 ^ 4) by rfl,Nat.testBit_two_pow_mul,Nat.testBit_div_two_pow,show s % 16=s % 2 ^ 4 by rfl,Nat.testBit_mod_two_pow]
 by_cases h:4≤i
 ·have h':¬ i<4:=by omega
  simp[h,h',show i - 4+4=i by omega]
 ·have h':i<4:=by omega
  simp[h,h']
theorem Og (s:Nat):jw s=(s / 16) ^^^ jw (s % 16):=by
 conv=>lhs;rw[QH s]
 rw[J1,Of]
def DM (s:Nat):Nat:=jw (jw s)
theorem DN {s:Nat}(h:s<4294967296):DM s<4294967296:=p9 (p9 h)
def OM:LI→Nat→Nat
 |[],s=>s
 |x::l,s=>OM l (DM (s ^^^ x.toNat))
theorem mB {s:Nat}(h:s<4294967296){x:Int}(hx:x≤255):s ^^^ x.toNat<4294967296:=Nat.xor_lt_two_pow (n:=32) h (by omega)
theorem sL:∀{l:LI} {s:Nat},(∀c∈l,0≤c∧c≤255)→s<4294967296→OM l s<4294967296
 |[],_,_,h=>h
 |x::l,_,hl,h=>sL (l:=l) (fun c hc=>hl c (by simp[hc])) (DN (mB h (hl x (by simp)).2))
@[irreducible] def cw (c:Int)(b:LI):Int:=((OM b (c.toNat ^^^ 4294967295) ^^^ 4294967295:Nat):Int)
@[irreducible] def ju (b:LI)(s:Int):Int:=((OM b s.toNat:Nat):Int)
@[irreducible] def rg (s:Int):Int:=(iR s.toNat:Int)
def mZ:Nat→Int→Int
 |0,s=>s
 |n+1,s=>mZ n (rg s)
theorem vD (s:Nat):rg (s:Int)=(iR s:Int):=by unfold rg;rw[zG]
theorem Oa (s:Nat):mZ 8 (s:Int)=(DM s:Int):=by
 simp only[mZ,vD]
 rfl
theorem m9 {x y:Nat}(hx:x<4294967296)(hy:y<4294967296):bZ .u32 (x:Int) (y:Int)=((x ^^^ y:Nat):Int):=by
 have e1:(BitVec.ofInt 32 (x:Int)).toNat=x:=by rw[BitVec.toNat_ofInt];omega
 have e2:(BitVec.ofInt 32 (y:Int)).toNat=y:=by rw[BitVec.toNat_ofInt];omega
 show IntKind.wrap .u32 ((BitVec.ofInt 32 (x:Int) ^^^ BitVec.ofInt 32 (y:Int)).toNat:Int)=_
 rw[BitVec.toNat_xor,e1,e2]
 have:=Nat.xor_lt_two_pow (n:=32) hx hy
 exact bW (k:=.u32) (by simp[bt,IntKind.min,IntKind.max,IntKind.signed,IntKind.bits];omega)
theorem HT {x:Nat}(hx:x<4294967296):vy .u32 (x:Int)=((x ^^^ 4294967295:Nat):Int):=by
 have:=m9 (x:=4294967295) (y:=x) (by omega) hx
 rw[Nat.xor_comm] at this
 exact this
theorem qt {x:Nat}(hx:x<4294967296):eJ .u32 (x:Int) 15=((x % 16:Nat):Int):=by
 have e1:(BitVec.ofInt 32 (x:Int)).toNat=x:=by rw[BitVec.toNat_ofInt];omega
 show IntKind.wrap .u32 ((BitVec.ofInt 32 (x:Int) &&& BitVec.ofInt 32 15).toNat:Int)=_
 rw[BitVec.toNat_and,e1,show (BitVec.ofInt 32 15).toNat=2 ^ 4 - 1 by decide,Nat.and_two_pow_sub_one_eq_mod]
 exact bW (k:=.u32) (by simp[bt,IntKind.min,IntKind.max,IntKind.signed,IntKind.bits];omega)
theorem NN {x:Nat}(hx:x<4294967296):eK .u32 (x:Int) 4=((x / 16:Nat):Int):=by
 show IntKind.wrap .u32 ((x:Int).fdiv (2 ^ 4))=_
 rw[Int.fdiv_eq_ediv_of_nonneg _ (by decide)]
 rw[show (x:Int) / 2 ^ 4=((x / 16:Nat):Int) by omega]
 exact bW (k:=.u32) (by simp[bt,IntKind.min,IntKind.max,IntKind.signed,IntKind.bits];omega)
theorem J3 {r:Nat}(h:r<16):fc (r:Int)=(jw r:Int):=
 (show ∀r:Nat,r<16→fc (r:Int)=(jw r:Int) by decide +kernel) r h
theorem yQ {b:LI}(h:Ty.wf bs b):∀c∈b,0≤c∧c≤255:=fun c hc=>by
 have:=h.2 c hc
 simpa [Ty.wf,bt,IntKind.min,IntKind.max,IntKind.signed,IntKind.bits] using this
theorem qq {s:Int}(h:bt .u32 s):∃n:Nat,s=(n:Int)∧n<4294967296:=by
 simp[bt,IntKind.min,IntKind.max,IntKind.signed,IntKind.bits] at h
 exact ⟨s.toNat,by omega,by omega⟩
theorem DP {s:Nat}(hs:s<4294967296):bZ .u32 (eK .u32 (s:Int) 4) (fc (eJ .u32 (s:Int) 15))=(jw s:Int):=by
 have hr:s % 16<16:=by omega
 rw[qt hs,NN hs,J3 hr,m9 (by omega) (p9 (by omega)),← Og]
abbrev iv:Io:=⟨[BV],[],[],[BV],none⟩
def ym (d:iv.In):Tr iv.Res:=.ret (.ret ((rg d.1.1,()),()))
abbrev BH:List (Nat×Hc):=[]
def LG:Hd:=bI BH
def CU:Lp:=bQ []
def tJ (a0:Int):Option iv.Res:=bif u32.wrap (a0.tmod 2) == 1 then oR ((bZ u32 (u32.wrap (a0.tdiv 2)) 2197175160,()),()) else oR ((u32.wrap (a0.tdiv 2),()),())
theorem Jj (a0:Int):Io.run tt LG dr CU iv Tryz.f159 ((a0,()),())=tJ a0:=by kernel_rfl
theorem MC:HcOk prog 159 (ah iv ym):=by
 refine bY (cs:=BH) HcsOk.nil (lp:=CU) (fn:=Tryz.f159) iv (.done (by kernel_rfl)) ym ?_
 rintro ⟨⟨(s:Int),⟨⟩⟩,⟨⟩⟩ out hw ho
 cases ho
 refine (Jj s).trans ?_
 unfold tJ
 obtain ⟨n,rfl,hn⟩:=qq hw.1.1
 have e1:u32.wrap ((n:Int).tmod 2)=((n % 2:Nat):Int):=by
  rw[Int.tmod_eq_emod_of_nonneg (by omega)]
  exact (bW (k:=.u32) (by simp[bt,IntKind.min,IntKind.max,IntKind.signed,IntKind.bits];omega)).trans (by omega)
 have e2:u32.wrap ((n:Int).tdiv 2)=((n / 2:Nat):Int):=by
  rw[Int.tdiv_eq_ediv_of_nonneg (by omega)]
  exact (bW (k:=.u32) (by simp[bt,IntKind.min,IntKind.max,IntKind.signed,IntKind.bits];omega)).trans (by omega)
 show _=oR ((rg (n:Int),()),())
 rw[e1,e2,vD]
 unfold iR
 by_cases h:n % 2=1
 ·refine bT (by rw[h];rfl) ?_
  rw[if_pos h,← m9 (by omega) (by omega)]
  rfl
 ·refine bF (by simp;omega) ?_
  rw[if_neg h]
abbrev ku:Io:=⟨[BV,dL],[],[],[BV],none⟩
def DV (d:ku.In):Tr ku.Res:=.ret (.ret ((cw d.1.1 d.1.2.1,()),()))
abbrev Gl:List (Nat×Hc):=[(159,ah iv ym)]
def zb:Hd:=bI Gl
abbrev ee:Lo:=⟨⟨(.any::.one (.hol (.sl 5 (Ty.int u8)))::.any::bk (.one (.hol (.int u32))::.one hI::.one hI::.any::ai (bx (bk [])))),[]⟩,[(.exit 2,⟨(.any::.one (.hol (.sl 5 (Ty.int u8)))::.any::bk (.one (.hol (.int u32))::.one hI::ai (co []))),[]⟩)]⟩
abbrev d9:Lo:=⟨⟨(.any::.one (.hol (.sl 5 (Ty.int u8)))::.any::bk (.one (.hol (.int u32))::.one hI::ai (co []))),[]⟩,[(.exit 0,⟨(.any::bx (.one (.hol (.int u32))::.any::ai (co []))),[]⟩)]⟩
def lC (d:ee.st.den):Tr (ap ee.xs):=.ite (decide (d.1.2.2.2.1=0)) (.ret (.ret ((),((d.1.1,(mZ 8 d.1.2.1,(d.1.2.2.1,()))),())))) .no
def lB (d:d9.st.den):Tr (ap d9.xs):=.ite (decide (d.1.2.2.1=0)) (.ret (.ret ((),((ju d.1.1 d.1.2.1,()),())))) .no
def mP:Lp:=bQ [(4,aG d9 lB),(8,aG ee lC)]
def sa {R:Type}(h5:LI)(h6 h7 h8:Int)(next:LI→Int→Int→Int→Option R)(out:ap ee.xs→Option R):Option R:=bif decide (h8<8) then next (h5) (rg h6) (h7) (i64.wrap (h8+1)) else out (.ret ((),((h5,(h6,(h7,()))),())))
def qL (n:Nat)(h5:LI)(h6 h7 h8:Int):Option (ap ee.xs):=fR tt zb dr mP 0 Tryz.f123 (Te Tryz.f123 (bX Tryz.f123 0) 0) n (ee.st.mk' ((h5,(h6,(h7,(h8,())))),())) (bC ee.xs)
theorem JL (n:Nat)(h5:LI)(h6 h7 h8:Int):qL (n+1) h5 h6 h7 h8=sa h5 h6 h7 h8 (qL n) some:=by kernel_rfl
def r9 {R:Type}(h2:LI)(h3 h4:Int)(next:LI→Int→Int→Option R)(out:ap d9.xs→Option R):Option R:=bif decide (h4<(↑h2.length:Int)) then bif decide (0≤h4)&&decide (h4<(↑h2.length:Int)) then (lC ((h2,(bZ u32 h3 (u32.wrap (h2.getD h4.toNat 0)),(h4,(0,())))),())).run fun y=>match y with | .ret ((),((x16,x17,x18,()),()))=>(next (x16) (x17) (i64.wrap (x18+1))) else none else out (.ret ((),((h3,()),())))
def mN (n:Nat)(h2:LI)(h3 h4:Int):Option (ap d9.xs):=fR tt zb dr mP 0 Tryz.f123 (bX Tryz.f123 0) n (d9.st.mk' ((h2,(h3,(h4,()))),())) (bC d9.xs)
theorem JK (n:Nat)(h2:LI)(h3 h4:Int):mN (n+1) h2 h3 h4=r9 h2 h3 h4 (mN n) some:=by kernel_rfl
theorem CI (b:LI)(i:Int):∀(k j:Nat) (s:Int),8<j+k→j≤8→qL k b s i j=some (.ret ((),((b,(mZ (8 - j) s,(i,()))),()))):=by
 intro k
 induction k with
 |zero=>intro j s h;omega
 |succ k ih=>
  intro j s h1 h2
  rw[JL]
  unfold sa
  by_cases hj:j<8
  ·refine bT (by simp;omega) ?_
   rw[af (n:=(j:Int)+1) (by omega) (by omega),show (8 - j)=(8 - (j+1))+1 by omega]
   exact ih (j+1) _ (by omega) (by omega)
  ·refine bF (by simp;omega) ?_
   rw[show 8 - j=0 by omega]
   rfl
theorem vB {b:LI}(hb:∀c∈b,0≤c∧c≤255){i:Nat}(h:i<b.length){n:Nat}(hn:n<4294967296):ju (b.drop i) (n:Int)=ju (b.drop (i+1)) ((DM (n ^^^ (b[i]).toNat):Nat):Int)∧DM (n ^^^ (b[i]).toNat)<4294967296:=by
 refine ⟨?_,DN (mB hn (hb b[i] (List.getElem_mem h)).2)⟩
 rw[zE h]
 unfold ju
 rw[zG,zG]
 rfl
theorem Ox {b:LI}(hb:∀c∈b,0≤c∧c≤255){i:Nat}(h:i<b.length){n:Nat}(hn:n<4294967296):bZ .u32 (n:Int) (u32.wrap (List.getD b (i:Int).toNat 0))=((n ^^^ (b[i]).toNat:Nat):Int):=by
 have hc:=hb b[i] (List.getElem_mem h)
 have e:List.getD b (i:Int).toNat 0=((b[i].toNat:Nat):Int):=by
  rw[zG,aK h]
  omega
 rw[e,bW (k:=.u32) (by simp[bt,IntKind.min,IntKind.max,IntKind.signed,IntKind.bits];omega)]
 exact m9 hn (by omega)
theorem CH {b:LI}(hb:∀c∈b,0≤c∧c≤255)(hl:b.length≤maxLen):∀(k i n:Nat),b.length<i+k→i≤b.length→n<4294967296→mN k b n i=some (.ret ((),((ju (b.drop i) n,()),()))):=by
 intro k
 induction k with
 |zero=>intro i n h;omega
 |succ k ih=>
  intro i n h1 h2 h3
  rw[JK]
  unfold r9
  by_cases hi:i<b.length
  ·refine bT (by simpa using hi) ?_
   refine bT (by simpa using hi) ?_
   obtain ⟨e1,e2⟩:=vB hb hi h3
   rw[Ox hb hi h3,e1]
   unfold lC
   refine bT (by simp) ?_
   show mN k b (mZ 8 _) (i64.wrap ((i:Int)+1))=_
   rw[Oa,aM hi hl]
   exact ih (i+1) _ (by omega) (by omega) e2
  ·refine bF (by simp;omega) ?_
   rw[zI (by omega)]
   unfold ju
   rw[zG]
   rfl
theorem N1 {c:Nat}(hc:c<4294967296){b:LI}(hb:∀x∈b,0≤x∧x≤255):bZ .u32 (ju b ((c ^^^ 4294967295:Nat):Int)) 4294967295=cw (c:Int) b:=by
 have h1:=Nat.xor_lt_two_pow (n:=32) hc (show 4294967295<2 ^ 32 by decide)
 have h2:=sL hb h1
 unfold ju cw
 rw[zG,zG]
 exact m9 h2 (by decide)
def wz (a0:Int)(a1:LI):Option ku.Res:=(lB ((a1,(bZ u32 a0 4294967295,(0,()))),())).run fun y=>match y with | .ret ((),((x23,()),()))=>(oR ((bZ u32 x23 4294967295,()),()))
theorem Nf (a0:Int)(a1:LI):Io.run tt zb dr mP ku Tryz.f123 ((a0,a1,()),())=wz a0 a1:=by kernel_rfl
theorem qC:HcsOk prog Gl:=.cons MC .nil
theorem PD:HcOk prog 123 (ah ku DV):=by
 refine bY qC (lp:=mP) (fn:=Tryz.f123) ku (.step (h0:=aG d9 lB) (by kernel_rfl) (f9 qC (lp:=mP) (fn:=Tryz.f123) (.step (h0:=aG ee lC) (by kernel_rfl) (f9 qC (lp:=mP) (fn:=Tryz.f123) (.done (by kernel_rfl)) ee lC ?_) (.done (by kernel_rfl))) d9 lB ?_) (.done (by kernel_rfl))) DV ?_
 ·rintro ⟨⟨(b:LI),(s:Int),(i:Int),(j:Int),⟨⟩⟩,⟨⟩⟩ y hw hy
  obtain ⟨hg,hy⟩:=Tr.guard hy
  have hg:j=0:=by simpa using hg
  subst hg
  refine ⟨9,(CI b i 9 0 s (by omega) (by omega)).trans ?_⟩
  rw[← hy];rfl
 ·rintro ⟨⟨(b:LI),(s:Int),(i:Int),⟨⟩⟩,⟨⟩⟩ y hw hy
  obtain ⟨hg,hy⟩:=Tr.guard hy
  have hg:i=0:=by simpa using hg
  subst hg
  obtain ⟨n,rfl,hn⟩:=qq hw.1.2.1
  refine ⟨b.length+1,(CH (yQ hw.1.1) hw.1.1.1 (b.length+1) 0 n (show b.length<0+(b.length+1) by omega) (Nat.zero_le _) hn).trans ?_⟩
  rw[← hy];rfl
 ·rintro ⟨⟨(c:Int),(b:LI),⟨⟩⟩,⟨⟩⟩ out hw ho
  cases ho
  refine (Nf c b).trans ?_
  obtain ⟨n,rfl,hn⟩:=qq hw.1.1
  unfold wz lB
  refine bT (by simp) ?_
  show oR ((bZ .u32 (ju b (bZ .u32 (n:Int) 4294967295)) 4294967295,()),())=oR ((cw (n:Int) b,()),())
  rw[show (4294967295:Int)=((4294967295:Nat):Int) from rfl,m9 hn (by decide),show ((4294967295:Nat):Int)=4294967295 from rfl,N1 hn (yQ hw.1.2.1)]
abbrev iu:Io:=⟨[dL],[],[],[BV],none⟩
def yl (d:iu.In):Tr iu.Res:=.ret (.ret ((cw 0 d.1.1,()),()))
abbrev BG:List (Nat×Hc):=[(123,ah ku DV)]
def LF:Hd:=bI BG
def CT:Lp:=bQ []
def Ek (a0:LI):Option iu.Res:=oR ((cw 0 a0,()),())
theorem Ji (a0:LI):Io.run tt LF dr CT iu Tryz.f86 ((a0,()),())=Ek a0:=by kernel_rfl
theorem MB:HcOk prog 86 (ah iu yl):=by
 refine bY (cs:=BG) (.cons PD .nil) (lp:=CT) (fn:=Tryz.f86) iu (.done (by kernel_rfl)) yl ?_
 rintro ⟨⟨(b:LI),⟨⟩⟩,⟨⟩⟩ out hw ho
 cases ho
 exact Ji b
abbrev nJ:Io:=⟨[BV,dL],[],[],[BV],none⟩
def Kc (d:nJ.In):Tr nJ.Res:=.ret (.ret ((cw d.1.1 d.1.2.1,()),()))
abbrev Er:List (Nat×Hc):=[]
def LH:Hd:=bI Er
abbrev fC:Lo:=⟨⟨(.any::bx (.one (.hol (.int u32))::bx (.one (.hol (.sl 5 (Ty.int u8)))::.one hI::.one hI::ai (co [])))),[]⟩,[(.exit 0,⟨(.any::bx (.one (.hol (.int u32))::.any::ai (co (bx (bk []))))),[]⟩)]⟩
def oT (d:fC.st.den):Tr (ap fC.xs):=.ite (decide (d.1.2.2.2.1=0)&&decide (d.1.2.2.1=(d.1.2.1.length:Int))) (.ret (.ret ((),((ju d.1.2.1 d.1.1,()),())))) .no
def zV:Lp:=bQ [(4,aG fC oT)]
def vJ {R:Type}(h2:Int)(h3:LI)(h4 h5:Int)(next:Int→LI→Int→Int→Option R)(out:ap fC.xs→Option R):Option R:=bif decide (h5<h4) then bif decide (0≤h5)&&decide (h5<(↑h3.length:Int)) then bif decide (0≤eJ u32 (bZ u32 h2 (u32.wrap (h3.getD h5.toNat 0))) 15)&&decide (eJ u32 (bZ u32 h2 (u32.wrap (h3.getD h5.toNat 0))) 15<(↑16:Int)) then bif decide (0≤eJ u32 (bZ u32 (eK u32 (bZ u32 h2 (u32.wrap (h3.getD h5.toNat 0))) 4) (fc (eJ u32 (bZ u32 h2 (u32.wrap (h3.getD h5.toNat 0))) 15))) 15)&&decide (eJ u32 (bZ u32 (eK u32 (bZ u32 h2 (u32.wrap (h3.getD h5.toNat 0))) 4) (fc (eJ u32 (bZ u32 h2 (u32.wrap (h3.getD h5.toNat 0))) 15))) 15<(↑16:Int)) then next (bZ u32 (eK u32 (bZ u32 (eK u32 (bZ u32 h2 (u32.wrap (h3.getD h5.toNat 0))) 4) (fc (eJ u32 (bZ u32 h2 (u32.wrap (h3.getD h5.toNat 0))) 15))) 4) (fc (eJ u32 (bZ u32 (eK u32 (bZ u32 h2 (u32.wrap (h3.getD h5.toNat 0))) 4) (fc (eJ u32 (bZ u32 h2 (u32.wrap (h3.getD h5.toNat 0))) 15))) 15))) (h3) (h4) (i64.wrap (h5+1)) else none else none else none else out (.ret ((),((h2,()),())))
def uJ (n:Nat)(h2:Int)(h3:LI)(h4 h5:Int):Option (ap fC.xs):=fR tt LH dr zV 0 Tryz.f131 (bX Tryz.f131 0) n (fC.st.mk' ((h2,(h3,(h4,(h5,())))),())) (bC fC.xs)
theorem NR (n:Nat)(h2:Int)(h3:LI)(h4 h5:Int):uJ (n+1) h2 h3 h4 h5=vJ h2 h3 h4 h5 (uJ n) some:=by kernel_rfl
theorem EN {b:LI}(hb:∀c∈b,0≤c∧c≤255)(hl:b.length≤maxLen):∀(k i n:Nat),b.length<i+k→i≤b.length→n<4294967296→uJ k n b (b.length:Int) i=some (.ret ((),((ju (b.drop i) n,()),()))):=by
 intro k
 induction k with
 |zero=>intro i n h;omega
 |succ k ih=>
  intro i n h1 h2 h3
  rw[NR]
  unfold vJ
  by_cases hi:i<b.length
  ·refine bT (by simpa using hi) ?_
   refine bT (by simpa using hi) ?_
   obtain ⟨e1,e2⟩:=vB hb hi h3
   have h4:=mB h3 (hb b[i] (List.getElem_mem hi)).2
   have h5:=p9 h4
   rw[Ox hb hi h3,e1]
   refine (aa ?_ _ _).trans ?_
   ·rw[qt h4];simp;omega
   rw[DP h4]
   refine (aa ?_ _ _).trans ?_
   ·rw[qt h5];simp;omega
   rw[DP h5,aM hi hl]
   exact ih (i+1) _ (by omega) (by omega) e2
  ·refine bF (by simp;omega) ?_
   rw[zI (by omega)]
   unfold ju
   rw[zG]
   rfl
def Bb (a0:Int)(a1:LI):Option nJ.Res:=(oT ((vy u32 a0,(a1,((↑a1.length:Int),(0,())))),())).run fun y=>match y with | .ret ((),((x11,()),()))=>(oR ((vy u32 x11,()),()))
theorem P8 (a0:Int)(a1:LI):Io.run tt LH dr zV nJ Tryz.f131 ((a0,a1,()),())=Bb a0 a1:=by kernel_rfl
theorem RK:HcOk prog 131 (ah nJ Kc):=by
 refine bY (cs:=Er) HcsOk.nil (lp:=zV) (fn:=Tryz.f131) nJ (.step (h0:=aG fC oT) (by kernel_rfl) (f9 (cs:=Er) HcsOk.nil (lp:=zV) (fn:=Tryz.f131) (.done (by kernel_rfl)) fC oT ?_) (.done (by kernel_rfl))) Kc ?_
 ·rintro ⟨⟨(s:Int),(b:LI),(m:Int),(i:Int),⟨⟩⟩,⟨⟩⟩ y hw hy
  obtain ⟨hg,hy⟩:=Tr.guard hy
  simp only[zA,zB] at hg
  obtain ⟨rfl,rfl⟩:=hg
  obtain ⟨n,rfl,hn⟩:=qq hw.1.1
  refine ⟨b.length+1,(EN (yQ hw.1.2.1) hw.1.2.1.1 (b.length+1) 0 n (show b.length<0+(b.length+1) by omega) (Nat.zero_le _) hn).trans ?_⟩
  rw[← hy];rfl
 ·rintro ⟨⟨(c:Int),(b:LI),⟨⟩⟩,⟨⟩⟩ out hw ho
  cases ho
  refine (P8 c b).trans ?_
  obtain ⟨n,rfl,hn⟩:=qq hw.1.1
  unfold Bb oT
  refine bT (by simp) ?_
  show oR ((vy .u32 (ju b (vy .u32 (n:Int))),()),())=oR ((cw (n:Int) b,()),())
  have h1:=Nat.xor_lt_two_pow (n:=32) hn (show 4294967295<2 ^ 32 by decide)
  have h2:=sL (yQ hw.1.2.1) h1
  rw[HT hn]
  unfold ju cw
  rw[zG,zG,HT h2]
def rc:List (LI)→Int→Int
 |[],c=>c
 |p::ps,c=>rc ps (cw c p)
abbrev jc:Io:=⟨[.dat (.sl 22 bs) false false],[],[],[BV],none⟩
def yn (d:jc.In):Tr jc.Res:=.ret (.ret ((rc d.1.1 0,()),()))
abbrev Gm:List (Nat×Hc):=[(131,ah nJ Kc)]
def G4:Hd:=bI Gm
abbrev eo:Lo:=⟨⟨(.any::bk (.one (.hol (.int u32))::bk (.one (.hol (.sl 22 (Ty.sl 5 (Ty.int u8))))::.one hI::.one hI::co []))),[]⟩,[(.exit 0,⟨(.any::bk (.one (.hol (.int u32))::.any::co (bx []))),[]⟩)]⟩
def lD (d:eo.st.den):Tr (ap eo.xs):=.ite (decide (d.1.2.2.2.1=0)&&decide (d.1.2.2.1=(d.1.2.1.length:Int))) (.ret (.ret ((),((rc d.1.2.1 d.1.1,()),())))) .no
def sZ:Lp:=bQ [(4,aG eo lD)]
def sb {R:Type}(h1:Int)(h2:List bs.den)(h3 h4:Int)(next:Int→List bs.den→Int→Int→Option R)(out:ap eo.xs→Option R):Option R:=bif decide (h4<h3) then bif decide (0≤h4)&&decide (h4<(↑h2.length:Int)) then next (cw h1 (h2.getD h4.toNat [])) (h2) (h3) (i64.wrap (h4+1)) else none else out (.ret ((),((h1,()),())))
def qM (n:Nat)(h1:Int)(h2:List bs.den)(h3 h4:Int):Option (ap eo.xs):=fR tt G4 dr sZ 0 Tryz.f96 (bX Tryz.f96 0) n (eo.st.mk' ((h1,(h2,(h3,(h4,())))),())) (bC eo.xs)
theorem JM (n:Nat)(h1:Int)(h2:List bs.den)(h3 h4:Int):qM (n+1) h1 h2 h3 h4=sb h1 h2 h3 h4 (qM n) some:=by kernel_rfl
theorem CJ (ps:List (LI))(hl:ps.length≤maxLen):∀(k i:Nat) (c:Int),ps.length<i+k→i≤ps.length→qM k c ps (ps.length:Int) i=some (.ret ((),((rc (ps.drop i) c,()),()))):=by
 intro k
 induction k with
 |zero=>intro i c h;omega
 |succ k ih=>
  intro i c h1 h2
  rw[JM]
  unfold sb
  by_cases hi:i<ps.length
  ·refine bT (by simpa using hi) ?_
   refine bT (by simpa using hi) ?_
   have e:List.getD ps (i:Int).toNat []=ps[i]:=by simp only[zG,aK hi]
   rw[e,aM hi hl,zE hi]
   exact ih (i+1) _ (by omega) (by omega)
  ·refine bF (by simp;omega) ?_
   rw[zI (by omega)]
   rfl
def wA (a0:List bs.den):Option jc.Res:=(lD ((0,(a0,((↑a0.length:Int),(0,())))),())).run fun y=>match y with | .ret ((),((x10,()),()))=>(oR ((x10,()),()))
theorem Ng (a0:List bs.den):Io.run tt G4 dr sZ jc Tryz.f96 ((a0,()),())=wA a0:=by kernel_rfl
theorem xt:HcsOk prog Gm:=.cons RK .nil
theorem HY:HcOk prog 96 (ah jc yn):=by
 refine bY xt (lp:=sZ) (fn:=Tryz.f96) jc (.step (h0:=aG eo lD) (by kernel_rfl) (f9 xt (lp:=sZ) (fn:=Tryz.f96) (.done (by kernel_rfl)) eo lD ?_) (.done (by kernel_rfl))) yn ?_
 ·rintro ⟨⟨(c:Int),(ps:List (LI)),(m:Int),(i:Int),⟨⟩⟩,⟨⟩⟩ y hw hy
  obtain ⟨hg,hy⟩:=Tr.guard hy
  simp only[zA,zB] at hg
  obtain ⟨rfl,rfl⟩:=hg
  refine ⟨ps.length+1,(CJ ps hw.1.2.1.1 (ps.length+1) 0 c (by omega) (by omega)).trans ?_⟩
  rw[← hy];rfl
 ·rintro ⟨⟨(ps:List (LI)),⟨⟩⟩,⟨⟩⟩ out hw ho
  cases ho
  refine (Ng ps).trans ?_
  unfold wA lD
  refine bT (by simp) ?_
  rfl
abbrev TG:Ty:=.prod bs (.prod (.int .i64) (.prod (.int .i64) .unit))
abbrev BY:Sh:=.dat TG true false
abbrev OF:Type:=LI×Int×Int×Unit
def eF:OF:=([],0,0,())
def aV (b:LI):OF×Int×Int:=
 if b.getD 0 0<128 then (if (b.length:Int)<b.getD 0 0+2 then (eF,0,1) else (((b.drop 1).take (b.getD 0 0+1).toNat,0,0,()),b.getD 0 0+2,0))
 else if (b.length:Int)<3 then (eF,0,1)
 else if b.getD 1 0*256+b.getD 2 0<1∨4096<b.getD 1 0*256+b.getD 2 0 then (eF,0,50)
 else (([],b.getD 1 0*256+b.getD 2 0,b.getD 0 0 - 124,()),3,0)
def ka (t:OF):Bool:=if t.2.1≠0 then true else decide (t.2.2.1≠0)
def gA (t:OF):Bool:=
 if ka t=true then decide (0<t.1.length) || (decide (t.2.1<1) || (decide (4096<t.2.1) || (decide (t.2.2.1<4) || decide (131<t.2.2.1))))
 else decide (t.1.length<1) || decide (128<t.1.length)
def fM (d:Nat):Nat→LI→LI
 |0,out=>out
 |n+1,out=>fM d n (out++[out.getD (out.length - d) 0])
def be (out:LI)(t:OF)(most:Int):LI×Int:=
 if gA t=true∨(out.length:Int)<t.2.1 then ([],50)
 else if most<(out.length:Int)+t.1.length+t.2.2.1 then ([],4)
 else (fM t.2.1.toNat t.2.2.1.toNat (out++t.1),0)
def bN:Nat→LI→LI→Int→LI×Int
 |0,_,out,_=>(out,0)
 |k+1,b,out,m=>
  if b=[] then (out,0)
  else if (aV b).2.2≠0 then ([],(aV b).2.2)
  else if (be out (aV b).1 m).2≠0 then ([],(be out (aV b).1 m).2)
  else bN k (b.drop (aV b).2.1.toNat) (be out (aV b).1 m).1 m
def aF (m:Int):Int:=np (dK m 0) 32768
def av (b:LI)(most:Int):LI×Int:=if b=[] then ([],0) else bN (b.length+1) b [] (aF most)
theorem DD {b:LI}(hb:∀c∈b,0≤c∧c≤255)(h:(aV b).2.2=0)(hne:b≠[]):2≤(aV b).2.1∧(aV b).2.1≤b.length:=by
 have h0:0≤b.getD 0 0:=by
  cases b with
  |nil=>exact absurd rfl hne
  |cons x l=>exact (hb x (by simp)).1
 unfold aV at h ⊢
 split
 ·rename_i h1
  rw[if_pos h1] at h
  split
  ·rename_i h2;rw[if_pos h2] at h;cases h
  ·simp only;omega
 ·rename_i h1
  rw[if_neg h1] at h
  split
  ·rename_i h2;rw[if_pos h2] at h;cases h
  ·rename_i h2
   rw[if_neg h2] at h
   split
   ·rename_i h3;rw[if_pos h3] at h;cases h
   ·simp only;omega
theorem t5 {b:LI}(h:Ty.wf bs b)(i:Nat):0≤b.getD i 0∧b.getD i 0≤255:=by
 rw[List.getD_eq_getElem?_getD]
 cases e:b[i]? with
 |none=>exact ⟨by decide,by decide⟩
 |some x=>exact dN h x (List.mem_of_getElem? e)
theorem Sg {v c:Int}(h0:0≤v)(h1:v≤255)(h2:0≤c)(h3:c≤255):ke .i64 (ft .i64 v 8) c=v*256+c:=by
 have e1:ft .i64 v 8=v*256:=by
  show IntKind.wrap .i64 (v*2 ^ 8)=_
  rw[show v*2 ^ 8=v*256 by omega]
  exact af (by omega) (by omega)
 rw[e1]
 obtain ⟨v,rfl⟩:=aB h0
 obtain ⟨c,rfl⟩:=aB h2
 have e4:=Nat.two_pow_add_eq_or_of_lt (show c<2 ^ 8 by omega) v
 show IntKind.wrap .i64 ((BitVec.ofInt 64 ((v:Int)*256) ||| BitVec.ofInt 64 (c:Int)).toNat:Int)=_
 have e2:(BitVec.ofInt 64 (c:Int)).toNat=c:=by rw[BitVec.toNat_ofInt];omega
 have e3:(BitVec.ofInt 64 ((v:Int)*256)).toNat=2 ^ 8*v:=by rw[BitVec.toNat_ofInt];omega
 rw[BitVec.toNat_or,e2,e3,← e4]
 rw[af (by omega) (by omega)]
 omega
theorem LX {lit:LI}{d len:Int}(h:gA (lit,d,len,())=false):(0≤len∧len≤131∧lit.length≤128)∧(len=0∧d=0∧1≤lit.length∨lit.length=0∧1≤d∧d≤4096∧4≤len):=by
 have e:gA (lit,d,len,())=if ka (lit,d,len,())=true then decide (0<lit.length) || (decide (d<1) || (decide (4096<d) || (decide (len<4) || decide (131<len)))) else decide (lit.length<1) || decide (128<lit.length):=rfl
 have e2:ka (lit,d,len,())=if d≠0 then true else decide (len≠0):=rfl
 rw[e] at h
 split at h
 ·simp only[Bool.or_eq_false_iff,decide_eq_false_iff_not] at h
  omega
 ·rename_i h2
  rw[e2] at h2
  simp only[Bool.or_eq_false_iff,decide_eq_false_iff_not] at h
  split at h2
  ·exact absurd rfl h2
  ·rename_i h3
   simp only[zB] at h2
   omega
theorem vt (d:Nat):∀(n:Nat) (out:LI),(fM d n out).length=out.length+n
 |0,_=>rfl
 |n+1,out=>by rw[fM,vt d n];simp;omega
theorem x4 (b:LI):(aV b).1.1.length≤b.length:=by
 unfold aV
 split
 ·split
  ·simp[eF]
  ·simp;omega
 ·split
  ·simp[eF]
  ·split
   ·simp[eF]
   ·simp
theorem oH (m:Int):0≤aF m∧aF m≤32768:=by
 unfold aF np dK
 split <;> split <;> omega
theorem oI {out:LI}{t:OF}{m:Int}(h:(be out t m).2=0):((be out t m).1.length:Int)≤m:=by
 obtain ⟨lit,d,len,⟨⟩⟩:=t
 unfold be at h ⊢
 split
 ·rename_i h1;rw[if_pos h1] at h;cases h
 ·rename_i h1
  rw[if_neg h1] at h
  have hi:gA (lit,d,len,())=false:=by
   cases e:gA (lit,d,len,()) with
   |false=>rfl
   |true=>exact absurd (.inl e) h1
  obtain ⟨i1,i2⟩:=LX hi
  split
  ·rename_i h2;rw[if_pos h2] at h;cases h
  ·rename_i h2
   have h2:¬ m<(out.length:Int)+lit.length+len:=h2
   show ((fM d.toNat len.toNat (out++lit)).length:Int)≤m
   rw[vt,zH]
   omega
theorem iM:∀(k:Nat) (b out:LI) (m:Int),(bN k b out m).2≠0→(bN k b out m).1=[]
 |0,_,_,_,h=>absurd rfl h
 |k+1,b,out,m,h=>by
  unfold bN at h ⊢
  split
  ·rename_i h1;rw[if_pos h1] at h;exact absurd rfl h
  ·rename_i h1
   rw[if_neg h1] at h
   split
   ·rfl
   ·rename_i h2
    rw[if_neg h2] at h
    split
    ·rfl
    ·rename_i h3
     rw[if_neg h3] at h
     exact iM k _ _ _ h
theorem xW:∀(k:Nat) (b out:LI) (m:Int),(out.length:Int)≤m→((bN k b out m).1.length:Int)≤m
 |0,_,_,_,h=>h
 |k+1,b,out,m,h=>by
  have h0:((([]:LI),(0:Int)).1.length:Int)≤m:=by simp;omega
  unfold bN
  split
  ·exact h
  ·split
   ·simp;omega
   ·split
    ·simp;omega
    ·rename_i h3
     exact xW k _ _ _ (oI (by simpa using h3))
theorem fp (b:LI)(m:Int):av b m=bN (b.length+1) b [] (aF m):=by
 unfold av
 split
 ·rename_i h
  subst h
  rfl
 ·rfl
def bh (b:LI):LI×Int:=
 if (ab 10 1 b 0).2.2≠0 then ([],(ab 10 1 b 0).2.2)
 else if ak (ab 10 1 b 0).1<0 then ([],5)
 else if 32768<ak (ab 10 1 b 0).1 then ([],4)
 else if (av (b.drop (ab 10 1 b 0).2.1.toNat) (ak (ab 10 1 b 0).1)).2=4∨(av (b.drop (ab 10 1 b 0).2.1.toNat) (ak (ab 10 1 b 0).1)).2=0∧((av (b.drop (ab 10 1 b 0).2.1.toNat) (ak (ab 10 1 b 0).1)).1.length:Int)<ak (ab 10 1 b 0).1 then ([],60)
 else if (av (b.drop (ab 10 1 b 0).2.1.toNat) (ak (ab 10 1 b 0).1)).2≠0 then ([],(av (b.drop (ab 10 1 b 0).2.1.toNat) (ak (ab 10 1 b 0).1)).2)
 else ((av (b.drop (ab 10 1 b 0).2.1.toNat) (ak (ab 10 1 b 0).1)).1,0)
abbrev kH:Io:=⟨[BY],[],[],[dB],none⟩
def D4 (d:kH.In):Tr kH.Res:=.ret (.ret ((ka d.1.1,()),()))
abbrev GC:List (Nat×Hc):=[]
def Ph:Hd:=bI GC
def HF:Lp:=bQ []
def wO (a0:LI)(a1 a2:Int):Option kH.Res:=bif a1 != 0 then oR ((true,()),()) else oR ((a2 != 0,()),())
theorem Nx (a0:LI)(a1 a2:Int):Io.run tt Ph dr HF kH Tryz.f165 (((a0,a1,a2,()),()),())=wO a0 a1 a2:=by kernel_rfl
theorem PQ:HcOk prog 165 (ah kH D4):=by
 refine bY (cs:=GC) HcsOk.nil (lp:=HF) (fn:=Tryz.f165) kH (.done (by kernel_rfl)) D4 ?_
 rintro ⟨⟨⟨(a0:LI),(a1:Int),(a2:Int),⟨⟩⟩,⟨⟩⟩,⟨⟩⟩ out hw ho
 cases ho
 refine (Nx a0 a1 a2).trans ?_
 show _=oR ((ka (a0,a1,a2,()),()),())
 unfold wO
 show _=oR (((if a1≠0 then true else decide (a2≠0)),()),())
 by_cases h1:a1=0
 ·refine bF (by simp[h1]) ?_
  rw[if_neg (by simp[h1])]
  by_cases h2:a2=0 <;> simp[h2]
 ·refine bT (by simp[h1]) ?_
  rw[if_pos h1]
abbrev jj:Io:=⟨[BY],[],[],[dB],none⟩
def yB (d:jj.In):Tr jj.Res:=.ret (.ret ((gA d.1.1,()),()))
abbrev GE:List (Nat×Hc):=[(165,ah kH D4)]
def Pi:Hd:=bI GE
def HG:Lp:=bQ []
def wQ (a0:LI)(a1 a2:Int):Option jj.Res:=bif !ka (a0,a1,a2,()) then bif decide ((↑a0.length:Int)<1) then oR ((true,()),()) else oR ((decide (128<(↑a0.length:Int)),()),()) else bif decide (0<(↑a0.length:Int)) then oR ((true,()),()) else bif decide (a1<1) then oR ((true,()),()) else bif decide (4096<a1) then oR ((true,()),()) else bif decide (a2<4) then oR ((true,()),()) else oR ((decide (131<a2),()),())
theorem Nz (a0:LI)(a1 a2:Int):Io.run tt Pi dr HG jj Tryz.f164 (((a0,a1,a2,()),()),())=wQ a0 a1 a2:=by kernel_rfl
theorem H5:HcOk prog 164 (ah jj yB):=by
 refine bY (cs:=GE) (.cons PQ .nil) (lp:=HG) (fn:=Tryz.f164) jj (.done (by kernel_rfl)) yB ?_
 rintro ⟨⟨⟨(a0:LI),(a1:Int),(a2:Int),⟨⟩⟩,⟨⟩⟩,⟨⟩⟩ out hw ho
 cases ho
 refine (Nz a0 a1 a2).trans ?_
 show _=oR ((gA (a0,a1,a2,()),()),())
 unfold wQ
 have e:gA (a0,a1,a2,())=if ka (a0,a1,a2,())=true then decide (0<a0.length) || (decide (a1<1) || (decide (4096<a1) || (decide (a2<4) || decide (131<a2)))) else decide (a0.length<1) || decide (128<a0.length):=rfl
 rw[e]
 cases ka (a0,a1,a2,()) with
 |false=>
  refine (aa rfl _ _).trans ?_
  rw[if_neg (by decide)]
  by_cases h:a0.length<1
  ·refine bT (by simp;omega) ?_
   simp[h]
  ·refine bF (decide_eq_false (show ¬((a0.length:Int)<1) by omega)) ?_
   have e2:decide (128<(a0.length:Int))=decide (128<a0.length):=by by_cases h2:128<a0.length <;> simp[h2] <;> omega
   simp only[h,decide_false,Bool.false_or,e2]
 |true=>
  refine (ae rfl _ _).trans ?_
  rw[if_pos rfl]
  by_cases h:0<a0.length
  ·refine bT (by simp;omega) ?_
   simp[h]
  ·refine bF (decide_eq_false (show ¬(0<(a0.length:Int)) by omega)) ?_
   by_cases h1:a1<1
   ·refine bT (by simpa using h1) ?_
    simp[h1]
   ·refine bF (by simpa using h1) ?_
    by_cases h2:4096<a1
    ·refine bT (by simpa using h2) ?_
     simp[h2]
    ·refine bF (by simpa using h2) ?_
     by_cases h3:a2<4
     ·refine bT (by simpa using h3) ?_
      simp[h3]
     ·refine bF (by simpa using h3) ?_
      simp only[h,h1,h2,h3,decide_false,Bool.false_or]
abbrev kJ:Io:=⟨[dL],[],[],[BY,dI,dI],none⟩
def D6 (d:kJ.In):Tr kJ.Res:=.ite (decide (1≤d.1.1.length)) (.ret (.ret (((aV d.1.1).1,(aV d.1.1).2.1,(aV d.1.1).2.2,()),()))) .no
abbrev GF:List (Nat×Hc):=[(164,ah jj yB)]
def Pj:Hd:=bI GF
def HH:Lp:=bQ []
def wR (a0:LI):Option kJ.Res:=bif decide (0≤0)&&decide (0<(↑a0.length:Int)) then bif decide (i64.wrap (a0.getD (Int.toNat 0) 0)<128) then bif decide ((↑a0.length:Int)<i64.wrap (i64.wrap (a0.getD (Int.toNat 0) 0)+2)) then oR ((([],0,0,()),0,1,()),()) else bif decide (0≤1)&&(decide (1≤i64.wrap (i64.wrap (a0.getD (Int.toNat 0) 0)+2))&&decide (i64.wrap (i64.wrap (a0.getD (Int.toNat 0) 0)+2)≤(↑a0.length:Int))) then oR (((List.drop (Int.toNat 1) (List.take (i64.wrap (i64.wrap (a0.getD (Int.toNat 0) 0)+2)).toNat a0),0,0,()),i64.wrap (i64.wrap (a0.getD (Int.toNat 0) 0)+2),0,()),()) else none else bif decide ((↑a0.length:Int)<3) then oR ((([],0,0,()),0,1,()),()) else bif decide (0≤1)&&decide (1<(↑a0.length:Int)) then bif decide (0≤2)&&decide (2<(↑a0.length:Int)) then bif gA ([],ke i64 (ft i64 (i64.wrap (a0.getD (Int.toNat 1) 0)) 8) (i64.wrap (a0.getD (Int.toNat 2) 0)),i64.wrap (i64.wrap (i64.wrap (a0.getD (Int.toNat 0) 0) - 128)+4),()) then oR ((([],0,0,()),0,50,()),()) else oR ((([],ke i64 (ft i64 (i64.wrap (a0.getD (Int.toNat 1) 0)) 8) (i64.wrap (a0.getD (Int.toNat 2) 0)),i64.wrap (i64.wrap (i64.wrap (a0.getD (Int.toNat 0) 0) - 128)+4),()),3,0,()),()) else none else none else none
theorem NA (a0:LI):Io.run tt Pj dr HH kJ Tryz.f167 ((a0,()),())=wR a0:=by kernel_rfl
theorem PS:HcOk prog 167 (ah kJ D6):=by
 refine bY (cs:=GF) (.cons H5 .nil) (lp:=HH) (fn:=Tryz.f167) kJ (.done (by kernel_rfl)) D6 ?_
 rintro ⟨⟨(b:LI),⟨⟩⟩,⟨⟩⟩ out hw ho
 obtain ⟨hg,ho⟩:=Tr.guard ho
 have hg:1≤b.length:=of_decide_eq_true hg
 cases ho
 refine (NA b).trans ?_
 show _=oR (((aV b).1,(aV b).2.1,(aV b).2.2,()),())
 have hb:Ty.wf bs b:=hw.1.1
 have hbl:b.length≤maxLen:=hb.1
 rw[aP] at hbl
 have c0:=t5 hb 0
 have c1:=t5 hb 1
 have c2:=t5 hb 2
 unfold wR
 simp only[show Int.toNat 0=0 from rfl,show Int.toNat 1=1 from rfl,show Int.toNat 2=2 from rfl]
 refine bT (by simp;omega) ?_
 have w0:i64.wrap (b.getD 0 0)=b.getD 0 0:=af (by omega) (by omega)
 have w1:i64.wrap (b.getD 1 0)=b.getD 1 0:=af (by omega) (by omega)
 have w2:i64.wrap (b.getD 2 0)=b.getD 2 0:=af (by omega) (by omega)
 rw[w0,w1,w2,Sg c1.1 c1.2 c2.1 c2.2,af (n:=b.getD 0 0+2) (by omega) (by omega),af (n:=b.getD 0 0 - 128) (by omega) (by omega),af (n:=b.getD 0 0 - 128+4) (by omega) (by omega),show b.getD 0 0 - 128+4=b.getD 0 0 - 124 by omega]
 unfold aV
 generalize b.getD 0 0=c at *
 generalize b.getD 1 0=x at *
 generalize b.getD 2 0=y at *
 by_cases h1:c<128
 ·refine bT (by simpa using h1) ?_
  rw[if_pos h1]
  by_cases h2:(b.length:Int)<c+2
  ·refine bT (by simpa using h2) ?_
   rw[if_pos h2]
   rfl
  ·refine bF (by simpa using h2) ?_
   refine bT (by simp;omega) ?_
   rw[if_neg h2,List.drop_take,show (c+2).toNat - 1=(c+1).toNat by omega]
 ·refine bF (by simpa using h1) ?_
  rw[if_neg h1]
  by_cases h2:(b.length:Int)<3
  ·refine bT (by simpa using h2) ?_
   rw[if_pos h2]
   rfl
  ·refine bF (by simpa using h2) ?_
   refine bT (by simp;omega) ?_
   refine bT (by simp;omega) ?_
   rw[if_neg h2]
   have hi:gA ([],x*256+y,c - 124,())=decide (x*256+y<1∨4096<x*256+y):=by
    have hc:ka ([],x*256+y,c - 124,())=true:=by
     show (if x*256+y≠0 then true else decide (c - 124≠0))=true
     split
     ·rfl
     ·exact decide_eq_true (by omega)
    show (if ka ([],x*256+y,c - 124,())=true then decide (0<0) || (decide (x*256+y<1) || (decide (4096<x*256+y) || (decide (c - 124<4) || decide (131<c - 124)))) else _)=_
    rw[if_pos hc]
    have g1:decide (c - 124<4)=false:=decide_eq_false (by omega)
    have g2:decide (131<c - 124)=false:=decide_eq_false (by omega)
    rw[g1,g2]
    simp
   by_cases h3:x*256+y<1∨4096<x*256+y
   ·refine bT (by rw[hi];exact decide_eq_true h3) ?_
    rw[if_pos h3]
    rfl
   ·refine bF (by rw[hi];exact decide_eq_false h3) ?_
    rw[if_neg h3]
abbrev f6:Io:=⟨[dO,BY,dI],[],[],[dO,dI],none⟩
def tz (d:f6.In):Tr f6.Res:=.ite (decide (d.1.1.length≤4294960000)&&(decide (d.1.2.1.1.length≤4294960000)&&decide ((d.1.2.2.1:Int)≤(32768:Int)))) (.ret (.ret (((be d.1.1 d.1.2.1 d.1.2.2.1).1,(be d.1.1 d.1.2.1 d.1.2.2.1).2,()),()))) .no
abbrev xj:List (Nat×Hc):=[(164,ah jj yB)]
def xA:Hd:=bI xj
abbrev cE:Lo:=⟨⟨(.one (.onl 5 (Ty.int u8) 1)::.any::bk (.one (.ptr 4 0)::ai (co (bx (.one hI::.one hI::co (bx (bk []))))))),[none,none,none,none,some [.hol (.sl 5 (Ty.int u8)),hI,hI]]⟩,[(.exit 0,⟨(.one (.onl 5 (Ty.int u8) 1)::ai (ai (ai []))),[]⟩)]⟩
def ic (d:cE.st.den):Tr (ap cE.xs):=
 .ite (decide (d.1.2.2.1=0)&&(decide ((0:Int)≤d.1.2.1)&&((decide (d.1.2.1=0) || (decide ((1:Int)≤d.2.1.2.1)&&decide (d.2.1.2.1≤(d.1.1.length:Int))))&&decide ((d.1.1.length:Int)+d.1.2.1≤4294967296)))) (.ret (.ret ((),((fM d.2.1.2.1.toNat d.1.2.1.toNat d.1.1,()),())))) .no
def mR:Lp:=bQ [(8,aG cE ic)]
def gg {R:Type}(h5:LI)(h6 h7:Int)(h8:LI)(h9 h10:Int)(next:LI→Int→Int→LI→Int→Int→Option R)(out:ap cE.xs→Option R):Option R:=bif decide (h7<h6) then bif decide (0≤i64.wrap ((↑h5.length:Int) - h9))&&decide (i64.wrap ((↑h5.length:Int) - h9)<(↑h5.length:Int)) then bif decide (h5.length+1≤4294967296) then next (h5++[h5.getD (i64.wrap ((↑h5.length:Int) - h9)).toNat 0]) (h6) (i64.wrap (h7+1)) (h8) (h9) (h10) else none else none else out (.ret ((),((h5,()),())))
def jq (n:Nat)(h5:LI)(h6 h7:Int)(h8:LI)(h9 h10:Int):Option (ap cE.xs):=fR tt xA dr mR 0 Tryz.f168 (bX Tryz.f168 0) n (cE.st.mk' ((h5,(h6,(h7,()))),((h8,(h9,(h10,()))),()))) (bC cE.xs)
theorem mo (n:Nat)(h5:LI)(h6 h7:Int)(h8:LI)(h9 h10:Int):jq (n+1) h5 h6 h7 h8 h9 h10=gg h5 h6 h7 h8 h9 h10 (jq n) some:=by kernel_rfl
theorem v7 (lit:LI)(len:Int){d:Nat}:∀(m k i:Nat) (out:LI),m<k→(m=0∨1≤d∧d≤out.length)→out.length+m≤4294967296→i+m≤4294967296→
  jq k out ((i+m:Nat):Int) i lit d len=some (.ret ((),((fM d m out,()),()))):=by
 intro m
 induction m with
 |zero=>
  intro k i out h1 h2 h3 h4
  obtain ⟨k,rfl⟩:∃j,k=j+1:=⟨k - 1,by omega⟩
  rw[mo]
  unfold gg
  refine bF (by simp) ?_
  rfl
 |succ m ih=>
  intro k i out h1 h2 h3 h4
  obtain ⟨k,rfl⟩:∃j,k=j+1:=⟨k - 1,by omega⟩
  rw[mo]
  unfold gg
  have h2:1≤d∧d≤out.length:=by rcases h2 with h | h;omega;exact h
  rw[af (n:=(out.length:Int) - (d:Int)) (by omega) (by omega),af (n:=(i:Int)+1) (by omega) (by omega),show ((out.length:Int) - (d:Int)).toNat=out.length - d by omega]
  refine bT (by simp;omega) ?_
  refine bT (by simp;omega) ?_
  refine bT (by simp;omega) ?_
  have:=ih k (i+1) (out++[out.getD (out.length - d) 0]) (by omega) (.inr ⟨h2.1,by simp;omega⟩) (by simp;omega) (by omega)
  rw[show ((i+1+m:Nat):Int)=((i+(m+1):Nat):Int) by omega] at this
  exact this
def ry (a0 a1:LI)(a2 a3 a4:Int):Option f6.Res:=bif gA (a1,a2,a3,()) then oR (([],50,()),()) else bif decide ((↑a0.length:Int)<a2) then oR (([],50,()),()) else bif decide (a4<i64.wrap (i64.wrap ((↑a0.length:Int)+(↑a1.length:Int))+a3)) then oR (([],4,()),()) else bif decide (a0.length+a1.length≤4294967296) then (ic ((a0++a1,(a3,(0,()))),((a1,(a2,(a3,()))),()))).run fun y=>match y with | .ret ((),((x18,()),()))=>(oR ((x18,0,()),())) else none
theorem Fe (a0 a1:LI)(a2 a3 a4:Int):Io.run tt xA dr mR f6 Tryz.f168 ((a0,(a1,a2,a3,()),a4,()),())=ry a0 a1 a2 a3 a4:=by kernel_rfl
theorem rI:HcsOk prog xj:=.cons H5 .nil
theorem Ja:HcOk prog 168 (ah f6 tz):=by
 refine bY rI (lp:=mR) (fn:=Tryz.f168) f6 (.step (h0:=aG cE ic) (by kernel_rfl) (f9 rI (lp:=mR) (fn:=Tryz.f168) (.done (by kernel_rfl)) cE ic ?_) (.done (by kernel_rfl))) tz ?_
 ·rintro ⟨⟨(out:LI),(n:Int),(i:Int),⟨⟩⟩,⟨⟨(lit:LI),(d:Int),(len:Int),⟨⟩⟩,⟨⟩⟩⟩ y hw hy
  obtain ⟨hg,hy⟩:=Tr.guard hy
  simp only[zA,Bool.or_eq_true,zB] at hg
  obtain ⟨h1,h2,h3,h4⟩:=hg
  have h1:i=0:=h1
  have h2:0≤n:=h2
  have h3:n=0∨1≤d∧d≤(out.length:Int):=h3
  have h4:(out.length:Int)+n≤4294967296:=h4
  subst h1
  obtain ⟨m,rfl⟩:=aB h2
  rcases h3 with h3 | h3
  ·have h3:m=0:=by omega
   subst h3
   refine ⟨1,?_⟩
   rw[← hy]
   show jq (0+1) out ((0:Nat):Int) 0 lit d len=_
   rw[mo]
   unfold gg
   exact ae (by simp) _ _
  ·obtain ⟨d,rfl⟩:=aB (show 0≤d by omega)
   have:=v7 lit len (d:=d) m (m+1) 0 out (by omega) (.inr ⟨by omega,by omega⟩) (by omega) (by omega)
   rw[Nat.zero_add] at this
   refine ⟨m+1,this.trans ?_⟩
   rw[← hy];rfl
 ·rintro ⟨⟨(out:LI),⟨(lit:LI),(d:Int),(len:Int),⟨⟩⟩,(m:Int),⟨⟩⟩,⟨⟩⟩ o hw ho
  obtain ⟨hg,ho⟩:=Tr.guard ho
  simp only[zA,zB] at hg
  obtain ⟨h1,h2,h3⟩:=hg
  have h1:out.length≤4294960000:=h1
  have h2:lit.length≤4294960000:=h2
  have h3:m≤(32768:Int):=h3
  cases ho
  refine (Fe out lit d len m).trans ?_
  show _=oR (((be out (lit,d,len,()) m).1,(be out (lit,d,len,()) m).2,()),())
  unfold ry be
  cases hi:gA (lit,d,len,()) with
  |true=>
   refine (aa rfl _ _).trans ?_
   rw[if_pos (.inl rfl)]
  |false=>
   obtain ⟨i1,i2⟩:=LX hi
   refine (ae rfl _ _).trans ?_
   by_cases h4:(out.length:Int)<d
   ·refine bT (by simpa using h4) ?_
    rw[if_pos (.inr h4)]
   ·refine bF (by simpa using h4) ?_
    rw[if_neg (by rintro (h | h);cases h;exact h4 h),af (n:=(out.length:Int)+(lit.length:Int)) (by omega) (by omega),af (n:=(out.length:Int)+(lit.length:Int)+len) (by omega) (by omega)]
    by_cases h5:m<(out.length:Int)+(lit.length:Int)+len
    ·refine bT (by simpa using h5) ?_
     rw[if_pos h5]
    ·refine bF (by simpa using h5) ?_
     refine bT (by simp;omega) ?_
     rw[if_neg h5]
     have hg:(decide ((0:Int)=0)&&(decide ((0:Int)≤len)&&((decide (len=0) || (decide ((1:Int)≤d)&&decide (d≤((out++lit).length:Int))))&&decide (((out++lit).length:Int)+len≤4294967296))))=true:=by
      simp only[zA,Bool.or_eq_true,zB,zH]
      refine ⟨trivial,i1.1,?_,by omega⟩
      rcases i2 with h | h
      ·exact .inl h.1
      ·exact .inr ⟨h.2.1,by omega⟩
     have e:ic ((out++lit,(len,(0,()))),((lit,(d,(len,()))),()))=.ite true (.ret (.ret ((),((fM d.toNat len.toNat (out++lit),()),())))) .no:=congrArg (fun c=>Tr.ite c _ _) hg
     rw[e]
     rfl
abbrev f5:Io:=⟨[dI],[],[],[dI],none⟩
def tw (d:f5.In):Tr f5.Res:=.ret (.ret ((aF d.1.1,()),()))
abbrev xi:List (Nat×Hc):=[]
def IQ:Hd:=bI xi
def xH:Lp:=bQ []
def Bs (a0:Int):Option f5.Res:=oR ((np (dK a0 0) 32768,()),())
theorem Fd (a0:Int):Io.run tt IQ dr xH f5 Tryz.f169 ((a0,()),())=Bs a0:=by kernel_rfl
theorem I9:HcOk prog 169 (ah f5 tw):=by
 refine bY (cs:=xi) HcsOk.nil (lp:=xH) (fn:=Tryz.f169) f5 (.done (by kernel_rfl)) tw ?_
 rintro ⟨⟨(m:Int),⟨⟩⟩,⟨⟩⟩ out hw ho
 cases ho
 exact Fd m
abbrev kI:Io:=⟨[dL,dI],[],[],[dO,dI],none⟩
def D5 (d:kI.In):Tr kI.Res:=.ite (decide (d.1.1.length≤4294960000)) (.ret (.ret (((av d.1.1 d.1.2.1).1,(av d.1.1 d.1.2.1).2,()),()))) .no
abbrev GD:List (Nat×Hc):=[(167,ah kJ D6),(169,ah f5 tw),(168,ah f6 tz)]
def G7:Hd:=bI GD
abbrev ez:Lo:=⟨⟨(.one (.hol (.sl 5 (Ty.int u8)))::.one hI::bx (.one (.onl 5 (Ty.int u8) 13)::.any::ai (co (bx (bk []))))),[]⟩,[(.ret,⟨(bx (.one (.onl 5 (Ty.int u8) 9)::.one hI::ai (ai ([])))),[]⟩),(.exit 0,⟨(bx (bk (.one (.onl 5 (Ty.int u8) 13)::.any::ai (co (bx (bk [])))))),[]⟩)]⟩
def lH (d:ez.st.den):Tr (ap ez.xs):=
 .ite (decide (d.1.1.length≤4294960000)&&decide (d.1.2.2.1.length≤32768)) (.ite (decide ((bN (d.1.1.length+1) d.1.1 d.1.2.2.1 (aF d.1.2.1)).2=0)) (.ret (.pan (.ret ((),(((bN (d.1.1.length+1) d.1.1 d.1.2.2.1 (aF d.1.2.1)).1,()),()))))) (.ret (.ret ((),(([],(bN (d.1.1.length+1) d.1.1 d.1.2.2.1 (aF d.1.2.1)).2,()),()))))) .no
def s4:Lp:=bQ [(3,aG ez lH)]
def se {R:Type}(h2:LI)(h3:Int)(h4:LI)(next:LI→Int→LI→Option R)(out:ap ez.xs→Option R):Option R:=bif decide (0<(↑h2.length:Int)) then bif decide (1≤h2.length) then bif (aV h2).2.2 != 0 then out (.ret ((),(([],((aV h2).2.2,())),()))) else bif decide (h4.length≤4294960000)&&(decide (List.length (aV h2).1.1≤4294960000)&&decide (aF h3≤32768)) then bif (be h4 (aV h2).1 (aF h3)).2 != 0 then out (.ret ((),(([],((be h4 (aV h2).1 (aF h3)).2,())),()))) else bif decide (0≤(aV h2).2.1)&&(decide ((aV h2).2.1≤(↑h2.length:Int))&&decide ((↑h2.length:Int)≤(↑h2.length:Int))) then next (List.drop (aV h2).2.1.toNat (List.take (↑h2.length:Int).toNat h2)) (h3) ((be h4 (aV h2).1 (aF h3)).1) else none else none else none else out (.pan (.ret ((),((h4,()),()))))
def qP (n:Nat)(h2:LI)(h3:Int)(h4:LI):Option (ap ez.xs):=fR tt G7 dr s4 0 Tryz.f136 (bX Tryz.f136 0) n (ez.st.mk' ((h2,(h3,(h4,()))),())) (bC ez.xs)
theorem JP (n:Nat)(h2:LI)(h3:Int)(h4:LI):qP (n+1) h2 h3 h4=se h2 h3 h4 (qP n) some:=by kernel_rfl
theorem CL (m:Int):∀(k:Nat) (b out:LI),(∀c∈b,0≤c∧c≤255)→b.length<k→b.length≤4294960000→out.length≤32768→
  qP k b m out=if (bN k b out (aF m)).2=0 then some (.pan (.ret ((),(((bN k b out (aF m)).1,()),())))) else some (.ret ((),(([],((bN k b out (aF m)).2,())),()))):=by
 intro k
 induction k with
 |zero=>intro b out _ h;omega
 |succ k ih=>
  intro b out hb h1 h2 h3
  rw[JP]
  unfold se
  by_cases hne:b=[]
  ·subst hne
   refine (ae rfl _ _).trans ?_
   rfl
  ·have hp:0<b.length:=List.length_pos_iff.2 hne
   have e:bN (k+1) b out (aF m)=if (aV b).2.2≠0 then ([],(aV b).2.2) else if (be out (aV b).1 (aF m)).2≠0 then ([],(be out (aV b).1 (aF m)).2) else bN k (b.drop (aV b).2.1.toNat) (be out (aV b).1 (aF m)).1 (aF m):=by
    rw[bN,if_neg hne]
   have hlit:=x4 b
   have hbd:=oH m
   refine bT (by simpa using hp) ?_
   refine bT (by simp;omega) ?_
   rw[e]
   by_cases h4:(aV b).2.2=0
   ·have ho:=DD hb h4 hne
    refine bF (by simpa using h4) ?_
    refine bT (by simp only[zA,zB];omega) ?_
    rw[if_neg (au h4)]
    by_cases h5:(be out (aV b).1 (aF m)).2=0
    ·have hle:=oI h5
     refine bF (by simpa using h5) ?_
     refine bT (by simp only[zA,zB];omega) ?_
     rw[if_neg (au h5),zG,List.take_length]
     exact ih _ _ (fun c hc=>hb c (List.mem_of_mem_drop hc)) (by simp;omega) (by simp;omega) (by omega)
    ·refine bT (by simpa using h5) ?_
     rw[if_pos h5,if_neg h5]
   ·refine bT (by simpa using h4) ?_
    rw[if_pos h4,if_neg h4]
def wP (a0:LI)(a1:Int):Option kI.Res:=(lH ((a0,(a1,([],()))),())).run fun y=>match y with | .ret ((),((x13,x14,()),()))=>(oR ((x13,x14,()),())) | .pan (.ret ((),((x15,()),())))=>(oR ((x15,0,()),()))
theorem Ny (a0:LI)(a1:Int):Io.run tt G7 dr s4 kI Tryz.f136 ((a0,a1,()),())=wP a0 a1:=by kernel_rfl
theorem xu:HcsOk prog GD:=.cons PS (.cons I9 (.cons Ja .nil))
theorem PR:HcOk prog 136 (ah kI D5):=by
 refine bY xu (lp:=s4) (fn:=Tryz.f136) kI (.step (h0:=aG ez lH) (by kernel_rfl) (f9 xu (lp:=s4) (fn:=Tryz.f136) (.done (by kernel_rfl)) ez lH ?_) (.done (by kernel_rfl))) D5 ?_
 ·rintro ⟨⟨(b:LI),(m:Int),(out:LI),⟨⟩⟩,⟨⟩⟩ y hw hy
  obtain ⟨hg,hy⟩:=Tr.guard hy
  simp only[zA,zB] at hg
  refine ⟨b.length+1,(CL m (b.length+1) b out (dN hw.1.1) (by omega) hg.1 hg.2).trans ?_⟩
  rw[← hy]
  simp only[Tr.val_ite,zB,Tr.val_ret]
 ·rintro ⟨⟨(b:LI),(m:Int),⟨⟩⟩,⟨⟩⟩ o hw ho
  obtain ⟨hg,ho⟩:=Tr.guard ho
  have hg:b.length≤4294960000:=of_decide_eq_true hg
  cases ho
  refine (Ny b m).trans ?_
  show _=oR (((av b m).1,(av b m).2,()),())
  unfold wP lH
  rw[fp]
  refine bT (by simp only[zA,zB];exact ⟨hg,by simp⟩) ?_
  by_cases h:(bN (b.length+1) b [] (aF m)).2=0
  ·refine bT (decide_eq_true h) ?_
   rw[h]
   rfl
  ·refine bF (decide_eq_false h) ?_
   rw[iM _ _ _ _ h]
   rfl
def vv (t:OF):Bool:=if t.2.1=0∧t.2.2.1=0∧0<t.1.length∧t.1.length≤128 then true else false
def lc (t:OF):Bool:=if t.1.length=0∧1≤t.2.1∧t.2.1≤4096∧4≤t.2.2.1∧t.2.2.1≤131 then true else false
def dv (b:LI)(p:Int):OF×Int×Int:=
 if p<0∨(b.length:Int)≤p then (eF,0,1)
 else if (aV (b.drop p.toNat)).2.2≠0 then (eF,0,(aV (b.drop p.toNat)).2.2)
 else ((aV (b.drop p.toNat)).1,p+(aV (b.drop p.toNat)).2.1,0)
abbrev kL:Io:=⟨[BY],[],[],[dB],none⟩
def D8 (d:kL.In):Tr kL.Res:=.ret (.ret ((vv d.1.1,()),()))
abbrev GI:List (Nat×Hc):=[]
def Pl:Hd:=bI GI
def HJ:Lp:=bQ []
def wU (a0:LI)(a1 a2:Int):Option kL.Res:=bif a1 == 0 then bif a2 == 0 then bif decide (0<(↑a0.length:Int)) then oR ((decide ((↑a0.length:Int)≤128),()),()) else oR ((false,()),()) else oR ((false,()),()) else oR ((false,()),())
theorem ND (a0:LI)(a1 a2:Int):Io.run tt Pl dr HJ kL Tryz.f157 (((a0,a1,a2,()),()),())=wU a0 a1 a2:=by kernel_rfl
theorem PU:HcOk prog 157 (ah kL D8):=by
 refine bY (cs:=GI) HcsOk.nil (lp:=HJ) (fn:=Tryz.f157) kL (.done (by kernel_rfl)) D8 ?_
 rintro ⟨⟨⟨(a0:LI),(a1:Int),(a2:Int),⟨⟩⟩,⟨⟩⟩,⟨⟩⟩ out hw ho
 cases ho
 refine (ND a0 a1 a2).trans ?_
 show _=oR (((if a1=0∧a2=0∧0<a0.length∧a0.length≤128 then true else false),()),())
 unfold wU
 by_cases h1:a1=0
 ·refine bT (by simp[h1]) ?_
  by_cases h2:a2=0
  ·refine bT (by simp[h2]) ?_
   by_cases h3:0<a0.length
   ·refine bT (decide_eq_true (show 0<(a0.length:Int) by omega)) ?_
    by_cases h4:a0.length≤128
    ·rw[if_pos ⟨h1,h2,h3,h4⟩,show decide ((a0.length:Int)≤128)=true from decide_eq_true (by omega)]
    ·rw[if_neg (fun h=>h4 h.2.2.2),show decide ((a0.length:Int)≤128)=false from decide_eq_false (by omega)]
   ·refine bF (decide_eq_false (show ¬ 0<(a0.length:Int) by omega)) ?_
    rw[if_neg (fun h=>h3 h.2.2.1)]
  ·refine bF (by simp[h2]) ?_
   rw[if_neg (fun h=>h2 h.2.1)]
 ·refine bF (by simp[h1]) ?_
  rw[if_neg (fun h=>h1 h.1)]
abbrev jk:Io:=⟨[BY],[],[],[dB],none⟩
def yC (d:jk.In):Tr jk.Res:=.ret (.ret ((lc d.1.1,()),()))
abbrev GG:List (Nat×Hc):=[]
def Pk:Hd:=bI GG
def HI:Lp:=bQ []
def wS (a0:LI)(a1 a2:Int):Option jk.Res:=bif decide (0<(↑a0.length:Int)) then oR ((false,()),()) else bif decide (a1<1) then oR ((false,()),()) else bif decide (4096<a1) then oR ((false,()),()) else bif decide (4≤a2) then oR ((decide (a2≤131),()),()) else oR ((false,()),())
theorem NB (a0:LI)(a1 a2:Int):Io.run tt Pk dr HI jk Tryz.f158 (((a0,a1,a2,()),()),())=wS a0 a1 a2:=by kernel_rfl
theorem H6:HcOk prog 158 (ah jk yC):=by
 refine bY (cs:=GG) HcsOk.nil (lp:=HI) (fn:=Tryz.f158) jk (.done (by kernel_rfl)) yC ?_
 rintro ⟨⟨⟨(a0:LI),(a1:Int),(a2:Int),⟨⟩⟩,⟨⟩⟩,⟨⟩⟩ out hw ho
 cases ho
 refine (NB a0 a1 a2).trans ?_
 show _=oR (((if a0.length=0∧1≤a1∧a1≤4096∧4≤a2∧a2≤131 then true else false),()),())
 unfold wS
 by_cases h0:a0.length=0
 ·refine bF (decide_eq_false (show ¬ 0<(a0.length:Int) by omega)) ?_
  by_cases h1:a1<1
  ·refine bT (decide_eq_true h1) ?_
   rw[if_neg (by omega)]
  ·refine bF (decide_eq_false h1) ?_
   by_cases h2:4096<a1
   ·refine bT (decide_eq_true h2) ?_
    rw[if_neg (by omega)]
   ·refine bF (decide_eq_false h2) ?_
    by_cases h3:4≤a2
    ·refine bT (decide_eq_true h3) ?_
     by_cases h4:a2≤131
     ·rw[if_pos (by omega),decide_eq_true h4]
     ·rw[if_neg (by omega),decide_eq_false h4]
    ·refine bF (decide_eq_false h3) ?_
     rw[if_neg (by omega)]
 ·refine bT (decide_eq_true (show 0<(a0.length:Int) by omega)) ?_
  rw[if_neg (by omega)]
abbrev kM:Io:=⟨[dL,dI],[],[],[BY,dI,dI],none⟩
def D9 (d:kM.In):Tr kM.Res:=.ite (decide (d.1.1.length≤4294960000)) (.ret (.ret (((dv d.1.1 d.1.2.1).1,(dv d.1.1 d.1.2.1).2.1,(dv d.1.1 d.1.2.1).2.2,()),()))) .no
abbrev GJ:List (Nat×Hc):=[(158,ah jk yC)]
def G9:Hd:=bI GJ
abbrev di:Lo:=⟨⟨(.one (.hol (.sl 5 (Ty.int u8)))::.one hI::bk (.one (.ptr 4 0)::bk (.one hI::.one (.onl 5 (Ty.int u8) 17)::.one hI::ai (ai (ai (ai (co (bx (bk []))))))))),[none,none,none,none,some [.onl 5 (Ty.int u8) 2050,hI,hI]]⟩,[(.exit 0,⟨(.any::.one hI::bk (.one (.ptr 4 0)::bk (.one hI::.one (.onl 5 (Ty.int u8) 17)::.any::ai (ai (ai (ai (co (bx (bk []))))))))),[none,none,none,none,some [.onl 5 (Ty.int u8) 2050,hI,hI]]⟩)]⟩
def gT (d:di.st.den):Tr (ap di.xs):=
 .ite (decide (d.1.2.2.2.2.1=0)&&(decide (d.1.2.2.2.1.length=0)&&((decide ((0:Int)≤d.1.2.1)&&decide (d.1.1.length≤4294960000))&&(decide ((0:Int)≤d.1.2.2.1)&&decide (d.1.2.1+d.1.2.2.1+2≤(d.1.1.length:Int))))))
  (.ret (.ret ((),((d.1.2.1,d.1.2.2.1,(d.1.1.drop (d.1.2.1+1).toNat).take (d.1.2.2.1+1).toNat,()),(d.2.1,()))))) .no
def s6:Lp:=bQ [(10,aG di gT)]
def ql {R:Type}(h2:LI)(h3 h4:Int)(h5:LI)(h6:Int)(h7:LI)(h8 h9:Int)(next:LI→Int→Int→LI→Int→LI→Int→Int→Option R)(out:ap di.xs→Option R):Option R:=bif decide (h6≤h4) then bif decide (0≤i64.wrap (i64.wrap (h3+1)+h6))&&decide (i64.wrap (i64.wrap (h3+1)+h6)<(↑h2.length:Int)) then bif decide (h5.length+1≤4294967296) then next (h2) (h3) (h4) (h5++[h2.getD (i64.wrap (i64.wrap (h3+1)+h6)).toNat 0]) (i64.wrap (h6+1)) (h7) (h8) (h9) else none else none else out (.ret ((),((h3,(h4,(h5,()))),((h7,(h8,(h9,()))),()))))
def ox (n:Nat)(h2:LI)(h3 h4:Int)(h5:LI)(h6:Int)(h7:LI)(h8 h9:Int):Option (ap di.xs):=fR tt G9 dr s6 0 Tryz.f147 (bX Tryz.f147 0) n (di.st.mk' ((h2,(h3,(h4,(h5,(h6,()))))),((h7,(h8,(h9,()))),()))) (bC di.xs)
theorem Fx (n:Nat)(h2:LI)(h3 h4:Int)(h5:LI)(h6:Int)(h7:LI)(h8 h9:Int):ox (n+1) h2 h3 h4 h5 h6 h7 h8 h9=ql h2 h3 h4 h5 h6 h7 h8 h9 (ox n) some:=by kernel_rfl
theorem qB (b:LI)(p i:Nat):(b.drop p).getD i 0=b.getD (p+i) 0:=by rw[List.getD_eq_getElem?_getD,List.getD_eq_getElem?_getD,List.getElem?_drop]
theorem zx (b g:LI)(u v:Int){p c:Nat}(h0:p+c+2≤b.length)(hl:b.length≤4294960000):∀(k j:Nat) (lit:LI),c+1<j+k→j≤c+1→lit.length=j→
  ox k b p c lit j g u v=some (.ret ((),(((p:Int),((c:Int),(lit++(b.drop (p+1+j)).take (c+1 - j),()))),((g,(u,(v,()))),())))):=by
 intro k
 induction k with
 |zero=>intro j lit h;omega
 |succ k ih=>
  intro j lit h1 h2 h3
  rw[Fx]
  unfold ql
  by_cases hj:j≤c
  ·rw[af (n:=(p:Int)+1) (by omega) (by omega),af (n:=(p:Int)+1+(j:Int)) (by omega) (by omega),af (n:=(j:Int)+1) (by omega) (by omega)]
   refine bT (by simpa using hj) ?_
   refine bT (by simp only[zA,zB];omega) ?_
   refine bT (by simp;omega) ?_
   have hlt:p+1+j<b.length:=by omega
   have e:b.getD ((p:Int)+1+(j:Int)).toNat 0=b[p+1+j]:=by rw[show ((p:Int)+1+(j:Int)).toNat=p+1+j by omega,aK hlt]
   rw[e]
   refine (ih (j+1) _ (by omega) (by omega) (by simp[h3])).trans ?_
   rw[zK,zE hlt,show c+1 - j=(c+1 - (j+1))+1 by omega,List.take_succ_cons]
   rfl
  ·refine bF (by simp;omega) ?_
   rw[show c+1 - j=0 by omega,List.take_zero,List.append_nil]
def wV (a0:LI)(a1:Int):Option kM.Res:=bif decide (a1<0) then oR ((([],0,0,()),0,1,()),()) else bif decide ((↑a0.length:Int)≤a1) then oR ((([],0,0,()),0,1,()),()) else bif decide (0≤a1)&&decide (a1<(↑a0.length:Int)) then bif decide (i64.wrap (a0.getD a1.toNat 0)<128) then bif decide (i64.wrap (i64.wrap ((↑a0.length:Int) - a1) - 1)<i64.wrap (i64.wrap (a0.getD a1.toNat 0)+1)) then oR ((([],0,0,()),0,1,()),()) else (gT ((a0,(a1,(i64.wrap (a0.getD a1.toNat 0),([],(0,()))))),(([],(0,(0,()))),()))).run fun y=>match y with | .ret ((),((x24,x25,x26,()),(x27,x28,x29,()),()))=>(oR (((x26,0,0,()),i64.wrap (i64.wrap (x24+x25)+2),0,()),())) else bif decide (i64.wrap ((↑a0.length:Int) - a1)<3) then oR ((([],0,0,()),0,1,()),()) else bif decide (0≤i64.wrap (a1+1))&&decide (i64.wrap (a1+1)<(↑a0.length:Int)) then bif decide (0≤i64.wrap (a1+2))&&decide (i64.wrap (a1+2)<(↑a0.length:Int)) then bif !lc ([],i64.wrap (i64.wrap (i64.wrap (a0.getD (i64.wrap (a1+1)).toNat 0)*256)+i64.wrap (a0.getD (i64.wrap (a1+2)).toNat 0)),i64.wrap (i64.wrap (a0.getD a1.toNat 0) - 124),()) then oR ((([],0,0,()),0,50,()),()) else oR ((([],i64.wrap (i64.wrap (i64.wrap (a0.getD (i64.wrap (a1+1)).toNat 0)*256)+i64.wrap (a0.getD (i64.wrap (a1+2)).toNat 0)),i64.wrap (i64.wrap (a0.getD a1.toNat 0) - 124),()),i64.wrap (a1+3),0,()),()) else none else none else none
theorem NE (a0:LI)(a1:Int):Io.run tt G9 dr s6 kM Tryz.f147 ((a0,a1,()),())=wV a0 a1:=by kernel_rfl
theorem xx:HcsOk prog GJ:=.cons H6 .nil
theorem PV:HcOk prog 147 (ah kM D9):=by
 refine bY xx (lp:=s6) (fn:=Tryz.f147) kM (.step (h0:=aG di gT) (by kernel_rfl) (f9 xx (lp:=s6) (fn:=Tryz.f147) (.done (by kernel_rfl)) di gT ?_) (.done (by kernel_rfl))) D9 ?_
 ·rintro ⟨⟨(b:LI),(p:Int),(c:Int),(lit:LI),(j:Int),⟨⟩⟩,⟨⟨(g:LI),(u:Int),(v:Int),⟨⟩⟩,⟨⟩⟩⟩ y hw hy
  obtain ⟨hg,hy⟩:=Tr.guard hy
  simp only[zA,zB] at hg
  obtain ⟨h1,h2,⟨h3,h4⟩,h5,h6⟩:=hg
  have h1:j=0:=h1
  have h2:lit.length=0:=h2
  have h3:0≤p:=h3
  have h4:b.length≤4294960000:=h4
  have h5:0≤c:=h5
  have h6:p+c+2≤(b.length:Int):=h6
  have h2:lit=[]:=List.length_eq_zero_iff.1 h2
  subst h1 h2
  obtain ⟨p,rfl⟩:=aB h3
  obtain ⟨c,rfl⟩:=aB h5
  refine ⟨c+2,(zx b g u v (p:=p) (c:=c) (by omega) h4 (c+2) 0 [] (by omega) (by omega) rfl).trans ?_⟩
  rw[← hy]
  show _=some _
  rw[show ((p:Int)+1).toNat=p+1 by omega,show ((c:Int)+1).toNat=c+1 by omega]
  rfl
 ·rintro ⟨⟨(b:LI),(p:Int),⟨⟩⟩,⟨⟩⟩ o hw ho
  obtain ⟨hg,ho⟩:=Tr.guard ho
  have hg2:b.length≤4294960000:=of_decide_eq_true hg
  clear hg
  cases ho
  refine (NE b p).trans ?_
  show _=oR (((dv b p).1,(dv b p).2.1,(dv b p).2.2,()),())
  have hb:Ty.wf bs b:=hw.1.1
  unfold wV
  by_cases h1:p<0
  ·refine bT (decide_eq_true h1) ?_
   unfold dv
   rw[if_pos (.inl h1)]
   rfl
  refine bF (decide_eq_false h1) ?_
  by_cases h2:(b.length:Int)≤p
  ·refine bT (decide_eq_true h2) ?_
   unfold dv
   rw[if_pos (.inr h2)]
   rfl
  refine bF (decide_eq_false h2) ?_
  obtain ⟨p,rfl⟩:=aB (show 0≤p by omega)
  have eR:dv b p=if (aV (b.drop p)).2.2≠0 then (eF,0,(aV (b.drop p)).2.2) else ((aV (b.drop p)).1,(p:Int)+(aV (b.drop p)).2.1,0):=by
   unfold dv
   rw[if_neg (by omega),zG]
  have c0:=t5 hb p
  have c1:=t5 hb (p+1)
  have c2:=t5 hb (p+2)
  have e0:(b.drop p).getD 0 0=b.getD p 0:=qB b p 0
  have e1:(b.drop p).getD 1 0=b.getD (p+1) 0:=qB b p 1
  have e2:(b.drop p).getD 2 0=b.getD (p+2) 0:=qB b p 2
  have el:((b.drop p).length:Int)=(b.length:Int) - p:=by simp;omega
  have eO:aV (b.drop p)=if b.getD p 0<128 then (if (b.length:Int) - p<b.getD p 0+2 then (eF,0,1) else (((b.drop (p+1)).take (b.getD p 0+1).toNat,0,0,()),b.getD p 0+2,0))
    else if (b.length:Int) - p<3 then (eF,0,1)
    else if b.getD (p+1) 0*256+b.getD (p+2) 0<1∨4096<b.getD (p+1) 0*256+b.getD (p+2) 0 then (eF,0,50)
    else (([],b.getD (p+1) 0*256+b.getD (p+2) 0,b.getD p 0 - 124,()),3,0):=by
   unfold aV
   rw[e0,e1,e2,el,List.drop_drop]
  rw[af (n:=(p:Int)+1) (by omega) (by omega),af (n:=(p:Int)+2) (by omega) (by omega),show ((p:Int)+1).toNat=p+1 by omega,show ((p:Int)+2).toNat=p+2 by omega,zG]
  rw[af (n:=b.getD p 0) (by omega) (by omega),af (n:=b.getD (p+1) 0) (by omega) (by omega),af (n:=b.getD (p+2) 0) (by omega) (by omega)]
  generalize hd:(b.drop (p+1)).take (b.getD p 0+1).toNat=L at *
  have hF:∀lit:LI,b.getD p 0<128→(p:Int)+b.getD p 0+2≤(b.length:Int)→gT ((b,((p:Int),(b.getD p 0,([],(0,()))))),(([],(0,(0,()))),()))=.ite true (.ret (.ret ((),(((p:Int),b.getD p 0,L,()),(([],(0,(0,()))),()))))) .no:=by
   intro _ _ hlt
   have hc:(decide ((0:Int)=0)&&(decide (([]:LI).length=0)&&((decide ((0:Int)≤(p:Int))&&decide (b.length≤4294960000))&&(decide ((0:Int)≤b.getD p 0)&&decide ((p:Int)+b.getD p 0+2≤(b.length:Int))))))=true:=by
    simp only[zA,zB]
    exact ⟨trivial,rfl,⟨by omega,hg2⟩,c0.1,hlt⟩
   have:gT ((b,((p:Int),(b.getD p 0,([],(0,()))))),(([],(0,(0,()))),()))=.ite true (.ret (.ret ((),(((p:Int),b.getD p 0,(b.drop ((p:Int)+1).toNat).take (b.getD p 0+1).toNat,()),(([],(0,(0,()))),()))))) .no:=congrArg (fun c=>Tr.ite c _ _) hc
   rw[this,show ((p:Int)+1).toNat=p+1 by omega,hd]
  rw[eR,eO]
  clear eR eO e0 e1 e2 el hd
  generalize b.getD p 0=c at *
  generalize b.getD (p+1) 0=x at *
  generalize b.getD (p+2) 0=y at *
  refine bT (by simp only[zA,zB];omega) ?_
  rw[af (n:=(b.length:Int) - p) (by omega) (by omega),af (n:=(b.length:Int) - p - 1) (by omega) (by omega),af (n:=c+1) (by omega) (by omega)]
  by_cases h3:c<128
  ·refine bT (decide_eq_true h3) ?_
   rw[if_pos h3]
   by_cases h4:(b.length:Int) - p<c+2
   ·refine bT (decide_eq_true (by omega)) ?_
    rw[if_pos h4,if_pos (by decide)]
    rfl
   ·refine bF (decide_eq_false (by omega)) ?_
    rw[hF [] h3 (by omega),if_neg h4,if_neg (au rfl)]
    show oR (((L,0,0,()),i64.wrap (i64.wrap ((p:Int)+c)+2),0,()),())=_
    rw[af (n:=(p:Int)+c) (by omega) (by omega),af (n:=(p:Int)+c+2) (by omega) (by omega),Int.add_assoc]
  ·refine bF (decide_eq_false h3) ?_
   rw[if_neg h3]
   by_cases h4:(b.length:Int) - p<3
   ·refine bT (decide_eq_true h4) ?_
    rw[if_pos h4,if_pos (by decide)]
    rfl
   ·refine bF (decide_eq_false h4) ?_
    refine bT (by simp only[zA,zB];omega) ?_
    refine bT (by simp only[zA,zB];omega) ?_
    rw[af (n:=x*256) (by omega) (by omega),af (n:=x*256+y) (by omega) (by omega),af (n:=c - 124) (by omega) (by omega),af (n:=(p:Int)+3) (by omega) (by omega),if_neg h4]
    have hi:lc ([],x*256+y,c - 124,()) = !decide (x*256+y<1∨4096<x*256+y):=by
     show (if ([]:LI).length=0∧1≤x*256+y∧x*256+y≤4096∧4≤c - 124∧c - 124≤131 then true else false)=_
     by_cases h5:x*256+y<1∨4096<x*256+y
     ·rw[if_neg (by omega),decide_eq_true h5];rfl
     ·rw[if_pos ⟨rfl,by omega⟩,decide_eq_false h5];rfl
    by_cases h5:x*256+y<1∨4096<x*256+y
    ·refine bT (by rw[hi,decide_eq_true h5];rfl) ?_
     rw[if_pos h5,if_pos (by decide)]
     rfl
    ·refine bF (by rw[hi,decide_eq_false h5];rfl) ?_
     rw[if_neg h5,if_neg (au rfl)]
abbrev f7:Io:=⟨[dI],[],[],[dI],none⟩
def tA (d:f7.In):Tr f7.Res:=.ret (.ret ((aF d.1.1,()),()))
abbrev xk:List (Nat×Hc):=[]
def IR:Hd:=bI xk
def xI:Lp:=bQ []
def rz (a0:Int):Option f7.Res:=bif decide (a0<0) then oR ((0,()),()) else bif decide (32768<a0) then oR ((32768,()),()) else oR ((a0,()),())
theorem Ff (a0:Int):Io.run tt IR dr xI f7 Tryz.f149 ((a0,()),())=rz a0:=by kernel_rfl
theorem Jb:HcOk prog 149 (ah f7 tA):=by
 refine bY (cs:=xk) HcsOk.nil (lp:=xI) (fn:=Tryz.f149) f7 (.done (by kernel_rfl)) tA ?_
 rintro ⟨⟨(m:Int),⟨⟩⟩,⟨⟩⟩ out hw ho
 cases ho
 refine (Ff m).trans ?_
 show _=oR ((aF m,()),())
 unfold rz
 have e1:m<0→dK m 0=0:=fun h=>by unfold dK;exact if_pos h
 have e2:¬ m<0→dK m 0=m:=fun h=>by unfold dK;exact if_neg (by omega)
 unfold aF np
 by_cases h1:m<0
 ·refine bT (decide_eq_true h1) ?_
  rw[e1 h1,if_neg (by decide)]
 ·refine bF (decide_eq_false h1) ?_
  rw[e2 h1]
  by_cases h2:32768<m
  ·refine bT (decide_eq_true h2) ?_
   rw[if_pos h2]
  ·refine bF (decide_eq_false h2) ?_
   rw[if_neg h2]
abbrev f8:Io:=⟨[dO,BY,dI],[],[],[dO,dI],none⟩
def tB (d:f8.In):Tr f8.Res:=.ite (decide (d.1.1.length≤4294960000)&&(decide (d.1.2.1.1.length≤4294960000)&&(decide ((0:Int)≤d.1.2.2.1)&&decide ((d.1.2.2.1:Int)≤(32768:Int))))) (.ret (.ret (((be d.1.1 d.1.2.1 d.1.2.2.1).1,(be d.1.1 d.1.2.1 d.1.2.2.1).2,()),()))) .no
abbrev xl:List (Nat×Hc):=[(157,ah kL D8),(158,ah jk yC)]
def qF:Hd:=bI xl
abbrev cF:Lo:=⟨⟨(.one (.onl 5 (Ty.int u8) 1)::.any::bk (.one (.ptr 4 0)::.any::bk (.one hI::.any::ai (ai (ai (ai (bx []))))))),[none,none,none,none,some [.hol (.sl 5 (Ty.int u8)),hI,hI]]⟩,[(.exit 0,⟨(.one (.onl 5 (Ty.int u8) 1)::.any::ai (ai (ai (ai (co (bx [])))))),[]⟩)]⟩
abbrev ck:Lo:=⟨⟨(.one (.onl 5 (Ty.int u8) 1)::.any::bk (.one (.ptr 4 0)::bx (.one hI::.one hI::.any::ai (ai (ai (ai (bk []))))))),[none,none,none,none,some [.hol (.sl 5 (Ty.int u8)),hI,hI]]⟩,[(.exit 2,⟨(.one (.onl 5 (Ty.int u8) 1)::.any::ai (ai (ai (ai (co (bx [])))))),[]⟩)]⟩
def ie (d:cF.st.den):Tr (ap cF.xs):=
 .ite (decide (d.1.2.1=0)&&decide (d.1.1.length+d.2.1.1.length≤4294967296)) (.ret (.ret ((),((d.1.1++d.2.1.1,()),())))) .no
def gj (d:ck.st.den):Tr (ap ck.xs):=
 .ite (decide (d.1.2.2.1=0)&&((decide (d.1.2.1=(d.1.1.length:Int) - d.2.1.2.1)&&decide ((0:Int)≤d.2.1.2.2.1))&&((decide ((1:Int)≤d.2.1.2.1)&&decide (d.2.1.2.1≤(d.1.1.length:Int)))&&decide ((d.1.1.length:Int)+d.2.1.2.2.1≤4294967296)))) (.ret (.ret ((),((fM d.2.1.2.1.toNat d.2.1.2.2.1.toNat d.1.1,()),())))) .no
def gW:Lp:=bQ [(6,aG cF ie),(16,aG ck gj)]
def nx {R:Type}(h5:LI)(h6:Int)(h7:LI)(h8 h9:Int)(next:LI→Int→LI→Int→Int→Option R)(out:ap cF.xs→Option R):Option R:=bif decide (h6<(↑h7.length:Int)) then bif decide (0≤h6)&&decide (h6<(↑h7.length:Int)) then bif decide (h5.length+1≤4294967296) then next (h5++[h7.getD h6.toNat 0]) (i64.wrap (h6+1)) (h7) (h8) (h9) else none else none else out (.ret ((),((h5,()),())))
def l7 (n:Nat)(h5:LI)(h6:Int)(h7:LI)(h8 h9:Int):Option (ap cF.xs):=fR tt qF dr gW 0 Tryz.f148 (bX Tryz.f148 0) n (cF.st.mk' ((h5,(h6,())),((h7,(h8,(h9,()))),()))) (bC cF.xs)
theorem Dt (n:Nat)(h5:LI)(h6:Int)(h7:LI)(h8 h9:Int):l7 (n+1) h5 h6 h7 h8 h9=nx h5 h6 h7 h8 h9 (l7 n) some:=by kernel_rfl
def iT {R:Type}(h17:LI)(h18 h19:Int)(h20:LI)(h21 h22:Int)(next:LI→Int→Int→LI→Int→Int→Option R)(out:ap ck.xs→Option R):Option R:=bif decide (h19<h22) then bif decide (h21≠0) then bif decide (0≤i64.wrap (h18+i64.wrap (h19.tmod h21)))&&decide (i64.wrap (h18+i64.wrap (h19.tmod h21))<(↑h17.length:Int)) then bif decide (h17.length+1≤4294967296) then next (h17++[h17.getD (i64.wrap (h18+i64.wrap (h19.tmod h21))).toNat 0]) (h18) (i64.wrap (h19+1)) (h20) (h21) (h22) else none else none else none else out (.ret ((),((h17,()),())))
def kS (n:Nat)(h17:LI)(h18 h19:Int)(h20:LI)(h21 h22:Int):Option (ap ck.xs):=fR tt qF dr gW 0 Tryz.f148 (bX Tryz.f148 1) n (ck.st.mk' ((h17,(h18,(h19,()))),((h20,(h21,(h22,()))),()))) (bC ck.xs)
theorem pV (n:Nat)(h17:LI)(h18 h19:Int)(h20:LI)(h21 h22:Int):kS (n+1) h17 h18 h19 h20 h21 h22=iT h17 h18 h19 h20 h21 h22 (kS n) some:=by kernel_rfl
theorem v8 (lit:LI)(u v:Int)(hl:lit.length≤maxLen):∀(k i:Nat) (out:LI),lit.length<i+k→i≤lit.length→out.length+(lit.length - i)≤4294967296→
  l7 k out i lit u v=some (.ret ((),((out++lit.drop i,()),()))):=by
 intro k
 induction k with
 |zero=>intro i out h;omega
 |succ k ih=>
  intro i out h1 h2 h3
  rw[Dt]
  unfold nx
  by_cases hi:i<lit.length
  ·refine bT (by simpa using hi) ?_
   refine bT (by simpa using hi) ?_
   refine bT (by simp;omega) ?_
   have e:lit.getD (i:Int).toNat 0=lit[i]:=by rw[zG,aK hi]
   rw[e,aM hi hl]
   refine (ih (i+1) _ (by omega) (by omega) (by simp;omega)).trans ?_
   rw[zK,zE hi]
   rfl
  ·refine bF (by simp;omega) ?_
   rw[zI (by omega),List.append_nil]
def Rep (L d:Nat)(out:LI):Prop:=∀q,L≤q→q<out.length→out.getD q 0=out.getD (q - d) 0
theorem Rep.mod {L d:Nat}{out:LI}(h:Rep L d out)(h1:1≤d)(h2:d≤L):∀i,L - d+i<out.length→out.getD (L - d+i) 0=out.getD (L - d+i % d) 0:=by
 intro i
 induction i using Nat.strongRecOn with
 |ind i ih=>
  intro hi
  by_cases hd:i<d
  ·rw[Nat.mod_eq_of_lt hd]
  ·rw[h (L - d+i) (by omega) hi,show L - d+i - d=L - d+(i - d) by omega,ih (i - d) (by omega) (by omega),Nat.mod_eq_sub_mod (by omega:i ≥ d)]
theorem uo {out:LI}{x:Int}{q:Nat}(h:q<out.length):(out++[x]).getD q 0=out.getD q 0:=by
 rw[List.getD_eq_getElem?_getD,List.getD_eq_getElem?_getD,List.getElem?_append_left h]
theorem Rep.snoc {L d:Nat}{out:LI}(h:Rep L d out)(h1:1≤d)(h2:L≤out.length)(h3:d≤L):Rep L d (out++[out.getD (out.length - d) 0]):=by
 intro q g1 g2
 rw[zH,List.length_singleton] at g2
 by_cases hq:q<out.length
 ·rw[uo hq,uo (by omega),h q g1 hq]
 ·have:q=out.length:=by omega
  subst this
  rw[uo (q:=out.length - d) (by omega)]
  rw[List.getD_eq_getElem?_getD,List.getElem?_append_right (Nat.le_refl _),Nat.sub_self]
  rfl
theorem uR (lit:LI){L d:Nat}(h1:1≤d)(h2:d≤L):∀(m k i:Nat) (out:LI),m<k→out.length=L+i→Rep L d out→out.length+m≤4294967296→
  kS k out ((L - d:Nat):Int) i lit d ((i+m:Nat):Int)=some (.ret ((),((fM d m out,()),()))):=by
 intro m
 induction m with
 |zero=>
  intro k i out g1 g2 g3 g4
  obtain ⟨k,rfl⟩:∃j,k=j+1:=⟨k - 1,by omega⟩
  rw[pV]
  unfold iT
  refine bF (by simp) ?_
  rfl
 |succ m ih=>
  intro k i out g1 g2 g3 g4
  obtain ⟨k,rfl⟩:∃j,k=j+1:=⟨k - 1,by omega⟩
  rw[pV]
  unfold iT
  have hm:i % d<d:=Nat.mod_lt _ (by omega)
  have e1:i64.wrap ((i:Int).tmod (d:Int))=((i % d:Nat):Int):=by
   rw[Int.tmod_eq_emod_of_nonneg (by omega)]
   exact (af (by omega) (by omega)).trans (by omega)
  have e2:i64.wrap (((L - d:Nat):Int)+((i % d:Nat):Int))=((L - d+i % d:Nat):Int):=(af (by omega) (by omega)).trans (by omega)
  rw[e1,e2,af (n:=(i:Int)+1) (by omega) (by omega),zG]
  refine bT (by simp;omega) ?_
  refine bT (by simp;omega) ?_
  refine bT (by simp only[zA,zB];omega) ?_
  refine bT (by simp;omega) ?_
  have e3:out.getD (L - d+i % d) 0=out.getD (out.length - d) 0:=by
   rw[← g3.mod h1 h2 i (by omega),show out.length - d=L - d+i by omega]
  rw[e3]
  have:=ih k (i+1) (out++[out.getD (out.length - d) 0]) (by omega) (by simp;omega) (g3.snoc h1 (by omega) h2) (by simp;omega)
  rw[show ((i+1+m:Nat):Int)=((i+(m+1):Nat):Int) by omega] at this
  exact this
theorem N3 (lit:LI)(d len:Int):gA (lit,d,len,()) = !(vv (lit,d,len,()) || lc (lit,d,len,())):=by
 have e:gA (lit,d,len,())=if ka (lit,d,len,())=true then decide (0<lit.length) || (decide (d<1) || (decide (4096<d) || (decide (len<4) || decide (131<len)))) else decide (lit.length<1) || decide (128<lit.length):=rfl
 have e2:ka (lit,d,len,())=if d≠0 then true else decide (len≠0):=rfl
 have e3:vv (lit,d,len,())=if d=0∧len=0∧0<lit.length∧lit.length≤128 then true else false:=rfl
 have e4:lc (lit,d,len,())=if lit.length=0∧1≤d∧d≤4096∧4≤len∧len≤131 then true else false:=rfl
 have h1:ka (lit,d,len,())=true↔(d≠0∨len≠0):=by
  rw[e2]
  by_cases h:d=0
  ·rw[if_neg (au h)];simp[h]
  ·rw[if_pos h];simp[h]
 cases hl:vv (lit,d,len,()) with
 |true=>
  rw[e3] at hl
  split at hl
  ·rename_i h
   rw[e,if_neg (by rw[h1];omega),decide_eq_false (show ¬ lit.length<1 by omega),decide_eq_false (show ¬ 128<lit.length by omega)]
   rfl
  ·cases hl
 |false=>
  rw[e3] at hl
  split at hl
  ·cases hl
  ·rename_i hn
   cases hc:lc (lit,d,len,()) with
   |true=>
    rw[e4] at hc
    split at hc
    ·rename_i h
     rw[e,if_pos (by rw[h1];omega),decide_eq_false (show ¬ 0<lit.length by omega),decide_eq_false (show ¬ d<1 by omega),decide_eq_false (show ¬ 4096<d by omega),decide_eq_false (show ¬ len<4 by omega),decide_eq_false (show ¬ 131<len by omega)]
     rfl
    ·cases hc
   |false=>
    rw[e4] at hc
    split at hc
    ·cases hc
    ·rename_i hm
     rw[e]
     split
     ·rename_i h;rw[h1] at h
      simp only[Bool.or_false,Bool.not_false,Bool.or_eq_true,zB];omega
     ·rename_i h;rw[h1] at h
      simp only[Bool.or_false,Bool.not_false,Bool.or_eq_true,zB];omega
def rA (a0 a1:LI)(a2 a3 a4:Int):Option f8.Res:=bif vv (a1,a2,a3,()) then bif decide (i64.wrap (a4 - (↑a0.length:Int))<(↑a1.length:Int)) then oR (([],4,()),()) else (ie ((a0,(0,())),((a1,(a2,(a3,()))),()))).run fun y=>match y with | .ret ((),((x16,()),()))=>(oR ((x16,0,()),())) else bif !lc (a1,a2,a3,()) then oR (([],50,()),()) else bif decide ((↑a0.length:Int)<a2) then oR (([],50,()),()) else bif decide (i64.wrap (a4 - (↑a0.length:Int))<a3) then oR (([],4,()),()) else (gj ((a0,(i64.wrap ((↑a0.length:Int) - a2),(0,()))),((a1,(a2,(a3,()))),()))).run fun y=>match y with | .ret ((),((x30,()),()))=>(oR ((x30,0,()),()))
theorem Fg (a0 a1:LI)(a2 a3 a4:Int):Io.run tt qF dr gW f8 Tryz.f148 ((a0,(a1,a2,a3,()),a4,()),())=rA a0 a1 a2 a3 a4:=by kernel_rfl
theorem lR:HcsOk prog xl:=.cons PU (.cons H6 .nil)
theorem Jc:HcOk prog 148 (ah f8 tB):=by
 refine bY lR (lp:=gW) (fn:=Tryz.f148) f8 (.step (h0:=aG cF ie) (by kernel_rfl) (f9 lR (lp:=gW) (fn:=Tryz.f148) (.done (by kernel_rfl)) cF ie ?_) (.step (h0:=aG ck gj) (by kernel_rfl) (f9 lR (lp:=gW) (fn:=Tryz.f148) (.done (by kernel_rfl)) ck gj ?_) (.done (by kernel_rfl)))) tB ?_
 ·rintro ⟨⟨(out:LI),(i:Int),⟨⟩⟩,⟨⟨(lit:LI),(u:Int),(v:Int),⟨⟩⟩,⟨⟩⟩⟩ y hw hy
  obtain ⟨hg,hy⟩:=Tr.guard hy
  simp only[zA,zB] at hg
  obtain ⟨h1,h2⟩:=hg
  have h1:i=0:=h1
  have h2:out.length+lit.length≤4294967296:=h2
  subst h1
  refine ⟨lit.length+1,(v8 lit u v hw.2.1.1.1 (lit.length+1) 0 out (by omega) (by omega) (by omega)).trans ?_⟩
  rw[← hy];rfl
 ·rintro ⟨⟨(out:LI),(f:Int),(i:Int),⟨⟩⟩,⟨⟨(lit:LI),(d:Int),(len:Int),⟨⟩⟩,⟨⟩⟩⟩ y hw hy
  obtain ⟨hg,hy⟩:=Tr.guard hy
  simp only[zA,zB] at hg
  obtain ⟨h1,⟨h2,h3⟩,⟨h4,h5⟩,h6⟩:=hg
  have h1:i=0:=h1
  have h2:f=(out.length:Int) - d:=h2
  have h3:0≤len:=h3
  have h4:1≤d:=h4
  have h5:d≤(out.length:Int):=h5
  have h6:(out.length:Int)+len≤4294967296:=h6
  subst h1
  obtain ⟨d,rfl⟩:=aB (show 0≤d by omega)
  obtain ⟨n,rfl⟩:=aB h3
  have e:f=((out.length - d:Nat):Int):=by omega
  subst e
  have:=uR lit (L:=out.length) (d:=d) (by omega) (by omega) n (n+1) 0 out (by omega) rfl (fun q g1 g2=>by omega) (by omega)
  rw[Nat.zero_add] at this
  refine ⟨n+1,this.trans ?_⟩
  rw[← hy];rfl
 ·rintro ⟨⟨(out:LI),⟨(lit:LI),(d:Int),(len:Int),⟨⟩⟩,(m:Int),⟨⟩⟩,⟨⟩⟩ o hw ho
  obtain ⟨hg,ho⟩:=Tr.guard ho
  simp only[zA,zB] at hg
  obtain ⟨h1,h2,h0,h3⟩:=hg
  have h1:out.length≤4294960000:=h1
  have h2:lit.length≤4294960000:=h2
  have h0:(0:Int)≤m:=h0
  have h3:m≤(32768:Int):=h3
  cases ho
  refine (Fg out lit d len m).trans ?_
  show _=oR (((be out (lit,d,len,()) m).1,(be out (lit,d,len,()) m).2,()),())
  have hi:=N3 lit d len
  unfold rA be
  cases hl:vv (lit,d,len,()) with
  |true=>
   rw[hl] at hi
   have hi:gA (lit,d,len,())=false:=hi
   have e3:vv (lit,d,len,())=if d=0∧len=0∧0<lit.length∧lit.length≤128 then true else false:=rfl
   rw[e3] at hl
   have hl:d=0∧len=0∧0<lit.length∧lit.length≤128:=by split at hl;assumption;cases hl
   obtain ⟨rfl,rfl,l3,l4⟩:=hl
   refine (aa rfl _ _).trans ?_
   rw[if_neg (by rintro (h | h);rw[hi] at h;cases h;have h:(out.length:Int)<0:=h;omega)]
   rw[af (n:=m - (out.length:Int)) (by omega) (by omega)]
   by_cases h5:m<(out.length:Int)+(lit.length:Int)+0
   ·refine bT (decide_eq_true (by omega)) ?_
    rw[if_pos h5]
   ·refine bF (decide_eq_false (by omega)) ?_
    rw[if_neg h5]
    have e:ie ((out,(0,())),((lit,((0:Int),((0:Int),()))),()))=.ite true (.ret (.ret ((),((out++lit,()),())))) .no:=congrArg (fun c=>Tr.ite c _ _) (show (decide ((0:Int)=0)&&decide (out.length+lit.length≤4294967296))=true by simp only[zA,zB];exact ⟨trivial,by omega⟩)
    rw[e]
    rfl
  |false=>
   refine (ae rfl _ _).trans ?_
   cases hc:lc (lit,d,len,()) with
   |false=>
    rw[hl,hc] at hi
    have hi:gA (lit,d,len,())=true:=hi
    refine (aa rfl _ _).trans ?_
    rw[if_pos (.inl hi)]
   |true=>
    rw[hl,hc] at hi
    have hi:gA (lit,d,len,())=false:=hi
    have e4:lc (lit,d,len,())=if lit.length=0∧1≤d∧d≤4096∧4≤len∧len≤131 then true else false:=rfl
    rw[e4] at hc
    have hc:lit.length=0∧1≤d∧d≤4096∧4≤len∧len≤131:=by split at hc;assumption;cases hc
    obtain ⟨l1,l2,l3,l4,l5⟩:=hc
    have l1:lit=[]:=List.length_eq_zero_iff.1 l1
    subst l1
    refine (ae rfl _ _).trans ?_
    by_cases h4:(out.length:Int)<d
    ·refine bT (decide_eq_true h4) ?_
     rw[if_pos (.inr h4)]
    ·refine bF (decide_eq_false h4) ?_
     rw[if_neg (by rintro (h | h);rw[hi] at h;cases h;exact h4 h)]
     rw[af (n:=m - (out.length:Int)) (by omega) (by omega),af (n:=(out.length:Int) - d) (by omega) (by omega)]
     by_cases h5:m<(out.length:Int)+(([]:LI).length:Int)+len
     ·refine bT (decide_eq_true (by simp at h5;omega)) ?_
      rw[if_pos h5]
     ·refine bF (decide_eq_false (by simp at h5;omega)) ?_
      rw[if_neg h5]
      simp at h5
      have e:gj ((out,((out.length:Int) - d,(0,()))),(([],(d,(len,()))),()))=.ite true (.ret (.ret ((),((fM d.toNat len.toNat out,()),())))) .no:=congrArg (fun c=>Tr.ite c _ _) (show (decide ((0:Int)=0)&&((decide ((out.length:Int) - d=(out.length:Int) - d)&&decide ((0:Int)≤len))&&((decide ((1:Int)≤d)&&decide (d≤(out.length:Int)))&&decide ((out.length:Int)+len≤4294967296))))=true by simp only[zA,zB];exact ⟨trivial,⟨trivial,by omega⟩,⟨by omega,by omega⟩,by omega⟩)
      rw[e]
      show oR ((fM d.toNat len.toNat out,0,()),())=oR ((fM d.toNat len.toNat (out++[]),0,()),())
      rw[List.append_nil]
abbrev kK:Io:=⟨[dL,dI],[],[],[dO,dI],none⟩
def D7 (d:kK.In):Tr kK.Res:=.ite (decide (d.1.1.length≤4294960000)) (.ret (.ret (((av d.1.1 d.1.2.1).1,(av d.1.1 d.1.2.1).2,()),()))) .no
abbrev GH:List (Nat×Hc):=[(147,ah kM D9),(149,ah f7 tA),(148,ah f8 tB)]
def G8:Hd:=bI GH
abbrev eB:Lo:=⟨⟨(.one (.hol (.sl 5 (Ty.int u8)))::.one hI::bx (.one (.onl 5 (Ty.int u8) 13)::.one hI::ai (ai (bk [])))),[]⟩,[(.ret,⟨(bx (.one (.onl 5 (Ty.int u8) 9)::.one hI::ai (ai (bx [])))),[]⟩),(.exit 0,⟨(bx (bk (.one (.onl 5 (Ty.int u8) 13)::.any::ai (ai (bk []))))),[]⟩)]⟩
def lI (d:eB.st.den):Tr (ap eB.xs):=
 .ite (decide (d.1.1.length≤4294960000)&&(decide (d.1.2.2.1.length≤32768)&&decide (d.1.2.2.2.1=0))) (.ite (decide ((bN (d.1.1.length+1) d.1.1 d.1.2.2.1 (aF d.1.2.1)).2=0)) (.ret (.pan (.ret ((),(((bN (d.1.1.length+1) d.1.1 d.1.2.2.1 (aF d.1.2.1)).1,()),()))))) (.ret (.ret ((),(([],(bN (d.1.1.length+1) d.1.1 d.1.2.2.1 (aF d.1.2.1)).2,()),()))))) .no
def s5:Lp:=bQ [(4,aG eB lI)]
def sf {R:Type}(h2:LI)(h3:Int)(h4:LI)(h5:Int)(next:LI→Int→LI→Int→Option R)(out:ap eB.xs→Option R):Option R:=bif decide (h5<(↑h2.length:Int)) then bif decide (h2.length≤4294960000) then bif (dv h2 h5).2.2 != 0 then out (.ret ((),(([],((dv h2 h5).2.2,())),()))) else bif decide (h4.length≤4294960000)&&(decide (List.length (dv h2 h5).1.1≤4294960000)&&(decide (0≤aF h3)&&decide (aF h3≤32768))) then bif (be h4 (dv h2 h5).1 (aF h3)).2 != 0 then out (.ret ((),(([],((be h4 (dv h2 h5).1 (aF h3)).2,())),()))) else next (h2) (h3) ((be h4 (dv h2 h5).1 (aF h3)).1) ((dv h2 h5).2.1) else none else none else out (.pan (.ret ((),((h4,()),()))))
def qQ (n:Nat)(h2:LI)(h3:Int)(h4:LI)(h5:Int):Option (ap eB.xs):=fR tt G8 dr s5 0 Tryz.f114 (bX Tryz.f114 0) n (eB.st.mk' ((h2,(h3,(h4,(h5,())))),())) (bC eB.xs)
theorem JQ (n:Nat)(h2:LI)(h3:Int)(h4:LI)(h5:Int):qQ (n+1) h2 h3 h4 h5=sf h2 h3 h4 h5 (qQ n) some:=by kernel_rfl
theorem CM (m:Int){b:LI}(hb:∀c∈b,0≤c∧c≤255)(hl:b.length≤4294960000):∀(k p:Nat) (out:LI),p≤b.length→b.length - p<k→out.length≤32768→
  qQ k b m out p=if (bN k (b.drop p) out (aF m)).2=0 then some (.pan (.ret ((),(((bN k (b.drop p) out (aF m)).1,()),())))) else some (.ret ((),(([],((bN k (b.drop p) out (aF m)).2,())),()))):=by
 intro k
 induction k with
 |zero=>intro p out h h';omega
 |succ k ih=>
  intro p out h0 h1 h3
  rw[JQ]
  unfold sf
  by_cases hp:p<b.length
  ·have hne:b.drop p≠[]:=by intro h;have:=congrArg List.length h;simp at this;omega
   have hbd:∀c∈b.drop p,0≤c∧c≤255:=fun c hc=>hb c (List.mem_of_mem_drop hc)
   have e:bN (k+1) (b.drop p) out (aF m)=if (aV (b.drop p)).2.2≠0 then ([],(aV (b.drop p)).2.2) else if (be out (aV (b.drop p)).1 (aF m)).2≠0 then ([],(be out (aV (b.drop p)).1 (aF m)).2) else bN k ((b.drop p).drop (aV (b.drop p)).2.1.toNat) (be out (aV (b.drop p)).1 (aF m)).1 (aF m):=by
    rw[bN,if_neg hne]
   have eR:dv b p=if (aV (b.drop p)).2.2≠0 then (eF,0,(aV (b.drop p)).2.2) else ((aV (b.drop p)).1,(p:Int)+(aV (b.drop p)).2.1,0):=by
    unfold dv
    rw[if_neg (by omega),zG]
   have hlit:=x4 (b.drop p)
   rw[List.length_drop] at hlit
   have hbm:=oH m
   refine bT (by simpa using hp) ?_
   refine bT (decide_eq_true hl) ?_
   rw[e,eR]
   by_cases h4:(aV (b.drop p)).2.2=0
   ·have ho:=DD hbd h4 hne
    rw[List.length_drop] at ho
    rw[if_neg (au h4),if_neg (au h4)]
    refine (ae rfl _ _).trans ?_
    refine bT (by simp only[zA,zB];omega) ?_
    by_cases h5:(be out (aV (b.drop p)).1 (aF m)).2=0
    ·have hle:=oI h5
     refine bF (by simpa using h5) ?_
     rw[if_neg (au h5)]
     obtain ⟨n,hn⟩:=aB (show 0≤(aV (b.drop p)).2.1 by omega)
     rw[hn] at ho ⊢
     have:=ih (p+n) (be out (aV (b.drop p)).1 (aF m)).1 (by omega) (by omega) (by omega)
     rw[List.drop_drop,zG]
     exact this
    ·refine bT (by simpa using h5) ?_
     rw[if_pos h5,if_neg h5]
   ·rw[if_pos h4,if_pos h4]
    refine bT (by simpa using h4) ?_
    rw[if_neg h4]
  ·refine bF (by simp;omega) ?_
   rw[zI (by omega)]
   rfl
def wT (a0:LI)(a1:Int):Option kK.Res:=(lI ((a0,(a1,([],(0,())))),())).run fun y=>match y with | .ret ((),((x15,x16,()),()))=>(oR ((x15,x16,()),())) | .pan (.ret ((),((x17,()),())))=>(oR ((x17,0,()),()))
theorem NC (a0:LI)(a1:Int):Io.run tt G8 dr s5 kK Tryz.f114 ((a0,a1,()),())=wT a0 a1:=by kernel_rfl
theorem xw:HcsOk prog GH:=.cons PV (.cons Jb (.cons Jc .nil))
theorem PT:HcOk prog 114 (ah kK D7):=by
 refine bY xw (lp:=s5) (fn:=Tryz.f114) kK (.step (h0:=aG eB lI) (by kernel_rfl) (f9 xw (lp:=s5) (fn:=Tryz.f114) (.done (by kernel_rfl)) eB lI ?_) (.done (by kernel_rfl))) D7 ?_
 ·rintro ⟨⟨(b:LI),(m:Int),(out:LI),(p:Int),⟨⟩⟩,⟨⟩⟩ y hw hy
  obtain ⟨hg,hy⟩:=Tr.guard hy
  simp only[zA,zB] at hg
  obtain ⟨h1,h2,h3⟩:=hg
  have h3:p=0:=h3
  subst h3
  refine ⟨b.length+1,(CM m (dN hw.1.1) h1 (b.length+1) 0 out (Nat.zero_le _) (show b.length - 0<b.length+1 by omega) h2).trans ?_⟩
  rw[← hy]
  simp only[Tr.val_ite,zB,Tr.val_ret,List.drop_zero]
 ·rintro ⟨⟨(b:LI),(m:Int),⟨⟩⟩,⟨⟩⟩ o hw ho
  obtain ⟨hg,ho⟩:=Tr.guard ho
  have hg:b.length≤4294960000:=of_decide_eq_true hg
  cases ho
  refine (NC b m).trans ?_
  show _=oR (((av b m).1,(av b m).2,()),())
  unfold wT lI
  rw[fp]
  refine bT (by simp only[zA,zB];exact ⟨hg,by simp,trivial⟩) ?_
  by_cases h:(bN (b.length+1) b [] (aF m)).2=0
  ·refine bT (decide_eq_true h) ?_
   rw[h]
   rfl
  ·refine bF (decide_eq_false h) ?_
   rw[iM _ _ _ _ h]
   rfl
abbrev Pv:Io:=iy
abbrev kz:Io:=⟨[dL,dI],[],[],[dO,dI],none⟩
def DY (d:kz.In):Tr kz.Res:=.ite (decide ((d.1.2.1:Int)=(32768:Int))&&decide (d.1.1.length≤4294960000)) (.ret (.ret (((bh d.1.1).1,(bh d.1.1).2,()),()))) .no
abbrev Gs:List (Nat×Hc):=[(135,ah lT FW),(136,ah kI D5)]
def O7:Hd:=bI Gs
def Hv:Lp:=bQ []
def wG (a0:LI)(a1:Int):Option kz.Res:=bif (ab 10 1 a0 0).2.2 != 0 then oR (([],(ab 10 1 a0 0).2.2,()),()) else bif decide (ak (ab 10 1 a0 0).1<0) then oR (([],5,()),()) else bif decide (dK a1 0<ak (ab 10 1 a0 0).1) then oR (([],4,()),()) else bif decide (32768<ak (ab 10 1 a0 0).1) then oR (([],4,()),()) else bif decide (0≤(ab 10 1 a0 0).2.1)&&(decide ((ab 10 1 a0 0).2.1≤(↑a0.length:Int))&&decide ((↑a0.length:Int)≤(↑a0.length:Int))) then bif decide ((List.drop (ab 10 1 a0 0).2.1.toNat (List.take (↑a0.length:Int).toNat a0)).length≤4294960000) then bif (av (List.drop (ab 10 1 a0 0).2.1.toNat (List.take (↑a0.length:Int).toNat a0)) (ak (ab 10 1 a0 0).1)).2 == 4 then bif (av (List.drop (ab 10 1 a0 0).2.1.toNat (List.take (↑a0.length:Int).toNat a0)) (ak (ab 10 1 a0 0).1)).2 == 4 then oR (([],60,()),()) else bif (av (List.drop (ab 10 1 a0 0).2.1.toNat (List.take (↑a0.length:Int).toNat a0)) (ak (ab 10 1 a0 0).1)).2 != 0 then oR (([],(av (List.drop (ab 10 1 a0 0).2.1.toNat (List.take (↑a0.length:Int).toNat a0)) (ak (ab 10 1 a0 0).1)).2,()),()) else oR (((av (List.drop (ab 10 1 a0 0).2.1.toNat (List.take (↑a0.length:Int).toNat a0)) (ak (ab 10 1 a0 0).1)).1,0,()),()) else bif (av (List.drop (ab 10 1 a0 0).2.1.toNat (List.take (↑a0.length:Int).toNat a0)) (ak (ab 10 1 a0 0).1)).2 == 0 then bif decide ((↑(av (List.drop (ab 10 1 a0 0).2.1.toNat (List.take (↑a0.length:Int).toNat a0)) (ak (ab 10 1 a0 0).1)).1.length:Int)<ak (ab 10 1 a0 0).1) then oR (([],60,()),()) else bif (av (List.drop (ab 10 1 a0 0).2.1.toNat (List.take (↑a0.length:Int).toNat a0)) (ak (ab 10 1 a0 0).1)).2 != 0 then oR (([],(av (List.drop (ab 10 1 a0 0).2.1.toNat (List.take (↑a0.length:Int).toNat a0)) (ak (ab 10 1 a0 0).1)).2,()),()) else oR (((av (List.drop (ab 10 1 a0 0).2.1.toNat (List.take (↑a0.length:Int).toNat a0)) (ak (ab 10 1 a0 0).1)).1,0,()),()) else bif (av (List.drop (ab 10 1 a0 0).2.1.toNat (List.take (↑a0.length:Int).toNat a0)) (ak (ab 10 1 a0 0).1)).2 != 0 then oR (([],(av (List.drop (ab 10 1 a0 0).2.1.toNat (List.take (↑a0.length:Int).toNat a0)) (ak (ab 10 1 a0 0).1)).2,()),()) else oR (((av (List.drop (ab 10 1 a0 0).2.1.toNat (List.take (↑a0.length:Int).toNat a0)) (ak (ab 10 1 a0 0).1)).1,0,()),()) else none else none
theorem Nm (a0:LI)(a1:Int):Io.run tt O7 dr Hv kz Tryz.f109 ((a0,a1,()),())=wG a0 a1:=by kernel_rfl
theorem PI:HcOk prog 109 (ah kz DY):=by
 refine bY (cs:=Gs) (.cons ML (.cons PR .nil)) (lp:=Hv) (fn:=Tryz.f109) kz (.done (by kernel_rfl)) DY ?_
 rintro ⟨⟨(b:LI),(most:Int),⟨⟩⟩,⟨⟩⟩ o hw ho
 obtain ⟨hg,ho⟩:=Tr.guard ho
 simp only[zA,zB] at hg
 obtain ⟨h0,hl⟩:=hg
 have h0:most=32768:=h0
 have hl:b.length≤4294960000:=hl
 subst h0
 cases ho
 refine (Nm b 32768).trans ?_
 show _=oR (((bh b).1,(bh b).2,()),())
 unfold wG bh
 have hk:=@mr 10 1 b 0
 generalize hge:ab 10 1 b 0=g at *
 obtain ⟨u,q,e⟩:=g
 simp only at hk ⊢
 by_cases h1:e=0
 rotate_left
 ·refine bT (by simpa using h1) ?_
  rw[if_pos h1]
 subst h1
 have hk:=hk rfl
 obtain ⟨q,rfl⟩:=aB (show 0≤q by omega)
 refine (ae rfl _ _).trans ?_
 rw[if_neg (au rfl)]
 generalize ak u=n
 by_cases h2:n<0
 ·refine bT (decide_eq_true h2) ?_
  rw[if_pos h2]
 refine bF (decide_eq_false h2) ?_
 rw[if_neg h2]
 by_cases h3:32768<n
 ·refine bT (decide_eq_true (show dK 32768 0<n from h3)) ?_
  rw[if_pos h3]
 refine bF (decide_eq_false (show ¬ dK 32768 0<n from h3)) ?_
 refine bF (decide_eq_false h3) ?_
 rw[if_neg h3]
 have hx:=fp (b.drop q) n
 rw[zG,zG,List.take_length]
 refine bT (by simp only[zA,zB];omega) ?_
 refine bT (decide_eq_true (by simp;omega)) ?_
 have hx1:(av (b.drop q) n).2≠0→(av (b.drop q) n).1=[]:=by rw[hx];exact iM _ _ _ _
 clear hx
 generalize av (b.drop q) n=x at *
 obtain ⟨o,f⟩:=x
 simp only at hx1 ⊢
 by_cases h4:f=4
 ·subst h4
  refine (aa rfl _ _).trans ?_
  rw[if_pos (.inl rfl)]
  all_goals rfl
 refine bF (by simpa using h4) ?_
 by_cases h5:f=0
 ·subst h5
  refine (aa rfl _ _).trans ?_
  by_cases h6:(o.length:Int)<n
  ·refine bT (decide_eq_true h6) ?_
   rw[if_pos (.inr ⟨rfl,h6⟩)]
  ·refine bF (decide_eq_false h6) ?_
   rw[if_neg (by rintro (h | h);cases h;exact h6 h.2),if_neg (au rfl)]
   all_goals rfl
 ·refine bF (by simpa using h5) ?_
  rw[if_neg (by rintro (h | h);exact h4 h;exact h5 h.1),if_pos h5]
  exact aa (by simpa using h5) _ _
abbrev kB:Io:=⟨[dL,dI],[],[],[dO,dI],none⟩
def D0 (d:kB.In):Tr kB.Res:=.ite (decide ((d.1.2.1:Int)=(32768:Int))&&decide (d.1.1.length≤4294960000)) (.ret (.ret (((bh d.1.1).1,(bh d.1.1).2,()),()))) .no
abbrev Gt:List (Nat×Hc):=[(113,ah Pv yr),(114,ah kK D7)]
def O8:Hd:=bI Gt
def Hw:Lp:=bQ []
def wI (a0:LI)(a1:Int):Option kB.Res:=bif (ab 10 1 a0 0).2.2 != 0 then oR (([],(ab 10 1 a0 0).2.2,()),()) else bif decide (ak (ab 10 1 a0 0).1<0) then oR (([],5,()),()) else bif decide (32768<ak (ab 10 1 a0 0).1) then oR (([],4,()),()) else bif decide (a1<ak (ab 10 1 a0 0).1) then bif decide (0≤a1) then oR (([],4,()),()) else bif decide (0<ak (ab 10 1 a0 0).1) then oR (([],4,()),()) else bif decide (0≤(ab 10 1 a0 0).2.1)&&(decide ((ab 10 1 a0 0).2.1≤(↑a0.length:Int))&&decide ((↑a0.length:Int)≤(↑a0.length:Int))) then bif decide ((List.drop (ab 10 1 a0 0).2.1.toNat (List.take (↑a0.length:Int).toNat a0)).length≤4294960000) then bif (av (List.drop (ab 10 1 a0 0).2.1.toNat (List.take (↑a0.length:Int).toNat a0)) (ak (ab 10 1 a0 0).1)).2 == 4 then oR (([],60,()),()) else bif (av (List.drop (ab 10 1 a0 0).2.1.toNat (List.take (↑a0.length:Int).toNat a0)) (ak (ab 10 1 a0 0).1)).2 == 0 then bif decide ((↑(av (List.drop (ab 10 1 a0 0).2.1.toNat (List.take (↑a0.length:Int).toNat a0)) (ak (ab 10 1 a0 0).1)).1.length:Int)<ak (ab 10 1 a0 0).1) then oR (([],60,()),()) else bif (av (List.drop (ab 10 1 a0 0).2.1.toNat (List.take (↑a0.length:Int).toNat a0)) (ak (ab 10 1 a0 0).1)).2 != 0 then oR (([],(av (List.drop (ab 10 1 a0 0).2.1.toNat (List.take (↑a0.length:Int).toNat a0)) (ak (ab 10 1 a0 0).1)).2,()),()) else oR (((av (List.drop (ab 10 1 a0 0).2.1.toNat (List.take (↑a0.length:Int).toNat a0)) (ak (ab 10 1 a0 0).1)).1,0,()),()) else bif (av (List.drop (ab 10 1 a0 0).2.1.toNat (List.take (↑a0.length:Int).toNat a0)) (ak (ab 10 1 a0 0).1)).2 != 0 then oR (([],(av (List.drop (ab 10 1 a0 0).2.1.toNat (List.take (↑a0.length:Int).toNat a0)) (ak (ab 10 1 a0 0).1)).2,()),()) else oR (((av (List.drop (ab 10 1 a0 0).2.1.toNat (List.take (↑a0.length:Int).toNat a0)) (ak (ab 10 1 a0 0).1)).1,0,()),()) else none else none else bif decide (0≤(ab 10 1 a0 0).2.1)&&(decide ((ab 10 1 a0 0).2.1≤(↑a0.length:Int))&&decide ((↑a0.length:Int)≤(↑a0.length:Int))) then bif decide ((List.drop (ab 10 1 a0 0).2.1.toNat (List.take (↑a0.length:Int).toNat a0)).length≤4294960000) then bif (av (List.drop (ab 10 1 a0 0).2.1.toNat (List.take (↑a0.length:Int).toNat a0)) (ak (ab 10 1 a0 0).1)).2 == 4 then oR (([],60,()),()) else bif (av (List.drop (ab 10 1 a0 0).2.1.toNat (List.take (↑a0.length:Int).toNat a0)) (ak (ab 10 1 a0 0).1)).2 == 0 then bif decide ((↑(av (List.drop (ab 10 1 a0 0).2.1.toNat (List.take (↑a0.length:Int).toNat a0)) (ak (ab 10 1 a0 0).1)).1.length:Int)<ak (ab 10 1 a0 0).1) then oR (([],60,()),()) else bif (av (List.drop (ab 10 1 a0 0).2.1.toNat (List.take (↑a0.length:Int).toNat a0)) (ak (ab 10 1 a0 0).1)).2 != 0 then oR (([],(av (List.drop (ab 10 1 a0 0).2.1.toNat (List.take (↑a0.length:Int).toNat a0)) (ak (ab 10 1 a0 0).1)).2,()),()) else oR (((av (List.drop (ab 10 1 a0 0).2.1.toNat (List.take (↑a0.length:Int).toNat a0)) (ak (ab 10 1 a0 0).1)).1,0,()),()) else bif (av (List.drop (ab 10 1 a0 0).2.1.toNat (List.take (↑a0.length:Int).toNat a0)) (ak (ab 10 1 a0 0).1)).2 != 0 then oR (([],(av (List.drop (ab 10 1 a0 0).2.1.toNat (List.take (↑a0.length:Int).toNat a0)) (ak (ab 10 1 a0 0).1)).2,()),()) else oR (((av (List.drop (ab 10 1 a0 0).2.1.toNat (List.take (↑a0.length:Int).toNat a0)) (ak (ab 10 1 a0 0).1)).1,0,()),()) else none else none
theorem No (a0:LI)(a1:Int):Io.run tt O8 dr Hw kB Tryz.f79 ((a0,a1,()),())=wI a0 a1:=by kernel_rfl
theorem PJ:HcOk prog 79 (ah kB D0):=by
 refine bY (cs:=Gt) (.cons H1 (.cons PT .nil)) (lp:=Hw) (fn:=Tryz.f79) kB (.done (by kernel_rfl)) D0 ?_
 rintro ⟨⟨(b:LI),(most:Int),⟨⟩⟩,⟨⟩⟩ o hw ho
 obtain ⟨hg,ho⟩:=Tr.guard ho
 simp only[zA,zB] at hg
 obtain ⟨h0,hl⟩:=hg
 have h0:most=32768:=h0
 have hl:b.length≤4294960000:=hl
 subst h0
 cases ho
 refine (No b 32768).trans ?_
 show _=oR (((bh b).1,(bh b).2,()),())
 unfold wI bh
 have hk:=@mr 10 1 b 0
 generalize hge:ab 10 1 b 0=g at *
 obtain ⟨u,q,e⟩:=g
 simp only at hk ⊢
 by_cases h1:e=0
 rotate_left
 ·refine bT (by simpa using h1) ?_
  rw[if_pos h1]
 subst h1
 have hk:=hk rfl
 obtain ⟨q,rfl⟩:=aB (show 0≤q by omega)
 refine (ae rfl _ _).trans ?_
 rw[if_neg (au rfl)]
 generalize ak u=n
 by_cases h2:n<0
 ·refine bT (decide_eq_true h2) ?_
  rw[if_pos h2]
 refine bF (decide_eq_false h2) ?_
 rw[if_neg h2]
 by_cases h3:32768<n
 ·refine bT (decide_eq_true h3) ?_
  rw[if_pos h3]
 refine bF (decide_eq_false h3) ?_
 refine bF (decide_eq_false h3) ?_
 rw[if_neg h3]
 have hx:=fp (b.drop q) n
 rw[zG,zG,List.take_length]
 refine bT (by simp only[zA,zB];omega) ?_
 refine bT (decide_eq_true (by simp;omega)) ?_
 have hx1:(av (b.drop q) n).2≠0→(av (b.drop q) n).1=[]:=by rw[hx];exact iM _ _ _ _
 clear hx
 generalize av (b.drop q) n=x at *
 obtain ⟨o,f⟩:=x
 simp only at hx1 ⊢
 by_cases h4:f=4
 ·subst h4
  refine (aa rfl _ _).trans ?_
  rw[if_pos (.inl rfl)]
  all_goals rfl
 refine bF (by simpa using h4) ?_
 by_cases h5:f=0
 ·subst h5
  refine (aa rfl _ _).trans ?_
  by_cases h6:(o.length:Int)<n
  ·refine bT (decide_eq_true h6) ?_
   rw[if_pos (.inr ⟨rfl,h6⟩)]
  ·refine bF (decide_eq_false h6) ?_
   rw[if_neg (by rintro (h | h);cases h;exact h6 h.2),if_neg (au rfl)]
   all_goals rfl
 ·refine bF (by simpa using h5) ?_
  rw[if_neg (by rintro (h | h);exact h4 h;exact h5 h.1),if_pos h5]
  exact aa (by simpa using h5) _ _
abbrev cc:Ty:=.prod (.int .i64) (.prod x7 (.prod x7 (.prod FL .unit)))
abbrev Q5:Ty:=.sl 91 cc
abbrev bp:Ty:=.prod (.int .i64) (.prod (.int .i32) (.prod (.int .i64) (.prod (.int .i16) (.prod (.int .i32) (.prod Q5 .unit)))))
abbrev Tg:Ty:=.prod (.int .i64) (.prod (.int .i64) (.prod (.int .i32) (.prod .bool (.prod (.int .i64) (.prod (.int .i64) (.prod (.int .i64) (.prod (.int .i64) (.prod (.int .i16) (.prod (.int .i32) .unit)))))))))
abbrev cy:Type:=Int×AV×AV×List eM×Unit
abbrev bB:Type:=Int×Int×Int×Int×Int×List cy×Unit
abbrev wi:Type:=Int×Int×Int×Bool×Int×Int×Int×Int×Int×Int×Unit
abbrev TA:Sh:=.dat cc true false
abbrev Lg:Sh:=.dat Q5 false false
abbrev IF:Sh:=.dat bp true false
abbrev Lf:Sh:=.dat Tg true false
def te:bB:=(0,0,0,0,0,[],())
def bA:wi:=(0,0,0,false,0,0,0,0,0,0,())
def tf:cy:=(0,(false,[],()),(false,[],()),[],())
def aQ (base:Int):Bool:=decide (base<0) || decide (4611686018427387648<base)
def ba (pid ep sq:Int):Bool:=if pid = -1∧ep = -1∧sq = -1∨0≤pid∧0≤ep∧0≤sq then false else true
def aN (n:Int):Bool:=if -9223372036854775808≤n∧n≤9223372036854775807 then true else false
def aJ (rs:List cy):Int:=match rs with
 |[]=>0
 |r::_=>r.1
def dw (f:Int)(i:Nat)(r:cy):nb:=(r.1 - f,(i:Int),r.2.1,r.2.2.1,r.2.2.2.1,())
def bz (f:Int):List cy→Nat→LI→LI×Int
 |[],_,out=>(out,0)
 |r::rs,i,out=>
  if aN (r.1 - f)=false then ([],86)
  else if bD (dw f i r)≠0 then ([],bD (dw f i r))
  else bz f rs (i+1) (out++(cq (dw f i r)).1)
def bu (rs:List cy):LI×Int:=
 if (bz (aJ rs) rs 0 []).2≠0 then ([],(bz (aJ rs) rs 0 []).2)
 else if 32768<((bz (aJ rs) rs 0 []).1.length:Int) then ([],4)
 else ((bz (aJ rs) rs 0 []).1,0)
def aS (b:bB):Int:=
 if aQ b.1=true then 80
 else if ba b.2.2.1 b.2.2.2.1 b.2.2.2.2.1=true then 84
 else if b.2.2.2.2.2.1=[] then 85
 else if 256<(b.2.2.2.2.2.1.length:Int) then 9
 else (bu b.2.2.2.2.2.1).2
def eG (b:bB):LI×Int:=if aS b≠0 then ([],aS b) else ((bu b.2.2.2.2.2.1).1,0)
def dJ:List cy→Int→Int
 |[],t=>t
 |r::rs,t=>dJ rs (dK t r.1)
def du (rs:List cy):Int:=match rs with
 |[]=>-9223372036854775808
 |r::rs=>dJ rs r.1
def b7 (b:bB)(attrs:Int)(blk:LI):LI:=
 az attrs 2++(az ((b.2.2.2.2.2.1.length:Int) - 1) 4++(az (aJ b.2.2.2.2.2.1) 8++(az (du b.2.2.2.2.2.1) 8++(az b.2.2.1 8++(az b.2.2.2.1 2++(az b.2.2.2.2.1 4++(az (b.2.2.2.2.2.1.length:Int) 4++blk)))))))
def mq (b:bB)(attrs:Int)(blk:LI):LI:=
 az b.1 8++(az (49+(blk.length:Int)) 4++(az b.2.1 4++([2]++(az (cw 0 (b7 b attrs blk)) 4++b7 b attrs blk))))
def bM (b:bB):LI×Int:=if aS b≠0 then ([],aS b) else (mq b 0 (bu b.2.2.2.2.2.1).1,0)
def aw (b:LI)(p n:Nat):Int:=cn ((b.drop p).take n)
def ax (b:LI)(p:Int):Int×Int:=
 if p<0∨(b.length:Int)<p then (0,3)
 else if (b.length:Int) - p<12 then (0,1)
 else if aw b (p.toNat+8) 4<49 then (0,5)
 else if 35988<aw b (p.toNat+8) 4 then (0,4)
 else if (b.length:Int) - p - 12<aw b (p.toNat+8) 4 then (0,1)
 else (aw b (p.toNat+8) 4+12,0)
def eY (b:LI):Bool:=if (b.drop 17).take 4=az (cw 0 (b.drop 21)) 4 then true else false
def iO (b:LI):wi:=(aw b 0 8,(b.length:Int),aw b 12 4,decide (b.getD 22 0=1),aw b 57 4,aw b 27 8,aw b 35 8,aw b 43 8,aw b 51 2,aw b 53 4,())
def aW (b:LI)(summing:Bool):Int:=
 if (b.length:Int)<61 then 1
 else if (ax b 0).2≠0 then (ax b 0).2
 else if (ax b 0).1<(b.length:Int) then 2
 else if b.getD 16 0≠2 then 81
 else if summing=true∧eY b=false then 82
 else if aQ (aw b 0 8)=true then 80
 else if b.getD 21 0≠0∨1<b.getD 22 0 then 83
 else if ba (aw b 43 8) (aw b 51 2) (aw b 53 4)=true then 84
 else if aw b 57 4<1 then 85
 else if 256<aw b 57 4 then 9
 else if aw b 23 4≠aw b 57 4 - 1 then 72
 else 0
def aj (b:LI)(summing:Bool):wi×Int:=if aW b summing≠0 then (bA,aW b summing) else (iO b,0)
def aH (blk:LI)(f:Int):Nat→Nat→Int→List cy→List cy×Int×Int
 |0,_,p,out=>(out,p,0)
 |n+1,i,p,out=>
  if (am blk p).2.2≠0 then ([],0,(am blk p).2.2)
  else if (am blk p).1.2.1≠(i:Int) then ([],0,72)
  else if i=0∧(am blk p).1.1≠0∨aN (f+(am blk p).1.1)=false then ([],0,86)
  else aH blk f n (i+1) (am blk p).2.1 (out++[(f+(am blk p).1.1,(am blk p).1.2.2.1,(am blk p).1.2.2.2.1,(am blk p).1.2.2.2.2.1,())])
def cK (blk:LI)(f l:Int)(n:Nat):List cy×Int:=
 if (aH blk f n 0 0 []).2.2≠0 then ([],(aH blk f n 0 0 []).2.2)
 else if (aH blk f n 0 0 []).2.1<(blk.length:Int) then ([],2)
 else if du (aH blk f n 0 0 []).1≠l then ([],86)
 else ((aH blk f n 0 0 []).1,0)
def aR (b:LI)(packed:Bool):LI×Int:=
 if packed=true then bh (b.drop 61) else if 32768<((b.drop 61).length:Int) then ([],4) else (b.drop 61,0)
def dq (b:LI):List cy×Int:=
 if aW b true≠0 then ([],aW b true)
 else if (aR b (decide (b.getD 22 0=1))).2≠0 then ([],(aR b (decide (b.getD 22 0=1))).2)
 else cK (aR b (decide (b.getD 22 0=1))).1 (aw b 27 8) (aw b 35 8) (aw b 57 4).toNat
def aC (b:LI):bB×Int:=
 if (dq b).2≠0 then (te,(dq b).2) else ((aw b 0 8,aw b 12 4,aw b 43 8,aw b 51 2,aw b 53 4,(dq b).1,()),0)
def aq (b:LI)(base epoch:Int):LI×Int:=
 if (aC b).2≠0 then ([],(aC b).2)
 else if aQ base=true then ([],80)
 else (az base 8++((b.drop 8).take 4++(az epoch 4++b.drop 16)),0)
abbrev d8:Sh:=.dat (.int .i8) false false
abbrev uF:Io:=⟨[.ptr 0 0,d8],[Py],[],[dI],none⟩
def OC (d:uF.In):Tr uF.Res:=
 .ite (cT d.2.1.1 d.2.1.2.1) (.ret (.ret (((ct d.2.1.1 d.2.1.2.1 d.1.2.1 1).1,()),(((ct d.2.1.1 d.2.1.2.1 d.1.2.1 1).2,(d.2.1.2.1,())),())))) .no
abbrev QW:List (Nat×Hc):=[(129,ah dz jY)]
def SZ:Hd:=bI QW
def Q0:Lp:=bQ []
def Gc (a0:Int)(a1:LI)(a2:Int):Option uF.Res:=bif cT a1 a2&&(decide (0≤1)&&decide (1≤8)) then oR (((ct a1 a2 (u64.wrap a0) (Int.toNat 1)).1,()),((ct a1 a2 (u64.wrap a0) (Int.toNat 1)).2,a2,()),()) else none
theorem Sk (a0:Int)(a1:LI)(a2:Int):Io.run tt SZ dr Q0 uF Tryz.f92 (((),a0,()),(a1,a2,()),())=Gc a0 a1 a2:=by kernel_rfl
theorem S8:HcOk prog 92 (ah uF OC):=by
 refine bY (cs:=QW) (.cons mX .nil) (lp:=Q0) (fn:=Tryz.f92) uF (.done (by kernel_rfl)) OC ?_
 rintro ⟨⟨⟨⟩,(v:Int),⟨⟩⟩,⟨⟨(b:LI),(m:Int),⟨⟩⟩,⟨⟩⟩⟩ out hw ho
 obtain ⟨hg,ho⟩:=Tr.guard ho
 have hg:cT b m=true:=hg
 cases ho
 refine (Sk v b m).trans ?_
 unfold Gc
 have e:ct b m (u64.wrap v) 1=ct b m v 1:=by unfold ct;rw[pX v (by decide)]
 simp[hg,e]
abbrev nT:Io:=⟨[.ptr 0 0],[Q1],[],[d8,dI],none⟩
def FZ (d:nT.In):Tr nT.Res:=
 .ite (cL d.2.1.1 d.2.1.2.1) (.ret (.ret ((i8.wrap (bV d.2.1.1 d.2.1.2.1 1).1,((bV d.2.1.1 d.2.1.2.1 1).2.2,())),((d.2.1.1,((bV d.2.1.1 d.2.1.2.1 1).2.1,())),())))) .no
abbrev K1:List (Nat×Hc):=[(132,ah cI gS)]
def Rz:Hd:=bI K1
def Mj:Lp:=bQ []
def Bm (a0:LI)(a1:Int):Option nT.Res:=bif cL a0 a1&&(decide (0≤1)&&decide (1≤8)) then oR ((i8.wrap (bV a0 a1 (Int.toNat 1)).1,(bV a0 a1 (Int.toNat 1)).2.2,()),(a0,(bV a0 a1 (Int.toNat 1)).2.1,()),()) else none
theorem Qn (a0:LI)(a1:Int):Io.run tt Rz dr Mj nT Tryz.f106 (((),()),(a0,a1,()),())=Bm a0 a1:=by kernel_rfl
theorem RX:HcOk prog 106 (ah nT FZ):=by
 refine bY (cs:=K1) (.cons kY .nil) (lp:=Mj) (fn:=Tryz.f106) nT (.done (by kernel_rfl)) FZ ?_
 rintro ⟨⟨⟨⟩,⟨⟩⟩,⟨⟨(b:LI),(p:Int),⟨⟩⟩,⟨⟩⟩⟩ out hw ho
 obtain ⟨hg,ho⟩:=Tr.guard ho
 have hg:cL b p=true:=hg
 cases ho
 refine (Qn b p).trans ?_
 unfold Bm
 rw[aa (by simp[hg])]
 rfl
abbrev jb:Io:=⟨[.dat (.sl 22 bs) false false],[],[],[dO],none⟩
def yk (d:jb.In):Tr jb.Res:=.ite (decide (ao d.1.1≤4294967296)) (.ret (.ret ((aU d.1.1,()),()))) .no
abbrev yV:List (Nat×Hc):=[]
def GZ:Hd:=bI yV
abbrev d7:Lo:=⟨⟨(.any::bk (.one (.onl 5 (Ty.int u8) 7)::.any::bk (.one (.hol (.sl 22 (Ty.sl 5 (Ty.int u8))))::.one hI::.one hI::co []))),[]⟩,[(.exit 0,⟨(.any::bk (.one (.onl 5 (Ty.int u8) 7)::co (bx (bk [])))),[]⟩)]⟩
def lA (d:d7.st.den):Tr (ap d7.xs):=
 .ite (decide (d.1.2.2.2.1=0)&&(decide (d.1.2.2.1=(d.1.2.1.length:Int))&&decide (d.1.1.length+ao d.1.2.1≤4294967296))) (.ret (.ret ((),((d.1.1++aU d.1.2.1,()),())))) .no
def sY:Lp:=bQ [(4,aG d7 lA)]
def rZ {R:Type}(h1:LI)(h2:List bs.den)(h3 h4:Int)(next:LI→List bs.den→Int→Int→Option R)(out:ap d7.xs→Option R):Option R:=bif decide (h4<h3) then bif decide (0≤h4)&&decide (h4<(↑h2.length:Int)) then bif decide (h1.length+List.length (h2.getD h4.toNat [])≤4294967296) then next (h1++h2.getD h4.toNat []) (h2) (h3) (i64.wrap (h4+1)) else none else none else out (.ret ((),((h1,()),())))
def qK (n:Nat)(h1:LI)(h2:List bs.den)(h3 h4:Int):Option (ap d7.xs):=fR tt GZ dr sY 0 Tryz.f66 (bX Tryz.f66 0) n (d7.st.mk' ((h1,(h2,(h3,(h4,())))),())) (bC d7.xs)
theorem JJ (n:Nat)(h1:LI)(h2:List bs.den)(h3 h4:Int):qK (n+1) h1 h2 h3 h4=rZ h1 h2 h3 h4 (qK n) some:=by kernel_rfl
theorem CG (ps:List (LI))(hl:ps.length≤maxLen):∀(k i:Nat) (b:LI),ps.length<i+k→i≤ps.length→b.length+ao (ps.drop i)≤4294967296→
  qK k b ps (ps.length:Int) i=some (.ret ((),((b++aU (ps.drop i),()),()))):=by
 intro k
 induction k with
 |zero=>intro i b h;omega
 |succ k ih=>
  intro i b h1 h2 h3
  rw[JJ]
  unfold rZ
  by_cases hi:i<ps.length
  ·rw[jF hi] at h3
   rw[rS hi]
   have e:List.getD ps (i:Int).toNat []=ps[i]:=by simp only[zG,aK hi]
   rw[aa (by simpa using hi),aa (by simpa using hi),e,aM hi hl,aa (by simp;omega),ih (i+1) _ (by omega) (by omega) (by simp;omega),zK]
  ·rw[ae (by simp;omega),zI (by omega)]
   simp[aU]
def wy (a0:List bs.den):Option jb.Res:=(lA (([],(a0,((↑a0.length:Int),(0,())))),())).run fun y=>match y with | .ret ((),((x10,()),()))=>(oR ((x10,()),()))
theorem Nd (a0:List bs.den):Io.run tt GZ dr sY jb Tryz.f66 ((a0,()),())=wy a0:=by kernel_rfl
theorem Ao:HcOk prog 66 (ah jb yk):=by
 refine bY (cs:=yV) HcsOk.nil (lp:=sY) (fn:=Tryz.f66) jb (.step (h0:=aG d7 lA) (by kernel_rfl) (f9 (cs:=yV) HcsOk.nil (lp:=sY) (fn:=Tryz.f66) (.done (by kernel_rfl)) d7 lA ?_) (.done (by kernel_rfl))) yk ?_
 ·rintro ⟨⟨b,ps,n,i,⟨⟩⟩,⟨⟩⟩ y hw hy
  obtain ⟨hg,hy⟩:=Tr.guard hy
  simp only[zA,zB] at hg
  obtain ⟨rfl,rfl,h4⟩:=hg
  refine ⟨ps.length+1,(CG ps hw.1.2.1.1 _ 0 b (by omega) (by omega) (by simpa using h4)).trans ?_⟩
  rw[← hy];rfl
 ·rintro ⟨⟨(ps:List (LI)),⟨⟩⟩,⟨⟩⟩ out hw ho
  obtain ⟨hg,ho⟩:=Tr.guard ho
  have hg:ao ps≤4294967296:=of_decide_eq_true hg
  cases ho
  refine (Nd ps).trans ?_
  unfold wy lA
  refine bT (by simp only[zA,zB];exact ⟨trivial,trivial,by simpa using hg⟩) ?_
  rfl
theorem gD {n:Int}(h:bt .i64 n) : -9223372036854775808≤n∧n≤9223372036854775807:=by
 simpa [bt,IntKind.min,IntKind.max,IntKind.signed,IntKind.bits] using h
theorem zf {n:Int}(h:bt .i32 n) : -2147483648≤n∧n≤2147483647:=by
 simpa [bt,IntKind.min,IntKind.max,IntKind.signed,IntKind.bits] using h
theorem Ot {n:Int}(h1:9223372036854775807<n)(h2:n≤18446744073709551615):i64.wrap n=n - 18446744073709551616:=by
 simp[IntKind.wrap,IntKind.signed,IntKind.bits] <;> (try split) <;> omega
theorem Ou {n:Int}(h1:n < -9223372036854775808)(h2 : -18446744073709551616≤n):i64.wrap n=n+18446744073709551616:=by
 simp[IntKind.wrap,IntKind.signed,IntKind.bits] <;> (try split) <;> omega
theorem B9 {n:Int}(h1 : -9223372036854775808≤n)(h2:n≤9223372036854775807):aN n=true:=by unfold aN;rw[if_pos ⟨h1,h2⟩]
theorem mJ {n:Int}(h:¬(-9223372036854775808≤n∧n≤9223372036854775807)):aN n=false:=by unfold aN;rw[if_neg h]
theorem eT {n:Int}:aN n=true↔-9223372036854775808≤n∧n≤9223372036854775807:=by
 unfold aN
 split
 ·rename_i h;exact ⟨fun _=>h,fun _=>rfl⟩
 ·rename_i h;exact ⟨fun h'=>Bool.noConfusion h',fun h'=>absurd h' h⟩
theorem OV {t f:Int}(ht:bt .i64 t)(hf:bt .i64 f):(decide (i64.wrap (t - f)<0) == decide (t<f))=aN (t - f):=by
 have h1:=gD ht
 have h2:=gD hf
 by_cases a : -9223372036854775808≤t - f
 ·by_cases b:t - f≤9223372036854775807
  ·rw[B9 a b,af a b]
   by_cases c:t<f
   ·rw[decide_eq_true c,decide_eq_true (show t - f<0 by omega)];rfl
   ·rw[decide_eq_false c,decide_eq_false (show ¬ t - f<0 by omega)];rfl
  ·rw[mJ (fun h=>b h.2),Ot (by omega) (by omega),decide_eq_true (show t - f - 18446744073709551616<0 by omega),decide_eq_false (show ¬ t<f by omega)];rfl
 ·rw[mJ (fun h=>a h.1),Ou (by omega) (by omega),decide_eq_false (show ¬ t - f+18446744073709551616<0 by omega),decide_eq_true (show t<f by omega)];rfl
theorem OU {d f:Int}(hd:bt .i64 d)(hf:bt .i64 f):(decide (i64.wrap (f+d)<f) == decide (d<0))=aN (f+d):=by
 have h1:=gD hd
 have h2:=gD hf
 by_cases a : -9223372036854775808≤f+d
 ·by_cases b:f+d≤9223372036854775807
  ·rw[B9 a b,af a b]
   by_cases c:d<0
   ·rw[decide_eq_true c,decide_eq_true (show f+d<f by omega)];rfl
   ·rw[decide_eq_false c,decide_eq_false (show ¬ f+d<f by omega)];rfl
  ·rw[mJ (fun h=>b h.2),Ot (by omega) (by omega),decide_eq_true (show f+d - 18446744073709551616<f by omega),decide_eq_false (show ¬ d<0 by omega)];rfl
 ·rw[mJ (fun h=>a h.1),Ou (by omega) (by omega),decide_eq_false (show ¬ f+d+18446744073709551616<f by omega),decide_eq_true (show d<0 by omega)];rfl
theorem So:∀{l:LI},(∀c∈l,0≤c∧c≤255)→l.length=1→i8.wrap (aZ l)=cn l
 |[a],h,_=>by
  have ha:=h a (by simp)
  simp only[aZ,cn,List.foldl_cons,List.foldl_nil]
  simp[IntKind.wrap,IntKind.signed,IntKind.bits] <;> (try split) <;> omega
theorem tc:∀{l:LI},(∀c∈l,0≤c∧c≤255)→l.length=2→i16.wrap (aZ l)=cn l
 |[a,b],h,_=>by
  have ha:=h a (by simp)
  have hb:=h b (by simp)
  simp only[aZ,cn,List.foldl_cons,List.foldl_nil]
  simp[IntKind.wrap,IntKind.signed,IntKind.bits] <;> (try split) <;> omega
theorem mY:∀{l:LI},(∀c∈l,0≤c∧c≤255)→l.length=4→i32.wrap (aZ l)=cn l
 |[a,b,c,d],h,_=>by
  have ha:=h a (by simp)
  have hb:=h b (by simp)
  have hc:=h c (by simp)
  have hd:=h d (by simp)
  simp only[aZ,cn,List.foldl_cons,List.foldl_nil]
  simp[IntKind.wrap,IntKind.signed,IntKind.bits] <;> (try split) <;> omega
theorem AD:∀{l:LI},(∀c∈l,0≤c∧c≤255)→l.length=8→i64.wrap (aZ l)=cn l
 |[a,b,c,d,e,f,g,i],h,_=>by
  have ha:=h a (by simp)
  have hb:=h b (by simp)
  have hc:=h c (by simp)
  have hd:=h d (by simp)
  have he:=h e (by simp)
  have hf:=h f (by simp)
  have hg:=h g (by simp)
  have hi:=h i (by simp)
  simp only[aZ,cn,List.foldl_cons,List.foldl_nil]
  simp[IntKind.wrap,IntKind.signed,IntKind.bits] <;> (try split) <;> omega
theorem NM:∀{l:LI},(∀c∈l,0≤c∧c≤255)→l.length=4→-2147483648≤cn l∧cn l≤2147483647:=fun h hl=>by
 rw[← mY h hl]
 exact zf (bP _ _)
theorem dH {b:LI}(hb:∀c∈b,0≤c∧c≤255)(p n:Nat):∀c∈(b.drop p).take n,0≤c∧c≤255:=fun c hc=>hb c (List.mem_of_mem_drop (List.mem_of_mem_take hc))
theorem cm {b:LI}{p n:Nat}(h:p+n≤b.length):((b.drop p).take n).length=n:=by simp;omega
abbrev gL:Io:=⟨[gl],[],[],[dB],none⟩
def tj (d:gL.In):Tr gL.Res:=.ret (.ret ((aQ d.1.1,()),()))
abbrev Ge:List (Nat×Hc):=[]
def OY:Hd:=bI Ge
def Hm:Lp:=bQ []
def wq (a0:Int):Option gL.Res:=bif decide (a0<0) then oR ((true,()),()) else oR ((decide (4611686018427387648<a0),()),())
theorem M6 (a0:Int):Io.run tt OY dr Hm gL Tryz.f100 ((a0,()),())=wq a0:=by kernel_rfl
theorem An:HcOk prog 100 (ah gL tj):=by
 refine bY (cs:=Ge) HcsOk.nil (lp:=Hm) (fn:=Tryz.f100) gL (.done (by kernel_rfl)) tj ?_
 rintro ⟨⟨(b:Int),⟨⟩⟩,⟨⟩⟩ out hw ho
 cases ho
 refine (M6 b).trans ?_
 show _=oR ((decide (b<0) || decide (4611686018427387648<b),()),())
 unfold wq
 by_cases h:b<0
 ·refine bT (decide_eq_true h) ?_
  rw[decide_eq_true h];rfl
 ·refine bF (decide_eq_false h) ?_
  rw[decide_eq_false h];rfl
abbrev gM:Io:=⟨[gl,To,yY],[],[],[dB],none⟩
def yj (d:gM.In):Tr gM.Res:=.ret (.ret ((ba d.1.1 d.1.2.1 d.1.2.2.1,()),()))
abbrev Gj:List (Nat×Hc):=[]
def O2:Hd:=bI Gj
def Hq:Lp:=bQ []
def ww (a0 a1 a2:Int):Option gM.Res:=bif a0 == -1 then bif a1 == -1 then bif decide (0≤a0) then bif decide (0≤a1) then bif !a2 == -1 then oR ((!decide (0≤a2),()),()) else oR ((false,()),()) else bif !a2 == -1 then oR ((true,()),()) else oR ((false,()),()) else bif !a2 == -1 then oR ((true,()),()) else oR ((false,()),()) else bif decide (0≤a0) then bif decide (0≤a1) then oR ((!decide (0≤a2),()),()) else oR ((true,()),()) else oR ((true,()),()) else bif decide (0≤a0) then bif decide (0≤a1) then oR ((!decide (0≤a2),()),()) else oR ((true,()),()) else oR ((true,()),())
theorem Nb (a0 a1 a2:Int):Io.run tt O2 dr Hq gM Tryz.f108 ((a0,a1,a2,()),())=ww a0 a1 a2:=by kernel_rfl
theorem HW:HcOk prog 108 (ah gM yj):=by
 refine bY (cs:=Gj) HcsOk.nil (lp:=Hq) (fn:=Tryz.f108) gM (.done (by kernel_rfl)) yj ?_
 rintro ⟨⟨(pid:Int),(ep:Int),(sq:Int),⟨⟩⟩,⟨⟩⟩ out hw ho
 cases ho
 refine (Nb pid ep sq).trans ?_
 show _=oR (((if pid = -1∧ep = -1∧sq = -1∨0≤pid∧0≤ep∧0≤sq then false else true),()),())
 have hs:(!decide (0≤sq))=if 0≤sq then false else true:=by by_cases h:0≤sq <;> simp[h]
 have key:∀c:Prop,[Decidable c]→∀b:Bool,(b=false↔c)→some (Out.ret ((b,()),()):gM.Res)=oR (((if c then false else true),()),()):=by
  intro c _ b h
  by_cases hc:c
  ·rw[if_pos hc,h.2 hc]
  ·rw[if_neg hc]
   cases b with
   |true=>rfl
   |false=>exact absurd (h.1 rfl) hc
 unfold ww
 by_cases h1:pid = -1
 ·refine bT (by simp[h1]) ?_
  by_cases h2:ep = -1
  ·refine bT (by simp[h2]) ?_
   refine bF (decide_eq_false (by omega)) ?_
   by_cases h3:sq = -1
   ·refine bF (by simp[h3]) ?_
    exact key _ _ (by simp;omega)
   ·refine bT (by simp[h3]) ?_
    exact key _ _ (by simp;omega)
  ·refine bF (by simp[h2]) ?_
   refine bF (decide_eq_false (by omega)) ?_
   exact key _ _ (by simp;omega)
 ·refine bF (by simp[h1]) ?_
  by_cases h2:0≤pid
  ·refine bT (decide_eq_true h2) ?_
   by_cases h3:0≤ep
   ·refine bT (decide_eq_true h3) ?_
    exact key _ _ (by simp;omega)
   ·refine bF (decide_eq_false h3) ?_
    exact key _ _ (by simp;omega)
  ·refine bF (decide_eq_false h2) ?_
   exact key _ _ (by simp;omega)
abbrev ir:Io:=⟨[gl,gl],[],[],[gl,dB],none⟩
def yg (d:ir.In):Tr ir.Res:=.ret (.ret ((i64.wrap (d.1.1 - d.1.2.1),aN (d.1.1 - d.1.2.1),()),()))
abbrev BF:List (Nat×Hc):=[]
def LE:Hd:=bI BF
def CS:Lp:=bQ []
def tI (a0 a1:Int):Option ir.Res:=oR ((i64.wrap (a0 - a1),decide (i64.wrap (a0 - a1)<0) == decide (a0<a1),()),())
theorem Jh (a0 a1:Int):Io.run tt LE dr CS ir Tryz.f124 ((a0,a1,()),())=tI a0 a1:=by kernel_rfl
theorem Mz:HcOk prog 124 (ah ir yg):=by
 refine bY (cs:=BF) HcsOk.nil (lp:=CS) (fn:=Tryz.f124) ir (.done (by kernel_rfl)) yg ?_
 rintro ⟨⟨(t:Int),(f:Int),⟨⟩⟩,⟨⟩⟩ out hw ho
 cases ho
 refine (Jh t f).trans ?_
 unfold tI
 rw[OV hw.1.1 hw.1.2.1]
def cv (f:Int):List cy→Nat→Bool
 |[],_=>true
 |r::rs,i=>lf (dw f i r)&&cv f rs (i+1)
abbrev ja:Io:=⟨[IF],[],[],[dO,dI],none⟩
def qr (d:ja.In):Tr ja.Res:=.ite (cv (aJ d.1.1.2.2.2.2.2.1) d.1.1.2.2.2.2.2.1 0) (.ret (.ret (((eG d.1.1).1,(eG d.1.1).2,()),()))) .no
abbrev Gk:List (Nat×Hc):=[(100,ah gL tj),(108,ah gM yj),(124,ah ir yg),(125,ah nL Kj)]
def GY:Hd:=bI Gk
abbrev cZ:Lo:=⟨⟨(.any::.one (.ptr 1 0)::bk (.one (.onl 5 (Ty.int u8) 9)::.any::ai (co (bx (.one (.hol (.sl 91 cc))::.one hI::.one hI::ai (ai (co (bk [])))))))),[none,some [hI,hJ,hI,hK,hJ,.hol (.sl 91 cc)]]⟩,[(.ret,⟨(bk (.one (.onl 5 (Ty.int u8) 5)::.one hI::.any::ai (ai (ai (ai (co (bk []))))))),[]⟩),(.exit 1,⟨(bx (.one (.onl 5 (Ty.int u8) 9)::ai (ai (ai (ai (co (bk []))))))),[]⟩)]⟩
def jM (d:cZ.st.den):Tr (ap cZ.xs):=
 .ite (decide (d.1.2.2.2.1=0)&&(decide (d.1.2.2.1=(d.1.2.1.length:Int))&&(decide (d.1.1.length=0)&&((decide (aJ d.2.1.2.2.2.2.2.1=aJ d.1.2.1)&&decide (1≤d.2.1.2.2.2.2.2.1.length))&&(decide (d.1.2.1.length≤256)&&cv (aJ d.1.2.1) d.1.2.1 0)))))
  (.ite (decide ((bz (aJ d.1.2.1) d.1.2.1 0 []).2=0)) (.ret (.pan (.ret ((),(((bz (aJ d.1.2.1) d.1.2.1 0 []).1,()),()))))) (.ret (.ret ((),(([],(bz (aJ d.1.2.1) d.1.2.1 0 []).2,()),()))))) .no
def sX:Lp:=bQ [(12,aG cZ jM)]
def qd {R:Type}(h6:LI)(h7:List cc.den)(h8 h9 h10 h11 h12 h13 h14:Int)(h15:List cc.den)(next:LI→List cc.den→Int→Int→Int→Int→Int→Int→Int→List cc.den→Option R)(out:ap cZ.xs→Option R):Option R:=bif decide (h9<h8) then bif decide (0≤h9)&&decide (h9<(↑h7.length:Int)) then bif decide (0≤0)&&decide (0<(↑h15.length:Int)) then bif !aN ((h7.getD h9.toNat (0,(false,[],()),(false,[],()),[],())).1 - (h15.getD (Int.toNat 0) (0,(false,[],()),(false,[],()),[],())).1) then out (.ret ((),(([],(86,())),()))) else bif lf (i64.wrap ((h7.getD h9.toNat (0,(false,[],()),(false,[],()),[],())).1 - (h15.getD (Int.toNat 0) (0,(false,[],()),(false,[],()),[],())).1),i32.wrap h9,(h7.getD h9.toNat (0,(false,[],()),(false,[],()),[],())).2) then bif (cq (i64.wrap ((h7.getD h9.toNat (0,(false,[],()),(false,[],()),[],())).1 - (h15.getD (Int.toNat 0) (0,(false,[],()),(false,[],()),[],())).1),i32.wrap h9,(h7.getD h9.toNat (0,(false,[],()),(false,[],()),[],())).2)).2 != 0 then out (.ret ((),(([],((cq (i64.wrap ((h7.getD h9.toNat (0,(false,[],()),(false,[],()),[],())).1 - (h15.getD (Int.toNat 0) (0,(false,[],()),(false,[],()),[],())).1),i32.wrap h9,(h7.getD h9.toNat (0,(false,[],()),(false,[],()),[],())).2)).2,())),()))) else bif decide (h6.length+(cq (i64.wrap ((h7.getD h9.toNat (0,(false,[],()),(false,[],()),[],())).1 - (h15.getD (Int.toNat 0) (0,(false,[],()),(false,[],()),[],())).1),i32.wrap h9,(h7.getD h9.toNat (0,(false,[],()),(false,[],()),[],())).2)).1.length≤4294967296) then next (h6++(cq (i64.wrap ((h7.getD h9.toNat (0,(false,[],()),(false,[],()),[],())).1 - (h15.getD (Int.toNat 0) (0,(false,[],()),(false,[],()),[],())).1),i32.wrap h9,(h7.getD h9.toNat (0,(false,[],()),(false,[],()),[],())).2)).1) (h7) (h8) (i64.wrap (h9+1)) (h10) (h11) (h12) (h13) (h14) (h15) else none else none else none else none else out (.pan (.ret ((),((h6,()),()))))
def oe (n:Nat)(h6:LI)(h7:List cc.den)(h8 h9 h10 h11 h12 h13 h14:Int)(h15:List cc.den):Option (ap cZ.xs):=fR tt GY dr sX 0 Tryz.f87 (bX Tryz.f87 0) n (cZ.st.mk' ((h6,(h7,(h8,(h9,())))),((h10,(h11,(h12,(h13,(h14,(h15,())))))),()))) (bC cZ.xs)
theorem Fm (n:Nat)(h6:LI)(h7:List cc.den)(h8 h9 h10 h11 h12 h13 h14:Int)(h15:List cc.den):oe (n+1) h6 h7 h8 h9 h10 h11 h12 h13 h14 h15=qd h6 h7 h8 h9 h10 h11 h12 h13 h14 h15 (oe n) some:=by kernel_rfl
theorem JU {r:nb}(h:bD r=0):(cq r).2=0∧(cq r).1.length≤16400:=by
 have e:cq r=(bH (bg (cJ r).length)++cJ r,0):=by unfold cq;rw[if_pos h]
 rw[e]
 refine ⟨rfl,?_⟩
 have hs:(cJ r).length≤16384:=by
  unfold bD at h
  split at h
  ·rename_i h1;exact absurd h h1
  ·split at h
   ·cases h
   ·omega
 have:=xV (bg (cJ r).length)
 simp only[zH]
 omega
theorem vz {r:nb}(h:bD r≠0):(cq r).2=bD r:=by unfold cq;rw[if_neg h]
theorem zp (b1 b2 b3 b4 b5:Int)(rs0:List cy)(h0:1≤rs0.length){f:Int}(hf0:aJ rs0=f)(hf:bt .i64 f)(rs:List cy)(hl:rs.length≤256)(hr:∀r∈rs,bt .i64 r.1):∀(k i:Nat) (out:LI),rs.length<i+k→i≤rs.length→cv f (rs.drop i) i=true→out.length≤i*17000→
  oe k out rs (rs.length:Int) i b1 b2 b3 b4 b5 rs0=if (bz f (rs.drop i) i out).2=0 then some (.pan (.ret ((),(((bz f (rs.drop i) i out).1,()),())))) else some (.ret ((),(([],((bz f (rs.drop i) i out).2,())),()))):=by
 intro k
 induction k with
 |zero=>intro i out h;omega
 |succ k ih=>
  intro i out h1 h2 h3 h4
  rw[Fm]
  unfold qd
  by_cases hi:i<rs.length
  ·rw[zE hi] at h3 ⊢
   have hri:=hr rs[i] (List.getElem_mem hi)
   have e0:(rs0.getD (Int.toNat 0) (0,(false,[],()),(false,[],()),[],())).1=f:=by
    rw[← hf0]
    cases rs0 with
    |nil=>simp at h0
    |cons r l=>rfl
   have e1:List.getD rs (i:Int).toNat (0,(false,[],()),(false,[],()),[],())=rs[i]:=by rw[zG,aK hi]
   rw[e0,e1]
   generalize rs[i]=r at *
   simp only[cv,zA] at h3
   obtain ⟨h5,h6⟩:=h3
   refine bT (by simpa using hi) ?_
   refine bT (by simpa using hi) ?_
   refine bT (by simp;omega) ?_
   have eL:bz f (r::rs.drop (i+1)) i out=if aN (r.1 - f)=false then ([],86) else if bD (dw f i r)≠0 then ([],bD (dw f i r)) else bz f (rs.drop (i+1)) (i+1) (out++(cq (dw f i r)).1):=rfl
   rw[eL]
   cases h7:aN (r.1 - f) with
   |false=>
    refine (aa rfl _ _).trans ?_
    rw[if_pos rfl,if_neg (show (86:Int)≠0 by decide)]
   |true=>
    have h8:=eT.1 h7
    refine (ae rfl _ _).trans ?_
    rw[if_neg (show ¬ true=false by decide)]
    have eR:((i64.wrap (r.1 - f),i32.wrap (i:Int),r.2):nb)=dw f i r:=by
     rw[af h8.1 h8.2,bW (k:=.i32) (by simp[bt,IntKind.min,IntKind.max,IntKind.signed,IntKind.bits];omega)]
     rfl
    rw[eR]
    refine (aa h5 _ _).trans ?_
    by_cases h9:bD (dw f i r)=0
    ·obtain ⟨p1,p2⟩:=JU h9
     refine bF (by simpa using p1) ?_
     refine bT (decide_eq_true (by omega)) ?_
     rw[if_neg (au h9),af (n:=(i:Int)+1) (by omega) (by omega)]
     exact ih (i+1) _ (by omega) (by omega) h6 (by simp;omega)
    ·refine bT (by rw[vz h9];simpa using h9) ?_
     rw[if_pos h9,vz h9]
     rw[if_neg h9]
  ·refine bF (by simp;omega) ?_
   rw[zI (by omega)]
   rfl
def wx (a0 a1 a2 a3 a4:Int)(a5:List cc.den):Option ja.Res:=bif aQ a0 then oR (([],80,()),()) else bif ba a2 a3 a4 then oR (([],84,()),()) else bif (↑a5.length:Int) == 0 then oR (([],85,()),()) else bif decide (256<(↑a5.length:Int)) then oR (([],9,()),()) else (jM (([],(a5,((↑a5.length:Int),(0,())))),((a0,(a1,(a2,(a3,(a4,(a5,())))))),()))).run fun y=>match y with | .ret ((),((x31,x32,()),()))=>(oR ((x31,x32,()),())) | .pan (.ret ((),((x33,()),())))=>(bif decide (32768<(↑x33.length:Int)) then oR (([],4,()),()) else oR ((x33,0,()),()))
theorem Nc (a0 a1 a2 a3 a4:Int)(a5:List cc.den):Io.run tt GY dr sX ja Tryz.f87 (((a0,a1,a2,a3,a4,a5,()),()),())=wx a0 a1 a2 a3 a4 a5:=by kernel_rfl
theorem xr:HcsOk prog Gk:=.cons An (.cons HW (.cons Mz (.cons RQ .nil)))
theorem HX:HcOk prog 87 (ah ja qr):=by
 refine bY xr (lp:=sX) (fn:=Tryz.f87) ja (.step (h0:=aG cZ jM) (by kernel_rfl) (f9 xr (lp:=sX) (fn:=Tryz.f87) (.done (by kernel_rfl)) cZ jM ?_) (.done (by kernel_rfl))) qr ?_
 ·rintro ⟨⟨(out:LI),(rs:List cy),(m:Int),(i:Int),⟨⟩⟩,⟨⟨(b1:Int),(b2:Int),(b3:Int),(b4:Int),(b5:Int),(rs0:List cy),⟨⟩⟩,⟨⟩⟩⟩ y hw hy
  obtain ⟨hg,hy⟩:=Tr.guard hy
  simp only[zA,zB] at hg
  obtain ⟨h1,h2,h3,⟨h4,h5⟩,h6,h7⟩:=hg
  have h1:i=0:=h1
  have h2:m=(rs.length:Int):=h2
  have h3:out=[]:=List.length_eq_zero_iff.1 h3
  have h4:aJ rs0=aJ rs:=h4
  have h5:1≤rs0.length:=h5
  have h6:rs.length≤256:=h6
  subst h1 h2 h3
  have hf:bt .i64 (aJ rs):=by
   cases rs with
   |nil=>exact ⟨by decide,by decide⟩
   |cons r rs=>exact (hw.1.2.1.2 r (by simp)).1
  refine ⟨rs.length+1,(zp b1 b2 b3 b4 b5 rs0 h5 h4 hf rs h6 (fun r hr=>(hw.1.2.1.2 r hr).1) (rs.length+1) 0 [] (by omega) (by omega) h7 (by simp)).trans ?_⟩
  rw[← hy]
  simp only[Tr.val_ite,zB,Tr.val_ret,List.drop_zero]
 ·rintro ⟨⟨⟨(b1:Int),(b2:Int),(b3:Int),(b4:Int),(b5:Int),(rs:List cy),⟨⟩⟩,⟨⟩⟩,⟨⟩⟩ out hw ho
  obtain ⟨hg,ho⟩:=Tr.guard ho
  have hg:cv (aJ rs) rs 0=true:=hg
  cases ho
  refine (Nc b1 b2 b3 b4 b5 rs).trans ?_
  show _=oR (((eG (b1,b2,b3,b4,b5,rs,())).1,(eG (b1,b2,b3,b4,b5,rs,())).2,()),())
  have e:aS (b1,b2,b3,b4,b5,rs,())=if aQ b1=true then 80 else if ba b3 b4 b5=true then 84 else if rs=[] then 85 else if 256<(rs.length:Int) then 9 else (bu rs).2:=rfl
  have e2:eG (b1,b2,b3,b4,b5,rs,())=if aS (b1,b2,b3,b4,b5,rs,())≠0 then ([],aS (b1,b2,b3,b4,b5,rs,())) else ((bu rs).1,0):=rfl
  unfold wx
  rw[e2]
  cases h1:aQ b1 with
  |true=>
   refine (aa rfl _ _).trans ?_
   rw[show aS (b1,b2,b3,b4,b5,rs,())=80 by rw[e,if_pos h1],if_pos (by decide)]
  |false=>
  refine (ae rfl _ _).trans ?_
  cases h2:ba b3 b4 b5 with
  |true=>
   refine (aa rfl _ _).trans ?_
   rw[show aS (b1,b2,b3,b4,b5,rs,())=84 by rw[e,if_neg (by rw[h1];decide),if_pos h2],if_pos (by decide)]
  |false=>
  refine (ae rfl _ _).trans ?_
  by_cases h3:rs=[]
  ·refine bT (by simp[h3]) ?_
   rw[show aS (b1,b2,b3,b4,b5,rs,())=85 by rw[e,if_neg (by rw[h1];decide),if_neg (by rw[h2];decide),if_pos h3],if_pos (by decide)]
  refine bF (by simp[h3]) ?_
  by_cases h4:256<(rs.length:Int)
  ·refine bT (decide_eq_true h4) ?_
   rw[show aS (b1,b2,b3,b4,b5,rs,())=9 by rw[e,if_neg (by rw[h1];decide),if_neg (by rw[h2];decide),if_neg h3,if_pos h4],if_pos (by decide)]
  refine bF (decide_eq_false h4) ?_
  rw[show aS (b1,b2,b3,b4,b5,rs,())=(bu rs).2 by rw[e,if_neg (by rw[h1];decide),if_neg (by rw[h2];decide),if_neg h3,if_neg h4]]
  have hp:=List.length_pos_iff.2 h3
  unfold jM
  refine bT (by simp only[zA,zB];exact ⟨trivial,trivial,rfl,⟨trivial,hp⟩,show rs.length≤256 by omega,hg⟩) ?_
  show (bif decide ((bz (aJ rs) rs 0 []).2=0) then (bif decide (32768<((bz (aJ rs) rs 0 []).1.length:Int)) then oR (([],4,()),()) else oR (((bz (aJ rs) rs 0 []).1,0,()),())) else oR (([],(bz (aJ rs) rs 0 []).2,()),()))=_
  unfold bu
  by_cases h5:(bz (aJ rs) rs 0 []).2=0
  ·refine bT (decide_eq_true h5) ?_
   rw[if_neg (au h5)]
   by_cases h6:32768<((bz (aJ rs) rs 0 []).1.length:Int)
   ·refine bT (decide_eq_true h6) ?_
    rw[if_pos h6,if_pos (show (4:Int)≠0 by decide)]
   ·refine bF (decide_eq_false h6) ?_
    rw[if_neg h6,if_neg (au rfl)]
  ·refine bF (decide_eq_false h5) ?_
   rw[if_pos h5,if_pos h5]
abbrev iZ:Io:=⟨[Lg],[],[],[gl],none⟩
def yh (d:iZ.In):Tr iZ.Res:=.ite (decide (1≤d.1.1.length)) (.ret (.ret ((du d.1.1,()),()))) .no
abbrev yU:List (Nat×Hc):=[]
def GX:Hd:=bI yU
abbrev d0:Lo:=⟨⟨(.any::bk (.one hI::bx (bk (.one (.hol (.sl 91 cc))::.one hI::.one hI::.any::co [])))),[]⟩,[(.exit 0,⟨(.any::bk (.one hI::ai (bk []))),[]⟩)]⟩
def lz (d:d0.st.den):Tr (ap d0.xs):=.ite (decide (d.1.2.2.2.1=0)&&decide (d.1.2.2.1=(d.1.2.1.length:Int))) (.ret (.ret ((),((dJ d.1.2.1 d.1.1,()),())))) .no
def sW:Lp:=bQ [(4,aG d0 lz)]
def rY {R:Type}(h1:Int)(h2:List cc.den)(h3 h4:Int)(next:Int→List cc.den→Int→Int→Option R)(out:ap d0.xs→Option R):Option R:=bif decide (h4<h3) then bif decide (0≤h4)&&decide (h4<(↑h2.length:Int)) then next (dK h1 (h2.getD h4.toNat (0,(false,[],()),(false,[],()),[],())).1) (h2) (h3) (i64.wrap (h4+1)) else none else out (.ret ((),((h1,()),())))
def qJ (n:Nat)(h1:Int)(h2:List cc.den)(h3 h4:Int):Option (ap d0.xs):=fR tt GX dr sW 0 Tryz.f77 (bX Tryz.f77 0) n (d0.st.mk' ((h1,(h2,(h3,(h4,())))),())) (bC d0.xs)
theorem JI (n:Nat)(h1:Int)(h2:List cc.den)(h3 h4:Int):qJ (n+1) h1 h2 h3 h4=rY h1 h2 h3 h4 (qJ n) some:=by kernel_rfl
theorem CF (rs:List cy)(hl:rs.length≤maxLen):∀(k i:Nat) (t:Int),rs.length<i+k→i≤rs.length→qJ k t rs (rs.length:Int) i=some (.ret ((),((dJ (rs.drop i) t,()),()))):=by
 intro k
 induction k with
 |zero=>intro i t h;omega
 |succ k ih=>
  intro i t h1 h2
  rw[JI]
  unfold rY
  by_cases hi:i<rs.length
  ·refine bT (by simpa using hi) ?_
   refine bT (by simpa using hi) ?_
   have e:List.getD rs (i:Int).toNat (0,(false,[],()),(false,[],()),[],())=rs[i]:=by simp only[zG,aK hi]
   rw[e,aM hi hl,zE hi]
   exact ih (i+1) _ (by omega) (by omega)
  ·refine bF (by simp;omega) ?_
   rw[zI (by omega)]
   rfl
def wu (a0:List cc.den):Option iZ.Res:=bif decide (0≤0)&&decide (0<(↑a0.length:Int)) then (lz (((a0.getD (Int.toNat 0) (0,(false,[],()),(false,[],()),[],())).1,(a0,((↑a0.length:Int),(0,())))),())).run fun y=>match y with | .ret ((),((x10,()),()))=>(oR ((x10,()),())) else none
theorem M9 (a0:List cc.den):Io.run tt GX dr sW iZ Tryz.f77 ((a0,()),())=wu a0:=by kernel_rfl
theorem HU:HcOk prog 77 (ah iZ yh):=by
 refine bY (cs:=yU) HcsOk.nil (lp:=sW) (fn:=Tryz.f77) iZ (.step (h0:=aG d0 lz) (by kernel_rfl) (f9 (cs:=yU) HcsOk.nil (lp:=sW) (fn:=Tryz.f77) (.done (by kernel_rfl)) d0 lz ?_) (.done (by kernel_rfl))) yh ?_
 ·rintro ⟨⟨(t:Int),(rs:List cy),(m:Int),(i:Int),⟨⟩⟩,⟨⟩⟩ y hw hy
  obtain ⟨hg,hy⟩:=Tr.guard hy
  simp only[zA,zB] at hg
  obtain ⟨h1,h2⟩:=hg
  have h1:i=0:=h1
  have h2:m=(rs.length:Int):=h2
  subst h1 h2
  refine ⟨rs.length+1,(CF rs hw.1.2.1.1 (rs.length+1) 0 t (by omega) (by omega)).trans ?_⟩
  rw[← hy];rfl
 ·rintro ⟨⟨(rs:List cy),⟨⟩⟩,⟨⟩⟩ out hw ho
  obtain ⟨hg,ho⟩:=Tr.guard ho
  have hg:1≤rs.length:=of_decide_eq_true hg
  cases ho
  refine (M9 rs).trans ?_
  show _=oR ((du rs,()),())
  unfold wu lz
  refine bT (by simp;omega) ?_
  refine bT (by simp) ?_
  cases rs with
  |nil=>simp at hg
  |cons r rs=>
   have e:dJ (r::rs) r.1=dJ rs r.1:=by
    show dJ rs (dK r.1 r.1)=_
    unfold dK
    rw[if_neg (by omega)]
   exact congrArg (fun x=>oR ((x,()),())) e
abbrev i0:Io:=⟨[dL,dI],[],[],[dI,dI],none⟩
def yi (d:i0.In):Tr i0.Res:=.ite (decide (d.1.1.length≤4294960000)) (.ret (.ret (((ax d.1.1 d.1.2.1).1,(ax d.1.1 d.1.2.1).2,()),()))) .no
abbrev Gi:List (Nat×Hc):=[(98,ah jh yv),(99,ah jg tr)]
def O1:Hd:=bI Gi
def Hp:Lp:=bQ []
def wv (a0:LI)(a1:Int):Option i0.Res:=bif decide (a1<0) then oR ((0,3,()),()) else bif decide ((↑a0.length:Int)<a1) then oR ((0,3,()),()) else bif decide (i64.wrap ((↑a0.length:Int) - a1)<12) then oR ((0,1,()),()) else bif decide (0≤i64.wrap (a1+8))&&(decide (i64.wrap (a1+8)≤i64.wrap (a1+12))&&decide (i64.wrap (a1+12)≤(↑a0.length:Int))) then bif decide ((List.drop (i64.wrap (a1+8)).toNat (List.take (i64.wrap (a1+12)).toNat a0)).length≤4294967296) then bif cL (List.drop (i64.wrap (a1+8)).toNat (List.take (i64.wrap (a1+12)).toNat a0)) 0 then bif decide (i32.wrap (bV (List.drop (i64.wrap (a1+8)).toNat (List.take (i64.wrap (a1+12)).toNat a0)) 0 4).1<49) then oR ((0,5,()),()) else bif decide (35988<i32.wrap (bV (List.drop (i64.wrap (a1+8)).toNat (List.take (i64.wrap (a1+12)).toNat a0)) 0 4).1) then oR ((0,4,()),()) else bif decide (i64.wrap (i64.wrap ((↑a0.length:Int) - a1) - 12)<i64.wrap (i32.wrap (bV (List.drop (i64.wrap (a1+8)).toNat (List.take (i64.wrap (a1+12)).toNat a0)) 0 4).1)) then oR ((0,1,()),()) else oR ((i64.wrap (12+i64.wrap (i32.wrap (bV (List.drop (i64.wrap (a1+8)).toNat (List.take (i64.wrap (a1+12)).toNat a0)) 0 4).1)),0,()),()) else none else none else none
theorem Na (a0:LI)(a1:Int):Io.run tt O1 dr Hp i0 Tryz.f67 ((a0,a1,()),())=wv a0 a1:=by kernel_rfl
theorem HV:HcOk prog 67 (ah i0 yi):=by
 refine bY (cs:=Gi) (.cons H3 (.cons H2 .nil)) (lp:=Hp) (fn:=Tryz.f67) i0 (.done (by kernel_rfl)) yi ?_
 rintro ⟨⟨(b:LI),(p:Int),⟨⟩⟩,⟨⟩⟩ out hw ho
 obtain ⟨hg,ho⟩:=Tr.guard ho
 have hg2:b.length≤4294960000:=of_decide_eq_true hg
 clear hg
 cases ho
 have hb:=dN hw.1.1
 refine (Na b p).trans ?_
 show _=oR (((ax b p).1,(ax b p).2,()),())
 unfold wv ax
 by_cases h1:p<0
 ·refine bT (decide_eq_true h1) ?_
  rw[if_pos (.inl h1)]
 refine bF (decide_eq_false h1) ?_
 by_cases h2:(b.length:Int)<p
 ·refine bT (decide_eq_true h2) ?_
  rw[if_pos (.inr h2)]
 refine bF (decide_eq_false h2) ?_
 rw[if_neg (by omega)]
 obtain ⟨p,rfl⟩:=aB (show 0≤p by omega)
 rw[af (n:=(b.length:Int) - p) (by omega) (by omega),af (n:=(p:Int)+8) (by omega) (by omega),af (n:=(p:Int)+12) (by omega) (by omega),af (n:=(b.length:Int) - p - 12) (by omega) (by omega)]
 by_cases h3:(b.length:Int) - p<12
 ·refine bT (decide_eq_true h3) ?_
  rw[if_pos h3]
 refine bF (decide_eq_false h3) ?_
 rw[if_neg h3]
 refine bT (by simp only[zA,zB];omega) ?_
 have eL:List.drop ((p:Int)+8).toNat (List.take ((p:Int)+12).toNat b)=(b.drop (p+8)).take 4:=by
  rw[List.drop_take,show ((p:Int)+8).toNat=p+8 by omega,show ((p:Int)+12).toNat - (p+8)=4 by omega]
 rw[eL]
 have hL:=cm (b:=b) (p:=p+8) (n:=4) (by omega)
 have hLr:=dH hb (p+8) 4
 have eI:aw b (((p:Nat):Int).toNat+8) 4=cn ((b.drop (p+8)).take 4):=by rw[zG];rfl
 have eR:i32.wrap (bV ((b.drop (p+8)).take 4) 0 4).1=cn ((b.drop (p+8)).take 4):=by
  unfold bV
  rw[if_neg (by rw[hL];decide)]
  show i32.wrap (aZ ((((b.drop (p+8)).take 4).drop 0).take 4))=_
  rw[List.drop_zero,List.take_of_length_le (by rw[hL];exact Nat.le_refl 4)]
  exact mY hLr hL
 have hbd:=NM hLr hL
 rw[eI,eR]
 refine bT (decide_eq_true (by rw[hL];omega)) ?_
 refine bT (by unfold cL;simp only[zA,zB,hL];omega) ?_
 generalize cn ((b.drop (p+8)).take 4)=n at *
 by_cases h4:n<49
 ·refine bT (decide_eq_true h4) ?_
  rw[if_pos h4]
 refine bF (decide_eq_false h4) ?_
 rw[if_neg h4]
 by_cases h5:35988<n
 ·refine bT (decide_eq_true h5) ?_
  rw[if_pos h5]
 refine bF (decide_eq_false h5) ?_
 rw[if_neg h5,af (n:=n) (by omega) (by omega),af (n:=12+n) (by omega) (by omega)]
 by_cases h6:(b.length:Int) - p - 12<n
 ·refine bT (decide_eq_true h6) ?_
  rw[if_pos h6]
 refine bF (decide_eq_false h6) ?_
 rw[if_neg h6,Int.add_comm]
def bK (g:nb)(i f:Int):cy×Int:=
 if g.2.1≠i then (tf,72)
 else if i=0∧g.1≠0∨aN (f+g.1)=false then (tf,86)
 else ((f+g.1,g.2.2.1,g.2.2.2.1,g.2.2.2.2.1,()),0)
abbrev fX:Io:=⟨[BX,dI,gl],[],[],[TA,dI],none⟩
def tl (d:fX.In):Tr fX.Res:=.ret (.ret (((bK d.1.1 d.1.2.1 d.1.2.2.1).1,(bK d.1.1 d.1.2.1 d.1.2.2.1).2,()),()))
abbrev xc:List (Nat×Hc):=[]
def IL:Hd:=bI xc
def xC:Lp:=bQ []
def rk (a0 a1:Int)(a2:Bool)(a3:LI)(a4:Bool)(a5:LI)(a6:List fV.den)(a7 a8:Int):Option fX.Res:=bif i64.wrap a1 != a7 then oR (((0,(false,[],()),(false,[],()),[],()),72,()),()) else bif a7 == 0 then bif a0 != 0 then oR (((0,(false,[],()),(false,[],()),[],()),86,()),()) else bif !decide (i64.wrap (a8+a0)<a8) == decide (a0<0) then oR (((0,(false,[],()),(false,[],()),[],()),86,()),()) else oR (((i64.wrap (a8+a0),(a2,a3,()),(a4,a5,()),a6,()),0,()),()) else bif !decide (i64.wrap (a8+a0)<a8) == decide (a0<0) then oR (((0,(false,[],()),(false,[],()),[],()),86,()),()) else oR (((i64.wrap (a8+a0),(a2,a3,()),(a4,a5,()),a6,()),0,()),())
theorem E5 (a0 a1:Int)(a2:Bool)(a3:LI)(a4:Bool)(a5:LI)(a6:List fV.den)(a7 a8:Int):Io.run tt IL dr xC fX Tryz.f76 (((a0,a1,(a2,a3,()),(a4,a5,()),a6,()),a7,a8,()),())=rk a0 a1 a2 a3 a4 a5 a6 a7 a8:=by kernel_rfl
theorem I4:HcOk prog 76 (ah fX tl):=by
 refine bY (cs:=xc) HcsOk.nil (lp:=xC) (fn:=Tryz.f76) fX (.done (by kernel_rfl)) tl ?_
 rintro ⟨⟨⟨(a0:Int),(a1:Int),⟨(a2:Bool),(a3:LI),⟨⟩⟩,⟨(a4:Bool),(a5:LI),⟨⟩⟩,(a6:List eM),⟨⟩⟩,(i:Int),(f:Int),⟨⟩⟩,⟨⟩⟩ out hw ho
 cases ho
 refine (E5 a0 a1 a2 a3 a4 a5 a6 i f).trans ?_
 have h0:bt .i64 a0:=hw.1.1.1
 have h1:bt .i32 a1:=hw.1.1.2.1
 have hf:bt .i64 f:=hw.1.2.2.1
 have b1:=zf h1
 show _=oR (((bK (a0,a1,(a2,a3,()),(a4,a5,()),a6,()) i f).1,(bK (a0,a1,(a2,a3,()),(a4,a5,()),a6,()) i f).2,()),())
 unfold rk bK
 simp only
 rw[af (n:=a1) (by omega) (by omega),OU h0 hf]
 have hfit:aN (f+a0)=true→i64.wrap (f+a0)=f+a0:=fun h=>af (eT.1 h).1 (eT.1 h).2
 by_cases c1:a1=i
 rotate_left
 ·refine bT (by simpa using c1) ?_
  rw[if_pos c1]
  rfl
 refine bF (by simpa using c1) ?_
 rw[if_neg (au c1)]
 by_cases c2:i=0
 ·refine bT (by simpa using c2) ?_
  by_cases c3:a0=0
  ·refine bF (by simpa using c3) ?_
   cases c4:aN (f+a0) with
   |false=>
    refine (aa rfl _ _).trans ?_
    rw[if_pos (.inr rfl)]
    rfl
   |true=>
    refine (ae rfl _ _).trans ?_
    rw[if_neg (by rintro (h | h);exact h.2 c3;cases h),hfit c4]
  ·refine bT (by simpa using c3) ?_
   rw[if_pos (.inl ⟨c2,c3⟩)]
   rfl
 ·refine bF (by simpa using c2) ?_
  cases c4:aN (f+a0) with
  |false=>
   refine (aa rfl _ _).trans ?_
   rw[if_pos (.inr rfl)]
   rfl
  |true=>
   refine (ae rfl _ _).trans ?_
   rw[if_neg (by rintro (h | h);exact c2 h.1;cases h),hfit c4]
abbrev iq:Io:=⟨[dL,dB],[],[],[dL,dI],none⟩
def yf (d:iq.In):Tr iq.Res:=.ite (decide (61≤d.1.1.length)&&decide (d.1.1.length≤4294960000)) (.ret (.ret (((aR d.1.1 d.1.2.1).1,(aR d.1.1 d.1.2.1).2,()),()))) .no
abbrev BE:List (Nat×Hc):=[(109,ah kz DY)]
def LC:Hd:=bI BE
def CR:Lp:=bQ []
def tH (a0:LI)(a1:Bool):Option iq.Res:=bif decide (0≤61)&&(decide (61≤(↑a0.length:Int))&&decide ((↑a0.length:Int)≤(↑a0.length:Int))) then bif a1 then bif decide (32768=32768)&&decide ((List.drop (Int.toNat 61) (List.take (↑a0.length:Int).toNat a0)).length≤4294960000) then oR (((bh (List.drop (Int.toNat 61) (List.take (↑a0.length:Int).toNat a0))).1,(bh (List.drop (Int.toNat 61) (List.take (↑a0.length:Int).toNat a0))).2,()),()) else none else bif decide (32768<(↑(List.drop (Int.toNat 61) (List.take (↑a0.length:Int).toNat a0)).length:Int)) then oR (([],4,()),()) else oR ((List.drop (Int.toNat 61) (List.take (↑a0.length:Int).toNat a0),0,()),()) else none
theorem Jg (a0:LI)(a1:Bool):Io.run tt LC dr CR iq Tryz.f74 ((a0,a1,()),())=tH a0 a1:=by kernel_rfl
theorem Mx:HcOk prog 74 (ah iq yf):=by
 refine bY (cs:=BE) (.cons PI .nil) (lp:=CR) (fn:=Tryz.f74) iq (.done (by kernel_rfl)) yf ?_
 rintro ⟨⟨(b:LI),(packed:Bool),⟨⟩⟩,⟨⟩⟩ out hw ho
 obtain ⟨hg,ho⟩:=Tr.guard ho
 simp only[zA,zB] at hg
 have h1:61≤b.length:=hg.1
 have h2:b.length≤4294960000:=hg.2
 cases ho
 refine (Jg b packed).trans ?_
 show _=oR (((aR b packed).1,(aR b packed).2,()),())
 unfold tH aR
 rw[zG,List.take_length,show Int.toNat 61=61 from rfl]
 refine bT (by simp only[zA,zB];omega) ?_
 cases packed with
 |true=>
  refine (aa rfl _ _).trans ?_
  refine bT (by simp;omega) ?_
  rfl
 |false=>
  refine (ae rfl _ _).trans ?_
  by_cases h3:32768<((b.drop 61).length:Int)
  ·refine bT (decide_eq_true h3) ?_
   rw[if_neg (by decide),if_pos h3]
  ·refine bF (decide_eq_false h3) ?_
   rw[if_neg (by decide),if_neg h3]
theorem HcOk.weakB {f:Nat}{io:Io}{Fn Fn':io.In→Tr io.Res}(h:HcOk prog f (ah io Fn))(hF:∀d y,io.wf d→(Fn' d).val=some y→(Fn d).val=some y):HcOk prog f (ah io Fn'):=by
 intro R args id A K r F G ts cst w vals hid hc Rl hv
 unfold ah at hc
 cases h1:sw io.args args (List.replicate io.obs.length Option.none) with
 |none=>rw[h1] at hc;cases hc
 |some p=>
  obtain ⟨a,β1⟩:=p
  rw[h1] at hc
  simp only at hc
  cases h2:J7 A.ob io.obs 0 β1 with
  |none=>rw[h2] at hc;cases hc
  |some q=>
   obtain ⟨o,β⟩:=q
   rw[h2] at hc
   simp only at hc
   have hn:=fun y=>hF (a,o) y ⟨Ah h1 hv,EV Rl.ob h2⟩
   refine h R args id A K r F G ts cst w vals hid ?_ Rl hv
   unfold ah
   rw[h1]
   simp only[h2]
   revert hc
   cases br ((fS (cP 0) io.args args 0++la A.ob β (lL io.obs.length 0) io.obs 0).map (·.2))&&(br ((fS (cP 0) io.args args 0++la A.ob β (lL io.obs.length 0) io.obs 0).map (·.1))&&io.ok) with
   |false=>intro hc;cases hc
   |true=>
    intro hc
    obtain ⟨out,ho,hk⟩:=Tr.run_val hc
    exact (Tr.run_of_val (hn out ho)).trans hk
@[irreducible] def bc (b:LI)(p:Int)(n:Nat):Int:=cn ((b.drop p.toNat).take n)
theorem kc (b:LI)(p n:Nat):bc b (p:Int) n=aw b p n:=by unfold bc aw;rw[zG]
def iW (b:LI)(p n:Int):Bool:=decide (b.length≤4294960000)&&(decide (0≤p)&&decide (p+n≤(b.length:Int)))
theorem mt {b:LI}{p n:Int}(h:iW b p n=true):b.length≤4294960000∧0≤p∧p+n≤(b.length:Int):=by
 simpa [iW] using h
abbrev zi:Io:=kE
def QQ (d:zi.In):Tr zi.Res:=
 .ite (iW d.2.1.1 d.2.1.2.1 8) (.ret (.ret ((bc d.2.1.1 d.2.1.2.1 8,(0,())),((d.2.1.1,(d.2.1.2.1+8,())),())))) .no
theorem RN:HcOk prog 104 (ah zi QQ):=by
 refine HcOk.weakB PN ?_
 rintro ⟨⟨⟨⟩,⟨⟩⟩,⟨⟨(b:LI),(p:Int),⟨⟩⟩,⟨⟩⟩⟩ y hw hy
 obtain ⟨hg,hy⟩:=Tr.guard hy
 obtain ⟨h1,h2,h3⟩:=mt (b:=b) (p:=p) (n:=8) hg
 rw[← hy]
 obtain ⟨p,rfl⟩:=aB h2
 have hb:=dN hw.2.1.1
 have hL:=cm (b:=b) (p:=p) (n:=8) (by omega)
 have hk:cL b p=true:=by unfold cL;simp only[zA,zB];omega
 have e:bV b (p:Int) 8=(aZ ((b.drop p).take 8),((p:Int)+8,0)):=by unfold bV;rw[if_neg (by omega),zG];rfl
 have e2:i64.wrap (aZ ((b.drop p).take 8))=bc b (p:Int) 8:=by rw[kc];exact AD (dH hb p 8) hL
 show (yu (((),()),((b,((p:Int),())),()))).val=some (.ret ((bc b (p:Int) 8,(0,())),((b,((p:Int)+8,())),())))
 unfold yu
 rw[Tr.val_ite,if_pos hk,Tr.val_ret]
 show oR ((i64.wrap (bV b (p:Int) 8).1,((bV b (p:Int) 8).2.2,())),((b,((bV b (p:Int) 8).2.1,())),()))=_
 rw[e,← e2]
abbrev zh:Io:=jg
def QP (d:zh.In):Tr zh.Res:=
 .ite (iW d.2.1.1 d.2.1.2.1 4) (.ret (.ret ((bc d.2.1.1 d.2.1.2.1 4,(0,())),((d.2.1.1,(d.2.1.2.1+4,())),())))) .no
theorem RM:HcOk prog 99 (ah zh QP):=by
 refine HcOk.weakB H2 ?_
 rintro ⟨⟨⟨⟩,⟨⟩⟩,⟨⟨(b:LI),(p:Int),⟨⟩⟩,⟨⟩⟩⟩ y hw hy
 obtain ⟨hg,hy⟩:=Tr.guard hy
 obtain ⟨h1,h2,h3⟩:=mt (b:=b) (p:=p) (n:=4) hg
 rw[← hy]
 obtain ⟨p,rfl⟩:=aB h2
 have hb:=dN hw.2.1.1
 have hL:=cm (b:=b) (p:=p) (n:=4) (by omega)
 have hk:cL b p=true:=by unfold cL;simp only[zA,zB];omega
 have e:bV b (p:Int) 4=(aZ ((b.drop p).take 4),((p:Int)+4,0)):=by unfold bV;rw[if_neg (by omega),zG];rfl
 have e2:i32.wrap (aZ ((b.drop p).take 4))=bc b (p:Int) 4:=by rw[kc];exact mY (dH hb p 4) hL
 show (tr (((),()),((b,((p:Int),())),()))).val=some (.ret ((bc b (p:Int) 4,(0,())),((b,((p:Int)+4,())),())))
 unfold tr
 rw[Tr.val_ite,if_pos hk,Tr.val_ret]
 show oR ((i32.wrap (bV b (p:Int) 4).1,((bV b (p:Int) 4).2.2,())),((b,((bV b (p:Int) 4).2.1,())),()))=_
 rw[e,← e2]
abbrev zg:Io:=kD
def QO (d:zg.In):Tr zg.Res:=
 .ite (iW d.2.1.1 d.2.1.2.1 2) (.ret (.ret ((bc d.2.1.1 d.2.1.2.1 2,(0,())),((d.2.1.1,(d.2.1.2.1+2,())),())))) .no
theorem RL:HcOk prog 107 (ah zg QO):=by
 refine HcOk.weakB PM ?_
 rintro ⟨⟨⟨⟩,⟨⟩⟩,⟨⟨(b:LI),(p:Int),⟨⟩⟩,⟨⟩⟩⟩ y hw hy
 obtain ⟨hg,hy⟩:=Tr.guard hy
 obtain ⟨h1,h2,h3⟩:=mt (b:=b) (p:=p) (n:=2) hg
 rw[← hy]
 obtain ⟨p,rfl⟩:=aB h2
 have hb:=dN hw.2.1.1
 have hL:=cm (b:=b) (p:=p) (n:=2) (by omega)
 have hk:cL b p=true:=by unfold cL;simp only[zA,zB];omega
 have e:bV b (p:Int) 2=(aZ ((b.drop p).take 2),((p:Int)+2,0)):=by unfold bV;rw[if_neg (by omega),zG];rfl
 have e2:i16.wrap (aZ ((b.drop p).take 2))=bc b (p:Int) 2:=by rw[kc];exact tc (dH hb p 2) hL
 show (yt (((),()),((b,((p:Int),())),()))).val=some (.ret ((bc b (p:Int) 2,(0,())),((b,((p:Int)+2,())),())))
 unfold yt
 rw[Tr.val_ite,if_pos hk,Tr.val_ret]
 show oR ((i16.wrap (bV b (p:Int) 2).1,((bV b (p:Int) 2).2.2,())),((b,((bV b (p:Int) 2).2.1,())),()))=_
 rw[e,← e2]
abbrev Hi:Io:=nT
def SK (d:Hi.In):Tr Hi.Res:=
 .ite (iW d.2.1.1 d.2.1.2.1 1) (.ret (.ret ((bc d.2.1.1 d.2.1.2.1 1,(0,())),((d.2.1.1,(d.2.1.2.1+1,())),())))) .no
theorem S6:HcOk prog 106 (ah Hi SK):=by
 refine HcOk.weakB RX ?_
 rintro ⟨⟨⟨⟩,⟨⟩⟩,⟨⟨(b:LI),(p:Int),⟨⟩⟩,⟨⟩⟩⟩ y hw hy
 obtain ⟨hg,hy⟩:=Tr.guard hy
 obtain ⟨h1,h2,h3⟩:=mt (b:=b) (p:=p) (n:=1) hg
 rw[← hy]
 obtain ⟨p,rfl⟩:=aB h2
 have hb:=dN hw.2.1.1
 have hL:=cm (b:=b) (p:=p) (n:=1) (by omega)
 have hk:cL b p=true:=by unfold cL;simp only[zA,zB];omega
 have e:bV b (p:Int) 1=(aZ ((b.drop p).take 1),((p:Int)+1,0)):=by unfold bV;rw[if_neg (by omega),zG];rfl
 have e2:i8.wrap (aZ ((b.drop p).take 1))=bc b (p:Int) 1:=by rw[kc];exact So (dH hb p 1) hL
 show (FZ (((),()),((b,((p:Int),())),()))).val=some (.ret ((bc b (p:Int) 1,(0,())),((b,((p:Int)+1,())),())))
 unfold FZ
 rw[Tr.val_ite,if_pos hk,Tr.val_ret]
 show oR ((i8.wrap (bV b (p:Int) 1).1,((bV b (p:Int) 1).2.2,())),((b,((bV b (p:Int) 1).2.1,())),()))=_
 rw[e,← e2]
abbrev sT:Io:=iz
def Kd (d:sT.In):Tr sT.Res:=
 .ite (iW d.2.1.1 d.2.1.2.1 d.1.2.1&&decide (0≤d.1.2.1)) (.ret (.ret ((0,()),((d.2.1.1,(d.2.1.2.1+d.1.2.1,())),())))) .no
theorem PE:HcOk prog 105 (ah sT Kd):=by
 refine HcOk.weakB MQ ?_
 rintro ⟨⟨⟨⟩,(n:Int),⟨⟩⟩,⟨⟨(b:LI),(p:Int),⟨⟩⟩,⟨⟩⟩⟩ y hw hy
 obtain ⟨hg,hy⟩:=Tr.guard hy
 simp only[zA,zB] at hg
 obtain ⟨h1,h2,h3⟩:=mt (b:=b) (p:=p) (n:=n) hg.1
 have h4:0≤n:=hg.2
 rw[← hy]
 have hk:cL b p=true:=by unfold cL;simp only[zA,zB];omega
 have e:oL b p n=(p+n,0):=by unfold oL;rw[if_neg (by omega),if_neg (by omega)]
 show (sD (((),(n,())),((b,(p,())),()))).val=some (.ret ((0,()),((b,(p+n,())),())))
 unfold sD
 rw[Tr.val_ite,if_pos hk,Tr.val_ret]
 show oR (((oL b p n).2,()),((b,((oL b p n).1,())),()))=_
 rw[e]
end
end Go.Proofs.YthpcdhgpplmneaaGreatDoor.Sym
