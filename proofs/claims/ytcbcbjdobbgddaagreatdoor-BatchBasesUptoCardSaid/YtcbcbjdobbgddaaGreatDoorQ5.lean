/- cursor.Writer: Room, number, I8 to I64, Raw, Bytes, NewWriter. -/
import Derived.Test.YtcbcbjdobbgddaaGreatDoorQ4

set_option linter.unusedVariables false
set_option linter.unusedSimpArgs false
namespace Go.Proofs.YtcbcbjdobbgddaaGreatDoor.Sym
open Go
open Go.IntKind (i8 i16 i32 i64 u8 u16 u32 u64)
noncomputable section
abbrev Lk:List Sh:=[dO,dI]
abbrev OO:Sh:=.dat (.int .i16) false false
abbrev Bw:Sh:=.dat (.int .i32) false false
abbrev Ok:Sh:=.dat (.int .u64) false false
def ay (v:Int):Nat→LI
 |0=>[]
 |n+1=>(v / 256 ^ n) % 256::ay v n
theorem eZ (v:Int):∀n,(ay v n).length=n
 |0=>rfl
 |n+1=>by rw[ay,zN,eZ v n]
def ca (b:LI)(most v:Int)(n:Nat):Int×LI:=if most - b.length<n then (10,b) else (0,b++ay v n)
def cI (b:LI)(most:Int):Bool:=decide (b.length≤4294960000)&&(decide (0≤most)&&decide (most≤(1048576:Int)))
abbrev iE:Io:=⟨[.ptr 0 0],[Lk],[],[dI],none⟩
def vR (d:iE.In):Tr iE.Res:=.ret (.ret ((i64.wrap (d.2.1.2.1 - d.2.1.1.length),()),((d.2.1.1,(d.2.1.2.1,())),())))
abbrev Dk:List (Nat×Hc):=[]
def K8:Hd:=br Dk
def Ec:Lp:=bA []
def EU (a0:LI)(a1:Int):Option iE.Res:=oR ((i64.wrap (a1 - (↑a0.length:Int)),()),(a0,a1,()),())
theorem JC (a0:LI)(a1:Int):Io.run tt K8 dr Ec iE Tryz.f88 (((),()),(a0,a1,()),())=EU a0 a1:=by kernel_rfl
theorem Ez:HcOk prog 88 (ah iE vR):=by
 refine bK (cs:=Dk) HcsOk.nil (lp:=Ec) (fn:=Tryz.f88) iE (.done (by kernel_rfl)) vR ?_
 rintro ⟨⟨⟨⟩,⟨⟩⟩,⟨⟨(b:LI),(m:Int),⟨⟩⟩,⟨⟩⟩⟩ out hw ho
 rw[← ho]
 exact JC b m
abbrev cZ:Io:=⟨[.ptr 0 0,Ok,dI],[Lk],[],[dI],none⟩
def jh (d:cZ.In):Tr cZ.Res:=
 .ite (cI d.2.1.1 d.2.1.2.1&&(decide ((0:Int)≤d.1.2.2.1)&&decide (d.1.2.2.1≤(8:Int)))) (.ret (.ret (((ca d.2.1.1 d.2.1.2.1 d.1.2.1 d.1.2.2.1.toNat).1,()),(((ca d.2.1.1 d.2.1.2.1 d.1.2.1 d.1.2.2.1.toNat).2,(d.2.1.2.1,())),())))) .no
abbrev uH:List (Nat×Hc):=[(88,ah iE vR)]
def uV:Hd:=br uH
abbrev ck:Lo:=⟨⟨(.one (.ptr 0 0)::.one (.hol (.int u64))::.any::bO (.one hI::aj (dC []))),[some [.onl 5 (Ty.int u8) 2,hI]]⟩,[(.exit 0,⟨(aj (aj ([]))),[some [.onl 5 (Ty.int u8) 2,hI]]⟩)]⟩
def gz (d:ck.st.den):Tr (ao ck.xs):=
 .ite (decide (-1≤d.1.2.1)&&(decide (d.1.2.1≤7)&&decide (d.2.1.1.length≤4294960000))) (.ret (.ret ((),((),((d.2.1.1++ay d.1.1 (d.1.2.1+1).toNat,(d.2.1.2.1,())),()))))) .no
def lP:Lp:=bA [(5,aD ck gz)]
def mw {R:Type}(h4 h5:Int)(h6:LI)(h7:Int)(next:Int→Int→LI→Int→Option R)(out:ao ck.xs→Option R):Option R:=bif decide (0≤h5) then bif decide (0≤i64.wrap (8*h5)) then bif !(0 == 1+29 || false)&&true&&decide (h6.length+[u8.wrap (dH u64 h4 (i64.wrap (8*h5)))].length≤4294967296) then next (h4) (i64.wrap (h5 - 1)) (h6++[u8.wrap (dH u64 h4 (i64.wrap (8*h5)))]) (h7) else none else none else out (.ret ((),((),((h6,(h7,())),()))))
def k5 (n:Nat)(h4 h5:Int)(h6:LI)(h7:Int):Option (ao ck.xs):=ik tt uV dr lP 1 Tryz.f87 (cb Tryz.f87 0) n (ck.st.mk' ((h4,(h5,())),((h6,(h7,())),()))) (bG ck.xs)
theorem Al (n:Nat)(h4 h5:Int)(h6:LI)(h7:Int):k5 (n+1) h4 h5 h6 h7=mw h4 h5 h6 h7 (k5 n) some:=by kernel_rfl
theorem JL {v:Int}(h0:0≤v)(h1:v≤18446744073709551615){i:Nat}(hi:i≤7):u8.wrap (dH .u64 v (i64.wrap (8*(i:Int))))=(v / 256 ^ i) % 256:=by
 rw[af (n:=8*(i:Int)) (by omega) (by omega)]
 unfold dH
 have e:min (8*(i:Int)).toNat (u64).bits=8*i:=by
  show min (8*(i:Int)).toNat 64=8*i
  omega
 rw[e]
 have e2:(2:Int) ^ (8*i)=256 ^ i:=by rw[Int.pow_mul];rfl
 have hp:(0:Int)<256 ^ i:=Int.pow_pos (by decide)
 rw[e2,Int.fdiv_eq_ediv_of_nonneg _ (Int.le_of_lt hp)]
 have h3:0≤v / 256 ^ i:=Int.ediv_nonneg h0 (Int.le_of_lt hp)
 have h4:v / 256 ^ i≤v:=Int.ediv_le_self _ h0
 rw[bD (k:=.u64) (by simp[bi,IntKind.min,IntKind.max,IntKind.signed,IntKind.bits];omega)]
 simp[IntKind.wrap,IntKind.signed,IntKind.bits]
theorem zc {v:Int}(h0:0≤v)(h1:v≤18446744073709551615)(most:Int):∀(k m:Nat) (b:LI),m<k→m≤8→b.length+m≤4294967296→
  k5 k v ((m:Int) - 1) b most=some (.ret ((),((),((b++ay v m,(most,())),())))):=by
 intro k
 induction k with
 |zero=>intro m b h;omega
 |succ k ih=>
  intro m b h2 h3 h4
  rw[Al]
  unfold mw
  cases m with
  |zero=>simp[ay]
  |succ m=>
   have e:((m+1:Nat):Int) - 1=(m:Int):=by omega
   rw[e,aa (by simp),af (n:=(m:Int) - 1) (by omega) (by omega),JL h0 h1 (by omega),af (n:=8*(m:Int)) (by omega) (by omega),aa (by simp;omega),aa (by simp;omega),ih m _ (by omega) (by omega) (by simp;omega)]
   simp[ay]
def pO (a0 a1:Int)(a2:LI)(a3:Int):Option cZ.Res:=bif decide (i64.wrap (a3 - (↑a2.length:Int))<a1) then oR ((10,()),(a2,a3,()),()) else (gz ((a0,(i64.wrap (a1 - 1),())),((a2,(a3,())),()))).run fun y=>match y with | .ret ((),((),(x14,x15,()),()))=>(oR ((0,()),(x14,x15,()),()))
theorem B9 (a0 a1:Int)(a2:LI)(a3:Int):Io.run tt uV dr lP cZ Tryz.f87 (((),a0,a1,()),(a2,a3,()),())=pO a0 a1 a2 a3:=by kernel_rfl
theorem pW:HcsOk prog uH:=.cons Ez .nil
theorem lU:HcOk prog 87 (ah cZ jh):=by
 refine bK pW (lp:=lP) (fn:=Tryz.f87) cZ (.step (h0:=aD ck gz) (by kernel_rfl) (iK pW (lp:=lP) (fn:=Tryz.f87) (.done (by kernel_rfl)) ck gz ?_) (.done (by kernel_rfl))) jh ?_
 ·rintro ⟨⟨(v:Int),(i:Int),⟨⟩⟩,⟨⟨(b:LI),(m:Int),⟨⟩⟩,⟨⟩⟩⟩ y hw hy
  obtain ⟨hg,hy⟩:=Tr.guard hy
  simp only[zA,zB] at hg
  have hv:bi .u64 v:=hw.1.1
  simp[bi,IntKind.min,IntKind.max,IntKind.signed,IntKind.bits] at hv
  have g1:(-1:Int)≤i:=hg.1
  have g2:i≤(7:Int):=hg.2.1
  have g3:b.length≤4294960000:=hg.2.2
  obtain ⟨n,hn⟩:∃n:Nat,i=(n:Int) - 1:=⟨(i+1).toNat,by omega⟩
  subst hn
  refine ⟨10,(zc hv.1 (by omega) m 10 n b (by omega) (by omega) (by omega)).trans ?_⟩
  rw[← hy,show ((n:Int) - 1+1).toNat=n by omega];rfl
 ·rintro ⟨⟨⟨⟩,(v:Int),(n:Int),⟨⟩⟩,⟨⟨(b:LI),(m:Int),⟨⟩⟩,⟨⟩⟩⟩ out hw ho
  obtain ⟨hg,ho⟩:=Tr.guard ho
  simp only[cI,zA,zB] at hg
  obtain ⟨⟨h1,h2,h3⟩,h4,h5⟩:=hg
  have h4:(0:Int)≤n:=h4
  have h5:n≤(8:Int):=h5
  cases ho
  refine (B9 v n b m).trans ?_
  unfold pO gz
  simp only
  rw[af (n:=m - (b.length:Int)) (by omega) (by omega),af (n:=n - 1) (by omega) (by omega),show n - 1+1=n by omega]
  unfold ca
  by_cases hl:m - (b.length:Int)<n
  ·rw[aa (by simpa using hl),if_pos (by omega)]
  ·rw[ac (by simpa using hl),if_neg (by omega)]
   have:(decide (-1≤n - 1)&&(decide (n - 1≤7)&&decide (b.length≤4294960000)))=true:=by simp;omega
   rw[this]
   rfl
theorem oy (v:Int){n:Nat}(h:n≤8):ay (u64.wrap v) n=ay v n:=by
 have e:u64.wrap v=v % 18446744073709551616:=by simp[IntKind.wrap,IntKind.signed,IntKind.bits]
 rw[e]
 have key:∀k:Nat,k<8→(v % 18446744073709551616 / 256 ^ k) % 256=(v / 256 ^ k) % 256:=by
  intro k hk
  match k,hk with
  |0,_=>omega
  |1,_=>omega
  |2,_=>omega
  |3,_=>omega
  |4,_=>omega
  |5,_=>omega
  |6,_=>omega
  |7,_=>omega
 induction n with
 |zero=>rfl
 |succ n ih=>rw[ay,ay,key n (by omega),ih (by omega)]
abbrev mX:Io:=⟨[.ptr 0 0,OO],[Lk],[],[dI],none⟩
def CG (d:mX.In):Tr mX.Res:=
 .ite (cI d.2.1.1 d.2.1.2.1) (.ret (.ret (((ca d.2.1.1 d.2.1.2.1 d.1.2.1 2).1,()),(((ca d.2.1.1 d.2.1.2.1 d.1.2.1 2).2,(d.2.1.2.1,())),())))) .no
abbrev Hi:List (Nat×Hc):=[(87,ah cZ jh)]
def Nc:Hd:=br Hi
def Ip:Lp:=bA []
def xW (a0:Int)(a1:LI)(a2:Int):Option mX.Res:=bif cI a1 a2&&(decide (0≤2)&&decide (2≤8)) then oR (((ca a1 a2 (u64.wrap a0) (Int.toNat 2)).1,()),((ca a1 a2 (u64.wrap a0) (Int.toNat 2)).2,a2,()),()) else none
theorem Mf (a0:Int)(a1:LI)(a2:Int):Io.run tt Nc dr Ip mX Tryz.f51 (((),a0,()),(a1,a2,()),())=xW a0 a1 a2:=by kernel_rfl
theorem NC:HcOk prog 51 (ah mX CG):=by
 refine bK (cs:=Hi) (.cons lU .nil) (lp:=Ip) (fn:=Tryz.f51) mX (.done (by kernel_rfl)) CG ?_
 rintro ⟨⟨⟨⟩,(v:Int),⟨⟩⟩,⟨⟨(b:LI),(m:Int),⟨⟩⟩,⟨⟩⟩⟩ out hw ho
 obtain ⟨hg,ho⟩:=Tr.guard ho
 have hg:cI b m=true:=hg
 cases ho
 refine (Mf v b m).trans ?_
 unfold xW
 have e:ca b m (u64.wrap v) 2=ca b m v 2:=by unfold ca;rw[oy v (by decide)]
 simp[hg,e]
abbrev mY:Io:=⟨[.ptr 0 0,Bw],[Lk],[],[dI],none⟩
def CH (d:mY.In):Tr mY.Res:=
 .ite (cI d.2.1.1 d.2.1.2.1) (.ret (.ret (((ca d.2.1.1 d.2.1.2.1 d.1.2.1 4).1,()),(((ca d.2.1.1 d.2.1.2.1 d.1.2.1 4).2,(d.2.1.2.1,())),())))) .no
abbrev Hj:List (Nat×Hc):=[(87,ah cZ jh)]
def Nd:Hd:=br Hj
def Iq:Lp:=bA []
def xX (a0:Int)(a1:LI)(a2:Int):Option mY.Res:=bif cI a1 a2&&(decide (0≤4)&&decide (4≤8)) then oR (((ca a1 a2 (u64.wrap a0) (Int.toNat 4)).1,()),((ca a1 a2 (u64.wrap a0) (Int.toNat 4)).2,a2,()),()) else none
theorem Mg (a0:Int)(a1:LI)(a2:Int):Io.run tt Nd dr Iq mY Tryz.f49 (((),a0,()),(a1,a2,()),())=xX a0 a1 a2:=by kernel_rfl
theorem ND:HcOk prog 49 (ah mY CH):=by
 refine bK (cs:=Hj) (.cons lU .nil) (lp:=Iq) (fn:=Tryz.f49) mY (.done (by kernel_rfl)) CH ?_
 rintro ⟨⟨⟨⟩,(v:Int),⟨⟩⟩,⟨⟨(b:LI),(m:Int),⟨⟩⟩,⟨⟩⟩⟩ out hw ho
 obtain ⟨hg,ho⟩:=Tr.guard ho
 have hg:cI b m=true:=hg
 cases ho
 refine (Mg v b m).trans ?_
 unfold xX
 have e:ca b m (u64.wrap v) 4=ca b m v 4:=by unfold ca;rw[oy v (by decide)]
 simp[hg,e]
abbrev mZ:Io:=⟨[.ptr 0 0,.dat (.int .i64) false false],[Lk],[],[dI],none⟩
def CI (d:mZ.In):Tr mZ.Res:=
 .ite (cI d.2.1.1 d.2.1.2.1) (.ret (.ret (((ca d.2.1.1 d.2.1.2.1 d.1.2.1 8).1,()),(((ca d.2.1.1 d.2.1.2.1 d.1.2.1 8).2,(d.2.1.2.1,())),())))) .no
abbrev Hk:List (Nat×Hc):=[(87,ah cZ jh)]
def Nf:Hd:=br Hk
def Ir:Lp:=bA []
def xY (a0:Int)(a1:LI)(a2:Int):Option mZ.Res:=bif cI a1 a2&&(decide (0≤8)&&decide (8≤8)) then oR (((ca a1 a2 (u64.wrap a0) (Int.toNat 8)).1,()),((ca a1 a2 (u64.wrap a0) (Int.toNat 8)).2,a2,()),()) else none
theorem Mh (a0:Int)(a1:LI)(a2:Int):Io.run tt Nf dr Ir mZ Tryz.f48 (((),a0,()),(a1,a2,()),())=xY a0 a1 a2:=by kernel_rfl
theorem NE:HcOk prog 48 (ah mZ CI):=by
 refine bK (cs:=Hk) (.cons lU .nil) (lp:=Ir) (fn:=Tryz.f48) mZ (.done (by kernel_rfl)) CI ?_
 rintro ⟨⟨⟨⟩,(v:Int),⟨⟩⟩,⟨⟨(b:LI),(m:Int),⟨⟩⟩,⟨⟩⟩⟩ out hw ho
 obtain ⟨hg,ho⟩:=Tr.guard ho
 have hg:cI b m=true:=hg
 cases ho
 refine (Mh v b m).trans ?_
 unfold xY
 have e:ca b m (u64.wrap v) 8=ca b m v 8:=by unfold ca;rw[oy v (by decide)]
 simp[hg,e]
abbrev m4:Io:=⟨[dI],[],[Lk],[.ptr 0 0],none⟩
def MD (d:m4.In):Tr m4.Res:=.ret (.ret (((),()),((([]:LI),(mj (dg d.1.1 0) 1048576,())),())))
abbrev Hl:List (Nat×Hc):=[]
def Ng:Hd:=br Hl
def Is:Lp:=bA []
def GQ (a0:Int):Option m4.Res:=oR (((),()),([],mj (dg a0 0) 1048576,()),())
theorem Mi (a0:Int):Io.run tt Ng dr Is m4 Tryz.f47 ((a0,()),())=GQ a0:=by kernel_rfl
theorem NF:HcOk prog 47 (ah m4 MD):=by
 refine bK (cs:=Hl) HcsOk.nil (lp:=Is) (fn:=Tryz.f47) m4 (.done (by kernel_rfl)) MD ?_
 rintro ⟨⟨(m:Int),⟨⟩⟩,⟨⟩⟩ out hw ho
 rw[← ho]
 exact Mi m
abbrev fN:Io:=⟨[.ptr 0 0],[Lk],[],[dO],none⟩
def qz (d:fN.In):Tr fN.Res:=.ite (decide (d.2.1.1.length≤4294967296)) (.ret (.ret ((d.2.1.1,()),((d.2.1.1,(d.2.1.2.1,())),())))) .no
abbrev yr:List (Nat×Hc):=[(90,ah dM nz)]
def HV:Hd:=br yr
def zt:Lp:=bA []
def Bl (a0:LI)(a1:Int):Option fN.Res:=bif decide (a0.length≤4294967296) then oR ((a0,()),(a0,a1,()),()) else none
theorem FO (a0:LI)(a1:Int):Io.run tt HV dr zt fN Tryz.f55 (((),()),(a0,a1,()),())=Bl a0 a1:=by kernel_rfl
theorem zS:HcOk prog 55 (ah fN qz):=by
 refine bK (cs:=yr) (.cons sy .nil) (lp:=zt) (fn:=Tryz.f55) fN (.done (by kernel_rfl)) qz ?_
 rintro ⟨⟨⟨⟩,⟨⟩⟩,⟨⟨(b:LI),(m:Int),⟨⟩⟩,⟨⟩⟩⟩ out hw ho
 obtain ⟨hg,ho⟩:=Tr.guard ho
 cases ho
 exact (FO b m).trans (aa hg _ _)
def aW:List (LI)→Nat
 |[]=>0
 |p::ps=>p.length+aW ps
def cD:List (LI)→LI
 |[]=>[]
 |p::ps=>p++cD ps
def s4 (b:LI)(most:Int)(ps:List (LI)):Int×LI:=if most - b.length<aW ps then (10,b) else (0,b++cD ps)
abbrev m5:Io:=⟨[.ptr 0 0,.dat (.sl 22 bs) false false],[Lk],[],[dI],none⟩
def CJ (d:m5.In):Tr m5.Res:=
 .ite (cI d.2.1.1 d.2.1.2.1&&decide (aW d.1.2.1≤4294960000)) (.ret (.ret (((s4 d.2.1.1 d.2.1.2.1 d.1.2.1).1,()),(((s4 d.2.1.1 d.2.1.2.1 d.1.2.1).2,(d.2.1.2.1,())),())))) .no
abbrev Hm:List (Nat×Hc):=[(88,ah iE vR)]
def BB:Hd:=br Hm
abbrev eX:Lo:=⟨⟨(.one (.ptr 0 0)::.one (.hol (.sl 22 (Ty.sl 5 (Ty.int u8))))::.any::bt (.one hI::bO (.one (.hol (.sl 22 (Ty.sl 5 (Ty.int u8))))::.one hI::.one hI::aj (dC (bO []))))),[some [.onl 5 (Ty.int u8) 2,hI]]⟩,[(.exit 0,⟨(.one (.ptr 0 0)::.one (.hol (.sl 22 (Ty.sl 5 (Ty.int u8))))::.any::bt (.one hI::.any::aj (aj (bt [])))),[some [.onl 5 (Ty.int u8) 2,hI]]⟩)]⟩
abbrev dA:Lo:=⟨⟨(.one (.ptr 0 0)::aj (dC (.one (.hol (.sl 22 (Ty.sl 5 (Ty.int u8))))::.one hI::.one hI::.any::dC (bO [])))),[some [.onl 5 (Ty.int u8) 2,hI]]⟩,[(.exit 2,⟨(.any::aj (aj (dC []))),[some [.onl 5 (Ty.int u8) 2,hI]]⟩)]⟩
def nE (d:eX.st.den):Tr (ao eX.xs):=
 .ite (decide (d.1.2.1=0)&&(decide (d.1.2.2.2.2.1=0)&&(decide (d.1.2.2.2.1=(d.1.2.2.1.length:Int))&&decide (aW d.1.2.2.1≤4294960000)))) (.ret (.ret ((),((d.1.1,((aW d.1.2.2.1:Int),())),(d.2.1,()))))) .no
def kF (d:dA.st.den):Tr (ao dA.xs):=
 .ite (decide (d.1.2.2.1=0)&&(decide (d.1.2.1=(d.1.1.length:Int))&&decide (d.2.1.1.length+aW d.1.1≤4294967296))) (.ret (.ret ((),((),((d.2.1.1++cD d.1.1,(d.2.1.2.1,())),()))))) .no
def pl:Lp:=bA [(4,aD eX nE),(11,aD dA kF)]
def tg {R:Type}(h3:List bs.den)(h4:Int)(h5:List bs.den)(h6 h7:Int)(h8:LI)(h9:Int)(next:List bs.den→Int→List bs.den→Int→Int→LI→Int→Option R)(out:ao eX.xs→Option R):Option R:=bif decide (h7<h6) then bif decide (0≤h7)&&decide (h7<(↑h5.length:Int)) then next (h3) (i64.wrap (h4+(↑(List.length (h5.getD h7.toNat [])):Int))) (h5) (h6) (i64.wrap (h7+1)) (h8) (h9) else none else out (.ret ((),((h3,(h4,())),((h8,(h9,())),()))))
def sj (n:Nat)(h3:List bs.den)(h4:Int)(h5:List bs.den)(h6 h7:Int)(h8:LI)(h9:Int):Option (ao eX.xs):=ik tt BB dr pl 1 Tryz.f52 (cb Tryz.f52 0) n (eX.st.mk' ((h3,(h4,(h5,(h6,(h7,()))))),((h8,(h9,())),()))) (bG eX.xs)
theorem JS (n:Nat)(h3:List bs.den)(h4:Int)(h5:List bs.den)(h6 h7:Int)(h8:LI)(h9:Int):sj (n+1) h3 h4 h5 h6 h7 h8 h9=tg h3 h4 h5 h6 h7 h8 h9 (sj n) some:=by kernel_rfl
def qh {R:Type}(h25:List (Ty.sl 5 (Ty.int u8)).den)(h26 h27:Int)(h28:LI)(h29:Int)(next:List (Ty.sl 5 (Ty.int u8)).den→Int→Int→LI→Int→Option R)(out:ao dA.xs→Option R):Option R:=bif decide (h27<h26) then bif decide (0≤h27)&&decide (h27<(↑h25.length:Int)) then bif decide (h28.length+List.length (h25.getD h27.toNat [])≤4294967296) then next (h25) (h26) (i64.wrap (h27+1)) (h28++h25.getD h27.toNat []) (h29) else none else none else out (.ret ((),((),((h28,(h29,())),()))))
def pj (n:Nat)(h25:List (Ty.sl 5 (Ty.int u8)).den)(h26 h27:Int)(h28:LI)(h29:Int):Option (ao dA.xs):=ik tt BB dr pl 1 Tryz.f52 (cb Tryz.f52 1) n (dA.st.mk' ((h25,(h26,(h27,()))),((h28,(h29,())),()))) (bG dA.xs)
theorem F4 (n:Nat)(h25:List (Ty.sl 5 (Ty.int u8)).den)(h26 h27:Int)(h28:LI)(h29:Int):pj (n+1) h25 h26 h27 h28 h29=qh h25 h26 h27 h28 h29 (pj n) some:=by kernel_rfl
theorem mo {ps:List (LI)}{i:Nat}(h:i<ps.length):aW (ps.drop i)=ps[i].length+aW (ps.drop (i+1)):=by rw[zE h];rfl
theorem Au {ps:List (LI)}{i:Nat}(h:i<ps.length):cD (ps.drop i)=ps[i]++cD (ps.drop (i+1)):=by rw[zE h];rfl
theorem BO (ps0 ps:List (LI))(b:LI)(m:Int)(hl:ps.length≤maxLen):∀(k i s:Nat),ps.length<i+k→i≤ps.length→s+aW (ps.drop i)≤4294960000→
  sj k ps0 s ps (ps.length:Int) i b m=some (.ret ((),((ps0,(((s+aW (ps.drop i):Nat):Int),())),((b,(m,())),())))):=by
 intro k
 induction k with
 |zero=>intro i s h;omega
 |succ k ih=>
  intro i s h1 h2 h3
  rw[JS]
  unfold tg
  by_cases hi:i<ps.length
  ·rw[mo hi] at h3 ⊢
   have e:List.getD ps (i:Int).toNat []=ps[i]:=by simp only[zG,aF hi]
   rw[aa (by simpa using hi),aa (by simpa using hi),e,aQ hi hl,af (n:=(s:Int)+(List.length (α:=Int) ps[i]:Int)) (by omega) (by omega)]
   have e2:(s:Int)+(List.length (α:=Int) ps[i]:Int)=((s+ps[i].length:Nat):Int):=by omega
   rw[e2,ih (i+1) (s+ps[i].length) (by omega) (by omega) (by omega),Nat.add_assoc]
  ·rw[ac (by simp;omega),zI (by omega)]
   rfl
theorem zb (ps:List (LI))(m:Int)(hl:ps.length≤maxLen):∀(k i:Nat) (b:LI),ps.length<i+k→i≤ps.length→b.length+aW (ps.drop i)≤4294967296→
  pj k ps (ps.length:Int) i b m=some (.ret ((),((),((b++cD (ps.drop i),(m,())),())))):=by
 intro k
 induction k with
 |zero=>intro i b h;omega
 |succ k ih=>
  intro i b h1 h2 h3
  rw[F4]
  unfold qh
  by_cases hi:i<ps.length
  ·rw[mo hi] at h3
   rw[Au hi]
   have e:List.getD ps (i:Int).toNat []=ps[i]:=by simp only[zG,aF hi]
   rw[aa (by simpa using hi),aa (by simpa using hi),e,aQ hi hl,aa (by simp;omega),ih (i+1) _ (by omega) (by omega) (by simp;omega),zK]
  ·rw[ac (by simp;omega),zI (by omega)]
   simp[cD]
def xZ (a0:List bs.den)(a1:LI)(a2:Int):Option m5.Res:=(nE ((a0,(0,(a0,((↑a0.length:Int),(0,()))))),((a1,(a2,())),()))).run fun y=>match y with | .ret ((),((x21,x22,()),(x23,x24,()),()))=>(bif decide (i64.wrap (x24 - (↑x23.length:Int))<x22) then oR ((10,()),(x23,x24,()),()) else (kF ((x21,((↑x21.length:Int),(0,()))),((x23,(x24,())),()))).run fun y=>match y with | .ret ((),((),(x37,x38,()),()))=>(oR ((0,()),(x37,x38,()),())))
theorem Mj (a0:List bs.den)(a1:LI)(a2:Int):Io.run tt BB dr pl m5 Tryz.f52 (((),a0,()),(a1,a2,()),())=xZ a0 a1 a2:=by kernel_rfl
theorem r5:HcsOk prog Hm:=.cons Ez .nil
theorem NG:HcOk prog 52 (ah m5 CJ):=by
 refine bK r5 (lp:=pl) (fn:=Tryz.f52) m5 (.step (h0:=aD eX nE) (by kernel_rfl) (iK r5 (lp:=pl) (fn:=Tryz.f52) (.done (by kernel_rfl)) eX nE ?_) (.step (h0:=aD dA kF) (by kernel_rfl) (iK r5 (lp:=pl) (fn:=Tryz.f52) (.done (by kernel_rfl)) dA kF ?_) (.done (by kernel_rfl)))) CJ ?_
 ·rintro ⟨⟨ps0,s,ps,n,i,⟨⟩⟩,⟨⟨b,m,⟨⟩⟩,⟨⟩⟩⟩ y hw hy
  obtain ⟨hg,hy⟩:=Tr.guard hy
  simp only[zA,zB] at hg
  obtain ⟨rfl,rfl,rfl,h4⟩:=hg
  refine ⟨ps.length+1,(BO ps0 ps b m hw.1.2.2.1.1 _ 0 0 (by omega) (by omega) (by simpa using h4)).trans ?_⟩
  rw[← hy,Nat.zero_add];rfl
 ·rintro ⟨⟨ps,n,i,⟨⟩⟩,⟨⟨b,m,⟨⟩⟩,⟨⟩⟩⟩ y hw hy
  obtain ⟨hg,hy⟩:=Tr.guard hy
  simp only[zA,zB] at hg
  obtain ⟨rfl,rfl,h4⟩:=hg
  refine ⟨ps.length+1,(zb ps m hw.1.1.1 _ 0 b (by omega) (by omega) (by simpa using h4)).trans ?_⟩
  rw[← hy];rfl
 ·rintro ⟨⟨⟨⟩,(ps:List (LI)),⟨⟩⟩,⟨⟨(b:LI),(m:Int),⟨⟩⟩,⟨⟩⟩⟩ out hw ho
  obtain ⟨hg,ho⟩:=Tr.guard ho
  simp only[cI,zA,zB] at hg
  obtain ⟨⟨h1,h2,h3⟩,h4⟩:=hg
  have h4:aW ps≤4294960000:=h4
  cases ho
  refine (Mj ps b m).trans ?_
  unfold xZ
  have c1:(decide ((0:Int)=0)&&(decide ((0:Int)=0)&&(decide ((ps.length:Int)=(ps.length:Int))&&decide (aW ps≤4294960000))))=true:=by simp;omega
  have e1:nE ((ps,(0,(ps,((ps.length:Int),(0,()))))),((b,(m,())),()))=.ite true (.ret (.ret ((),((ps,((aW ps:Int),())),((b,(m,())),()))))) .no:=congrArg (fun c=>Tr.ite c _ _) c1
  rw[e1]
  simp only[Tr.run,cond_true]
  rw[af (n:=m - (b.length:Int)) (by omega) (by omega)]
  unfold s4
  by_cases hl:m - (b.length:Int)<(aW ps:Int)
  ·rw[aa (by simpa using hl),if_pos hl]
  ·rw[ac (by simpa using hl),if_neg hl]
   have c2:(decide ((0:Int)=0)&&(decide ((ps.length:Int)=(ps.length:Int))&&decide (b.length+aW ps≤4294967296)))=true:=by simp;omega
   have e2:kF ((ps,((ps.length:Int),(0,()))),((b,(m,())),()))=.ite true (.ret (.ret ((),((),((b++cD ps,(m,())),()))))) .no:=congrArg (fun c=>Tr.ite c _ _) c2
   rw[e2]
   rfl
abbrev MM:List Sh:=[dL,dI]
abbrev jx:Sh:=.dat (.int .i64) false false
def bz (l:LI):Int:=l.foldl (fun v c=>v*256+c) 0
def bx (b:LI)(p:Int)(n:Nat):Int×(Int×Int):=if (b.length:Int) - p<n then (0,(p,1)) else (bz ((b.drop p.toNat).take n),(p+n,0))
def cv (b:LI)(p:Int):Bool:=decide (b.length≤4294960000)&&(decide (0≤p)&&decide (p≤(b.length:Int)))
def nm (b:LI)(p n:Int):Int×Int:=if n<0 then (p,3) else if (b.length:Int) - p<n then (p,1) else (p+n,0)
abbrev fM:Io:=⟨[.ptr 0 0],[MM],[],[dI],none⟩
def qx (d:fM.In):Tr fM.Res:=.ret (.ret ((i64.wrap ((d.2.1.1.length:Int) - d.2.1.2.1),()),((d.2.1.1,(d.2.1.2.1,())),())))
abbrev yo:List (Nat×Hc):=[]
def HS:Hd:=br yo
def zq:Lp:=bA []
def Bk (a0:LI)(a1:Int):Option fM.Res:=oR ((i64.wrap ((↑a0.length:Int) - a1),()),(a0,a1,()),())
theorem FK (a0:LI)(a1:Int):Io.run tt HS dr zq fM Tryz.f98 (((),()),(a0,a1,()),())=Bk a0 a1:=by kernel_rfl
theorem zQ:HcOk prog 98 (ah fM qx):=by
 refine bK (cs:=yo) HcsOk.nil (lp:=zq) (fn:=Tryz.f98) fM (.done (by kernel_rfl)) qx ?_
 rintro ⟨⟨⟨⟩,⟨⟩⟩,⟨⟨(b:LI),(p:Int),⟨⟩⟩,⟨⟩⟩⟩ out hw ho
 rw[← ho]
 exact FK b p
abbrev cr:Io:=⟨[.ptr 0 0,dI],[MM],[],[Ok,dI],none⟩
def gk (d:cr.In):Tr cr.Res:=
 .ite (cv d.2.1.1 d.2.1.2.1&&(decide ((0:Int)≤d.1.2.1)&&decide (d.1.2.1≤(8:Int)))) (.ret (.ret (((bx d.2.1.1 d.2.1.2.1 d.1.2.1.toNat).1,((bx d.2.1.1 d.2.1.2.1 d.1.2.1.toNat).2.2,())),((d.2.1.1,((bx d.2.1.1 d.2.1.2.1 d.1.2.1.toNat).2.1,())),())))) .no
abbrev rR:List (Nat×Hc):=[(98,ah fM qx)]
def r6:Hd:=br rR
abbrev bU:Lo:=⟨⟨(.one (.ptr 0 0)::.one hI::bO (.one (.hol (.int u64))::aj (bO (.one (.hol (.sl 5 (Ty.int u8)))::.one hI::.one hI::aj (bt []))))),[some [.hol (.sl 5 (Ty.int u8)),hI]]⟩,[(.exit 0,⟨(.one (.ptr 0 0)::.one hI::bO (.one (.hol (.int u64))::.any::aj (aj (dC [])))),[some [.hol (.sl 5 (Ty.int u8)),hI]]⟩)]⟩
def fH (d:bU.st.den):Tr (ao bU.xs):=
 .ite (decide (d.1.2.1=0)&&(decide (d.1.2.2.2.2.1=0)&&(decide (d.1.2.2.2.1=(d.1.2.2.1.length:Int))&&decide (d.1.2.2.1.length≤8)))) (.ret (.ret ((),((d.1.1,(bz d.1.2.2.1,())),(d.2.1,()))))) .no
def j4:Lp:=bA [(6,aD bU fH)]
def lu {R:Type}(h3 h4:Int)(h5:LI)(h6 h7:Int)(h8:LI)(h9:Int)(next:Int→Int→LI→Int→Int→LI→Int→Option R)(out:ao bU.xs→Option R):Option R:=bif decide (h7<h6) then bif decide (0≤h7)&&decide (h7<(↑h5.length:Int)) then next (h3) (jr u64 (eD u64 h4 8) (u64.wrap (h5.getD h7.toNat 0))) (h5) (h6) (i64.wrap (h7+1)) (h8) (h9) else none else out (.ret ((),((h3,(h4,())),((h8,(h9,())),()))))
def j0 (n:Nat)(h3 h4:Int)(h5:LI)(h6 h7:Int)(h8:LI)(h9:Int):Option (ao bU.xs):=ik tt r6 dr j4 1 Tryz.f93 (cb Tryz.f93 0) n (bU.st.mk' ((h3,(h4,(h5,(h6,(h7,()))))),((h8,(h9,())),()))) (bG bU.xs)
theorem xg (n:Nat)(h3 h4:Int)(h5:LI)(h6 h7:Int)(h8:LI)(h9:Int):j0 (n+1) h3 h4 h5 h6 h7 h8 h9=lu h3 h4 h5 h6 h7 h8 h9 (j0 n) some:=by kernel_rfl
theorem LS {v c:Int}(h0:0≤v)(h1:v<72057594037927936)(h2:0≤c)(h3:c≤255):jr .u64 (eD .u64 v 8) (u64.wrap c)=v*256+c:=by
 have e1:eD .u64 v 8=v*256:=by
  show IntKind.wrap .u64 (v*2 ^ 8)=_
  rw[show v*2 ^ 8=v*256 by omega]
  exact bD (k:=.u64) (by simp[bi,IntKind.min,IntKind.max,IntKind.signed,IntKind.bits];omega)
 have e0:u64.wrap c=c:=bD (k:=.u64) (by simp[bi,IntKind.min,IntKind.max,IntKind.signed,IntKind.bits];omega)
 rw[e1,e0]
 obtain ⟨v,rfl⟩:=aq h0
 obtain ⟨c,rfl⟩:=aq h2
 have e4:=Nat.two_pow_add_eq_or_of_lt (show c<2 ^ 8 by omega) v
 show IntKind.wrap .u64 ((BitVec.ofInt 64 ((v:Int)*256) ||| BitVec.ofInt 64 (c:Int)).toNat:Int)=_
 have e2:(BitVec.ofInt 64 (c:Int)).toNat=c:=by rw[BitVec.toNat_ofInt];omega
 have e3:(BitVec.ofInt 64 ((v:Int)*256)).toNat=2 ^ 8*v:=by rw[BitVec.toNat_ofInt];omega
 rw[BitVec.toNat_or,e2,e3,← e4]
 refine (bD (k:=.u64) ?_).trans ?_
 ·simp[bi,IntKind.min,IntKind.max,IntKind.signed,IntKind.bits];omega
 ·omega
theorem xi (l:LI)(c:Int):bz (l++[c])=bz l*256+c:=by simp[bz]
theorem rX:∀(l:LI) (v:Int),(∀c∈l,0≤c∧c≤255)→0≤v→0≤l.foldl (fun v c=>v*256+c) v∧l.foldl (fun v c=>v*256+c) v<(v+1)*256 ^ l.length
 |[],v,_,h0=>⟨h0,by simp;omega⟩
 |c::l,v,h,h0=>by
  obtain ⟨h3,h4⟩:=h c (by simp)
  obtain ⟨h1,h2⟩:=rX l (v*256+c) (fun d hd=>h d (by simp[hd])) (by omega)
  refine ⟨h1,Int.lt_of_lt_of_le h2 ?_⟩
  rw[zN,Int.pow_succ,Int.mul_comm (256 ^ l.length) 256,← Int.mul_assoc]
  exact Int.mul_le_mul_of_nonneg_right (by omega) (Int.le_of_lt (Int.pow_pos (by decide)))
theorem Ao (l:LI)(h:∀c∈l,0≤c∧c≤255):0≤bz l∧bz l<256 ^ l.length:=by
 have:=rX l 0 h (Int.le_refl _)
 simpa [bz] using this
theorem wE (n:Int)(l b:LI)(p:Int)(hl:l.length≤8)(hr:∀c∈l,0≤c∧c≤255):∀(k i:Nat),l.length<i+k→i≤l.length→
  j0 k n (bz (l.take i)) l (l.length:Int) i b p=some (.ret ((),((n,(bz l,())),((b,(p,())),())))):=by
 intro k
 induction k with
 |zero=>intro i h;omega
 |succ k ih=>
  intro i h1 h2
  rw[xg]
  unfold lu
  by_cases hi:i<l.length
  ·have hc:=hr l[i] (List.getElem_mem hi)
   have hb:=Ao (l.take i) fun c hc=>hr c (List.mem_of_mem_take hc)
   have hlt:(256:Int) ^ (l.take i).length≤72057594037927936:=by
    rw[List.length_take,show min i l.length=i by omega]
    have hi7:i≤7:=by omega
    match i,hi7 with
    |0,_=>decide
    |1,_=>decide
    |2,_=>decide
    |3,_=>decide
    |4,_=>decide
    |5,_=>decide
    |6,_=>decide
    |7,_=>decide
   have e1:List.getD l (i:Int).toNat 0=l[i]:=by simp only[zG,aF hi]
   rw[aa (by simpa using hi),aa (by simpa using hi),e1,LS hb.1 (by omega) hc.1 hc.2,← xi,← List.take_succ_eq_append_getElem hi,aQ hi (by rw[aB];omega),ih (i+1) (by omega) (by omega)]
  ·rw[ac (by simp;omega),List.take_of_length_le (by omega)]
def nL (a0:Int)(a1:LI)(a2:Int):Option cr.Res:=bif decide (i64.wrap ((↑a1.length:Int) - a2)<a0) then oR ((0,1,()),(a1,a2,()),()) else bif decide (0≤a2)&&(decide (a2≤i64.wrap (a2+a0))&&decide (i64.wrap (a2+a0)≤(↑a1.length:Int))) then (fH ((a0,(0,(List.drop a2.toNat (List.take (i64.wrap (a2+a0)).toNat a1),((↑(List.drop a2.toNat (List.take (i64.wrap (a2+a0)).toNat a1)).length:Int),(0,()))))),((a1,(a2,())),()))).run fun y=>match y with | .ret ((),((x21,x22,()),(x23,x24,()),()))=>(oR ((x22,0,()),(x23,i64.wrap (x24+x21),()),())) else none
theorem zZ (a0:Int)(a1:LI)(a2:Int):Io.run tt r6 dr j4 cr Tryz.f93 (((),a0,()),(a1,a2,()),())=nL a0 a1 a2:=by kernel_rfl
theorem dj {b:LI}(h:Ty.wf bs b):∀c∈b,0≤c∧c≤255:=fun c hc=>by
 have:=h.2 c hc
 simpa [Ty.wf,bi,IntKind.min,IntKind.max,IntKind.signed,IntKind.bits] using this
theorem nZ:HcsOk prog rR:=.cons zQ .nil
theorem j8:HcOk prog 93 (ah cr gk):=by
 refine bK nZ (lp:=j4) (fn:=Tryz.f93) cr (.step (h0:=aD bU fH) (by kernel_rfl) (iK nZ (lp:=j4) (fn:=Tryz.f93) (.done (by kernel_rfl)) bU fH ?_) (.done (by kernel_rfl))) gk ?_
 ·rintro ⟨⟨(n:Int),(v:Int),(l:LI),(m:Int),(i:Int),⟨⟩⟩,⟨⟨(b:LI),(p:Int),⟨⟩⟩,⟨⟩⟩⟩ y hw hy
  obtain ⟨hg,hy⟩:=Tr.guard hy
  simp only[zA,zB] at hg
  obtain ⟨rfl,rfl,rfl,h4⟩:=hg
  refine ⟨l.length+1,(wE n l b p h4 (dj hw.1.2.2.1) _ 0 (by omega) (by omega)).trans ?_⟩
  rw[← hy];rfl
 ·rintro ⟨⟨⟨⟩,(n:Int),⟨⟩⟩,⟨⟨(b:LI),(p:Int),⟨⟩⟩,⟨⟩⟩⟩ out hw ho
  obtain ⟨hg,ho⟩:=Tr.guard ho
  simp only[cv,zA,zB] at hg
  obtain ⟨⟨h1,h2,h3⟩,h4,h5⟩:=hg
  have h1:b.length≤4294960000:=h1
  have h2:(0:Int)≤p:=h2
  have h3:p≤(b.length:Int):=h3
  have h4:(0:Int)≤n:=h4
  have h5:n≤(8:Int):=h5
  cases ho
  refine (zZ n b p).trans ?_
  show _=oR (((bx b p n.toNat).1,((bx b p n.toNat).2.2,())),((b,((bx b p n.toNat).2.1,())),()))
  unfold nL
  rw[af (n:=(b.length:Int) - p) (by omega) (by omega),af (n:=p+n) (by omega) (by omega)]
  unfold bx
  by_cases hl:(b.length:Int) - p<n
  ·rw[aa (by simpa using hl),if_pos (by omega)]
  ·have e0:List.drop p.toNat (List.take (p+n).toNat b)=(b.drop p.toNat).take n.toNat:=by rw[List.drop_take,show (p+n).toNat - p.toNat=n.toNat by omega]
   rw[ac (by simpa using hl),if_neg (by omega),aa (by simp;omega),e0]
   have hl8:((b.drop p.toNat).take n.toNat).length≤8:=by simp;omega
   have e1:fH ((n,(0,((b.drop p.toNat).take n.toNat,((((b.drop p.toNat).take n.toNat).length:Int),(0,()))))),((b,(p,())),()))=.ite true (.ret (.ret ((),((n,(bz ((b.drop p.toNat).take n.toNat),())),((b,(p,())),()))))) .no:=
    congrArg (fun c=>Tr.ite c _ _) (show (decide ((0:Int)=0)&&(decide ((0:Int)=0)&&(decide ((((b.drop p.toNat).take n.toNat).length:Int)=(((b.drop p.toNat).take n.toNat).length:Int))&&decide (((b.drop p.toNat).take n.toNat).length≤8))))=true by simp;omega)
   rw[e1]
   simp only[Tr.run,cond_true]
   rw[af (n:=p+n) (by omega) (by omega),show ((n.toNat:Nat):Int)=n by omega]
abbrev jN:Io:=⟨[.ptr 0 0],[MM],[],[OO,dI],none⟩
def vJ (d:jN.In):Tr jN.Res:=
 .ite (cv d.2.1.1 d.2.1.2.1) (.ret (.ret ((i16.wrap (bx d.2.1.1 d.2.1.2.1 2).1,((bx d.2.1.1 d.2.1.2.1 2).2.2,())),((d.2.1.1,((bx d.2.1.1 d.2.1.2.1 2).2.1,())),())))) .no
abbrev C7:List (Nat×Hc):=[(93,ah cr gk)]
def KY:Hd:=br C7
def D2:Lp:=bA []
def uf (a0:LI)(a1:Int):Option jN.Res:=bif cv a0 a1&&(decide (0≤2)&&decide (2≤8)) then oR ((i16.wrap (bx a0 a1 (Int.toNat 2)).1,(bx a0 a1 (Int.toNat 2)).2.2,()),(a0,(bx a0 a1 (Int.toNat 2)).2.1,()),()) else none
theorem Jp (a0:LI)(a1:Int):Io.run tt KY dr D2 jN Tryz.f68 (((),()),(a0,a1,()),())=uf a0 a1:=by kernel_rfl
theorem LC:HcOk prog 68 (ah jN vJ):=by
 refine bK (cs:=C7) (.cons j8 .nil) (lp:=D2) (fn:=Tryz.f68) jN (.done (by kernel_rfl)) vJ ?_
 rintro ⟨⟨⟨⟩,⟨⟩⟩,⟨⟨(b:LI),(p:Int),⟨⟩⟩,⟨⟩⟩⟩ out hw ho
 obtain ⟨hg,ho⟩:=Tr.guard ho
 have hg:cv b p=true:=hg
 cases ho
 refine (Jp b p).trans ?_
 unfold uf
 rw[aa (by simp[hg])]
 rfl
abbrev iz:Io:=⟨[.ptr 0 0],[MM],[],[Bw,dI],none⟩
def rh (d:iz.In):Tr iz.Res:=
 .ite (cv d.2.1.1 d.2.1.2.1) (.ret (.ret ((i32.wrap (bx d.2.1.1 d.2.1.2.1 4).1,((bx d.2.1.1 d.2.1.2.1 4).2.2,())),((d.2.1.1,((bx d.2.1.1 d.2.1.2.1 4).2.1,())),())))) .no
abbrev C8:List (Nat×Hc):=[(93,ah cr gk)]
def KZ:Hd:=br C8
def D3:Lp:=bA []
def ug (a0:LI)(a1:Int):Option iz.Res:=bif cv a0 a1&&(decide (0≤4)&&decide (4≤8)) then oR ((i32.wrap (bx a0 a1 (Int.toNat 4)).1,(bx a0 a1 (Int.toNat 4)).2.2,()),(a0,(bx a0 a1 (Int.toNat 4)).2.1,()),()) else none
theorem Jq (a0:LI)(a1:Int):Io.run tt KZ dr D3 iz Tryz.f60 (((),()),(a0,a1,()),())=ug a0 a1:=by kernel_rfl
theorem Et:HcOk prog 60 (ah iz rh):=by
 refine bK (cs:=C8) (.cons j8 .nil) (lp:=D3) (fn:=Tryz.f60) iz (.done (by kernel_rfl)) rh ?_
 rintro ⟨⟨⟨⟩,⟨⟩⟩,⟨⟨(b:LI),(p:Int),⟨⟩⟩,⟨⟩⟩⟩ out hw ho
 obtain ⟨hg,ho⟩:=Tr.guard ho
 have hg:cv b p=true:=hg
 cases ho
 refine (Jq b p).trans ?_
 unfold ug
 rw[aa (by simp[hg])]
 rfl
abbrev jO:Io:=⟨[.ptr 0 0],[MM],[],[jx,dI],none⟩
def vK (d:jO.In):Tr jO.Res:=
 .ite (cv d.2.1.1 d.2.1.2.1) (.ret (.ret ((i64.wrap (bx d.2.1.1 d.2.1.2.1 8).1,((bx d.2.1.1 d.2.1.2.1 8).2.2,())),((d.2.1.1,((bx d.2.1.1 d.2.1.2.1 8).2.1,())),())))) .no
abbrev C9:List (Nat×Hc):=[(93,ah cr gk)]
def K0:Hd:=br C9
def D4:Lp:=bA []
def uh (a0:LI)(a1:Int):Option jO.Res:=bif cv a0 a1&&(decide (0≤8)&&decide (8≤8)) then oR ((i64.wrap (bx a0 a1 (Int.toNat 8)).1,(bx a0 a1 (Int.toNat 8)).2.2,()),(a0,(bx a0 a1 (Int.toNat 8)).2.1,()),()) else none
theorem Jr (a0:LI)(a1:Int):Io.run tt K0 dr D4 jO Tryz.f65 (((),()),(a0,a1,()),())=uh a0 a1:=by kernel_rfl
theorem LD:HcOk prog 65 (ah jO vK):=by
 refine bK (cs:=C9) (.cons j8 .nil) (lp:=D4) (fn:=Tryz.f65) jO (.done (by kernel_rfl)) vK ?_
 rintro ⟨⟨⟨⟩,⟨⟩⟩,⟨⟨(b:LI),(p:Int),⟨⟩⟩,⟨⟩⟩⟩ out hw ho
 obtain ⟨hg,ho⟩:=Tr.guard ho
 have hg:cv b p=true:=hg
 cases ho
 refine (Jr b p).trans ?_
 unfold uh
 rw[aa (by simp[hg])]
 rfl
abbrev gR:Io:=⟨[.ptr 0 0,dI],[MM],[],[dI],none⟩
def qy (d:gR.In):Tr gR.Res:=
 .ite (cv d.2.1.1 d.2.1.2.1) (.ret (.ret (((nm d.2.1.1 d.2.1.2.1 d.1.2.1).2,()),((d.2.1.1,((nm d.2.1.1 d.2.1.2.1 d.1.2.1).1,())),())))) .no
abbrev yp:List (Nat×Hc):=[(98,ah fM qx)]
def HT:Hd:=br yp
def zr:Lp:=bA []
def rH (a0:Int)(a1:LI)(a2:Int):Option gR.Res:=bif decide (a0<0) then oR ((3,()),(a1,a2,()),()) else bif decide (i64.wrap ((↑a1.length:Int) - a2)<a0) then oR ((1,()),(a1,a2,()),()) else oR ((0,()),(a1,i64.wrap (a2+a0),()),())
theorem FL (a0:Int)(a1:LI)(a2:Int):Io.run tt HT dr zr gR Tryz.f66 (((),a0,()),(a1,a2,()),())=rH a0 a1 a2:=by kernel_rfl
theorem IV:HcOk prog 66 (ah gR qy):=by
 refine bK (cs:=yp) (.cons zQ .nil) (lp:=zr) (fn:=Tryz.f66) gR (.done (by kernel_rfl)) qy ?_
 rintro ⟨⟨⟨⟩,(n:Int),⟨⟩⟩,⟨⟨(b:LI),(p:Int),⟨⟩⟩,⟨⟩⟩⟩ out hw ho
 obtain ⟨hg,ho⟩:=Tr.guard ho
 simp only[cv,zA,zB] at hg
 obtain ⟨h1,h2,h3⟩:=hg
 have h1:b.length≤4294960000:=h1
 have h2:(0:Int)≤p:=h2
 have h3:p≤(b.length:Int):=h3
 cases ho
 refine (FL n b p).trans ?_
 unfold rH nm
 rw[af (n:=(b.length:Int) - p) (by omega) (by omega)]
 by_cases h4:n<0
 ·rw[aa (by simpa using h4),if_pos h4]
 ·rw[ac (by simpa using h4),if_neg h4]
  by_cases h5:(b.length:Int) - p<n
  ·rw[aa (by simpa using h5),if_pos h5]
  ·rw[ac (by simpa using h5),if_neg h5,af (n:=p+n) (by omega) (by omega)]
abbrev iA:Io:=⟨[dL],[],[MM],[.ptr 0 0],none⟩
def vL (d:iA.In):Tr iA.Res:=.ite (decide (d.1.1.length≤4294967296)) (.ret (.ret (((),()),((d.1.1,(0,())),())))) .no
abbrev Da:List (Nat×Hc):=[(90,ah dM nz)]
def K1:Hd:=br Da
def D5:Lp:=bA []
def ES (a0:LI):Option iA.Res:=bif decide (a0.length≤4294967296) then oR (((),()),(a0,0,()),()) else none
theorem Js (a0:LI):Io.run tt K1 dr D5 iA Tryz.f59 ((a0,()),())=ES a0:=by kernel_rfl
theorem Eu:HcOk prog 59 (ah iA vL):=by
 refine bK (cs:=Da) (.cons sy .nil) (lp:=D5) (fn:=Tryz.f59) iA (.done (by kernel_rfl)) vL ?_
 rintro ⟨⟨(b:LI),⟨⟩⟩,⟨⟩⟩ out hw ho
 obtain ⟨hg,ho⟩:=Tr.guard ho
 cases ho
 exact (Js b).trans (aa hg _ _)
abbrev eo:Io:=⟨[jx,dI],[],[],[dO],none⟩
def ny (d:eo.In):Tr eo.Res:=.ite (decide ((0:Int)≤d.1.2.1)&&decide (d.1.2.1≤(8:Int))) (.ret (.ret ((ay d.1.1 d.1.2.1.toNat,()),()))) .no
abbrev lC:List (Nat×Hc):=[]
def o5:Hd:=br lC
abbrev cd:Lo:=⟨⟨(.one hI::.one hI::.any::bt (.one (.onl 5 (Ty.int u8) 11)::.one hI::.any::aj (aj (bO (bt []))))),[]⟩,[(.exit 0,⟨(.any::.one hI::.any::bt (.one (.onl 5 (Ty.int u8) 11)::aj (aj (dC [])))),[]⟩)]⟩
abbrev bS:Lo:=⟨⟨(.any::bO (.one (.onl 5 (Ty.int u8) 11)::bt (.one (.onl 5 (Ty.int u8) 17)::.one hI::aj (aj (bO []))))),[]⟩,[(.exit 2,⟨(dC (.one (.onl 5 (Ty.int u8) 17)::.any::aj (aj (bO [])))),[]⟩)]⟩
def ez (v:Int):Nat→LI
 |0=>[]
 |n+1=>v % 256::ez (v / 256) n
def gr (d:cd.st.den):Tr (ao cd.xs):=
 .ite (decide (d.1.2.2.1.length=0)&&(decide (d.1.2.2.2.1=0)&&(decide ((0:Int)≤d.1.2.1)&&decide (d.1.2.1≤(8:Int))))) (.ret (.ret ((),((d.1.2.1,(ez d.1.1 d.1.2.1.toNat,())),())))) .no
def d7 (d:bS.st.den):Tr (ao bS.xs):=
 .ite (decide (d.1.2.1.length=0)&&(decide (d.1.2.2.1=(d.1.1.length:Int) - 1)&&decide (d.1.1.length≤8))) (.ret (.ret ((),((d.1.1.reverse,()),())))) .no
def gm:Lp:=bA [(4,aD cd gr),(13,aD bS d7)]
def mp {R:Type}(h2 h3:Int)(h4:LI)(h5:Int)(next:Int→Int→LI→Int→Option R)(out:ao cd.xs→Option R):Option R:=bif decide (h5<h3) then bif decide (i64.wrap (h2.tmod 256)<0) then bif decide (h4.length+[u8.wrap (i64.wrap (i64.wrap (h2.tmod 256)+256))].length≤4294967296) then next (i64.wrap ((i64.wrap (h2 - i64.wrap (i64.wrap (h2.tmod 256)+256))).tdiv 256)) (h3) (h4++[u8.wrap (i64.wrap (i64.wrap (h2.tmod 256)+256))]) (i64.wrap (h5+1)) else none else bif decide (h4.length+[u8.wrap (i64.wrap (h2.tmod 256))].length≤4294967296) then next (i64.wrap ((i64.wrap (h2 - i64.wrap (h2.tmod 256))).tdiv 256)) (h3) (h4++[u8.wrap (i64.wrap (h2.tmod 256))]) (i64.wrap (h5+1)) else none else out (.ret ((),((h3,(h4,())),())))
def iH (n:Nat)(h2 h3:Int)(h4:LI)(h5:Int):Option (ao cd.xs):=ik tt o5 dr gm 0 Tryz.f62 (cb Tryz.f62 0) n (cd.st.mk' ((h2,(h3,(h4,(h5,())))),())) (bG cd.xs)
theorem Af (n:Nat)(h2 h3:Int)(h4:LI)(h5:Int):iH (n+1) h2 h3 h4 h5=mp h2 h3 h4 h5 (iH n) some:=by kernel_rfl
def ie {R:Type}(h18 h19:LI)(h20:Int)(next:LI→LI→Int→Option R)(out:ao bS.xs→Option R):Option R:=bif decide (0≤h20) then bif decide (0≤h20)&&decide (h20<(↑h18.length:Int)) then bif decide (h19.length+[h18.getD h20.toNat 0].length≤4294967296) then next (h18) (h19++[h18.getD h20.toNat 0]) (i64.wrap (h20 - 1)) else none else none else out (.ret ((),((h19,()),())))
def jZ (n:Nat)(h18 h19:LI)(h20:Int):Option (ao bS.xs):=ik tt o5 dr gm 0 Tryz.f62 (cb Tryz.f62 1) n (bS.st.mk' ((h18,(h19,(h20,()))),())) (bG bS.xs)
theorem ov (n:Nat)(h18 h19:LI)(h20:Int):jZ (n+1) h18 h19 h20=ie h18 h19 h20 (jZ n) some:=by kernel_rfl
theorem Kf (v:Int):(v.tmod 256<0→v.tmod 256+256=v % 256)∧(¬ v.tmod 256<0→v.tmod 256=v % 256):=by
 by_cases h:0≤v
 ·rw[Int.tmod_eq_emod_of_nonneg h];omega
 ·obtain ⟨u,rfl⟩:∃u,v = -u:=⟨-v,by omega⟩
  rw[Int.neg_tmod,Int.tmod_eq_emod_of_nonneg (by omega)];omega
theorem Kc (v:Int):(v - v % 256).tdiv 256=v / 256:=by
 have e:v - v % 256=v / 256*256:=by omega
 rw[e,Int.mul_tdiv_cancel _ (by decide)]
theorem Mx {n:Int}(h0:0≤n)(h1:n<256):u8.wrap n=n:=bD (by simp[bi,IntKind.min,IntKind.max,IntKind.signed,IntKind.bits];omega)
theorem tu {m:Nat}(hm:m≤8):∀(k j:Nat) (v:Int) (acc:LI),m<j+k→j≤m→acc.length=j→-9223372036854775808≤v→v≤9223372036854775807→
  iH k v (m:Int) acc j=some (.ret ((),(((m:Int),(acc++ez v (m - j),())),()))):=by
 intro k
 induction k with
 |zero=>intro j v acc h;omega
 |succ k ih=>
  intro j v acc h1 h2 h3 h4 h5
  rw[Af]
  unfold mp
  by_cases hj:j<m
  ·refine bT (decide_eq_true (show (j:Int)<(m:Int) by omega)) ?_
   have ht:=Kf v
   have hd:∀x:Int,x=v % 256→iH k (i64.wrap ((i64.wrap (v - x)).tdiv 256)) (m:Int) (acc++[u8.wrap x]) (i64.wrap ((j:Int)+1))=some (.ret ((),(((m:Int),(acc++ez v (m - j),())),()))):=by
    rintro x rfl
    rw[af (n:=v - v % 256) (by omega) (by omega),Kc,af (n:=v / 256) (by omega) (by omega),af (n:=(j:Int)+1) (by omega) (by omega),Mx (n:=v % 256) (by omega) (by omega)]
    refine (ih (j+1) (v / 256) (acc++[v % 256]) (by omega) (by omega) (by simp[h3]) (by omega) (by omega)).trans ?_
    obtain ⟨q,hq⟩:∃q,m - j=q+1:=⟨m - j - 1,by omega⟩
    rw[hq,show m - (j+1)=q by omega,ez]
    simp
   have hr : -256≤v.tmod 256∧v.tmod 256<256:=by
    by_cases h:v.tmod 256<0
    ·have:=ht.1 h;omega
    ·have:=ht.2 h;omega
   rw[af (n:=v.tmod 256) (by omega) (by omega),af (n:=v.tmod 256+256) (by omega) (by omega)]
   by_cases hn:v.tmod 256<0
   ·refine bT (by simpa using hn) ?_
    refine bT (decide_eq_true (show acc.length+1≤4294967296 by omega)) ?_
    exact hd _ (ht.1 hn)
   ·refine bF (by simpa using hn) ?_
    refine bT (decide_eq_true (show acc.length+1≤4294967296 by omega)) ?_
    exact hd _ (ht.2 hn)
  ·refine bF (decide_eq_false (show ¬(j:Int)<(m:Int) by omega)) ?_
   rw[show m - j=0 by omega,ez]
   simp
theorem sn {low:LI}(hl:low.length≤8):∀(j:Nat) (acc:LI),j≤low.length→acc.length+j≤8→
  jZ (j+1) low acc ((j:Int) - 1)=some (.ret ((),((acc++(low.take j).reverse,()),()))):=by
 intro j
 induction j with
 |zero=>
  intro acc h1 h2
  rw[ov]
  unfold ie
  refine bF (by decide) ?_
  simp
 |succ j ih=>
  intro acc h1 h2
  rw[ov]
  unfold ie
  rw[show ((j+1:Nat):Int) - 1=(j:Int) by omega]
  have hg:List.getD low j (0:Int)=low[j]'(by omega):=aF (by omega)
  refine bT (by simp) ?_
  refine bT (by simp;omega) ?_
  simp only[zG,hg]
  refine bT (decide_eq_true (show acc.length+1≤4294967296 by omega)) ?_
  rw[af (n:=(j:Int) - 1) (by omega) (by omega)]
  refine (ih (acc++[low[j]'(by omega)]) (by omega) (by simp;omega)).trans ?_
  rw[List.take_succ_eq_append_getElem (by omega),List.reverse_append,List.reverse_singleton,zK]
theorem F5 (v:Int):∀n,(ez v n).length=n:=by
 intro n
 induction n generalizing v with
 |zero=>rfl
 |succ n ih=>rw[ez,zN,ih]
theorem sY:∀(n:Nat) (v:Int),ez v (n+1)=ez v n++[(v / 256 ^ n) % 256]
 |0,v=>by simp[ez]
 |n+1,v=>by
  rw[ez,sY n (v / 256),ez]
  have e:v / 256 / 256 ^ n=v / 256 ^ (n+1):=by
   rw[Int.pow_succ,Int.mul_comm,Int.ediv_ediv_of_nonneg (by decide)]
  rw[e];rfl
theorem vo (v:Int):∀n,(ez v n).reverse=ay v n
 |0=>rfl
 |n+1=>by rw[sY,List.reverse_append,vo v n];rfl
def pH (a0 a1:Int):Option eo.Res:=(gr ((a0,(a1,([],(0,())))),())).run fun y=>match y with | .ret ((),((x16,x17,()),()))=>((d7 ((x17,([],(i64.wrap (x16 - 1),()))),())).run fun y=>match y with | .ret ((),((x25,()),()))=>(oR ((x25,()),())))
theorem B1 (a0 a1:Int):Io.run tt o5 dr gm eo Tryz.f62 ((a0,a1,()),())=pH a0 a1:=by kernel_rfl
theorem vh:HcOk prog 62 (ah eo ny):=by
 refine bK (cs:=lC) HcsOk.nil (lp:=gm) (fn:=Tryz.f62) eo (.step (h0:=aD cd gr) (by kernel_rfl) (iK (cs:=lC) HcsOk.nil (lp:=gm) (fn:=Tryz.f62) (.done (by kernel_rfl)) cd gr ?_) (.step (h0:=aD bS d7) (by kernel_rfl) (iK (cs:=lC) HcsOk.nil (lp:=gm) (fn:=Tryz.f62) (.done (by kernel_rfl)) bS d7 ?_) (.done (by kernel_rfl)))) ny ?_
 ·rintro ⟨⟨(v:Int),(m:Int),(acc:LI),(i:Int),⟨⟩⟩,⟨⟩⟩ y hw hy
  obtain ⟨hg,hy⟩:=Tr.guard hy
  simp only[zA,zB] at hg
  obtain ⟨h1,h2,h3,h4⟩:=hg
  have h1:acc=[]:=zF h1
  have h2:i=0:=h2
  have h3:(0:Int)≤m:=h3
  have h4:m≤(8:Int):=h4
  subst h1
  subst h2
  obtain ⟨m,rfl⟩:=aq h3
  have hv:bi .i64 v:=hw.1.1
  simp only[bi,IntKind.min,IntKind.max,IntKind.signed,IntKind.bits] at hv
  simp at hv
  refine ⟨m+1,(tu (m:=m) (by omega) (m+1) 0 v [] (by omega) (by omega) rfl (by omega) (by omega)).trans ?_⟩
  rw[← hy];rfl
 ·rintro ⟨⟨(low:LI),(acc:LI),(i:Int),⟨⟩⟩,⟨⟩⟩ y hw hy
  obtain ⟨hg,hy⟩:=Tr.guard hy
  simp only[zA,zB] at hg
  obtain ⟨h1,h2,h3⟩:=hg
  have h1:acc=[]:=zF h1
  have h2:i=(low.length:Int) - 1:=h2
  have h3:low.length≤8:=h3
  subst h1
  subst h2
  refine ⟨low.length+1,(sn h3 low.length [] (by omega) (by simpa using h3)).trans ?_⟩
  rw[← hy,List.take_length];rfl
 ·rintro ⟨⟨(v:Int),(m:Int),⟨⟩⟩,⟨⟩⟩ out hw ho
  obtain ⟨hg,ho⟩:=Tr.guard ho
  simp only[zA,zB] at hg
  obtain ⟨h5,h6⟩:=hg
  have h5:(0:Int)≤m:=h5
  have h6:m≤(8:Int):=h6
  cases ho
  refine (B1 v m).trans ?_
  unfold pH
  have c1:(decide (([]:LI).length=0)&&(decide ((0:Int)=0)&&(decide ((0:Int)≤m)&&decide (m≤(8:Int)))))=true:=by simp;omega
  have e1:gr ((v,(m,([],(0,())))),())=.ite true (.ret (.ret ((),((m,(ez v m.toNat,())),())))) .no:=congrArg (fun c=>Tr.ite c _ _) c1
  rw[e1]
  show (d7 ((ez v m.toNat,([],(i64.wrap (m - 1),()))),())).run _=_
  rw[af (n:=m - 1) (by omega) (by omega)]
  have c2:(decide (([]:LI).length=0)&&(decide (m - 1=((ez v m.toNat).length:Int) - 1)&&decide ((ez v m.toNat).length≤8)))=true:=by
   rw[F5];simp;omega
  have e2:d7 ((ez v m.toNat,([],(m - 1,()))),())=.ite true (.ret (.ret ((),(((ez v m.toNat).reverse,()),())))) .no:=congrArg (fun c=>Tr.ite c _ _) c2
  rw[e2,vo]
  rfl
def bY (l:LI):Int:=match l with
 |[]=>0
 |c::l=>l.foldl (fun v c=>v*256+c) (if 128≤c then c - 256 else c)
def al (b:LI)(at_ n:Int):Int×Bool:=if at_<0∨(b.length:Int)<at_∨(b.length:Int) - at_<n then (0,false) else (bY ((b.drop at_.toNat).take n.toNat),true)
abbrev fo:Io:=⟨[dL,dI,dI],[],[],[jx,dB],none⟩
def rg (d:fo.In):Tr fo.Res:=.ite (decide ((0:Int)≤d.1.2.2.1)&&decide (d.1.2.2.1≤(8:Int))) (.ret (.ret (((al d.1.1 d.1.2.1 d.1.2.2.1).1,((al d.1.1 d.1.2.1 d.1.2.2.1).2,())),()))) .no
abbrev oX:List (Nat×Hc):=[]
def uT:Hd:=br oX
abbrev ce:Lo:=⟨⟨(.one (.hol (.sl 5 (Ty.int u8)))::.one hI::.one hI::.any::bO (.one hI::.one hI::aj (aj (dC (bt []))))),[]⟩,[(.exit 0,⟨(dC (.one hI::.any::aj (aj (dC (bt []))))),[]⟩)]⟩
def gt (d:ce.st.den):Tr (ao ce.xs):=
 .ite (decide (d.1.2.2.2.1=0)&&(decide (d.1.2.2.2.2.1=0)&&((decide ((0:Int)≤d.1.2.1)&&decide (d.1.2.1+d.1.2.2.1≤(d.1.1.length:Int)))&&(decide ((0:Int)≤d.1.2.2.1)&&decide (d.1.2.2.1≤(8:Int)))))) (.ret (.ret ((),((bY ((d.1.1.drop d.1.2.1.toNat).take d.1.2.2.1.toNat),()),())))) .no
def lN:Lp:=bA [(6,aD ce gt)]
def mq {R:Type}(h3:LI)(h4 h5 h6 h7:Int)(next:LI→Int→Int→Int→Int→Option R)(out:ao ce.xs→Option R):Option R:=bif decide (h7<h5) then bif decide (0≤i64.wrap (h4+h7))&&decide (i64.wrap (h4+h7)<(↑h3.length:Int)) then bif h7 == 0 then bif decide (128≤i64.wrap (h3.getD (i64.wrap (h4+h7)).toNat 0)) then next (h3) (h4) (h5) (i64.wrap (i64.wrap (h6*256)+i64.wrap (i64.wrap (h3.getD (i64.wrap (h4+h7)).toNat 0) - 256))) (i64.wrap (h7+1)) else next (h3) (h4) (h5) (i64.wrap (i64.wrap (h6*256)+i64.wrap (h3.getD (i64.wrap (h4+h7)).toNat 0))) (i64.wrap (h7+1)) else next (h3) (h4) (h5) (i64.wrap (i64.wrap (h6*256)+i64.wrap (h3.getD (i64.wrap (h4+h7)).toNat 0))) (i64.wrap (h7+1)) else none else out (.ret ((),((h6,()),())))
def kT (n:Nat)(h3:LI)(h4 h5 h6 h7:Int):Option (ao ce.xs):=ik tt uT dr lN 0 Tryz.f108 (cb Tryz.f108 0) n (ce.st.mk' ((h3,(h4,(h5,(h6,(h7,()))))),())) (bG ce.xs)
theorem Ag (n:Nat)(h3:LI)(h4 h5 h6 h7:Int):kT (n+1) h3 h4 h5 h6 h7=mq h3 h4 h5 h6 h7 (kT n) some:=by kernel_rfl
theorem Cm (l:LI)(c:Int):bY (l++[c])=if l=[] then (if 128≤c then c - 256 else c) else bY l*256+c:=by
 cases l with
 |nil=>simp[bY]
 |cons x l=>simp[bY,List.foldl_append]
theorem Ax:∀(l:LI) (v B:Int),(∀c∈l,0≤c∧c<256)→-B≤v→v<B→-(B*256 ^ l.length)≤l.foldl (fun v c=>v*256+c) v∧l.foldl (fun v c=>v*256+c) v<B*256 ^ l.length
 |[],v,B,_,h1,h2=>by simp;omega
 |c::l,v,B,hc,h1,h2=>by
  have h:=hc c (by simp)
  have ih:=Ax l (v*256+c) (B*256) (fun x hx=>hc x (by simp[hx])) (by omega) (by omega)
  have e:B*256*256 ^ l.length=B*256 ^ (c::l).length:=by rw[zN,Int.pow_succ,Int.mul_assoc,Int.mul_comm 256]
  rw[e] at ih
  exact ih
theorem J4 {l:LI}(hc:∀c∈l,0≤c∧c<256)(hl:l.length≤7) : -36028797018963968≤bY l∧bY l<36028797018963968:=by
 cases l with
 |nil=>simp[bY]
 |cons c l=>
  have h:=hc c (by simp)
  have h':=Ax l (if 128≤c then c - 256 else c) 128 (fun x hx=>hc x (by simp[hx])) (by split <;> omega) (by split <;> omega)
  have hp:(256:Int) ^ l.length≤256 ^ 6:=by
   have:=Nat.pow_le_pow_right (show 0<256 by decide) (show l.length≤6 by simpa using hl)
   have e:((256 ^ l.length:Nat):Int)=(256:Int) ^ l.length:=by simp
   have e2:((256 ^ 6:Nat):Int)=(256:Int) ^ 6:=by simp
   omega
  have e6:(256:Int) ^ 6=281474976710656:=by decide
  show -36028797018963968≤l.foldl _ _∧l.foldl _ _<36028797018963968
  omega
theorem y8 {b:LI}(hb:∀c∈b,0≤c∧c<256)(hl:b.length≤maxLen){a m:Nat}(h1:a+m≤b.length)(h2:m≤8):∀(k j:Nat),m<j+k→j≤m→
  kT k b (a:Int) (m:Int) (bY ((b.drop a).take j)) j=some (.ret ((),((bY ((b.drop a).take m),()),()))):=by
 intro k
 induction k with
 |zero=>intro j h;omega
 |succ k ih=>
  intro j h3 h4
  rw[Ag]
  unfold mq
  by_cases hj:j<m
  ·have hm:=aB
   rw[hm] at hl
   refine bT (decide_eq_true (show (j:Int)<(m:Int) by omega)) ?_
   have ej:((a:Int)+(j:Int))=((a+j:Nat):Int):=by omega
   have hget:List.getD b (a+j) (0:Int)=b[a+j]'(by omega):=aF (by omega)
   have hc:=hb (b[a+j]'(by omega)) (List.getElem_mem _)
   have e:(b.drop a).take (j+1)=(b.drop a).take j++[b[a+j]'(by omega)]:=by
    rw[List.take_succ_eq_append_getElem (by simp;omega)];simp
   have hs:=J4 (l:=(b.drop a).take j) (fun c hc=>hb c (List.mem_of_mem_drop (List.mem_of_mem_take hc))) (by simp;omega)
   have he:=Cm ((b.drop a).take j) (b[a+j]'(by omega))
   rw[← e] at he
   rw[ej,af (n:=((a+j:Nat):Int)) (by omega) (by omega)]
   refine bT (by simp;omega) ?_
   simp only[zG,hget]
   have ih':=ih (j+1) (by omega) (by omega)
   rw[he] at ih'
   have hv0:j=0→bY ((b.drop a).take j)=0:=by rintro rfl;simp[bY]
   have ht:(b.drop a).take j=[]↔j=0:=by
    constructor
    ·intro h
     have:=congrArg List.length h
     simp at this
     omega
    ·rintro rfl;simp
   generalize b[a+j]'(by omega)=c at hc ih' ⊢
   generalize bY ((b.drop a).take j)=v at hs ih' hv0 ⊢
   rw[af (n:=c) (by omega) (by omega),af (n:=v*256) (by omega) (by omega),af (n:=(j:Int)+1) (by omega) (by omega),af (n:=v*256+c) (by omega) (by omega),af (n:=c - 256) (by omega) (by omega)]
   by_cases h0:j=0
   ·have hv:=hv0 h0
    rw[if_pos (ht.2 h0)] at ih'
    refine bT (by simp[h0]) ?_
    by_cases h128:128≤c
    ·rw[if_pos h128] at ih'
     refine bT (by simpa using h128) ?_
     rw[show v*256+(c - 256)=c - 256 by omega,af (n:=c - 256) (by omega) (by omega)]
     exact ih'
    ·rw[if_neg h128] at ih'
     refine bF (by simpa using h128) ?_
     rw[show v*256+c=c by omega]
     exact ih'
   ·rw[if_neg (fun h=>h0 (ht.1 h))] at ih'
    refine bF (by simpa using h0) ?_
    exact ih'
  ·refine bF (by simpa using hj) ?_
   rw[show j=m by omega]
def pI (a0:LI)(a1 a2:Int):Option fo.Res:=bif decide (a1<0) then oR ((0,false,()),()) else bif decide ((↑a0.length:Int)<a1) then oR ((0,false,()),()) else bif decide (i64.wrap ((↑a0.length:Int) - a1)<a2) then oR ((0,false,()),()) else (gt ((a0,(a1,(a2,(0,(0,()))))),())).run fun y=>match y with | .ret ((),((x24,()),()))=>(oR ((x24,true,()),()))
theorem B2 (a0:LI)(a1 a2:Int):Io.run tt uT dr lN fo Tryz.f108 ((a0,a1,a2,()),())=pI a0 a1 a2:=by kernel_rfl
theorem Fo:HcOk prog 108 (ah fo rg):=by
 refine bK (cs:=oX) HcsOk.nil (lp:=lN) (fn:=Tryz.f108) fo (.step (h0:=aD ce gt) (by kernel_rfl) (iK (cs:=oX) HcsOk.nil (lp:=lN) (fn:=Tryz.f108) (.done (by kernel_rfl)) ce gt ?_) (.done (by kernel_rfl))) rg ?_
 ·rintro ⟨⟨(b:LI),(a:Int),(m:Int),(v:Int),(i:Int),⟨⟩⟩,⟨⟩⟩ y hw hy
  obtain ⟨hg,hy⟩:=Tr.guard hy
  simp only[zA,zB] at hg
  obtain ⟨h1,h2,⟨h3,h4⟩,h5,h6⟩:=hg
  have h1:v=0:=h1
  have h2:i=0:=h2
  have h3:(0:Int)≤a:=h3
  have h4:a+m≤(b.length:Int):=h4
  have h5:(0:Int)≤m:=h5
  have h6:m≤(8:Int):=h6
  subst h1
  subst h2
  obtain ⟨a,rfl⟩:=aq h3
  obtain ⟨m,rfl⟩:=aq h5
  have hb:∀c∈b,0≤c∧c<256:=fun c hc=>by
   have h:=hw.1.1.2 c hc
   simp only[Ty.wf,bi,IntKind.min,IntKind.max,IntKind.signed,IntKind.bits] at h
   simp at h
   omega
  refine ⟨m+1,(y8 hb hw.1.1.1 (a:=a) (m:=m) (by omega) (by omega) (m+1) 0 (by omega) (by omega)).trans ?_⟩
  rw[← hy];rfl
 ·rintro ⟨⟨(b:LI),(a:Int),(m:Int),⟨⟩⟩,⟨⟩⟩ out hw ho
  obtain ⟨hg,ho⟩:=Tr.guard ho
  simp only[zA,zB] at hg
  obtain ⟨h5,h6⟩:=hg
  have h5:(0:Int)≤m:=h5
  have h6:m≤(8:Int):=h6
  cases ho
  refine (B2 b a m).trans ?_
  unfold pI
  show _=oR (((al b a m).1,((al b a m).2,())),())
  unfold al
  have hl:b.length≤maxLen:=hw.1.1.1
  rw[aB] at hl
  by_cases h1:a<0
  ·rw[if_pos (.inl h1)]
   exact aa (by simpa using h1) _ _
  ·refine bF (by simpa using h1) ?_
   by_cases h2:(b.length:Int)<a
   ·rw[if_pos (.inr (.inl h2))]
    exact aa (by simpa using h2) _ _
   ·refine bF (by simpa using h2) ?_
    rw[af (n:=(b.length:Int) - a) (by omega) (by omega)]
    by_cases h3:(b.length:Int) - a<m
    ·rw[if_pos (.inr (.inr h3))]
     exact aa (by simpa using h3) _ _
    ·rw[if_neg (by omega)]
     refine bF (by simpa using h3) ?_
     have c1:(decide ((0:Int)=0)&&(decide ((0:Int)=0)&&((decide ((0:Int)≤a)&&decide (a+m≤(b.length:Int)))&&(decide ((0:Int)≤m)&&decide (m≤(8:Int))))))=true:=by simp;omega
     have e1:gt ((b,(a,(m,(0,(0,()))))),())=.ite true (.ret (.ret ((),((bY ((b.drop a.toNat).take m.toNat),()),())))) .no:=congrArg (fun c=>Tr.ite c _ _) c1
     rw[e1]
     rfl
abbrev yv:Sh:=.dat (.int .u32) false false
def ic (s:Nat):Nat:=if s % 2=1 then (s / 2) ^^^ 2197175160 else s / 2
theorem oI {s:Nat}(h:s<4294967296):ic s<4294967296:=by
 unfold ic
 split
 ·exact Nat.xor_lt_two_pow (n:=32) (by omega) (by omega)
 ·omega
theorem Km (a b p:Nat):(a ^^^ p) ^^^ (b ^^^ p)=a ^^^ b:=by
 rw[Nat.xor_assoc,← Nat.xor_assoc p b p,Nat.xor_comm p b,Nat.xor_assoc b p p,Nat.xor_self,Nat.xor_zero]
theorem lY (a b:Nat):ic (a ^^^ b)=ic a ^^^ ic b:=by
 have h1:(a ^^^ b) / 2=a / 2 ^^^ b / 2:=Nat.xor_div_two
 have h2:(a ^^^ b) % 2=1↔¬(a % 2=1↔b % 2=1):=Nat.xor_mod_two_eq_one
 unfold ic
 rw[h1]
 by_cases ha:a % 2=1
 ·by_cases hb:b % 2=1
  ·rw[if_neg (by rw[h2];simp[ha,hb]),if_pos ha,if_pos hb,Km]
  ·rw[if_pos (by rw[h2];simp[ha,hb]),if_pos ha,if_neg hb,Nat.xor_assoc,Nat.xor_comm (b / 2),← Nat.xor_assoc]
 ·by_cases hb:b % 2=1
  ·rw[if_pos (by rw[h2];simp[ha,hb]),if_neg ha,if_pos hb,Nat.xor_assoc]
  ·rw[if_neg (by rw[h2];simp[ha,hb]),if_neg ha,if_neg hb]
theorem lX (m:Nat):ic (2*m)=m:=by
 unfold ic
 rw[if_neg (by omega)]
 omega
def iN (s:Nat):Nat:=ic (ic (ic (ic s)))
theorem Gd (a b:Nat):iN (a ^^^ b)=iN a ^^^ iN b:=by unfold iN;rw[lY,lY,lY,lY]
theorem J9 (q:Nat):iN (16*q)=q:=by
 unfold iN
 rw[show 16*q=2*(2*(2*(2*q))) by omega,lX,lX,lX,lX]
theorem oF {s:Nat}(h:s<4294967296):iN s<4294967296:=oI (oI (oI (oI h)))
theorem Ms (s:Nat):s=(16*(s / 16)) ^^^ (s % 16):=by
 refine Nat.eq_of_testBit_eq fun i=>?_
 rw[Nat.testBit_xor,show 16*(s / 16)=2 ^ 4*(s / 2 ^ 4) by rfl,Nat.testBit_two_pow_mul,Nat.testBit_div_two_pow,show s % 16=s % 2 ^ 4 by rfl,Nat.testBit_mod_two_pow]
 by_cases h:4≤i
 ·have h':¬ i<4:=by omega
  simp[h,h',show i - 4+4=i by omega]
 ·have h':i<4:=by omega
  simp[h,h']
theorem Ka (s:Nat):iN s=(s / 16) ^^^ iN (s % 16):=by
 conv=>lhs;rw[Ms s]
 rw[Gd,J9]
def AF (s:Nat):Nat:=iN (iN s)
theorem AG {s:Nat}(h:s<4294967296):AF s<4294967296:=oF (oF h)
def KB:LI→Nat→Nat
 |[],s=>s
 |x::l,s=>KB l (AF (s ^^^ x.toNat))
theorem ly {s:Nat}(h:s<4294967296){x:Int}(hx:x≤255):s ^^^ x.toNat<4294967296:=Nat.xor_lt_two_pow (n:=32) h (by omega)
theorem qB:∀{l:LI} {s:Nat},(∀c∈l,0≤c∧c≤255)→s<4294967296→KB l s<4294967296
 |[],_,_,h=>h
 |x::l,_,hl,h=>qB (l:=l) (fun c hc=>hl c (by simp[hc])) (AG (ly h (hl x (by simp)).2))
@[irreducible] def cC (c:Int)(b:LI):Int:=((KB b (c.toNat ^^^ 4294967295) ^^^ 4294967295:Nat):Int)
@[irreducible] def iM (b:LI)(s:Int):Int:=((KB b s.toNat:Nat):Int)
@[irreducible] def pA (s:Int):Int:=(ic s.toNat:Int)
def lW:Nat→Int→Int
 |0,s=>s
 |n+1,s=>lW n (pA s)
theorem s7 (s:Nat):pA (s:Int)=(ic s:Int):=by unfold pA;rw[zG]
theorem J5 (s:Nat):lW 8 (s:Int)=(AF s:Int):=by
 simp only[lW,s7]
 rfl
theorem l6 {x y:Nat}(hx:x<4294967296)(hy:y<4294967296):bC .u32 (x:Int) (y:Int)=((x ^^^ y:Nat):Int):=by
 have e1:(BitVec.ofInt 32 (x:Int)).toNat=x:=by rw[BitVec.toNat_ofInt];omega
 have e2:(BitVec.ofInt 32 (y:Int)).toNat=y:=by rw[BitVec.toNat_ofInt];omega
 show IntKind.wrap .u32 ((BitVec.ofInt 32 (x:Int) ^^^ BitVec.ofInt 32 (y:Int)).toNat:Int)=_
 rw[BitVec.toNat_xor,e1,e2]
 have:=Nat.xor_lt_two_pow (n:=32) hx hy
 exact bD (k:=.u32) (by simp[bi,IntKind.min,IntKind.max,IntKind.signed,IntKind.bits];omega)
theorem El {x:Nat}(hx:x<4294967296):s0 .u32 (x:Int)=((x ^^^ 4294967295:Nat):Int):=by
 have:=l6 (x:=4294967295) (y:=x) (by omega) hx
 rw[Nat.xor_comm] at this
 exact this
theorem oT {x:Nat}(hx:x<4294967296):dG .u32 (x:Int) 15=((x % 16:Nat):Int):=by
 have e1:(BitVec.ofInt 32 (x:Int)).toNat=x:=by rw[BitVec.toNat_ofInt];omega
 show IntKind.wrap .u32 ((BitVec.ofInt 32 (x:Int) &&& BitVec.ofInt 32 15).toNat:Int)=_
 rw[BitVec.toNat_and,e1,show (BitVec.ofInt 32 15).toNat=2 ^ 4 - 1 by decide,Nat.and_two_pow_sub_one_eq_mod]
 exact bD (k:=.u32) (by simp[bi,IntKind.min,IntKind.max,IntKind.signed,IntKind.bits];omega)
theorem JK {x:Nat}(hx:x<4294967296):dH .u32 (x:Int) 4=((x / 16:Nat):Int):=by
 show IntKind.wrap .u32 ((x:Int).fdiv (2 ^ 4))=_
 rw[Int.fdiv_eq_ediv_of_nonneg _ (by decide)]
 rw[show (x:Int) / 2 ^ 4=((x / 16:Nat):Int) by omega]
 exact bD (k:=.u32) (by simp[bi,IntKind.min,IntKind.max,IntKind.signed,IntKind.bits];omega)
theorem Gf {r:Nat}(h:r<16):dY (r:Int)=(iN r:Int):=
 (show ∀r:Nat,r<16→dY (r:Int)=(iN r:Int) by decide +kernel) r h
theorem v7 {b:LI}(h:Ty.wf bs b):∀c∈b,0≤c∧c≤255:=fun c hc=>by
 have:=h.2 c hc
 simpa [Ty.wf,bi,IntKind.min,IntKind.max,IntKind.signed,IntKind.bits] using this
theorem oP {s:Int}(h:bi .u32 s):∃n:Nat,s=(n:Int)∧n<4294967296:=by
 simp[bi,IntKind.min,IntKind.max,IntKind.signed,IntKind.bits] at h
 exact ⟨s.toNat,by omega,by omega⟩
theorem AI {s:Nat}(hs:s<4294967296):bC .u32 (dH .u32 (s:Int) 4) (dY (dG .u32 (s:Int) 15))=(iN s:Int):=by
 have hr:s % 16<16:=by omega
 rw[oT hs,JK hs,Gf hr,l6 (by omega) (oF (by omega)),← Ka]
abbrev gL:Io:=⟨[yv],[],[],[yv],none⟩
def vB (d:gL.In):Tr gL.Res:=.ret (.ret ((pA d.1.1,()),()))
abbrev yh:List (Nat×Hc):=[]
def HH:Hd:=br yh
def zj:Lp:=bA []
def rA (a0:Int):Option gL.Res:=bif u32.wrap (a0.tmod 2) == 1 then oR ((bC u32 (u32.wrap (a0.tdiv 2)) 2197175160,()),()) else oR ((u32.wrap (a0.tdiv 2),()),())
theorem FB (a0:Int):Io.run tt HH dr zj gL Tryz.f133 ((a0,()),())=rA a0:=by kernel_rfl
theorem IF:HcOk prog 133 (ah gL vB):=by
 refine bK (cs:=yh) HcsOk.nil (lp:=zj) (fn:=Tryz.f133) gL (.done (by kernel_rfl)) vB ?_
 rintro ⟨⟨(s:Int),⟨⟩⟩,⟨⟩⟩ out hw ho
 cases ho
 refine (FB s).trans ?_
 unfold rA
 obtain ⟨n,rfl,hn⟩:=oP hw.1.1
 have e1:u32.wrap ((n:Int).tmod 2)=((n % 2:Nat):Int):=by
  rw[Int.tmod_eq_emod_of_nonneg (by omega)]
  exact (bD (k:=.u32) (by simp[bi,IntKind.min,IntKind.max,IntKind.signed,IntKind.bits];omega)).trans (by omega)
 have e2:u32.wrap ((n:Int).tdiv 2)=((n / 2:Nat):Int):=by
  rw[Int.tdiv_eq_ediv_of_nonneg (by omega)]
  exact (bD (k:=.u32) (by simp[bi,IntKind.min,IntKind.max,IntKind.signed,IntKind.bits];omega)).trans (by omega)
 show _=oR ((pA (n:Int),()),())
 rw[e1,e2,s7]
 unfold ic
 by_cases h:n % 2=1
 ·refine bT (by rw[h];rfl) ?_
  rw[if_pos h,← l6 (by omega) (by omega)]
  rfl
 ·refine bF (by simp;omega) ?_
  rw[if_neg h]
abbrev jF:Io:=⟨[yv,dL],[],[],[yv],none⟩
def AO (d:jF.In):Tr jF.Res:=.ret (.ret ((cC d.1.1 d.1.2.1,()),()))
abbrev CX:List (Nat×Hc):=[(133,ah gL vB)]
def wm:Hd:=br CX
abbrev du:Lo:=⟨⟨(.any::.one (.hol (.sl 5 (Ty.int u8)))::.any::bt (.one (.hol (.int u32))::.one hI::.one hI::.any::aj (bO (bt [])))),[]⟩,[(.exit 2,⟨(.any::.one (.hol (.sl 5 (Ty.int u8)))::.any::bt (.one (.hol (.int u32))::.one hI::aj (dC []))),[]⟩)]⟩
abbrev dq:Lo:=⟨⟨(.any::.one (.hol (.sl 5 (Ty.int u8)))::.any::bt (.one (.hol (.int u32))::.one hI::aj (dC []))),[]⟩,[(.exit 0,⟨(.any::bO (.one (.hol (.int u32))::.any::aj (dC []))),[]⟩)]⟩
def ky (d:du.st.den):Tr (ao du.xs):=.ite (decide (d.1.2.2.2.1=0)) (.ret (.ret ((),((d.1.1,(lW 8 d.1.2.1,(d.1.2.2.1,()))),())))) .no
def kx (d:dq.st.den):Tr (ao dq.xs):=.ite (decide (d.1.2.2.1=0)) (.ret (.ret ((),((iM d.1.1 d.1.2.1,()),())))) .no
def lM:Lp:=bA [(4,aD dq kx),(8,aD du ky)]
def qb {R:Type}(h5:LI)(h6 h7 h8:Int)(next:LI→Int→Int→Int→Option R)(out:ao du.xs→Option R):Option R:=bif decide (h8<8) then next (h5) (pA h6) (h7) (i64.wrap (h8+1)) else out (.ret ((),((h5,(h6,(h7,()))),())))
def pb (n:Nat)(h5:LI)(h6 h7 h8:Int):Option (ao du.xs):=ik tt wm dr lM 0 Tryz.f97 (OE Tryz.f97 (cb Tryz.f97 0) 0) n (du.st.mk' ((h5,(h6,(h7,(h8,())))),())) (bG du.xs)
theorem FX (n:Nat)(h5:LI)(h6 h7 h8:Int):pb (n+1) h5 h6 h7 h8=qb h5 h6 h7 h8 (pb n) some:=by kernel_rfl
def qa {R:Type}(h2:LI)(h3 h4:Int)(next:LI→Int→Int→Option R)(out:ao dq.xs→Option R):Option R:=bif decide (h4<(↑h2.length:Int)) then bif decide (0≤h4)&&decide (h4<(↑h2.length:Int)) then (ky ((h2,(bC u32 h3 (u32.wrap (h2.getD h4.toNat 0)),(h4,(0,())))),())).run fun y=>match y with | .ret ((),((x16,x17,x18,()),()))=>(next (x16) (x17) (i64.wrap (x18+1))) else none else out (.ret ((),((h3,()),())))
def lK (n:Nat)(h2:LI)(h3 h4:Int):Option (ao dq.xs):=ik tt wm dr lM 0 Tryz.f97 (cb Tryz.f97 0) n (dq.st.mk' ((h2,(h3,(h4,()))),())) (bG dq.xs)
theorem FW (n:Nat)(h2:LI)(h3 h4:Int):lK (n+1) h2 h3 h4=qa h2 h3 h4 (lK n) some:=by kernel_rfl
theorem y6 (b:LI)(i:Int):∀(k j:Nat) (s:Int),8<j+k→j≤8→pb k b s i j=some (.ret ((),((b,(lW (8 - j) s,(i,()))),()))):=by
 intro k
 induction k with
 |zero=>intro j s h;omega
 |succ k ih=>
  intro j s h1 h2
  rw[FX]
  unfold qb
  by_cases hj:j<8
  ·refine bT (by simp;omega) ?_
   rw[af (n:=(j:Int)+1) (by omega) (by omega),show (8 - j)=(8 - (j+1))+1 by omega]
   exact ih (j+1) _ (by omega) (by omega)
  ·refine bF (by simp;omega) ?_
   rw[show 8 - j=0 by omega]
   rfl
theorem s5 {b:LI}(hb:∀c∈b,0≤c∧c≤255){i:Nat}(h:i<b.length){n:Nat}(hn:n<4294967296):iM (b.drop i) (n:Int)=iM (b.drop (i+1)) ((AF (n ^^^ (b[i]).toNat):Nat):Int)∧AF (n ^^^ (b[i]).toNat)<4294967296:=by
 refine ⟨?_,AG (ly hn (hb b[i] (List.getElem_mem h)).2)⟩
 rw[zE h]
 unfold iM
 rw[zG,zG]
 rfl
theorem Kn {b:LI}(hb:∀c∈b,0≤c∧c≤255){i:Nat}(h:i<b.length){n:Nat}(hn:n<4294967296):bC .u32 (n:Int) (u32.wrap (List.getD b (i:Int).toNat 0))=((n ^^^ (b[i]).toNat:Nat):Int):=by
 have hc:=hb b[i] (List.getElem_mem h)
 have e:List.getD b (i:Int).toNat 0=((b[i].toNat:Nat):Int):=by
  rw[zG,aF h]
  omega
 rw[e,bD (k:=.u32) (by simp[bi,IntKind.min,IntKind.max,IntKind.signed,IntKind.bits];omega)]
 exact l6 hn (by omega)
theorem y5 {b:LI}(hb:∀c∈b,0≤c∧c≤255)(hl:b.length≤maxLen):∀(k i n:Nat),b.length<i+k→i≤b.length→n<4294967296→lK k b n i=some (.ret ((),((iM (b.drop i) n,()),()))):=by
 intro k
 induction k with
 |zero=>intro i n h;omega
 |succ k ih=>
  intro i n h1 h2 h3
  rw[FW]
  unfold qa
  by_cases hi:i<b.length
  ·refine bT (by simpa using hi) ?_
   refine bT (by simpa using hi) ?_
   obtain ⟨e1,e2⟩:=s5 hb hi h3
   rw[Kn hb hi h3,e1]
   unfold ky
   refine bT (by simp) ?_
   show lK k b (lW 8 _) (i64.wrap ((i:Int)+1))=_
   rw[J5,aQ hi hl]
   exact ih (i+1) _ (by omega) (by omega) e2
  ·refine bF (by simp;omega) ?_
   rw[zI (by omega)]
   unfold iM
   rw[zG]
   rfl
theorem JV {c:Nat}(hc:c<4294967296){b:LI}(hb:∀x∈b,0≤x∧x≤255):bC .u32 (iM b ((c ^^^ 4294967295:Nat):Int)) 4294967295=cC (c:Int) b:=by
 have h1:=Nat.xor_lt_two_pow (n:=32) hc (show 4294967295<2 ^ 32 by decide)
 have h2:=qB hb h1
 unfold iM cC
 rw[zG,zG]
 exact l6 h2 (by decide)
def tX (a0:Int)(a1:LI):Option jF.Res:=(kx ((a1,(bC u32 a0 4294967295,(0,()))),())).run fun y=>match y with | .ret ((),((x23,()),()))=>(oR ((bC u32 x23 4294967295,()),()))
theorem Jd (a0:Int)(a1:LI):Io.run tt wm dr lM jF Tryz.f97 ((a0,a1,()),())=tX a0 a1:=by kernel_rfl
theorem o4:HcsOk prog CX:=.cons IF .nil
theorem Lr:HcOk prog 97 (ah jF AO):=by
 refine bK o4 (lp:=lM) (fn:=Tryz.f97) jF (.step (h0:=aD dq kx) (by kernel_rfl) (iK o4 (lp:=lM) (fn:=Tryz.f97) (.step (h0:=aD du ky) (by kernel_rfl) (iK o4 (lp:=lM) (fn:=Tryz.f97) (.done (by kernel_rfl)) du ky ?_) (.done (by kernel_rfl))) dq kx ?_) (.done (by kernel_rfl))) AO ?_
 ·rintro ⟨⟨(b:LI),(s:Int),(i:Int),(j:Int),⟨⟩⟩,⟨⟩⟩ y hw hy
  obtain ⟨hg,hy⟩:=Tr.guard hy
  have hg:j=0:=by simpa using hg
  subst hg
  refine ⟨9,(y6 b i 9 0 s (by omega) (by omega)).trans ?_⟩
  rw[← hy];rfl
 ·rintro ⟨⟨(b:LI),(s:Int),(i:Int),⟨⟩⟩,⟨⟩⟩ y hw hy
  obtain ⟨hg,hy⟩:=Tr.guard hy
  have hg:i=0:=by simpa using hg
  subst hg
  obtain ⟨n,rfl,hn⟩:=oP hw.1.2.1
  refine ⟨b.length+1,(y5 (v7 hw.1.1) hw.1.1.1 (b.length+1) 0 n (show b.length<0+(b.length+1) by omega) (Nat.zero_le _) hn).trans ?_⟩
  rw[← hy];rfl
 ·rintro ⟨⟨(c:Int),(b:LI),⟨⟩⟩,⟨⟩⟩ out hw ho
  cases ho
  refine (Jd c b).trans ?_
  obtain ⟨n,rfl,hn⟩:=oP hw.1.1
  unfold tX kx
  refine bT (by simp) ?_
  show oR ((bC .u32 (iM b (bC .u32 (n:Int) 4294967295)) 4294967295,()),())=oR ((cC (n:Int) b,()),())
  rw[show (4294967295:Int)=((4294967295:Nat):Int) from rfl,l6 hn (by decide),show ((4294967295:Nat):Int)=4294967295 from rfl,JV hn (v7 hw.1.2.1)]
abbrev gK:Io:=⟨[dL],[],[],[yv],none⟩
def vA (d:gK.In):Tr gK.Res:=.ret (.ret ((cC 0 d.1.1,()),()))
abbrev yg:List (Nat×Hc):=[(97,ah jF AO)]
def HG:Hd:=br yg
def zi:Lp:=bA []
def Bi (a0:LI):Option gK.Res:=oR ((cC 0 a0,()),())
theorem FA (a0:LI):Io.run tt HG dr zi gK Tryz.f63 ((a0,()),())=Bi a0:=by kernel_rfl
theorem IE:HcOk prog 63 (ah gK vA):=by
 refine bK (cs:=yg) (.cons Lr .nil) (lp:=zi) (fn:=Tryz.f63) gK (.done (by kernel_rfl)) vA ?_
 rintro ⟨⟨(b:LI),⟨⟩⟩,⟨⟩⟩ out hw ho
 cases ho
 exact FA b
abbrev mJ:Io:=⟨[yv,dL],[],[],[yv],none⟩
def Gq (d:mJ.In):Tr mJ.Res:=.ret (.ret ((cC d.1.1 d.1.2.1,()),()))
abbrev Bq:List (Nat×Hc):=[]
def HI:Hd:=br Bq
abbrev eQ:Lo:=⟨⟨(.any::bO (.one (.hol (.int u32))::bO (.one (.hol (.sl 5 (Ty.int u8)))::.one hI::.one hI::aj (dC [])))),[]⟩,[(.exit 0,⟨(.any::bO (.one (.hol (.int u32))::.any::aj (dC (bO (bt []))))),[]⟩)]⟩
def nw (d:eQ.st.den):Tr (ao eQ.xs):=.ite (decide (d.1.2.2.2.1=0)&&decide (d.1.2.2.1=(d.1.2.1.length:Int))) (.ret (.ret ((),((iM d.1.2.1 d.1.1,()),())))) .no
def wL:Lp:=bA [(4,aD eQ nw)]
def tc {R:Type}(h2:Int)(h3:LI)(h4 h5:Int)(next:Int→LI→Int→Int→Option R)(out:ao eQ.xs→Option R):Option R:=bif decide (h5<h4) then bif decide (0≤h5)&&decide (h5<(↑h3.length:Int)) then bif decide (0≤dG u32 (bC u32 h2 (u32.wrap (h3.getD h5.toNat 0))) 15)&&decide (dG u32 (bC u32 h2 (u32.wrap (h3.getD h5.toNat 0))) 15<(↑16:Int)) then bif decide (0≤dG u32 (bC u32 (dH u32 (bC u32 h2 (u32.wrap (h3.getD h5.toNat 0))) 4) (dY (dG u32 (bC u32 h2 (u32.wrap (h3.getD h5.toNat 0))) 15))) 15)&&decide (dG u32 (bC u32 (dH u32 (bC u32 h2 (u32.wrap (h3.getD h5.toNat 0))) 4) (dY (dG u32 (bC u32 h2 (u32.wrap (h3.getD h5.toNat 0))) 15))) 15<(↑16:Int)) then next (bC u32 (dH u32 (bC u32 (dH u32 (bC u32 h2 (u32.wrap (h3.getD h5.toNat 0))) 4) (dY (dG u32 (bC u32 h2 (u32.wrap (h3.getD h5.toNat 0))) 15))) 4) (dY (dG u32 (bC u32 (dH u32 (bC u32 h2 (u32.wrap (h3.getD h5.toNat 0))) 4) (dY (dG u32 (bC u32 h2 (u32.wrap (h3.getD h5.toNat 0))) 15))) 15))) (h3) (h4) (i64.wrap (h5+1)) else none else none else none else out (.ret ((),((h2,()),())))
def sh (n:Nat)(h2:Int)(h3:LI)(h4 h5:Int):Option (ao eQ.xs):=ik tt HI dr wL 0 Tryz.f89 (cb Tryz.f89 0) n (eQ.st.mk' ((h2,(h3,(h4,(h5,())))),())) (bG eQ.xs)
theorem JO (n:Nat)(h2:Int)(h3:LI)(h4 h5:Int):sh (n+1) h2 h3 h4 h5=tc h2 h3 h4 h5 (sh n) some:=by kernel_rfl
theorem BK {b:LI}(hb:∀c∈b,0≤c∧c≤255)(hl:b.length≤maxLen):∀(k i n:Nat),b.length<i+k→i≤b.length→n<4294967296→sh k n b (b.length:Int) i=some (.ret ((),((iM (b.drop i) n,()),()))):=by
 intro k
 induction k with
 |zero=>intro i n h;omega
 |succ k ih=>
  intro i n h1 h2 h3
  rw[JO]
  unfold tc
  by_cases hi:i<b.length
  ·refine bT (by simpa using hi) ?_
   refine bT (by simpa using hi) ?_
   obtain ⟨e1,e2⟩:=s5 hb hi h3
   have h4:=ly h3 (hb b[i] (List.getElem_mem hi)).2
   have h5:=oF h4
   rw[Kn hb hi h3,e1]
   refine (aa ?_ _ _).trans ?_
   ·rw[oT h4];simp;omega
   rw[AI h4]
   refine (aa ?_ _ _).trans ?_
   ·rw[oT h5];simp;omega
   rw[AI h5,aQ hi hl]
   exact ih (i+1) _ (by omega) (by omega) e2
  ·refine bF (by simp;omega) ?_
   rw[zI (by omega)]
   unfold iM
   rw[zG]
   rfl
def xG (a0:Int)(a1:LI):Option mJ.Res:=(nw ((s0 u32 a0,(a1,((↑a1.length:Int),(0,())))),())).run fun y=>match y with | .ret ((),((x11,()),()))=>(oR ((s0 u32 x11,()),()))
theorem LY (a0:Int)(a1:LI):Io.run tt HI dr wL mJ Tryz.f89 ((a0,a1,()),())=xG a0 a1:=by kernel_rfl
theorem Nn:HcOk prog 89 (ah mJ Gq):=by
 refine bK (cs:=Bq) HcsOk.nil (lp:=wL) (fn:=Tryz.f89) mJ (.step (h0:=aD eQ nw) (by kernel_rfl) (iK (cs:=Bq) HcsOk.nil (lp:=wL) (fn:=Tryz.f89) (.done (by kernel_rfl)) eQ nw ?_) (.done (by kernel_rfl))) Gq ?_
 ·rintro ⟨⟨(s:Int),(b:LI),(m:Int),(i:Int),⟨⟩⟩,⟨⟩⟩ y hw hy
  obtain ⟨hg,hy⟩:=Tr.guard hy
  simp only[zA,zB] at hg
  obtain ⟨rfl,rfl⟩:=hg
  obtain ⟨n,rfl,hn⟩:=oP hw.1.1
  refine ⟨b.length+1,(BK (v7 hw.1.2.1) hw.1.2.1.1 (b.length+1) 0 n (show b.length<0+(b.length+1) by omega) (Nat.zero_le _) hn).trans ?_⟩
  rw[← hy];rfl
 ·rintro ⟨⟨(c:Int),(b:LI),⟨⟩⟩,⟨⟩⟩ out hw ho
  cases ho
  refine (LY c b).trans ?_
  obtain ⟨n,rfl,hn⟩:=oP hw.1.1
  unfold xG nw
  refine bT (by simp) ?_
  show oR ((s0 .u32 (iM b (s0 .u32 (n:Int))),()),())=oR ((cC (n:Int) b,()),())
  have h1:=Nat.xor_lt_two_pow (n:=32) hn (show 4294967295<2 ^ 32 by decide)
  have h2:=qB (v7 hw.1.2.1) h1
  rw[El hn]
  unfold iM cC
  rw[zG,zG,El h2]
def pw:List (LI)→Int→Int
 |[],c=>c
 |p::ps,c=>pw ps (cC c p)
abbrev iv:Io:=⟨[.dat (.sl 22 bs) false false],[],[],[yv],none⟩
def vC (d:iv.In):Tr iv.Res:=.ret (.ret ((pw d.1.1 0,()),()))
abbrev CY:List (Nat×Hc):=[(89,ah mJ Gq)]
def Dz:Hd:=br CY
abbrev dv:Lo:=⟨⟨(.any::bt (.one (.hol (.int u32))::bt (.one (.hol (.sl 22 (Ty.sl 5 (Ty.int u8))))::.one hI::.one hI::dC []))),[]⟩,[(.exit 0,⟨(.any::bt (.one (.hol (.int u32))::.any::dC (bO []))),[]⟩)]⟩
def kz (d:dv.st.den):Tr (ao dv.xs):=.ite (decide (d.1.2.2.2.1=0)&&decide (d.1.2.2.1=(d.1.2.1.length:Int))) (.ret (.ret ((),((pw d.1.2.1 d.1.1,()),())))) .no
def qN:Lp:=bA [(4,aD dv kz)]
def qc {R:Type}(h1:Int)(h2:List bs.den)(h3 h4:Int)(next:Int→List bs.den→Int→Int→Option R)(out:ao dv.xs→Option R):Option R:=bif decide (h4<h3) then bif decide (0≤h4)&&decide (h4<(↑h2.length:Int)) then next (cC h1 (h2.getD h4.toNat [])) (h2) (h3) (i64.wrap (h4+1)) else none else out (.ret ((),((h1,()),())))
def pc (n:Nat)(h1:Int)(h2:List bs.den)(h3 h4:Int):Option (ao dv.xs):=ik tt Dz dr qN 0 Tryz.f54 (cb Tryz.f54 0) n (dv.st.mk' ((h1,(h2,(h3,(h4,())))),())) (bG dv.xs)
theorem FY (n:Nat)(h1:Int)(h2:List bs.den)(h3 h4:Int):pc (n+1) h1 h2 h3 h4=qc h1 h2 h3 h4 (pc n) some:=by kernel_rfl
theorem y7 (ps:List (LI))(hl:ps.length≤maxLen):∀(k i:Nat) (c:Int),ps.length<i+k→i≤ps.length→pc k c ps (ps.length:Int) i=some (.ret ((),((pw (ps.drop i) c,()),()))):=by
 intro k
 induction k with
 |zero=>intro i c h;omega
 |succ k ih=>
  intro i c h1 h2
  rw[FY]
  unfold qc
  by_cases hi:i<ps.length
  ·refine bT (by simpa using hi) ?_
   refine bT (by simpa using hi) ?_
   have e:List.getD ps (i:Int).toNat []=ps[i]:=by simp only[zG,aF hi]
   rw[e,aQ hi hl,zE hi]
   exact ih (i+1) _ (by omega) (by omega)
  ·refine bF (by simp;omega) ?_
   rw[zI (by omega)]
   rfl
def tY (a0:List bs.den):Option iv.Res:=(kz ((0,(a0,((↑a0.length:Int),(0,())))),())).run fun y=>match y with | .ret ((),((x10,()),()))=>(oR ((x10,()),()))
theorem Je (a0:List bs.den):Io.run tt Dz dr qN iv Tryz.f54 ((a0,()),())=tY a0:=by kernel_rfl
theorem uO:HcsOk prog CY:=.cons Nn .nil
theorem Ep:HcOk prog 54 (ah iv vC):=by
 refine bK uO (lp:=qN) (fn:=Tryz.f54) iv (.step (h0:=aD dv kz) (by kernel_rfl) (iK uO (lp:=qN) (fn:=Tryz.f54) (.done (by kernel_rfl)) dv kz ?_) (.done (by kernel_rfl))) vC ?_
 ·rintro ⟨⟨(c:Int),(ps:List (LI)),(m:Int),(i:Int),⟨⟩⟩,⟨⟩⟩ y hw hy
  obtain ⟨hg,hy⟩:=Tr.guard hy
  simp only[zA,zB] at hg
  obtain ⟨rfl,rfl⟩:=hg
  refine ⟨ps.length+1,(y7 ps hw.1.2.1.1 (ps.length+1) 0 c (by omega) (by omega)).trans ?_⟩
  rw[← hy];rfl
 ·rintro ⟨⟨(ps:List (LI)),⟨⟩⟩,⟨⟩⟩ out hw ho
  cases ho
  refine (Je ps).trans ?_
  unfold tY kz
  refine bT (by simp) ?_
  rfl
abbrev O5:Ty:=.prod bs (.prod (.int .i64) (.prod (.int .i64) .unit))
abbrev yz:Sh:=.dat O5 true false
abbrev Kv:Type:=LI×Int×Int×Unit
def dD:Kv:=([],0,0,())
def aE (b:LI):Kv×Int×Int:=
 if b.getD 0 0<128 then (if (b.length:Int)<b.getD 0 0+2 then (dD,0,1) else (((b.drop 1).take (b.getD 0 0+1).toNat,0,0,()),b.getD 0 0+2,0))
 else if (b.length:Int)<3 then (dD,0,1)
 else if b.getD 1 0*256+b.getD 2 0<1∨4096<b.getD 1 0*256+b.getD 2 0 then (dD,0,50)
 else (([],b.getD 1 0*256+b.getD 2 0,b.getD 0 0 - 124,()),3,0)
def jp (t:Kv):Bool:=if t.2.1≠0 then true else decide (t.2.2.1≠0)
def fT (t:Kv):Bool:=
 if jp t=true then decide (0<t.1.length) || (decide (t.2.1<1) || (decide (4096<t.2.1) || (decide (t.2.2.1<4) || decide (131<t.2.2.1))))
 else decide (t.1.length<1) || decide (128<t.1.length)
def fx (d:Nat):Nat→LI→LI
 |0,out=>out
 |n+1,out=>fx d n (out++[out.getD (out.length - d) 0])
def aS (out:LI)(t:Kv)(most:Int):LI×Int:=
 if fT t=true∨(out.length:Int)<t.2.1 then ([],50)
 else if most<(out.length:Int)+t.1.length+t.2.2.1 then ([],4)
 else (fx t.2.1.toNat t.2.2.1.toNat (out++t.1),0)
def bv:Nat→LI→LI→Int→LI×Int
 |0,_,out,_=>(out,0)
 |k+1,b,out,m=>
  if b=[] then (out,0)
  else if (aE b).2.2≠0 then ([],(aE b).2.2)
  else if (aS out (aE b).1 m).2≠0 then ([],(aS out (aE b).1 m).2)
  else bv k (b.drop (aE b).2.1.toNat) (aS out (aE b).1 m).1 m
def ar (m:Int):Int:=mj (dg m 0) 32768
def an (b:LI)(most:Int):LI×Int:=if b=[] then ([],0) else bv (b.length+1) b [] (ar most)
theorem Av {b:LI}(hb:∀c∈b,0≤c∧c≤255)(h:(aE b).2.2=0)(hne:b≠[]):2≤(aE b).2.1∧(aE b).2.1≤b.length:=by
 have h0:0≤b.getD 0 0:=by
  cases b with
  |nil=>exact absurd rfl hne
  |cons x l=>exact (hb x (by simp)).1
 unfold aE at h ⊢
 split
 ·rename_i h1
  rw[if_pos h1] at h
  split
  ·rename_i h2;rw[if_pos h2] at h;cases h
  ·simp only;omega
 ·rename_i h1
  rw[if_neg h1] at h
  split
  ·rename_i h2;rw[if_pos h2] at h;cases h
  ·rename_i h2
   rw[if_neg h2] at h
   split
   ·rename_i h3;rw[if_pos h3] at h;cases h
   ·simp only;omega
theorem rN {b:LI}(h:Ty.wf bs b)(i:Nat):0≤b.getD i 0∧b.getD i 0≤255:=by
 rw[List.getD_eq_getElem?_getD]
 cases e:b[i]? with
 |none=>exact ⟨by decide,by decide⟩
 |some x=>exact dj h x (List.mem_of_getElem? e)
theorem NL {v c:Int}(h0:0≤v)(h1:v≤255)(h2:0≤c)(h3:c≤255):jr .i64 (eD .i64 v 8) c=v*256+c:=by
 have e1:eD .i64 v 8=v*256:=by
  show IntKind.wrap .i64 (v*2 ^ 8)=_
  rw[show v*2 ^ 8=v*256 by omega]
  exact af (by omega) (by omega)
 rw[e1]
 obtain ⟨v,rfl⟩:=aq h0
 obtain ⟨c,rfl⟩:=aq h2
 have e4:=Nat.two_pow_add_eq_or_of_lt (show c<2 ^ 8 by omega) v
 show IntKind.wrap .i64 ((BitVec.ofInt 64 ((v:Int)*256) ||| BitVec.ofInt 64 (c:Int)).toNat:Int)=_
 have e2:(BitVec.ofInt 64 (c:Int)).toNat=c:=by rw[BitVec.toNat_ofInt];omega
 have e3:(BitVec.ofInt 64 ((v:Int)*256)).toNat=2 ^ 8*v:=by rw[BitVec.toNat_ofInt];omega
 rw[BitVec.toNat_or,e2,e3,← e4]
 rw[af (by omega) (by omega)]
 omega
theorem HY {lit:LI}{d len:Int}(h:fT (lit,d,len,())=false):(0≤len∧len≤131∧lit.length≤128)∧(len=0∧d=0∧1≤lit.length∨lit.length=0∧1≤d∧d≤4096∧4≤len):=by
 have e:fT (lit,d,len,())=if jp (lit,d,len,())=true then decide (0<lit.length) || (decide (d<1) || (decide (4096<d) || (decide (len<4) || decide (131<len)))) else decide (lit.length<1) || decide (128<lit.length):=rfl
 have e2:jp (lit,d,len,())=if d≠0 then true else decide (len≠0):=rfl
 rw[e] at h
 split at h
 ·simp only[Bool.or_eq_false_iff,decide_eq_false_iff_not] at h
  omega
 ·rename_i h2
  rw[e2] at h2
  simp only[Bool.or_eq_false_iff,decide_eq_false_iff_not] at h
  split at h2
  ·exact absurd rfl h2
  ·rename_i h3
   simp only[zB] at h2
   omega
theorem sV (d:Nat):∀(n:Nat) (out:LI),(fx d n out).length=out.length+n
 |0,_=>rfl
 |n+1,out=>by rw[fx,sV d n];simp;omega
theorem vp (b:LI):(aE b).1.1.length≤b.length:=by
 unfold aE
 split
 ·split
  ·simp[dD]
  ·simp;omega
 ·split
  ·simp[dD]
  ·split
   ·simp[dD]
   ·simp
theorem nk (m:Int):0≤ar m∧ar m≤32768:=by
 unfold ar mj dg
 split <;> split <;> omega
theorem nl {out:LI}{t:Kv}{m:Int}(h:(aS out t m).2=0):((aS out t m).1.length:Int)≤m:=by
 obtain ⟨lit,d,len,⟨⟩⟩:=t
 unfold aS at h ⊢
 split
 ·rename_i h1;rw[if_pos h1] at h;cases h
 ·rename_i h1
  rw[if_neg h1] at h
  have hi:fT (lit,d,len,())=false:=by
   cases e:fT (lit,d,len,()) with
   |false=>rfl
   |true=>exact absurd (.inl e) h1
  obtain ⟨i1,i2⟩:=HY hi
  split
  ·rename_i h2;rw[if_pos h2] at h;cases h
  ·rename_i h2
   have h2:¬ m<(out.length:Int)+lit.length+len:=h2
   show ((fx d.toNat len.toNat (out++lit)).length:Int)≤m
   rw[sV,zH]
   omega
theorem gZ:∀(k:Nat) (b out:LI) (m:Int),(bv k b out m).2≠0→(bv k b out m).1=[]
 |0,_,_,_,h=>absurd rfl h
 |k+1,b,out,m,h=>by
  unfold bv at h ⊢
  split
  ·rename_i h1;rw[if_pos h1] at h;exact absurd rfl h
  ·rename_i h1
   rw[if_neg h1] at h
   split
   ·rfl
   ·rename_i h2
    rw[if_neg h2] at h
    split
    ·rfl
    ·rename_i h3
     rw[if_neg h3] at h
     exact gZ k _ _ _ h
theorem vm:∀(k:Nat) (b out:LI) (m:Int),(out.length:Int)≤m→((bv k b out m).1.length:Int)≤m
 |0,_,_,_,h=>h
 |k+1,b,out,m,h=>by
  have h0:((([]:LI),(0:Int)).1.length:Int)≤m:=by simp;omega
  unfold bv
  split
  ·exact h
  ·split
   ·simp;omega
   ·split
    ·simp;omega
    ·rename_i h3
     exact vm k _ _ _ (nl (by simpa using h3))
theorem fS (b:LI)(m:Int):an b m=bv (b.length+1) b [] (ar m):=by
 unfold an
 split
 ·rename_i h
  subst h
  rfl
 ·rfl
def aX (b:LI):LI×Int:=
 if (ab 10 1 b 0).2.2≠0 then ([],(ab 10 1 b 0).2.2)
 else if ak (ab 10 1 b 0).1<0 then ([],5)
 else if 32768<ak (ab 10 1 b 0).1 then ([],4)
 else if (an (b.drop (ab 10 1 b 0).2.1.toNat) (ak (ab 10 1 b 0).1)).2=4∨(an (b.drop (ab 10 1 b 0).2.1.toNat) (ak (ab 10 1 b 0).1)).2=0∧((an (b.drop (ab 10 1 b 0).2.1.toNat) (ak (ab 10 1 b 0).1)).1.length:Int)<ak (ab 10 1 b 0).1 then ([],60)
 else if (an (b.drop (ab 10 1 b 0).2.1.toNat) (ak (ab 10 1 b 0).1)).2≠0 then ([],(an (b.drop (ab 10 1 b 0).2.1.toNat) (ak (ab 10 1 b 0).1)).2)
 else ((an (b.drop (ab 10 1 b 0).2.1.toNat) (ak (ab 10 1 b 0).1)).1,0)
abbrev jP:Io:=⟨[yz],[],[],[dB],none⟩
def AX (d:jP.In):Tr jP.Res:=.ret (.ret ((jp d.1.1,()),()))
abbrev Dc:List (Nat×Hc):=[]
def K3:Hd:=br Dc
def D7:Lp:=bA []
def ui (a0:LI)(a1 a2:Int):Option jP.Res:=bif a1 != 0 then oR ((true,()),()) else oR ((a2 != 0,()),())
theorem Ju (a0:LI)(a1 a2:Int):Io.run tt K3 dr D7 jP Tryz.f126 (((a0,a1,a2,()),()),())=ui a0 a1 a2:=by kernel_rfl
theorem LF:HcOk prog 126 (ah jP AX):=by
 refine bK (cs:=Dc) HcsOk.nil (lp:=D7) (fn:=Tryz.f126) jP (.done (by kernel_rfl)) AX ?_
 rintro ⟨⟨⟨(a0:LI),(a1:Int),(a2:Int),⟨⟩⟩,⟨⟩⟩,⟨⟩⟩ out hw ho
 cases ho
 refine (Ju a0 a1 a2).trans ?_
 show _=oR ((jp (a0,a1,a2,()),()),())
 unfold ui
 show _=oR (((if a1≠0 then true else decide (a2≠0)),()),())
 by_cases h1:a1=0
 ·refine bF (by simp[h1]) ?_
  rw[if_neg (by simp[h1])]
  by_cases h2:a2=0 <;> simp[h2]
 ·refine bT (by simp[h1]) ?_
  rw[if_pos h1]
abbrev iC:Io:=⟨[yz],[],[],[dB],none⟩
def vP (d:iC.In):Tr iC.Res:=.ret (.ret ((fT d.1.1,()),()))
abbrev De:List (Nat×Hc):=[(126,ah jP AX)]
def K4:Hd:=br De
def D8:Lp:=bA []
def uk (a0:LI)(a1 a2:Int):Option iC.Res:=bif !jp (a0,a1,a2,()) then bif decide ((↑a0.length:Int)<1) then oR ((true,()),()) else oR ((decide (128<(↑a0.length:Int)),()),()) else bif decide (0<(↑a0.length:Int)) then oR ((true,()),()) else bif decide (a1<1) then oR ((true,()),()) else bif decide (4096<a1) then oR ((true,()),()) else bif decide (a2<4) then oR ((true,()),()) else oR ((decide (131<a2),()),())
theorem Jw (a0:LI)(a1 a2:Int):Io.run tt K4 dr D8 iC Tryz.f125 (((a0,a1,a2,()),()),())=uk a0 a1 a2:=by kernel_rfl
theorem Ew:HcOk prog 125 (ah iC vP):=by
 refine bK (cs:=De) (.cons LF .nil) (lp:=D8) (fn:=Tryz.f125) iC (.done (by kernel_rfl)) vP ?_
 rintro ⟨⟨⟨(a0:LI),(a1:Int),(a2:Int),⟨⟩⟩,⟨⟩⟩,⟨⟩⟩ out hw ho
 cases ho
 refine (Jw a0 a1 a2).trans ?_
 show _=oR ((fT (a0,a1,a2,()),()),())
 unfold uk
 have e:fT (a0,a1,a2,())=if jp (a0,a1,a2,())=true then decide (0<a0.length) || (decide (a1<1) || (decide (4096<a1) || (decide (a2<4) || decide (131<a2)))) else decide (a0.length<1) || decide (128<a0.length):=rfl
 rw[e]
 cases jp (a0,a1,a2,()) with
 |false=>
  refine (aa rfl _ _).trans ?_
  rw[if_neg (by decide)]
  by_cases h:a0.length<1
  ·refine bT (by simp;omega) ?_
   simp[h]
  ·refine bF (decide_eq_false (show ¬((a0.length:Int)<1) by omega)) ?_
   have e2:decide (128<(a0.length:Int))=decide (128<a0.length):=by by_cases h2:128<a0.length <;> simp[h2] <;> omega
   simp only[h,decide_false,Bool.false_or,e2]
 |true=>
  refine (ac rfl _ _).trans ?_
  rw[if_pos rfl]
  by_cases h:0<a0.length
  ·refine bT (by simp;omega) ?_
   simp[h]
  ·refine bF (decide_eq_false (show ¬(0<(a0.length:Int)) by omega)) ?_
   by_cases h1:a1<1
   ·refine bT (by simpa using h1) ?_
    simp[h1]
   ·refine bF (by simpa using h1) ?_
    by_cases h2:4096<a1
    ·refine bT (by simpa using h2) ?_
     simp[h2]
    ·refine bF (by simpa using h2) ?_
     by_cases h3:a2<4
     ·refine bT (by simpa using h3) ?_
      simp[h3]
     ·refine bF (by simpa using h3) ?_
      simp only[h,h1,h2,h3,decide_false,Bool.false_or]
abbrev jR:Io:=⟨[dL],[],[],[yz,dI,dI],none⟩
def AZ (d:jR.In):Tr jR.Res:=.ite (decide (1≤d.1.1.length)) (.ret (.ret (((aE d.1.1).1,(aE d.1.1).2.1,(aE d.1.1).2.2,()),()))) .no
abbrev Df:List (Nat×Hc):=[(125,ah iC vP)]
def K5:Hd:=br Df
def D9:Lp:=bA []
def ul (a0:LI):Option jR.Res:=bif decide (0≤0)&&decide (0<(↑a0.length:Int)) then bif decide (i64.wrap (a0.getD (Int.toNat 0) 0)<128) then bif decide ((↑a0.length:Int)<i64.wrap (i64.wrap (a0.getD (Int.toNat 0) 0)+2)) then oR ((([],0,0,()),0,1,()),()) else bif decide (0≤1)&&(decide (1≤i64.wrap (i64.wrap (a0.getD (Int.toNat 0) 0)+2))&&decide (i64.wrap (i64.wrap (a0.getD (Int.toNat 0) 0)+2)≤(↑a0.length:Int))) then oR (((List.drop (Int.toNat 1) (List.take (i64.wrap (i64.wrap (a0.getD (Int.toNat 0) 0)+2)).toNat a0),0,0,()),i64.wrap (i64.wrap (a0.getD (Int.toNat 0) 0)+2),0,()),()) else none else bif decide ((↑a0.length:Int)<3) then oR ((([],0,0,()),0,1,()),()) else bif decide (0≤1)&&decide (1<(↑a0.length:Int)) then bif decide (0≤2)&&decide (2<(↑a0.length:Int)) then bif fT ([],jr i64 (eD i64 (i64.wrap (a0.getD (Int.toNat 1) 0)) 8) (i64.wrap (a0.getD (Int.toNat 2) 0)),i64.wrap (i64.wrap (i64.wrap (a0.getD (Int.toNat 0) 0) - 128)+4),()) then oR ((([],0,0,()),0,50,()),()) else oR ((([],jr i64 (eD i64 (i64.wrap (a0.getD (Int.toNat 1) 0)) 8) (i64.wrap (a0.getD (Int.toNat 2) 0)),i64.wrap (i64.wrap (i64.wrap (a0.getD (Int.toNat 0) 0) - 128)+4),()),3,0,()),()) else none else none else none
theorem Jx (a0:LI):Io.run tt K5 dr D9 jR Tryz.f134 ((a0,()),())=ul a0:=by kernel_rfl
theorem LH:HcOk prog 134 (ah jR AZ):=by
 refine bK (cs:=Df) (.cons Ew .nil) (lp:=D9) (fn:=Tryz.f134) jR (.done (by kernel_rfl)) AZ ?_
 rintro ⟨⟨(b:LI),⟨⟩⟩,⟨⟩⟩ out hw ho
 obtain ⟨hg,ho⟩:=Tr.guard ho
 have hg:1≤b.length:=of_decide_eq_true hg
 cases ho
 refine (Jx b).trans ?_
 show _=oR (((aE b).1,(aE b).2.1,(aE b).2.2,()),())
 have hb:Ty.wf bs b:=hw.1.1
 have hbl:b.length≤maxLen:=hb.1
 rw[aB] at hbl
 have c0:=rN hb 0
 have c1:=rN hb 1
 have c2:=rN hb 2
 unfold ul
 simp only[show Int.toNat 0=0 from rfl,show Int.toNat 1=1 from rfl,show Int.toNat 2=2 from rfl]
 refine bT (by simp;omega) ?_
 have w0:i64.wrap (b.getD 0 0)=b.getD 0 0:=af (by omega) (by omega)
 have w1:i64.wrap (b.getD 1 0)=b.getD 1 0:=af (by omega) (by omega)
 have w2:i64.wrap (b.getD 2 0)=b.getD 2 0:=af (by omega) (by omega)
 rw[w0,w1,w2,NL c1.1 c1.2 c2.1 c2.2,af (n:=b.getD 0 0+2) (by omega) (by omega),af (n:=b.getD 0 0 - 128) (by omega) (by omega),af (n:=b.getD 0 0 - 128+4) (by omega) (by omega),show b.getD 0 0 - 128+4=b.getD 0 0 - 124 by omega]
 unfold aE
 generalize b.getD 0 0=c at *
 generalize b.getD 1 0=x at *
 generalize b.getD 2 0=y at *
 by_cases h1:c<128
 ·refine bT (by simpa using h1) ?_
  rw[if_pos h1]
  by_cases h2:(b.length:Int)<c+2
  ·refine bT (by simpa using h2) ?_
   rw[if_pos h2]
   rfl
  ·refine bF (by simpa using h2) ?_
   refine bT (by simp;omega) ?_
   rw[if_neg h2,List.drop_take,show (c+2).toNat - 1=(c+1).toNat by omega]
 ·refine bF (by simpa using h1) ?_
  rw[if_neg h1]
  by_cases h2:(b.length:Int)<3
  ·refine bT (by simpa using h2) ?_
   rw[if_pos h2]
   rfl
  ·refine bF (by simpa using h2) ?_
   refine bT (by simp;omega) ?_
   refine bT (by simp;omega) ?_
   rw[if_neg h2]
   have hi:fT ([],x*256+y,c - 124,())=decide (x*256+y<1∨4096<x*256+y):=by
    have hc:jp ([],x*256+y,c - 124,())=true:=by
     show (if x*256+y≠0 then true else decide (c - 124≠0))=true
     split
     ·rfl
     ·exact decide_eq_true (by omega)
    show (if jp ([],x*256+y,c - 124,())=true then decide (0<0) || (decide (x*256+y<1) || (decide (4096<x*256+y) || (decide (c - 124<4) || decide (131<c - 124)))) else _)=_
    rw[if_pos hc]
    have g1:decide (c - 124<4)=false:=decide_eq_false (by omega)
    have g2:decide (131<c - 124)=false:=decide_eq_false (by omega)
    rw[g1,g2]
    simp
   by_cases h3:x*256+y<1∨4096<x*256+y
   ·refine bT (by rw[hi];exact decide_eq_true h3) ?_
    rw[if_pos h3]
    rfl
   ·refine bF (by rw[hi];exact decide_eq_false h3) ?_
    rw[if_neg h3]
abbrev ft:Io:=⟨[dO,yz,dI],[],[],[dO,dI],none⟩
def rk (d:ft.In):Tr ft.Res:=.ite (decide (d.1.1.length≤4294960000)&&(decide (d.1.2.1.1.length≤4294960000)&&decide ((d.1.2.2.1:Int)≤(32768:Int)))) (.ret (.ret (((aS d.1.1 d.1.2.1 d.1.2.2.1).1,(aS d.1.1 d.1.2.1 d.1.2.2.1).2,()),()))) .no
abbrev uE:List (Nat×Hc):=[(125,ah iC vP)]
def uU:Hd:=br uE
abbrev ci:Lo:=⟨⟨(.one (.onl 5 (Ty.int u8) 1)::.any::bt (.one (.ptr 4 0)::aj (dC (bO (.one hI::.one hI::dC (bO (bt []))))))),[none,none,none,none,some [.hol (.sl 5 (Ty.int u8)),hI,hI]]⟩,[(.exit 0,⟨(.one (.onl 5 (Ty.int u8) 1)::aj (aj (aj []))),[]⟩)]⟩
def gx (d:ci.st.den):Tr (ao ci.xs):=
 .ite (decide (d.1.2.2.1=0)&&(decide ((0:Int)≤d.1.2.1)&&((decide (d.1.2.1=0) || (decide ((1:Int)≤d.2.1.2.1)&&decide (d.2.1.2.1≤(d.1.1.length:Int))))&&decide ((d.1.1.length:Int)+d.1.2.1≤4294967296)))) (.ret (.ret ((),((fx d.2.1.2.1.toNat d.1.2.1.toNat d.1.1,()),())))) .no
def lO:Lp:=bA [(8,aD ci gx)]
def fF {R:Type}(h5:LI)(h6 h7:Int)(h8:LI)(h9 h10:Int)(next:LI→Int→Int→LI→Int→Int→Option R)(out:ao ci.xs→Option R):Option R:=bif decide (h7<h6) then bif decide (0≤i64.wrap ((↑h5.length:Int) - h9))&&decide (i64.wrap ((↑h5.length:Int) - h9)<(↑h5.length:Int)) then bif decide (h5.length+1≤4294967296) then next (h5++[h5.getD (i64.wrap ((↑h5.length:Int) - h9)).toNat 0]) (h6) (i64.wrap (h7+1)) (h8) (h9) (h10) else none else none else out (.ret ((),((h5,()),())))
def iI (n:Nat)(h5:LI)(h6 h7:Int)(h8:LI)(h9 h10:Int):Option (ao ci.xs):=ik tt uU dr lO 0 Tryz.f135 (cb Tryz.f135 0) n (ci.st.mk' ((h5,(h6,(h7,()))),((h8,(h9,(h10,()))),()))) (bG ci.xs)
theorem lj (n:Nat)(h5:LI)(h6 h7:Int)(h8:LI)(h9 h10:Int):iI (n+1) h5 h6 h7 h8 h9 h10=fF h5 h6 h7 h8 h9 h10 (iI n) some:=by kernel_rfl
theorem tz (lit:LI)(len:Int){d:Nat}:∀(m k i:Nat) (out:LI),m<k→(m=0∨1≤d∧d≤out.length)→out.length+m≤4294967296→i+m≤4294967296→
  iI k out ((i+m:Nat):Int) i lit d len=some (.ret ((),((fx d m out,()),()))):=by
 intro m
 induction m with
 |zero=>
  intro k i out h1 h2 h3 h4
  obtain ⟨k,rfl⟩:∃j,k=j+1:=⟨k - 1,by omega⟩
  rw[lj]
  unfold fF
  refine bF (by simp) ?_
  rfl
 |succ m ih=>
  intro k i out h1 h2 h3 h4
  obtain ⟨k,rfl⟩:∃j,k=j+1:=⟨k - 1,by omega⟩
  rw[lj]
  unfold fF
  have h2:1≤d∧d≤out.length:=by rcases h2 with h | h;omega;exact h
  rw[af (n:=(out.length:Int) - (d:Int)) (by omega) (by omega),af (n:=(i:Int)+1) (by omega) (by omega),show ((out.length:Int) - (d:Int)).toNat=out.length - d by omega]
  refine bT (by simp;omega) ?_
  refine bT (by simp;omega) ?_
  refine bT (by simp;omega) ?_
  have:=ih k (i+1) (out++[out.getD (out.length - d) 0]) (by omega) (.inr ⟨h2.1,by simp;omega⟩) (by simp;omega) (by omega)
  rw[show ((i+1+m:Nat):Int)=((i+(m+1):Nat):Int) by omega] at this
  exact this
def pL (a0 a1:LI)(a2 a3 a4:Int):Option ft.Res:=bif fT (a1,a2,a3,()) then oR (([],50,()),()) else bif decide ((↑a0.length:Int)<a2) then oR (([],50,()),()) else bif decide (a4<i64.wrap (i64.wrap ((↑a0.length:Int)+(↑a1.length:Int))+a3)) then oR (([],4,()),()) else bif decide (a0.length+a1.length≤4294967296) then (gx ((a0++a1,(a3,(0,()))),((a1,(a2,(a3,()))),()))).run fun y=>match y with | .ret ((),((x18,()),()))=>(oR ((x18,0,()),())) else none
theorem B6 (a0 a1:LI)(a2 a3 a4:Int):Io.run tt uU dr lO ft Tryz.f135 ((a0,(a1,a2,a3,()),a4,()),())=pL a0 a1 a2 a3 a4:=by kernel_rfl
theorem pV:HcsOk prog uE:=.cons Ew .nil
theorem Fs:HcOk prog 135 (ah ft rk):=by
 refine bK pV (lp:=lO) (fn:=Tryz.f135) ft (.step (h0:=aD ci gx) (by kernel_rfl) (iK pV (lp:=lO) (fn:=Tryz.f135) (.done (by kernel_rfl)) ci gx ?_) (.done (by kernel_rfl))) rk ?_
 ·rintro ⟨⟨(out:LI),(n:Int),(i:Int),⟨⟩⟩,⟨⟨(lit:LI),(d:Int),(len:Int),⟨⟩⟩,⟨⟩⟩⟩ y hw hy
  obtain ⟨hg,hy⟩:=Tr.guard hy
  simp only[zA,Bool.or_eq_true,zB] at hg
  obtain ⟨h1,h2,h3,h4⟩:=hg
  have h1:i=0:=h1
  have h2:0≤n:=h2
  have h3:n=0∨1≤d∧d≤(out.length:Int):=h3
  have h4:(out.length:Int)+n≤4294967296:=h4
  subst h1
  obtain ⟨m,rfl⟩:=aq h2
  rcases h3 with h3 | h3
  ·have h3:m=0:=by omega
   subst h3
   refine ⟨1,?_⟩
   rw[← hy]
   show iI (0+1) out ((0:Nat):Int) 0 lit d len=_
   rw[lj]
   unfold fF
   exact ac (by simp) _ _
  ·obtain ⟨d,rfl⟩:=aq (show 0≤d by omega)
   have:=tz lit len (d:=d) m (m+1) 0 out (by omega) (.inr ⟨by omega,by omega⟩) (by omega) (by omega)
   rw[Nat.zero_add] at this
   refine ⟨m+1,this.trans ?_⟩
   rw[← hy];rfl
 ·rintro ⟨⟨(out:LI),⟨(lit:LI),(d:Int),(len:Int),⟨⟩⟩,(m:Int),⟨⟩⟩,⟨⟩⟩ o hw ho
  obtain ⟨hg,ho⟩:=Tr.guard ho
  simp only[zA,zB] at hg
  obtain ⟨h1,h2,h3⟩:=hg
  have h1:out.length≤4294960000:=h1
  have h2:lit.length≤4294960000:=h2
  have h3:m≤(32768:Int):=h3
  cases ho
  refine (B6 out lit d len m).trans ?_
  show _=oR (((aS out (lit,d,len,()) m).1,(aS out (lit,d,len,()) m).2,()),())
  unfold pL aS
  cases hi:fT (lit,d,len,()) with
  |true=>
   refine (aa rfl _ _).trans ?_
   rw[if_pos (.inl rfl)]
  |false=>
   obtain ⟨i1,i2⟩:=HY hi
   refine (ac rfl _ _).trans ?_
   by_cases h4:(out.length:Int)<d
   ·refine bT (by simpa using h4) ?_
    rw[if_pos (.inr h4)]
   ·refine bF (by simpa using h4) ?_
    rw[if_neg (by rintro (h | h);cases h;exact h4 h),af (n:=(out.length:Int)+(lit.length:Int)) (by omega) (by omega),af (n:=(out.length:Int)+(lit.length:Int)+len) (by omega) (by omega)]
    by_cases h5:m<(out.length:Int)+(lit.length:Int)+len
    ·refine bT (by simpa using h5) ?_
     rw[if_pos h5]
    ·refine bF (by simpa using h5) ?_
     refine bT (by simp;omega) ?_
     rw[if_neg h5]
     have hg:(decide ((0:Int)=0)&&(decide ((0:Int)≤len)&&((decide (len=0) || (decide ((1:Int)≤d)&&decide (d≤((out++lit).length:Int))))&&decide (((out++lit).length:Int)+len≤4294967296))))=true:=by
      simp only[zA,Bool.or_eq_true,zB,zH]
      refine ⟨trivial,i1.1,?_,by omega⟩
      rcases i2 with h | h
      ·exact .inl h.1
      ·exact .inr ⟨h.2.1,by omega⟩
     have e:gx ((out++lit,(len,(0,()))),((lit,(d,(len,()))),()))=.ite true (.ret (.ret ((),((fx d.toNat len.toNat (out++lit),()),())))) .no:=congrArg (fun c=>Tr.ite c _ _) hg
     rw[e]
     rfl
abbrev fq:Io:=⟨[dI],[],[],[dI],none⟩
def rj (d:fq.In):Tr fq.Res:=.ret (.ret ((ar d.1.1,()),()))
abbrev uD:List (Nat×Hc):=[]
def E8:Hd:=br uD
def va:Lp:=bA []
def xV (a0:Int):Option fq.Res:=oR ((mj (dg a0 0) 32768,()),())
theorem B5 (a0:Int):Io.run tt E8 dr va fq Tryz.f136 ((a0,()),())=xV a0:=by kernel_rfl
theorem Fq:HcOk prog 136 (ah fq rj):=by
 refine bK (cs:=uD) HcsOk.nil (lp:=va) (fn:=Tryz.f136) fq (.done (by kernel_rfl)) rj ?_
 rintro ⟨⟨(m:Int),⟨⟩⟩,⟨⟩⟩ out hw ho
 cases ho
 exact B5 m
abbrev jQ:Io:=⟨[dL,dI],[],[],[dO,dI],none⟩
def AY (d:jQ.In):Tr jQ.Res:=.ite (decide (d.1.1.length≤4294960000)) (.ret (.ret (((an d.1.1 d.1.2.1).1,(an d.1.1 d.1.2.1).2,()),()))) .no
abbrev Dd:List (Nat×Hc):=[(134,ah jR AZ),(136,ah fq rj),(135,ah ft rk)]
def DC:Hd:=br Dd
abbrev dy:Lo:=⟨⟨(.one (.hol (.sl 5 (Ty.int u8)))::.one hI::bO (.one (.onl 5 (Ty.int u8) 13)::.any::aj (dC (bO (bt []))))),[]⟩,[(.ret,⟨(bO (.one (.onl 5 (Ty.int u8) 9)::.one hI::aj (aj ([])))),[]⟩),(.exit 0,⟨(bO (bt (.one (.onl 5 (Ty.int u8) 13)::.any::aj (dC (bO (bt [])))))),[]⟩)]⟩
def kD (d:dy.st.den):Tr (ao dy.xs):=
 .ite (decide (d.1.1.length≤4294960000)&&decide (d.1.2.2.1.length≤32768)) (.ite (decide ((bv (d.1.1.length+1) d.1.1 d.1.2.2.1 (ar d.1.2.1)).2=0)) (.ret (.pan (.ret ((),(((bv (d.1.1.length+1) d.1.1 d.1.2.2.1 (ar d.1.2.1)).1,()),()))))) (.ret (.ret ((),(([],(bv (d.1.1.length+1) d.1.1 d.1.2.2.1 (ar d.1.2.1)).2,()),()))))) .no
def qQ:Lp:=bA [(3,aD dy kD)]
def qf {R:Type}(h2:LI)(h3:Int)(h4:LI)(next:LI→Int→LI→Option R)(out:ao dy.xs→Option R):Option R:=bif decide (0<(↑h2.length:Int)) then bif decide (1≤h2.length) then bif (aE h2).2.2 != 0 then out (.ret ((),(([],((aE h2).2.2,())),()))) else bif decide (h4.length≤4294960000)&&(decide (List.length (aE h2).1.1≤4294960000)&&decide (ar h3≤32768)) then bif (aS h4 (aE h2).1 (ar h3)).2 != 0 then out (.ret ((),(([],((aS h4 (aE h2).1 (ar h3)).2,())),()))) else bif decide (0≤(aE h2).2.1)&&(decide ((aE h2).2.1≤(↑h2.length:Int))&&decide ((↑h2.length:Int)≤(↑h2.length:Int))) then next (List.drop (aE h2).2.1.toNat (List.take (↑h2.length:Int).toNat h2)) (h3) ((aS h4 (aE h2).1 (ar h3)).1) else none else none else none else out (.pan (.ret ((),((h4,()),()))))
def pg (n:Nat)(h2:LI)(h3:Int)(h4:LI):Option (ao dy.xs):=ik tt DC dr qQ 0 Tryz.f100 (cb Tryz.f100 0) n (dy.st.mk' ((h2,(h3,(h4,()))),())) (bG dy.xs)
theorem F2 (n:Nat)(h2:LI)(h3:Int)(h4:LI):pg (n+1) h2 h3 h4=qf h2 h3 h4 (pg n) some:=by kernel_rfl
theorem y9 (m:Int):∀(k:Nat) (b out:LI),(∀c∈b,0≤c∧c≤255)→b.length<k→b.length≤4294960000→out.length≤32768→
  pg k b m out=if (bv k b out (ar m)).2=0 then some (.pan (.ret ((),(((bv k b out (ar m)).1,()),())))) else some (.ret ((),(([],((bv k b out (ar m)).2,())),()))):=by
 intro k
 induction k with
 |zero=>intro b out _ h;omega
 |succ k ih=>
  intro b out hb h1 h2 h3
  rw[F2]
  unfold qf
  by_cases hne:b=[]
  ·subst hne
   refine (ac rfl _ _).trans ?_
   rfl
  ·have hp:0<b.length:=List.length_pos_iff.2 hne
   have e:bv (k+1) b out (ar m)=if (aE b).2.2≠0 then ([],(aE b).2.2) else if (aS out (aE b).1 (ar m)).2≠0 then ([],(aS out (aE b).1 (ar m)).2) else bv k (b.drop (aE b).2.1.toNat) (aS out (aE b).1 (ar m)).1 (ar m):=by
    rw[bv,if_neg hne]
   have hlit:=vp b
   have hbd:=nk m
   refine bT (by simpa using hp) ?_
   refine bT (by simp;omega) ?_
   rw[e]
   by_cases h4:(aE b).2.2=0
   ·have ho:=Av hb h4 hne
    refine bF (by simpa using h4) ?_
    refine bT (by simp only[zA,zB];omega) ?_
    rw[if_neg (aC h4)]
    by_cases h5:(aS out (aE b).1 (ar m)).2=0
    ·have hle:=nl h5
     refine bF (by simpa using h5) ?_
     refine bT (by simp only[zA,zB];omega) ?_
     rw[if_neg (aC h5),zG,List.take_length]
     exact ih _ _ (fun c hc=>hb c (List.mem_of_mem_drop hc)) (by simp;omega) (by simp;omega) (by omega)
    ·refine bT (by simpa using h5) ?_
     rw[if_pos h5,if_neg h5]
   ·refine bT (by simpa using h4) ?_
    rw[if_pos h4,if_neg h4]
def uj (a0:LI)(a1:Int):Option jQ.Res:=(kD ((a0,(a1,([],()))),())).run fun y=>match y with | .ret ((),((x13,x14,()),()))=>(oR ((x13,x14,()),())) | .pan (.ret ((),((x15,()),())))=>(oR ((x15,0,()),()))
theorem Jv (a0:LI)(a1:Int):Io.run tt DC dr qQ jQ Tryz.f100 ((a0,a1,()),())=uj a0 a1:=by kernel_rfl
theorem uP:HcsOk prog Dd:=.cons LH (.cons Fq (.cons Fs .nil))
theorem LG:HcOk prog 100 (ah jQ AY):=by
 refine bK uP (lp:=qQ) (fn:=Tryz.f100) jQ (.step (h0:=aD dy kD) (by kernel_rfl) (iK uP (lp:=qQ) (fn:=Tryz.f100) (.done (by kernel_rfl)) dy kD ?_) (.done (by kernel_rfl))) AY ?_
 ·rintro ⟨⟨(b:LI),(m:Int),(out:LI),⟨⟩⟩,⟨⟩⟩ y hw hy
  obtain ⟨hg,hy⟩:=Tr.guard hy
  simp only[zA,zB] at hg
  refine ⟨b.length+1,(y9 m (b.length+1) b out (dj hw.1.1) (by omega) hg.1 hg.2).trans ?_⟩
  rw[← hy]
  simp only[Tr.val_ite,zB,Tr.val_ret]
 ·rintro ⟨⟨(b:LI),(m:Int),⟨⟩⟩,⟨⟩⟩ o hw ho
  obtain ⟨hg,ho⟩:=Tr.guard ho
  have hg:b.length≤4294960000:=of_decide_eq_true hg
  cases ho
  refine (Jv b m).trans ?_
  show _=oR (((an b m).1,(an b m).2,()),())
  unfold uj kD
  rw[fS]
  refine bT (by simp only[zA,zB];exact ⟨hg,by simp⟩) ?_
  by_cases h:(bv (b.length+1) b [] (ar m)).2=0
  ·refine bT (decide_eq_true h) ?_
   rw[h]
   rfl
  ·refine bF (decide_eq_false h) ?_
   rw[gZ _ _ _ _ h]
   rfl
def sX (t:Kv):Bool:=if t.2.1=0∧t.2.2.1=0∧0<t.1.length∧t.1.length≤128 then true else false
def kd (t:Kv):Bool:=if t.1.length=0∧1≤t.2.1∧t.2.1≤4096∧4≤t.2.2.1∧t.2.2.1≤131 then true else false
def cX (b:LI)(p:Int):Kv×Int×Int:=
 if p<0∨(b.length:Int)≤p then (dD,0,1)
 else if (aE (b.drop p.toNat)).2.2≠0 then (dD,0,(aE (b.drop p.toNat)).2.2)
 else ((aE (b.drop p.toNat)).1,p+(aE (b.drop p.toNat)).2.1,0)
abbrev jT:Io:=⟨[yz],[],[],[dB],none⟩
def A5 (d:jT.In):Tr jT.Res:=.ret (.ret ((sX d.1.1,()),()))
abbrev Di:List (Nat×Hc):=[]
def K7:Hd:=br Di
def Eb:Lp:=bA []
def uo (a0:LI)(a1 a2:Int):Option jT.Res:=bif a1 == 0 then bif a2 == 0 then bif decide (0<(↑a0.length:Int)) then oR ((decide ((↑a0.length:Int)≤128),()),()) else oR ((false,()),()) else oR ((false,()),()) else oR ((false,()),())
theorem JA (a0:LI)(a1 a2:Int):Io.run tt K7 dr Eb jT Tryz.f131 (((a0,a1,a2,()),()),())=uo a0 a1 a2:=by kernel_rfl
theorem LK:HcOk prog 131 (ah jT A5):=by
 refine bK (cs:=Di) HcsOk.nil (lp:=Eb) (fn:=Tryz.f131) jT (.done (by kernel_rfl)) A5 ?_
 rintro ⟨⟨⟨(a0:LI),(a1:Int),(a2:Int),⟨⟩⟩,⟨⟩⟩,⟨⟩⟩ out hw ho
 cases ho
 refine (JA a0 a1 a2).trans ?_
 show _=oR (((if a1=0∧a2=0∧0<a0.length∧a0.length≤128 then true else false),()),())
 unfold uo
 by_cases h1:a1=0
 ·refine bT (by simp[h1]) ?_
  by_cases h2:a2=0
  ·refine bT (by simp[h2]) ?_
   by_cases h3:0<a0.length
   ·refine bT (decide_eq_true (show 0<(a0.length:Int) by omega)) ?_
    by_cases h4:a0.length≤128
    ·rw[if_pos ⟨h1,h2,h3,h4⟩,show decide ((a0.length:Int)≤128)=true from decide_eq_true (by omega)]
    ·rw[if_neg (fun h=>h4 h.2.2.2),show decide ((a0.length:Int)≤128)=false from decide_eq_false (by omega)]
   ·refine bF (decide_eq_false (show ¬ 0<(a0.length:Int) by omega)) ?_
    rw[if_neg (fun h=>h3 h.2.2.1)]
  ·refine bF (by simp[h2]) ?_
   rw[if_neg (fun h=>h2 h.2.1)]
 ·refine bF (by simp[h1]) ?_
  rw[if_neg (fun h=>h1 h.1)]
abbrev iD:Io:=⟨[yz],[],[],[dB],none⟩
def vQ (d:iD.In):Tr iD.Res:=.ret (.ret ((kd d.1.1,()),()))
abbrev Dg:List (Nat×Hc):=[]
def K6:Hd:=br Dg
def Ea:Lp:=bA []
def um (a0:LI)(a1 a2:Int):Option iD.Res:=bif decide (0<(↑a0.length:Int)) then oR ((false,()),()) else bif decide (a1<1) then oR ((false,()),()) else bif decide (4096<a1) then oR ((false,()),()) else bif decide (4≤a2) then oR ((decide (a2≤131),()),()) else oR ((false,()),())
theorem Jy (a0:LI)(a1 a2:Int):Io.run tt K6 dr Ea iD Tryz.f132 (((a0,a1,a2,()),()),())=um a0 a1 a2:=by kernel_rfl
theorem Ey:HcOk prog 132 (ah iD vQ):=by
 refine bK (cs:=Dg) HcsOk.nil (lp:=Ea) (fn:=Tryz.f132) iD (.done (by kernel_rfl)) vQ ?_
 rintro ⟨⟨⟨(a0:LI),(a1:Int),(a2:Int),⟨⟩⟩,⟨⟩⟩,⟨⟩⟩ out hw ho
 cases ho
 refine (Jy a0 a1 a2).trans ?_
 show _=oR (((if a0.length=0∧1≤a1∧a1≤4096∧4≤a2∧a2≤131 then true else false),()),())
 unfold um
 by_cases h0:a0.length=0
 ·refine bF (decide_eq_false (show ¬ 0<(a0.length:Int) by omega)) ?_
  by_cases h1:a1<1
  ·refine bT (decide_eq_true h1) ?_
   rw[if_neg (by omega)]
  ·refine bF (decide_eq_false h1) ?_
   by_cases h2:4096<a1
   ·refine bT (decide_eq_true h2) ?_
    rw[if_neg (by omega)]
   ·refine bF (decide_eq_false h2) ?_
    by_cases h3:4≤a2
    ·refine bT (decide_eq_true h3) ?_
     by_cases h4:a2≤131
     ·rw[if_pos (by omega),decide_eq_true h4]
     ·rw[if_neg (by omega),decide_eq_false h4]
    ·refine bF (decide_eq_false h3) ?_
     rw[if_neg (by omega)]
 ·refine bT (decide_eq_true (show 0<(a0.length:Int) by omega)) ?_
  rw[if_neg (by omega)]
abbrev jU:Io:=⟨[dL,dI],[],[],[yz,dI,dI],none⟩
def A6 (d:jU.In):Tr jU.Res:=.ite (decide (d.1.1.length≤4294960000)) (.ret (.ret (((cX d.1.1 d.1.2.1).1,(cX d.1.1 d.1.2.1).2.1,(cX d.1.1 d.1.2.1).2.2,()),()))) .no
abbrev Dj:List (Nat×Hc):=[(132,ah iD vQ)]
def DE:Hd:=br Dj
abbrev cS:Lo:=⟨⟨(.one (.hol (.sl 5 (Ty.int u8)))::.one hI::bt (.one (.ptr 4 0)::bt (.one hI::.one (.onl 5 (Ty.int u8) 17)::.one hI::aj (aj (aj (aj (dC (bO (bt []))))))))),[none,none,none,none,some [.onl 5 (Ty.int u8) 2050,hI,hI]]⟩,[(.exit 0,⟨(.any::.one hI::bt (.one (.ptr 4 0)::bt (.one hI::.one (.onl 5 (Ty.int u8) 17)::.any::aj (aj (aj (aj (dC (bO (bt []))))))))),[none,none,none,none,some [.onl 5 (Ty.int u8) 2050,hI,hI]]⟩)]⟩
def gl (d:cS.st.den):Tr (ao cS.xs):=
 .ite (decide (d.1.2.2.2.2.1=0)&&(decide (d.1.2.2.2.1.length=0)&&((decide ((0:Int)≤d.1.2.1)&&decide (d.1.1.length≤4294960000))&&(decide ((0:Int)≤d.1.2.2.1)&&decide (d.1.2.1+d.1.2.2.1+2≤(d.1.1.length:Int))))))
  (.ret (.ret ((),((d.1.2.1,d.1.2.2.1,(d.1.1.drop (d.1.2.1+1).toNat).take (d.1.2.2.1+1).toNat,()),(d.2.1,()))))) .no
def qS:Lp:=bA [(10,aD cS gl)]
def oM {R:Type}(h2:LI)(h3 h4:Int)(h5:LI)(h6:Int)(h7:LI)(h8 h9:Int)(next:LI→Int→Int→LI→Int→LI→Int→Int→Option R)(out:ao cS.xs→Option R):Option R:=bif decide (h6≤h4) then bif decide (0≤i64.wrap (i64.wrap (h3+1)+h6))&&decide (i64.wrap (i64.wrap (h3+1)+h6)<(↑h2.length:Int)) then bif decide (h5.length+1≤4294967296) then next (h2) (h3) (h4) (h5++[h2.getD (i64.wrap (i64.wrap (h3+1)+h6)).toNat 0]) (i64.wrap (h6+1)) (h7) (h8) (h9) else none else none else out (.ret ((),((h3,(h4,(h5,()))),((h7,(h8,(h9,()))),()))))
def nd (n:Nat)(h2:LI)(h3 h4:Int)(h5:LI)(h6:Int)(h7:LI)(h8 h9:Int):Option (ao cS.xs):=ik tt DE dr qS 0 Tryz.f112 (cb Tryz.f112 0) n (cS.st.mk' ((h2,(h3,(h4,(h5,(h6,()))))),((h7,(h8,(h9,()))),()))) (bG cS.xs)
theorem Ci (n:Nat)(h2:LI)(h3 h4:Int)(h5:LI)(h6:Int)(h7:LI)(h8 h9:Int):nd (n+1) h2 h3 h4 h5 h6 h7 h8 h9=oM h2 h3 h4 h5 h6 h7 h8 h9 (nd n) some:=by kernel_rfl
theorem o3 (b:LI)(p i:Nat):(b.drop p).getD i 0=b.getD (p+i) 0:=by rw[List.getD_eq_getElem?_getD,List.getD_eq_getElem?_getD,List.getElem?_drop]
theorem wF (b g:LI)(u v:Int){p c:Nat}(h0:p+c+2≤b.length)(hl:b.length≤4294960000):∀(k j:Nat) (lit:LI),c+1<j+k→j≤c+1→lit.length=j→
  nd k b p c lit j g u v=some (.ret ((),(((p:Int),((c:Int),(lit++(b.drop (p+1+j)).take (c+1 - j),()))),((g,(u,(v,()))),())))):=by
 intro k
 induction k with
 |zero=>intro j lit h;omega
 |succ k ih=>
  intro j lit h1 h2 h3
  rw[Ci]
  unfold oM
  by_cases hj:j≤c
  ·rw[af (n:=(p:Int)+1) (by omega) (by omega),af (n:=(p:Int)+1+(j:Int)) (by omega) (by omega),af (n:=(j:Int)+1) (by omega) (by omega)]
   refine bT (by simpa using hj) ?_
   refine bT (by simp only[zA,zB];omega) ?_
   refine bT (by simp;omega) ?_
   have hlt:p+1+j<b.length:=by omega
   have e:b.getD ((p:Int)+1+(j:Int)).toNat 0=b[p+1+j]:=by rw[show ((p:Int)+1+(j:Int)).toNat=p+1+j by omega,aF hlt]
   rw[e]
   refine (ih (j+1) _ (by omega) (by omega) (by simp[h3])).trans ?_
   rw[zK,zE hlt,show c+1 - j=(c+1 - (j+1))+1 by omega,List.take_succ_cons]
   rfl
  ·refine bF (by simp;omega) ?_
   rw[show c+1 - j=0 by omega,List.take_zero,List.append_nil]
def up (a0:LI)(a1:Int):Option jU.Res:=bif decide (a1<0) then oR ((([],0,0,()),0,1,()),()) else bif decide ((↑a0.length:Int)≤a1) then oR ((([],0,0,()),0,1,()),()) else bif decide (0≤a1)&&decide (a1<(↑a0.length:Int)) then bif decide (i64.wrap (a0.getD a1.toNat 0)<128) then bif decide (i64.wrap (i64.wrap ((↑a0.length:Int) - a1) - 1)<i64.wrap (i64.wrap (a0.getD a1.toNat 0)+1)) then oR ((([],0,0,()),0,1,()),()) else (gl ((a0,(a1,(i64.wrap (a0.getD a1.toNat 0),([],(0,()))))),(([],(0,(0,()))),()))).run fun y=>match y with | .ret ((),((x24,x25,x26,()),(x27,x28,x29,()),()))=>(oR (((x26,0,0,()),i64.wrap (i64.wrap (x24+x25)+2),0,()),())) else bif decide (i64.wrap ((↑a0.length:Int) - a1)<3) then oR ((([],0,0,()),0,1,()),()) else bif decide (0≤i64.wrap (a1+1))&&decide (i64.wrap (a1+1)<(↑a0.length:Int)) then bif decide (0≤i64.wrap (a1+2))&&decide (i64.wrap (a1+2)<(↑a0.length:Int)) then bif !kd ([],i64.wrap (i64.wrap (i64.wrap (a0.getD (i64.wrap (a1+1)).toNat 0)*256)+i64.wrap (a0.getD (i64.wrap (a1+2)).toNat 0)),i64.wrap (i64.wrap (a0.getD a1.toNat 0) - 124),()) then oR ((([],0,0,()),0,50,()),()) else oR ((([],i64.wrap (i64.wrap (i64.wrap (a0.getD (i64.wrap (a1+1)).toNat 0)*256)+i64.wrap (a0.getD (i64.wrap (a1+2)).toNat 0)),i64.wrap (i64.wrap (a0.getD a1.toNat 0) - 124),()),i64.wrap (a1+3),0,()),()) else none else none else none
theorem JB (a0:LI)(a1:Int):Io.run tt DE dr qS jU Tryz.f112 ((a0,a1,()),())=up a0 a1:=by kernel_rfl
theorem uR:HcsOk prog Dj:=.cons Ey .nil
theorem LL:HcOk prog 112 (ah jU A6):=by
 refine bK uR (lp:=qS) (fn:=Tryz.f112) jU (.step (h0:=aD cS gl) (by kernel_rfl) (iK uR (lp:=qS) (fn:=Tryz.f112) (.done (by kernel_rfl)) cS gl ?_) (.done (by kernel_rfl))) A6 ?_
 ·rintro ⟨⟨(b:LI),(p:Int),(c:Int),(lit:LI),(j:Int),⟨⟩⟩,⟨⟨(g:LI),(u:Int),(v:Int),⟨⟩⟩,⟨⟩⟩⟩ y hw hy
  obtain ⟨hg,hy⟩:=Tr.guard hy
  simp only[zA,zB] at hg
  obtain ⟨h1,h2,⟨h3,h4⟩,h5,h6⟩:=hg
  have h1:j=0:=h1
  have h2:lit.length=0:=h2
  have h3:0≤p:=h3
  have h4:b.length≤4294960000:=h4
  have h5:0≤c:=h5
  have h6:p+c+2≤(b.length:Int):=h6
  have h2:lit=[]:=List.length_eq_zero_iff.1 h2
  subst h1 h2
  obtain ⟨p,rfl⟩:=aq h3
  obtain ⟨c,rfl⟩:=aq h5
  refine ⟨c+2,(wF b g u v (p:=p) (c:=c) (by omega) h4 (c+2) 0 [] (by omega) (by omega) rfl).trans ?_⟩
  rw[← hy]
  show _=some _
  rw[show ((p:Int)+1).toNat=p+1 by omega,show ((c:Int)+1).toNat=c+1 by omega]
  rfl
 ·rintro ⟨⟨(b:LI),(p:Int),⟨⟩⟩,⟨⟩⟩ o hw ho
  obtain ⟨hg,ho⟩:=Tr.guard ho
  have hg2:b.length≤4294960000:=of_decide_eq_true hg
  clear hg
  cases ho
  refine (JB b p).trans ?_
  show _=oR (((cX b p).1,(cX b p).2.1,(cX b p).2.2,()),())
  have hb:Ty.wf bs b:=hw.1.1
  unfold up
  by_cases h1:p<0
  ·refine bT (decide_eq_true h1) ?_
   unfold cX
   rw[if_pos (.inl h1)]
   rfl
  refine bF (decide_eq_false h1) ?_
  by_cases h2:(b.length:Int)≤p
  ·refine bT (decide_eq_true h2) ?_
   unfold cX
   rw[if_pos (.inr h2)]
   rfl
  refine bF (decide_eq_false h2) ?_
  obtain ⟨p,rfl⟩:=aq (show 0≤p by omega)
  have eR:cX b p=if (aE (b.drop p)).2.2≠0 then (dD,0,(aE (b.drop p)).2.2) else ((aE (b.drop p)).1,(p:Int)+(aE (b.drop p)).2.1,0):=by
   unfold cX
   rw[if_neg (by omega),zG]
  have c0:=rN hb p
  have c1:=rN hb (p+1)
  have c2:=rN hb (p+2)
  have e0:(b.drop p).getD 0 0=b.getD p 0:=o3 b p 0
  have e1:(b.drop p).getD 1 0=b.getD (p+1) 0:=o3 b p 1
  have e2:(b.drop p).getD 2 0=b.getD (p+2) 0:=o3 b p 2
  have el:((b.drop p).length:Int)=(b.length:Int) - p:=by simp;omega
  have eO:aE (b.drop p)=if b.getD p 0<128 then (if (b.length:Int) - p<b.getD p 0+2 then (dD,0,1) else (((b.drop (p+1)).take (b.getD p 0+1).toNat,0,0,()),b.getD p 0+2,0))
    else if (b.length:Int) - p<3 then (dD,0,1)
    else if b.getD (p+1) 0*256+b.getD (p+2) 0<1∨4096<b.getD (p+1) 0*256+b.getD (p+2) 0 then (dD,0,50)
    else (([],b.getD (p+1) 0*256+b.getD (p+2) 0,b.getD p 0 - 124,()),3,0):=by
   unfold aE
   rw[e0,e1,e2,el,List.drop_drop]
  rw[af (n:=(p:Int)+1) (by omega) (by omega),af (n:=(p:Int)+2) (by omega) (by omega),show ((p:Int)+1).toNat=p+1 by omega,show ((p:Int)+2).toNat=p+2 by omega,zG]
  rw[af (n:=b.getD p 0) (by omega) (by omega),af (n:=b.getD (p+1) 0) (by omega) (by omega),af (n:=b.getD (p+2) 0) (by omega) (by omega)]
  generalize hd:(b.drop (p+1)).take (b.getD p 0+1).toNat=L at *
  have hF:∀lit:LI,b.getD p 0<128→(p:Int)+b.getD p 0+2≤(b.length:Int)→gl ((b,((p:Int),(b.getD p 0,([],(0,()))))),(([],(0,(0,()))),()))=.ite true (.ret (.ret ((),(((p:Int),b.getD p 0,L,()),(([],(0,(0,()))),()))))) .no:=by
   intro _ _ hlt
   have hc:(decide ((0:Int)=0)&&(decide (([]:LI).length=0)&&((decide ((0:Int)≤(p:Int))&&decide (b.length≤4294960000))&&(decide ((0:Int)≤b.getD p 0)&&decide ((p:Int)+b.getD p 0+2≤(b.length:Int))))))=true:=by
    simp only[zA,zB]
    exact ⟨trivial,rfl,⟨by omega,hg2⟩,c0.1,hlt⟩
   have:gl ((b,((p:Int),(b.getD p 0,([],(0,()))))),(([],(0,(0,()))),()))=.ite true (.ret (.ret ((),(((p:Int),b.getD p 0,(b.drop ((p:Int)+1).toNat).take (b.getD p 0+1).toNat,()),(([],(0,(0,()))),()))))) .no:=congrArg (fun c=>Tr.ite c _ _) hc
   rw[this,show ((p:Int)+1).toNat=p+1 by omega,hd]
  rw[eR,eO]
  clear eR eO e0 e1 e2 el hd
  generalize b.getD p 0=c at *
  generalize b.getD (p+1) 0=x at *
  generalize b.getD (p+2) 0=y at *
  refine bT (by simp only[zA,zB];omega) ?_
  rw[af (n:=(b.length:Int) - p) (by omega) (by omega),af (n:=(b.length:Int) - p - 1) (by omega) (by omega),af (n:=c+1) (by omega) (by omega)]
  by_cases h3:c<128
  ·refine bT (decide_eq_true h3) ?_
   rw[if_pos h3]
   by_cases h4:(b.length:Int) - p<c+2
   ·refine bT (decide_eq_true (by omega)) ?_
    rw[if_pos h4,if_pos (by decide)]
    rfl
   ·refine bF (decide_eq_false (by omega)) ?_
    rw[hF [] h3 (by omega),if_neg h4,if_neg (aC rfl)]
    show oR (((L,0,0,()),i64.wrap (i64.wrap ((p:Int)+c)+2),0,()),())=_
    rw[af (n:=(p:Int)+c) (by omega) (by omega),af (n:=(p:Int)+c+2) (by omega) (by omega),Int.add_assoc]
  ·refine bF (decide_eq_false h3) ?_
   rw[if_neg h3]
   by_cases h4:(b.length:Int) - p<3
   ·refine bT (decide_eq_true h4) ?_
    rw[if_pos h4,if_pos (by decide)]
    rfl
   ·refine bF (decide_eq_false h4) ?_
    refine bT (by simp only[zA,zB];omega) ?_
    refine bT (by simp only[zA,zB];omega) ?_
    rw[af (n:=x*256) (by omega) (by omega),af (n:=x*256+y) (by omega) (by omega),af (n:=c - 124) (by omega) (by omega),af (n:=(p:Int)+3) (by omega) (by omega),if_neg h4]
    have hi:kd ([],x*256+y,c - 124,()) = !decide (x*256+y<1∨4096<x*256+y):=by
     show (if ([]:LI).length=0∧1≤x*256+y∧x*256+y≤4096∧4≤c - 124∧c - 124≤131 then true else false)=_
     by_cases h5:x*256+y<1∨4096<x*256+y
     ·rw[if_neg (by omega),decide_eq_true h5];rfl
     ·rw[if_pos ⟨rfl,by omega⟩,decide_eq_false h5];rfl
    by_cases h5:x*256+y<1∨4096<x*256+y
    ·refine bT (by rw[hi,decide_eq_true h5];rfl) ?_
     rw[if_pos h5,if_pos (by decide)]
     rfl
    ·refine bF (by rw[hi,decide_eq_false h5];rfl) ?_
     rw[if_neg h5,if_neg (aC rfl)]
abbrev fu:Io:=⟨[dI],[],[],[dI],none⟩
def rl (d:fu.In):Tr fu.Res:=.ret (.ret ((ar d.1.1,()),()))
abbrev uF:List (Nat×Hc):=[]
def E9:Hd:=br uF
def vb:Lp:=bA []
def pM (a0:Int):Option fu.Res:=bif decide (a0<0) then oR ((0,()),()) else bif decide (32768<a0) then oR ((32768,()),()) else oR ((a0,()),())
theorem B7 (a0:Int):Io.run tt E9 dr vb fu Tryz.f114 ((a0,()),())=pM a0:=by kernel_rfl
theorem Ft:HcOk prog 114 (ah fu rl):=by
 refine bK (cs:=uF) HcsOk.nil (lp:=vb) (fn:=Tryz.f114) fu (.done (by kernel_rfl)) rl ?_
 rintro ⟨⟨(m:Int),⟨⟩⟩,⟨⟩⟩ out hw ho
 cases ho
 refine (B7 m).trans ?_
 show _=oR ((ar m,()),())
 unfold pM
 have e1:m<0→dg m 0=0:=fun h=>by unfold dg;exact if_pos h
 have e2:¬ m<0→dg m 0=m:=fun h=>by unfold dg;exact if_neg (by omega)
 unfold ar mj
 by_cases h1:m<0
 ·refine bT (decide_eq_true h1) ?_
  rw[e1 h1,if_neg (by decide)]
 ·refine bF (decide_eq_false h1) ?_
  rw[e2 h1]
  by_cases h2:32768<m
  ·refine bT (decide_eq_true h2) ?_
   rw[if_pos h2]
  ·refine bF (decide_eq_false h2) ?_
   rw[if_neg h2]
abbrev fv:Io:=⟨[dO,yz,dI],[],[],[dO,dI],none⟩
def rn (d:fv.In):Tr fv.Res:=.ite (decide (d.1.1.length≤4294960000)&&(decide (d.1.2.1.1.length≤4294960000)&&(decide ((0:Int)≤d.1.2.2.1)&&decide ((d.1.2.2.1:Int)≤(32768:Int))))) (.ret (.ret (((aS d.1.1 d.1.2.1 d.1.2.2.1).1,(aS d.1.1 d.1.2.1 d.1.2.2.1).2,()),()))) .no
abbrev uG:List (Nat×Hc):=[(131,ah jT A5),(132,ah iD vQ)]
def o7:Hd:=br uG
abbrev cj:Lo:=⟨⟨(.one (.onl 5 (Ty.int u8) 1)::.any::bt (.one (.ptr 4 0)::.any::bt (.one hI::.any::aj (aj (aj (aj (bO []))))))),[none,none,none,none,some [.hol (.sl 5 (Ty.int u8)),hI,hI]]⟩,[(.exit 0,⟨(.one (.onl 5 (Ty.int u8) 1)::.any::aj (aj (aj (aj (dC (bO [])))))),[]⟩)]⟩
abbrev bV:Lo:=⟨⟨(.one (.onl 5 (Ty.int u8) 1)::.any::bt (.one (.ptr 4 0)::bO (.one hI::.one hI::.any::aj (aj (aj (aj (bt []))))))),[none,none,none,none,some [.hol (.sl 5 (Ty.int u8)),hI,hI]]⟩,[(.exit 2,⟨(.one (.onl 5 (Ty.int u8) 1)::.any::aj (aj (aj (aj (dC (bO [])))))),[]⟩)]⟩
def gy (d:cj.st.den):Tr (ao cj.xs):=
 .ite (decide (d.1.2.1=0)&&decide (d.1.1.length+d.2.1.1.length≤4294967296)) (.ret (.ret ((),((d.1.1++d.2.1.1,()),())))) .no
def fI (d:bV.st.den):Tr (ao bV.xs):=
 .ite (decide (d.1.2.2.1=0)&&((decide (d.1.2.1=(d.1.1.length:Int) - d.2.1.2.1)&&decide ((0:Int)≤d.2.1.2.2.1))&&((decide ((1:Int)≤d.2.1.2.1)&&decide (d.2.1.2.1≤(d.1.1.length:Int)))&&decide ((d.1.1.length:Int)+d.2.1.2.2.1≤4294967296)))) (.ret (.ret ((),((fx d.2.1.2.1.toNat d.2.1.2.2.1.toNat d.1.1,()),())))) .no
def gp:Lp:=bA [(6,aD cj gy),(16,aD bV fI)]
def mv {R:Type}(h5:LI)(h6:Int)(h7:LI)(h8 h9:Int)(next:LI→Int→LI→Int→Int→Option R)(out:ao cj.xs→Option R):Option R:=bif decide (h6<(↑h7.length:Int)) then bif decide (0≤h6)&&decide (h6<(↑h7.length:Int)) then bif decide (h5.length+1≤4294967296) then next (h5++[h7.getD h6.toNat 0]) (i64.wrap (h6+1)) (h7) (h8) (h9) else none else none else out (.ret ((),((h5,()),())))
def kY (n:Nat)(h5:LI)(h6:Int)(h7:LI)(h8 h9:Int):Option (ao cj.xs):=ik tt o7 dr gp 0 Tryz.f113 (cb Tryz.f113 0) n (cj.st.mk' ((h5,(h6,())),((h7,(h8,(h9,()))),()))) (bG cj.xs)
theorem Aj (n:Nat)(h5:LI)(h6:Int)(h7:LI)(h8 h9:Int):kY (n+1) h5 h6 h7 h8 h9=mv h5 h6 h7 h8 h9 (kY n) some:=by kernel_rfl
def ig {R:Type}(h17:LI)(h18 h19:Int)(h20:LI)(h21 h22:Int)(next:LI→Int→Int→LI→Int→Int→Option R)(out:ao bV.xs→Option R):Option R:=bif decide (h19<h22) then bif decide (h21≠0) then bif decide (0≤i64.wrap (h18+i64.wrap (h19.tmod h21)))&&decide (i64.wrap (h18+i64.wrap (h19.tmod h21))<(↑h17.length:Int)) then bif decide (h17.length+1≤4294967296) then next (h17++[h17.getD (i64.wrap (h18+i64.wrap (h19.tmod h21))).toNat 0]) (h18) (i64.wrap (h19+1)) (h20) (h21) (h22) else none else none else none else out (.ret ((),((h17,()),())))
def j3 (n:Nat)(h17:LI)(h18 h19:Int)(h20:LI)(h21 h22:Int):Option (ao bV.xs):=ik tt o7 dr gp 0 Tryz.f113 (cb Tryz.f113 1) n (bV.st.mk' ((h17,(h18,(h19,()))),((h20,(h21,(h22,()))),()))) (bG bV.xs)
theorem ox (n:Nat)(h17:LI)(h18 h19:Int)(h20:LI)(h21 h22:Int):j3 (n+1) h17 h18 h19 h20 h21 h22=ig h17 h18 h19 h20 h21 h22 (j3 n) some:=by kernel_rfl
theorem tA (lit:LI)(u v:Int)(hl:lit.length≤maxLen):∀(k i:Nat) (out:LI),lit.length<i+k→i≤lit.length→out.length+(lit.length - i)≤4294967296→
  kY k out i lit u v=some (.ret ((),((out++lit.drop i,()),()))):=by
 intro k
 induction k with
 |zero=>intro i out h;omega
 |succ k ih=>
  intro i out h1 h2 h3
  rw[Aj]
  unfold mv
  by_cases hi:i<lit.length
  ·refine bT (by simpa using hi) ?_
   refine bT (by simpa using hi) ?_
   refine bT (by simp;omega) ?_
   have e:lit.getD (i:Int).toNat 0=lit[i]:=by rw[zG,aF hi]
   rw[e,aQ hi hl]
   refine (ih (i+1) _ (by omega) (by omega) (by simp;omega)).trans ?_
   rw[zK,zE hi]
   rfl
  ·refine bF (by simp;omega) ?_
   rw[zI (by omega),List.append_nil]
def Rep (L d:Nat)(out:LI):Prop:=∀q,L≤q→q<out.length→out.getD q 0=out.getD (q - d) 0
theorem Rep.mod {L d:Nat}{out:LI}(h:Rep L d out)(h1:1≤d)(h2:d≤L):∀i,L - d+i<out.length→out.getD (L - d+i) 0=out.getD (L - d+i % d) 0:=by
 intro i
 induction i using Nat.strongRecOn with
 |ind i ih=>
  intro hi
  by_cases hd:i<d
  ·rw[Nat.mod_eq_of_lt hd]
  ·rw[h (L - d+i) (by omega) hi,show L - d+i - d=L - d+(i - d) by omega,ih (i - d) (by omega) (by omega),Nat.mod_eq_sub_mod (by omega:i ≥ d)]
theorem rY {out:LI}{x:Int}{q:Nat}(h:q<out.length):(out++[x]).getD q 0=out.getD q 0:=by
 rw[List.getD_eq_getElem?_getD,List.getD_eq_getElem?_getD,List.getElem?_append_left h]
theorem Rep.snoc {L d:Nat}{out:LI}(h:Rep L d out)(h1:1≤d)(h2:L≤out.length)(h3:d≤L):Rep L d (out++[out.getD (out.length - d) 0]):=by
 intro q g1 g2
 rw[zH,List.length_singleton] at g2
 by_cases hq:q<out.length
 ·rw[rY hq,rY (by omega),h q g1 hq]
 ·have:q=out.length:=by omega
  subst this
  rw[rY (q:=out.length - d) (by omega)]
  rw[List.getD_eq_getElem?_getD,List.getElem?_append_right (Nat.le_refl _),Nat.sub_self]
  rfl
theorem so (lit:LI){L d:Nat}(h1:1≤d)(h2:d≤L):∀(m k i:Nat) (out:LI),m<k→out.length=L+i→Rep L d out→out.length+m≤4294967296→
  j3 k out ((L - d:Nat):Int) i lit d ((i+m:Nat):Int)=some (.ret ((),((fx d m out,()),()))):=by
 intro m
 induction m with
 |zero=>
  intro k i out g1 g2 g3 g4
  obtain ⟨k,rfl⟩:∃j,k=j+1:=⟨k - 1,by omega⟩
  rw[ox]
  unfold ig
  refine bF (by simp) ?_
  rfl
 |succ m ih=>
  intro k i out g1 g2 g3 g4
  obtain ⟨k,rfl⟩:∃j,k=j+1:=⟨k - 1,by omega⟩
  rw[ox]
  unfold ig
  have hm:i % d<d:=Nat.mod_lt _ (by omega)
  have e1:i64.wrap ((i:Int).tmod (d:Int))=((i % d:Nat):Int):=by
   rw[Int.tmod_eq_emod_of_nonneg (by omega)]
   exact (af (by omega) (by omega)).trans (by omega)
  have e2:i64.wrap (((L - d:Nat):Int)+((i % d:Nat):Int))=((L - d+i % d:Nat):Int):=(af (by omega) (by omega)).trans (by omega)
  rw[e1,e2,af (n:=(i:Int)+1) (by omega) (by omega),zG]
  refine bT (by simp;omega) ?_
  refine bT (by simp;omega) ?_
  refine bT (by simp only[zA,zB];omega) ?_
  refine bT (by simp;omega) ?_
  have e3:out.getD (L - d+i % d) 0=out.getD (out.length - d) 0:=by
   rw[← g3.mod h1 h2 i (by omega),show out.length - d=L - d+i by omega]
  rw[e3]
  have:=ih k (i+1) (out++[out.getD (out.length - d) 0]) (by omega) (by simp;omega) (g3.snoc h1 (by omega) h2) (by simp;omega)
  rw[show ((i+1+m:Nat):Int)=((i+(m+1):Nat):Int) by omega] at this
  exact this
theorem JX (lit:LI)(d len:Int):fT (lit,d,len,()) = !(sX (lit,d,len,()) || kd (lit,d,len,())):=by
 have e:fT (lit,d,len,())=if jp (lit,d,len,())=true then decide (0<lit.length) || (decide (d<1) || (decide (4096<d) || (decide (len<4) || decide (131<len)))) else decide (lit.length<1) || decide (128<lit.length):=rfl
 have e2:jp (lit,d,len,())=if d≠0 then true else decide (len≠0):=rfl
 have e3:sX (lit,d,len,())=if d=0∧len=0∧0<lit.length∧lit.length≤128 then true else false:=rfl
 have e4:kd (lit,d,len,())=if lit.length=0∧1≤d∧d≤4096∧4≤len∧len≤131 then true else false:=rfl
 have h1:jp (lit,d,len,())=true↔(d≠0∨len≠0):=by
  rw[e2]
  by_cases h:d=0
  ·rw[if_neg (aC h)];simp[h]
  ·rw[if_pos h];simp[h]
 cases hl:sX (lit,d,len,()) with
 |true=>
  rw[e3] at hl
  split at hl
  ·rename_i h
   rw[e,if_neg (by rw[h1];omega),decide_eq_false (show ¬ lit.length<1 by omega),decide_eq_false (show ¬ 128<lit.length by omega)]
   rfl
  ·cases hl
 |false=>
  rw[e3] at hl
  split at hl
  ·cases hl
  ·rename_i hn
   cases hc:kd (lit,d,len,()) with
   |true=>
    rw[e4] at hc
    split at hc
    ·rename_i h
     rw[e,if_pos (by rw[h1];omega),decide_eq_false (show ¬ 0<lit.length by omega),decide_eq_false (show ¬ d<1 by omega),decide_eq_false (show ¬ 4096<d by omega),decide_eq_false (show ¬ len<4 by omega),decide_eq_false (show ¬ 131<len by omega)]
     rfl
    ·cases hc
   |false=>
    rw[e4] at hc
    split at hc
    ·cases hc
    ·rename_i hm
     rw[e]
     split
     ·rename_i h;rw[h1] at h
      simp only[Bool.or_false,Bool.not_false,Bool.or_eq_true,zB];omega
     ·rename_i h;rw[h1] at h
      simp only[Bool.or_false,Bool.not_false,Bool.or_eq_true,zB];omega
def pN (a0 a1:LI)(a2 a3 a4:Int):Option fv.Res:=bif sX (a1,a2,a3,()) then bif decide (i64.wrap (a4 - (↑a0.length:Int))<(↑a1.length:Int)) then oR (([],4,()),()) else (gy ((a0,(0,())),((a1,(a2,(a3,()))),()))).run fun y=>match y with | .ret ((),((x16,()),()))=>(oR ((x16,0,()),())) else bif !kd (a1,a2,a3,()) then oR (([],50,()),()) else bif decide ((↑a0.length:Int)<a2) then oR (([],50,()),()) else bif decide (i64.wrap (a4 - (↑a0.length:Int))<a3) then oR (([],4,()),()) else (fI ((a0,(i64.wrap ((↑a0.length:Int) - a2),(0,()))),((a1,(a2,(a3,()))),()))).run fun y=>match y with | .ret ((),((x30,()),()))=>(oR ((x30,0,()),()))
theorem B8 (a0 a1:LI)(a2 a3 a4:Int):Io.run tt o7 dr gp fv Tryz.f113 ((a0,(a1,a2,a3,()),a4,()),())=pN a0 a1 a2 a3 a4:=by kernel_rfl
theorem kO:HcsOk prog uG:=.cons LK (.cons Ey .nil)
theorem Fu:HcOk prog 113 (ah fv rn):=by
 refine bK kO (lp:=gp) (fn:=Tryz.f113) fv (.step (h0:=aD cj gy) (by kernel_rfl) (iK kO (lp:=gp) (fn:=Tryz.f113) (.done (by kernel_rfl)) cj gy ?_) (.step (h0:=aD bV fI) (by kernel_rfl) (iK kO (lp:=gp) (fn:=Tryz.f113) (.done (by kernel_rfl)) bV fI ?_) (.done (by kernel_rfl)))) rn ?_
 ·rintro ⟨⟨(out:LI),(i:Int),⟨⟩⟩,⟨⟨(lit:LI),(u:Int),(v:Int),⟨⟩⟩,⟨⟩⟩⟩ y hw hy
  obtain ⟨hg,hy⟩:=Tr.guard hy
  simp only[zA,zB] at hg
  obtain ⟨h1,h2⟩:=hg
  have h1:i=0:=h1
  have h2:out.length+lit.length≤4294967296:=h2
  subst h1
  refine ⟨lit.length+1,(tA lit u v hw.2.1.1.1 (lit.length+1) 0 out (by omega) (by omega) (by omega)).trans ?_⟩
  rw[← hy];rfl
 ·rintro ⟨⟨(out:LI),(f:Int),(i:Int),⟨⟩⟩,⟨⟨(lit:LI),(d:Int),(len:Int),⟨⟩⟩,⟨⟩⟩⟩ y hw hy
  obtain ⟨hg,hy⟩:=Tr.guard hy
  simp only[zA,zB] at hg
  obtain ⟨h1,⟨h2,h3⟩,⟨h4,h5⟩,h6⟩:=hg
  have h1:i=0:=h1
  have h2:f=(out.length:Int) - d:=h2
  have h3:0≤len:=h3
  have h4:1≤d:=h4
  have h5:d≤(out.length:Int):=h5
  have h6:(out.length:Int)+len≤4294967296:=h6
  subst h1
  obtain ⟨d,rfl⟩:=aq (show 0≤d by omega)
  obtain ⟨n,rfl⟩:=aq h3
  have e:f=((out.length - d:Nat):Int):=by omega
  subst e
  have:=so lit (L:=out.length) (d:=d) (by omega) (by omega) n (n+1) 0 out (by omega) rfl (fun q g1 g2=>by omega) (by omega)
  rw[Nat.zero_add] at this
  refine ⟨n+1,this.trans ?_⟩
  rw[← hy];rfl
 ·rintro ⟨⟨(out:LI),⟨(lit:LI),(d:Int),(len:Int),⟨⟩⟩,(m:Int),⟨⟩⟩,⟨⟩⟩ o hw ho
  obtain ⟨hg,ho⟩:=Tr.guard ho
  simp only[zA,zB] at hg
  obtain ⟨h1,h2,h0,h3⟩:=hg
  have h1:out.length≤4294960000:=h1
  have h2:lit.length≤4294960000:=h2
  have h0:(0:Int)≤m:=h0
  have h3:m≤(32768:Int):=h3
  cases ho
  refine (B8 out lit d len m).trans ?_
  show _=oR (((aS out (lit,d,len,()) m).1,(aS out (lit,d,len,()) m).2,()),())
  have hi:=JX lit d len
  unfold pN aS
  cases hl:sX (lit,d,len,()) with
  |true=>
   rw[hl] at hi
   have hi:fT (lit,d,len,())=false:=hi
   have e3:sX (lit,d,len,())=if d=0∧len=0∧0<lit.length∧lit.length≤128 then true else false:=rfl
   rw[e3] at hl
   have hl:d=0∧len=0∧0<lit.length∧lit.length≤128:=by split at hl;assumption;cases hl
   obtain ⟨rfl,rfl,l3,l4⟩:=hl
   refine (aa rfl _ _).trans ?_
   rw[if_neg (by rintro (h | h);rw[hi] at h;cases h;have h:(out.length:Int)<0:=h;omega)]
   rw[af (n:=m - (out.length:Int)) (by omega) (by omega)]
   by_cases h5:m<(out.length:Int)+(lit.length:Int)+0
   ·refine bT (decide_eq_true (by omega)) ?_
    rw[if_pos h5]
   ·refine bF (decide_eq_false (by omega)) ?_
    rw[if_neg h5]
    have e:gy ((out,(0,())),((lit,((0:Int),((0:Int),()))),()))=.ite true (.ret (.ret ((),((out++lit,()),())))) .no:=congrArg (fun c=>Tr.ite c _ _) (show (decide ((0:Int)=0)&&decide (out.length+lit.length≤4294967296))=true by simp only[zA,zB];exact ⟨trivial,by omega⟩)
    rw[e]
    rfl
  |false=>
   refine (ac rfl _ _).trans ?_
   cases hc:kd (lit,d,len,()) with
   |false=>
    rw[hl,hc] at hi
    have hi:fT (lit,d,len,())=true:=hi
    refine (aa rfl _ _).trans ?_
    rw[if_pos (.inl hi)]
   |true=>
    rw[hl,hc] at hi
    have hi:fT (lit,d,len,())=false:=hi
    have e4:kd (lit,d,len,())=if lit.length=0∧1≤d∧d≤4096∧4≤len∧len≤131 then true else false:=rfl
    rw[e4] at hc
    have hc:lit.length=0∧1≤d∧d≤4096∧4≤len∧len≤131:=by split at hc;assumption;cases hc
    obtain ⟨l1,l2,l3,l4,l5⟩:=hc
    have l1:lit=[]:=List.length_eq_zero_iff.1 l1
    subst l1
    refine (ac rfl _ _).trans ?_
    by_cases h4:(out.length:Int)<d
    ·refine bT (decide_eq_true h4) ?_
     rw[if_pos (.inr h4)]
    ·refine bF (decide_eq_false h4) ?_
     rw[if_neg (by rintro (h | h);rw[hi] at h;cases h;exact h4 h)]
     rw[af (n:=m - (out.length:Int)) (by omega) (by omega),af (n:=(out.length:Int) - d) (by omega) (by omega)]
     by_cases h5:m<(out.length:Int)+(([]:LI).length:Int)+len
     ·refine bT (decide_eq_true (by simp at h5;omega)) ?_
      rw[if_pos h5]
     ·refine bF (decide_eq_false (by simp at h5;omega)) ?_
      rw[if_neg h5]
      simp at h5
      have e:fI ((out,((out.length:Int) - d,(0,()))),(([],(d,(len,()))),()))=.ite true (.ret (.ret ((),((fx d.toNat len.toNat out,()),())))) .no:=congrArg (fun c=>Tr.ite c _ _) (show (decide ((0:Int)=0)&&((decide ((out.length:Int) - d=(out.length:Int) - d)&&decide ((0:Int)≤len))&&((decide ((1:Int)≤d)&&decide (d≤(out.length:Int)))&&decide ((out.length:Int)+len≤4294967296))))=true by simp only[zA,zB];exact ⟨trivial,⟨trivial,by omega⟩,⟨by omega,by omega⟩,by omega⟩)
      rw[e]
      show oR ((fx d.toNat len.toNat out,0,()),())=oR ((fx d.toNat len.toNat (out++[]),0,()),())
      rw[List.append_nil]
abbrev jS:Io:=⟨[dL,dI],[],[],[dO,dI],none⟩
def A4 (d:jS.In):Tr jS.Res:=.ite (decide (d.1.1.length≤4294960000)) (.ret (.ret (((an d.1.1 d.1.2.1).1,(an d.1.1 d.1.2.1).2,()),()))) .no
abbrev Dh:List (Nat×Hc):=[(112,ah jU A6),(114,ah fu rl),(113,ah fv rn)]
def DD:Hd:=br Dh
abbrev dz:Lo:=⟨⟨(.one (.hol (.sl 5 (Ty.int u8)))::.one hI::bO (.one (.onl 5 (Ty.int u8) 13)::.one hI::aj (aj (bt [])))),[]⟩,[(.ret,⟨(bO (.one (.onl 5 (Ty.int u8) 9)::.one hI::aj (aj (bO [])))),[]⟩),(.exit 0,⟨(bO (bt (.one (.onl 5 (Ty.int u8) 13)::.any::aj (aj (bt []))))),[]⟩)]⟩
def kE (d:dz.st.den):Tr (ao dz.xs):=
 .ite (decide (d.1.1.length≤4294960000)&&(decide (d.1.2.2.1.length≤32768)&&decide (d.1.2.2.2.1=0))) (.ite (decide ((bv (d.1.1.length+1) d.1.1 d.1.2.2.1 (ar d.1.2.1)).2=0)) (.ret (.pan (.ret ((),(((bv (d.1.1.length+1) d.1.1 d.1.2.2.1 (ar d.1.2.1)).1,()),()))))) (.ret (.ret ((),(([],(bv (d.1.1.length+1) d.1.1 d.1.2.2.1 (ar d.1.2.1)).2,()),()))))) .no
def qR:Lp:=bA [(4,aD dz kE)]
def qg {R:Type}(h2:LI)(h3:Int)(h4:LI)(h5:Int)(next:LI→Int→LI→Int→Option R)(out:ao dz.xs→Option R):Option R:=bif decide (h5<(↑h2.length:Int)) then bif decide (h2.length≤4294960000) then bif (cX h2 h5).2.2 != 0 then out (.ret ((),(([],((cX h2 h5).2.2,())),()))) else bif decide (h4.length≤4294960000)&&(decide (List.length (cX h2 h5).1.1≤4294960000)&&(decide (0≤ar h3)&&decide (ar h3≤32768))) then bif (aS h4 (cX h2 h5).1 (ar h3)).2 != 0 then out (.ret ((),(([],((aS h4 (cX h2 h5).1 (ar h3)).2,())),()))) else next (h2) (h3) ((aS h4 (cX h2 h5).1 (ar h3)).1) ((cX h2 h5).2.1) else none else none else out (.pan (.ret ((),((h4,()),()))))
def pi (n:Nat)(h2:LI)(h3:Int)(h4:LI)(h5:Int):Option (ao dz.xs):=ik tt DD dr qR 0 Tryz.f77 (cb Tryz.f77 0) n (dz.st.mk' ((h2,(h3,(h4,(h5,())))),())) (bG dz.xs)
theorem F3 (n:Nat)(h2:LI)(h3:Int)(h4:LI)(h5:Int):pi (n+1) h2 h3 h4 h5=qg h2 h3 h4 h5 (pi n) some:=by kernel_rfl
theorem za (m:Int){b:LI}(hb:∀c∈b,0≤c∧c≤255)(hl:b.length≤4294960000):∀(k p:Nat) (out:LI),p≤b.length→b.length - p<k→out.length≤32768→
  pi k b m out p=if (bv k (b.drop p) out (ar m)).2=0 then some (.pan (.ret ((),(((bv k (b.drop p) out (ar m)).1,()),())))) else some (.ret ((),(([],((bv k (b.drop p) out (ar m)).2,())),()))):=by
 intro k
 induction k with
 |zero=>intro p out h h';omega
 |succ k ih=>
  intro p out h0 h1 h3
  rw[F3]
  unfold qg
  by_cases hp:p<b.length
  ·have hne:b.drop p≠[]:=by intro h;have:=congrArg List.length h;simp at this;omega
   have hbd:∀c∈b.drop p,0≤c∧c≤255:=fun c hc=>hb c (List.mem_of_mem_drop hc)
   have e:bv (k+1) (b.drop p) out (ar m)=if (aE (b.drop p)).2.2≠0 then ([],(aE (b.drop p)).2.2) else if (aS out (aE (b.drop p)).1 (ar m)).2≠0 then ([],(aS out (aE (b.drop p)).1 (ar m)).2) else bv k ((b.drop p).drop (aE (b.drop p)).2.1.toNat) (aS out (aE (b.drop p)).1 (ar m)).1 (ar m):=by
    rw[bv,if_neg hne]
   have eR:cX b p=if (aE (b.drop p)).2.2≠0 then (dD,0,(aE (b.drop p)).2.2) else ((aE (b.drop p)).1,(p:Int)+(aE (b.drop p)).2.1,0):=by
    unfold cX
    rw[if_neg (by omega),zG]
   have hlit:=vp (b.drop p)
   rw[List.length_drop] at hlit
   have hbm:=nk m
   refine bT (by simpa using hp) ?_
   refine bT (decide_eq_true hl) ?_
   rw[e,eR]
   by_cases h4:(aE (b.drop p)).2.2=0
   ·have ho:=Av hbd h4 hne
    rw[List.length_drop] at ho
    rw[if_neg (aC h4),if_neg (aC h4)]
    refine (ac rfl _ _).trans ?_
    refine bT (by simp only[zA,zB];omega) ?_
    by_cases h5:(aS out (aE (b.drop p)).1 (ar m)).2=0
    ·have hle:=nl h5
     refine bF (by simpa using h5) ?_
     rw[if_neg (aC h5)]
     obtain ⟨n,hn⟩:=aq (show 0≤(aE (b.drop p)).2.1 by omega)
     rw[hn] at ho ⊢
     have:=ih (p+n) (aS out (aE (b.drop p)).1 (ar m)).1 (by omega) (by omega) (by omega)
     rw[List.drop_drop,zG]
     exact this
    ·refine bT (by simpa using h5) ?_
     rw[if_pos h5,if_neg h5]
   ·rw[if_pos h4,if_pos h4]
    refine bT (by simpa using h4) ?_
    rw[if_neg h4]
  ·refine bF (by simp;omega) ?_
   rw[zI (by omega)]
   rfl
def un (a0:LI)(a1:Int):Option jS.Res:=(kE ((a0,(a1,([],(0,())))),())).run fun y=>match y with | .ret ((),((x15,x16,()),()))=>(oR ((x15,x16,()),())) | .pan (.ret ((),((x17,()),())))=>(oR ((x17,0,()),()))
theorem Jz (a0:LI)(a1:Int):Io.run tt DD dr qR jS Tryz.f77 ((a0,a1,()),())=un a0 a1:=by kernel_rfl
theorem uQ:HcsOk prog Dh:=.cons LL (.cons Ft (.cons Fu .nil))
theorem LJ:HcOk prog 77 (ah jS A4):=by
 refine bK uQ (lp:=qR) (fn:=Tryz.f77) jS (.step (h0:=aD dz kE) (by kernel_rfl) (iK uQ (lp:=qR) (fn:=Tryz.f77) (.done (by kernel_rfl)) dz kE ?_) (.done (by kernel_rfl))) A4 ?_
 ·rintro ⟨⟨(b:LI),(m:Int),(out:LI),(p:Int),⟨⟩⟩,⟨⟩⟩ y hw hy
  obtain ⟨hg,hy⟩:=Tr.guard hy
  simp only[zA,zB] at hg
  obtain ⟨h1,h2,h3⟩:=hg
  have h3:p=0:=h3
  subst h3
  refine ⟨b.length+1,(za m (dj hw.1.1) h1 (b.length+1) 0 out (Nat.zero_le _) (show b.length - 0<b.length+1 by omega) h2).trans ?_⟩
  rw[← hy]
  simp only[Tr.val_ite,zB,Tr.val_ret,List.drop_zero]
 ·rintro ⟨⟨(b:LI),(m:Int),⟨⟩⟩,⟨⟩⟩ o hw ho
  obtain ⟨hg,ho⟩:=Tr.guard ho
  have hg:b.length≤4294960000:=of_decide_eq_true hg
  cases ho
  refine (Jz b m).trans ?_
  show _=oR (((an b m).1,(an b m).2,()),())
  unfold un kE
  rw[fS]
  refine bT (by simp only[zA,zB];exact ⟨hg,by simp,trivial⟩) ?_
  by_cases h:(bv (b.length+1) b [] (ar m)).2=0
  ·refine bT (decide_eq_true h) ?_
   rw[h]
   rfl
  ·refine bF (decide_eq_false h) ?_
   rw[gZ _ _ _ _ h]
   rfl
abbrev Lg:Io:=gQ
abbrev jJ:Io:=⟨[dL,dI],[],[],[dO,dI],none⟩
def AR (d:jJ.In):Tr jJ.Res:=.ite (decide ((d.1.2.1:Int)=(32768:Int))&&decide (d.1.1.length≤4294960000)) (.ret (.ret (((aX d.1.1).1,(aX d.1.1).2,()),()))) .no
abbrev C3:List (Nat×Hc):=[(99,ah kQ CB),(100,ah jQ AY)]
def KU:Hd:=br C3
def DY:Lp:=bA []
def t8 (a0:LI)(a1:Int):Option jJ.Res:=bif (ab 10 1 a0 0).2.2 != 0 then oR (([],(ab 10 1 a0 0).2.2,()),()) else bif decide (ak (ab 10 1 a0 0).1<0) then oR (([],5,()),()) else bif decide (dg a1 0<ak (ab 10 1 a0 0).1) then oR (([],4,()),()) else bif decide (32768<ak (ab 10 1 a0 0).1) then oR (([],4,()),()) else bif decide (0≤(ab 10 1 a0 0).2.1)&&(decide ((ab 10 1 a0 0).2.1≤(↑a0.length:Int))&&decide ((↑a0.length:Int)≤(↑a0.length:Int))) then bif decide ((List.drop (ab 10 1 a0 0).2.1.toNat (List.take (↑a0.length:Int).toNat a0)).length≤4294960000) then bif (an (List.drop (ab 10 1 a0 0).2.1.toNat (List.take (↑a0.length:Int).toNat a0)) (ak (ab 10 1 a0 0).1)).2 == 4 then bif (an (List.drop (ab 10 1 a0 0).2.1.toNat (List.take (↑a0.length:Int).toNat a0)) (ak (ab 10 1 a0 0).1)).2 == 4 then oR (([],60,()),()) else bif (an (List.drop (ab 10 1 a0 0).2.1.toNat (List.take (↑a0.length:Int).toNat a0)) (ak (ab 10 1 a0 0).1)).2 != 0 then oR (([],(an (List.drop (ab 10 1 a0 0).2.1.toNat (List.take (↑a0.length:Int).toNat a0)) (ak (ab 10 1 a0 0).1)).2,()),()) else oR (((an (List.drop (ab 10 1 a0 0).2.1.toNat (List.take (↑a0.length:Int).toNat a0)) (ak (ab 10 1 a0 0).1)).1,0,()),()) else bif (an (List.drop (ab 10 1 a0 0).2.1.toNat (List.take (↑a0.length:Int).toNat a0)) (ak (ab 10 1 a0 0).1)).2 == 0 then bif decide ((↑(an (List.drop (ab 10 1 a0 0).2.1.toNat (List.take (↑a0.length:Int).toNat a0)) (ak (ab 10 1 a0 0).1)).1.length:Int)<ak (ab 10 1 a0 0).1) then oR (([],60,()),()) else bif (an (List.drop (ab 10 1 a0 0).2.1.toNat (List.take (↑a0.length:Int).toNat a0)) (ak (ab 10 1 a0 0).1)).2 != 0 then oR (([],(an (List.drop (ab 10 1 a0 0).2.1.toNat (List.take (↑a0.length:Int).toNat a0)) (ak (ab 10 1 a0 0).1)).2,()),()) else oR (((an (List.drop (ab 10 1 a0 0).2.1.toNat (List.take (↑a0.length:Int).toNat a0)) (ak (ab 10 1 a0 0).1)).1,0,()),()) else bif (an (List.drop (ab 10 1 a0 0).2.1.toNat (List.take (↑a0.length:Int).toNat a0)) (ak (ab 10 1 a0 0).1)).2 != 0 then oR (([],(an (List.drop (ab 10 1 a0 0).2.1.toNat (List.take (↑a0.length:Int).toNat a0)) (ak (ab 10 1 a0 0).1)).2,()),()) else oR (((an (List.drop (ab 10 1 a0 0).2.1.toNat (List.take (↑a0.length:Int).toNat a0)) (ak (ab 10 1 a0 0).1)).1,0,()),()) else none else none
theorem Jk (a0:LI)(a1:Int):Io.run tt KU dr DY jJ Tryz.f70 ((a0,a1,()),())=t8 a0 a1:=by kernel_rfl
theorem Ly:HcOk prog 70 (ah jJ AR):=by
 refine bK (cs:=C3) (.cons IQ (.cons LG .nil)) (lp:=DY) (fn:=Tryz.f70) jJ (.done (by kernel_rfl)) AR ?_
 rintro ⟨⟨(b:LI),(most:Int),⟨⟩⟩,⟨⟩⟩ o hw ho
 obtain ⟨hg,ho⟩:=Tr.guard ho
 simp only[zA,zB] at hg
 obtain ⟨h0,hl⟩:=hg
 have h0:most=32768:=h0
 have hl:b.length≤4294960000:=hl
 subst h0
 cases ho
 refine (Jk b 32768).trans ?_
 show _=oR (((aX b).1,(aX b).2,()),())
 unfold t8 aX
 have hk:=@sW 10 1 b 0
 generalize hge:ab 10 1 b 0=g at *
 obtain ⟨u,q,e⟩:=g
 simp only at hk ⊢
 by_cases h1:e=0
 rotate_left
 ·refine bT (by simpa using h1) ?_
  rw[if_pos h1]
 subst h1
 have hk:=hk rfl
 obtain ⟨q,rfl⟩:=aq (show 0≤q by omega)
 refine (ac rfl _ _).trans ?_
 rw[if_neg (aC rfl)]
 generalize ak u=n
 by_cases h2:n<0
 ·refine bT (decide_eq_true h2) ?_
  rw[if_pos h2]
 refine bF (decide_eq_false h2) ?_
 rw[if_neg h2]
 by_cases h3:32768<n
 ·refine bT (decide_eq_true (show dg 32768 0<n from h3)) ?_
  rw[if_pos h3]
 refine bF (decide_eq_false (show ¬ dg 32768 0<n from h3)) ?_
 refine bF (decide_eq_false h3) ?_
 rw[if_neg h3]
 have hx:=fS (b.drop q) n
 rw[zG,zG,List.take_length]
 refine bT (by simp only[zA,zB];omega) ?_
 refine bT (decide_eq_true (by simp;omega)) ?_
 have hx1:(an (b.drop q) n).2≠0→(an (b.drop q) n).1=[]:=by rw[hx];exact gZ _ _ _ _
 clear hx
 generalize an (b.drop q) n=x at *
 obtain ⟨o,f⟩:=x
 simp only at hx1 ⊢
 by_cases h4:f=4
 ·subst h4
  refine (aa rfl _ _).trans ?_
  rw[if_pos (.inl rfl)]
  all_goals rfl
 refine bF (by simpa using h4) ?_
 by_cases h5:f=0
 ·subst h5
  refine (aa rfl _ _).trans ?_
  by_cases h6:(o.length:Int)<n
  ·refine bT (decide_eq_true h6) ?_
   rw[if_pos (.inr ⟨rfl,h6⟩)]
  ·refine bF (decide_eq_false h6) ?_
   rw[if_neg (by rintro (h | h);cases h;exact h6 h.2),if_neg (aC rfl)]
   all_goals rfl
 ·refine bF (by simpa using h5) ?_
  rw[if_neg (by rintro (h | h);exact h4 h;exact h5 h.1),if_pos h5]
  exact aa (by simpa using h5) _ _
abbrev jL:Io:=⟨[dL,dI],[],[],[dO,dI],none⟩
def AU (d:jL.In):Tr jL.Res:=.ite (decide ((d.1.2.1:Int)=(32768:Int))&&decide (d.1.1.length≤4294960000)) (.ret (.ret (((aX d.1.1).1,(aX d.1.1).2,()),()))) .no
abbrev C4:List (Nat×Hc):=[(76,ah Lg vI),(77,ah jS A4)]
def KV:Hd:=br C4
def DZ:Lp:=bA []
def ua (a0:LI)(a1:Int):Option jL.Res:=bif (ab 10 1 a0 0).2.2 != 0 then oR (([],(ab 10 1 a0 0).2.2,()),()) else bif decide (ak (ab 10 1 a0 0).1<0) then oR (([],5,()),()) else bif decide (32768<ak (ab 10 1 a0 0).1) then oR (([],4,()),()) else bif decide (a1<ak (ab 10 1 a0 0).1) then bif decide (0≤a1) then oR (([],4,()),()) else bif decide (0<ak (ab 10 1 a0 0).1) then oR (([],4,()),()) else bif decide (0≤(ab 10 1 a0 0).2.1)&&(decide ((ab 10 1 a0 0).2.1≤(↑a0.length:Int))&&decide ((↑a0.length:Int)≤(↑a0.length:Int))) then bif decide ((List.drop (ab 10 1 a0 0).2.1.toNat (List.take (↑a0.length:Int).toNat a0)).length≤4294960000) then bif (an (List.drop (ab 10 1 a0 0).2.1.toNat (List.take (↑a0.length:Int).toNat a0)) (ak (ab 10 1 a0 0).1)).2 == 4 then oR (([],60,()),()) else bif (an (List.drop (ab 10 1 a0 0).2.1.toNat (List.take (↑a0.length:Int).toNat a0)) (ak (ab 10 1 a0 0).1)).2 == 0 then bif decide ((↑(an (List.drop (ab 10 1 a0 0).2.1.toNat (List.take (↑a0.length:Int).toNat a0)) (ak (ab 10 1 a0 0).1)).1.length:Int)<ak (ab 10 1 a0 0).1) then oR (([],60,()),()) else bif (an (List.drop (ab 10 1 a0 0).2.1.toNat (List.take (↑a0.length:Int).toNat a0)) (ak (ab 10 1 a0 0).1)).2 != 0 then oR (([],(an (List.drop (ab 10 1 a0 0).2.1.toNat (List.take (↑a0.length:Int).toNat a0)) (ak (ab 10 1 a0 0).1)).2,()),()) else oR (((an (List.drop (ab 10 1 a0 0).2.1.toNat (List.take (↑a0.length:Int).toNat a0)) (ak (ab 10 1 a0 0).1)).1,0,()),()) else bif (an (List.drop (ab 10 1 a0 0).2.1.toNat (List.take (↑a0.length:Int).toNat a0)) (ak (ab 10 1 a0 0).1)).2 != 0 then oR (([],(an (List.drop (ab 10 1 a0 0).2.1.toNat (List.take (↑a0.length:Int).toNat a0)) (ak (ab 10 1 a0 0).1)).2,()),()) else oR (((an (List.drop (ab 10 1 a0 0).2.1.toNat (List.take (↑a0.length:Int).toNat a0)) (ak (ab 10 1 a0 0).1)).1,0,()),()) else none else none else bif decide (0≤(ab 10 1 a0 0).2.1)&&(decide ((ab 10 1 a0 0).2.1≤(↑a0.length:Int))&&decide ((↑a0.length:Int)≤(↑a0.length:Int))) then bif decide ((List.drop (ab 10 1 a0 0).2.1.toNat (List.take (↑a0.length:Int).toNat a0)).length≤4294960000) then bif (an (List.drop (ab 10 1 a0 0).2.1.toNat (List.take (↑a0.length:Int).toNat a0)) (ak (ab 10 1 a0 0).1)).2 == 4 then oR (([],60,()),()) else bif (an (List.drop (ab 10 1 a0 0).2.1.toNat (List.take (↑a0.length:Int).toNat a0)) (ak (ab 10 1 a0 0).1)).2 == 0 then bif decide ((↑(an (List.drop (ab 10 1 a0 0).2.1.toNat (List.take (↑a0.length:Int).toNat a0)) (ak (ab 10 1 a0 0).1)).1.length:Int)<ak (ab 10 1 a0 0).1) then oR (([],60,()),()) else bif (an (List.drop (ab 10 1 a0 0).2.1.toNat (List.take (↑a0.length:Int).toNat a0)) (ak (ab 10 1 a0 0).1)).2 != 0 then oR (([],(an (List.drop (ab 10 1 a0 0).2.1.toNat (List.take (↑a0.length:Int).toNat a0)) (ak (ab 10 1 a0 0).1)).2,()),()) else oR (((an (List.drop (ab 10 1 a0 0).2.1.toNat (List.take (↑a0.length:Int).toNat a0)) (ak (ab 10 1 a0 0).1)).1,0,()),()) else bif (an (List.drop (ab 10 1 a0 0).2.1.toNat (List.take (↑a0.length:Int).toNat a0)) (ak (ab 10 1 a0 0).1)).2 != 0 then oR (([],(an (List.drop (ab 10 1 a0 0).2.1.toNat (List.take (↑a0.length:Int).toNat a0)) (ak (ab 10 1 a0 0).1)).2,()),()) else oR (((an (List.drop (ab 10 1 a0 0).2.1.toNat (List.take (↑a0.length:Int).toNat a0)) (ak (ab 10 1 a0 0).1)).1,0,()),()) else none else none
theorem Jm (a0:LI)(a1:Int):Io.run tt KV dr DZ jL Tryz.f40 ((a0,a1,()),())=ua a0 a1:=by kernel_rfl
theorem Lz:HcOk prog 40 (ah jL AU):=by
 refine bK (cs:=C4) (.cons Es (.cons LJ .nil)) (lp:=DZ) (fn:=Tryz.f40) jL (.done (by kernel_rfl)) AU ?_
 rintro ⟨⟨(b:LI),(most:Int),⟨⟩⟩,⟨⟩⟩ o hw ho
 obtain ⟨hg,ho⟩:=Tr.guard ho
 simp only[zA,zB] at hg
 obtain ⟨h0,hl⟩:=hg
 have h0:most=32768:=h0
 have hl:b.length≤4294960000:=hl
 subst h0
 cases ho
 refine (Jm b 32768).trans ?_
 show _=oR (((aX b).1,(aX b).2,()),())
 unfold ua aX
 have hk:=@sW 10 1 b 0
 generalize hge:ab 10 1 b 0=g at *
 obtain ⟨u,q,e⟩:=g
 simp only at hk ⊢
 by_cases h1:e=0
 rotate_left
 ·refine bT (by simpa using h1) ?_
  rw[if_pos h1]
 subst h1
 have hk:=hk rfl
 obtain ⟨q,rfl⟩:=aq (show 0≤q by omega)
 refine (ac rfl _ _).trans ?_
 rw[if_neg (aC rfl)]
 generalize ak u=n
 by_cases h2:n<0
 ·refine bT (decide_eq_true h2) ?_
  rw[if_pos h2]
 refine bF (decide_eq_false h2) ?_
 rw[if_neg h2]
 by_cases h3:32768<n
 ·refine bT (decide_eq_true h3) ?_
  rw[if_pos h3]
 refine bF (decide_eq_false h3) ?_
 refine bF (decide_eq_false h3) ?_
 rw[if_neg h3]
 have hx:=fS (b.drop q) n
 rw[zG,zG,List.take_length]
 refine bT (by simp only[zA,zB];omega) ?_
 refine bT (decide_eq_true (by simp;omega)) ?_
 have hx1:(an (b.drop q) n).2≠0→(an (b.drop q) n).1=[]:=by rw[hx];exact gZ _ _ _ _
 clear hx
 generalize an (b.drop q) n=x at *
 obtain ⟨o,f⟩:=x
 simp only at hx1 ⊢
 by_cases h4:f=4
 ·subst h4
  refine (aa rfl _ _).trans ?_
  rw[if_pos (.inl rfl)]
  all_goals rfl
 refine bF (by simpa using h4) ?_
 by_cases h5:f=0
 ·subst h5
  refine (aa rfl _ _).trans ?_
  by_cases h6:(o.length:Int)<n
  ·refine bT (decide_eq_true h6) ?_
   rw[if_pos (.inr ⟨rfl,h6⟩)]
  ·refine bF (decide_eq_false h6) ?_
   rw[if_neg (by rintro (h | h);cases h;exact h6 h.2),if_neg (aC rfl)]
   all_goals rfl
 ·refine bF (by simpa using h5) ?_
  rw[if_neg (by rintro (h | h);exact h4 h;exact h5 h.1),if_pos h5]
  exact aa (by simpa using h5) _ _
abbrev ba:Ty:=.prod (.int .i64) (.prod vq (.prod vq (.prod Cq .unit)))
abbrev MO:Ty:=.sl 49 ba
abbrev O3:Ty:=.prod (.int .i64) (.prod (.int .i32) (.prod (.int .i64) (.prod (.int .i16) (.prod (.int .i32) (.prod MO .unit)))))
abbrev OF:Ty:=.prod (.int .i64) (.prod (.int .i64) (.prod (.int .i32) (.prod .bool (.prod (.int .i64) (.prod (.int .i64) (.prod (.int .i64) (.prod (.int .i64) (.prod (.int .i16) (.prod (.int .i32) .unit)))))))))
abbrev bu:Type:=Int×xw×xw×List cx×Unit
abbrev fZ:Type:=Int×Int×Int×Int×Int×List bu×Unit
abbrev tL:Type:=Int×Int×Int×Bool×Int×Int×Int×Int×Int×Int×Unit
abbrev MT:Sh:=.dat ba true false
abbrev yx:Sh:=.dat MO false false
abbrev yw:Sh:=.dat O3 true false
abbrev Hq:Sh:=.dat OF true false
def qZ:fZ:=(0,0,0,0,0,[],())
def bc:tL:=(0,0,0,false,0,0,0,0,0,0,())
def q3:bu:=(0,(false,[],()),(false,[],()),[],())
def aK (base:Int):Bool:=decide (base<0) || decide (4611686018427387648<base)
def aL (pid ep sq:Int):Bool:=if pid = -1∧ep = -1∧sq = -1∨0≤pid∧0≤ep∧0≤sq then false else true
def aG (n:Int):Bool:=if -9223372036854775808≤n∧n≤9223372036854775807 then true else false
def aN (rs:List bu):Int:=match rs with
 |[]=>0
 |r::_=>r.1
def ge (f:Int)(i:Nat)(r:bu):l8:=(r.1 - f,(i:Int),r.2.1,r.2.2.1,r.2.2.2.1,())
def bW (f:Int):List bu→Nat→LI→LI×Int
 |[],_,out=>(out,0)
 |r::rs,i,out=>
  if aG (r.1 - f)=false then ([],86)
  else if bM (ge f i r)≠0 then ([],bM (ge f i r))
  else bW f rs (i+1) (out++(cE (ge f i r)).1)
def bB (rs:List bu):LI×Int:=
 if (bW (aN rs) rs 0 []).2≠0 then ([],(bW (aN rs) rs 0 []).2)
 else if 32768<((bW (aN rs) rs 0 []).1.length:Int) then ([],4)
 else ((bW (aN rs) rs 0 []).1,0)
def aP (b:fZ):Int:=
 if aK b.1=true then 80
 else if aL b.2.2.1 b.2.2.2.1 b.2.2.2.2.1=true then 84
 else if b.2.2.2.2.2.1=[] then 85
 else if 256<(b.2.2.2.2.2.1.length:Int) then 9
 else (bB b.2.2.2.2.2.1).2
def dF (b:fZ):LI×Int:=if aP b≠0 then ([],aP b) else ((bB b.2.2.2.2.2.1).1,0)
def df:List bu→Int→Int
 |[],t=>t
 |r::rs,t=>df rs (dg t r.1)
def fb (rs:List bu):Int:=match rs with
 |[]=>-9223372036854775808
 |r::rs=>df rs r.1
def cm (b:fZ)(attrs:Int)(blk:LI):LI:=
 ay attrs 2++(ay ((b.2.2.2.2.2.1.length:Int) - 1) 4++(ay (aN b.2.2.2.2.2.1) 8++(ay (fb b.2.2.2.2.2.1) 8++(ay b.2.2.1 8++(ay b.2.2.2.1 2++(ay b.2.2.2.2.1 4++(ay (b.2.2.2.2.2.1.length:Int) 4++blk)))))))
def sU (b:fZ)(attrs:Int)(blk:LI):LI:=
 ay b.1 8++(ay (49+(blk.length:Int)) 4++(ay b.2.1 4++([2]++(ay (cC 0 (cm b attrs blk)) 4++cm b attrs blk))))
def kf (b:fZ):LI×Int:=if aP b≠0 then ([],aP b) else (sU b 0 (bB b.2.2.2.2.2.1).1,0)
def ap (b:LI)(p n:Nat):Int:=bY ((b.drop p).take n)
def aA (b:LI)(p:Int):Int×Int:=
 if p<0∨(b.length:Int)<p then (0,3)
 else if (b.length:Int) - p<12 then (0,1)
 else if ap b (p.toNat+8) 4<49 then (0,5)
 else if 35988<ap b (p.toNat+8) 4 then (0,4)
 else if (b.length:Int) - p - 12<ap b (p.toNat+8) 4 then (0,1)
 else (ap b (p.toNat+8) 4+12,0)
def gg (b:LI):Bool:=if (b.drop 17).take 4=ay (cC 0 (b.drop 21)) 4 then true else false
def hM (b:LI):tL:=(ap b 0 8,(b.length:Int),ap b 12 4,decide (b.getD 22 0=1),ap b 57 4,ap b 27 8,ap b 35 8,ap b 43 8,ap b 51 2,ap b 53 4,())
def aJ (b:LI)(summing:Bool):Int:=
 if (b.length:Int)<61 then 1
 else if (aA b 0).2≠0 then (aA b 0).2
 else if (aA b 0).1<(b.length:Int) then 2
 else if b.getD 16 0≠2 then 81
 else if summing=true∧gg b=false then 82
 else if aK (ap b 0 8)=true then 80
 else if b.getD 21 0≠0∨1<b.getD 22 0 then 83
 else if aL (ap b 43 8) (ap b 51 2) (ap b 53 4)=true then 84
 else if ap b 57 4<1 then 85
 else if 256<ap b 57 4 then 9
 else if ap b 23 4≠ap b 57 4 - 1 then 72
 else 0
def ai (b:LI)(summing:Bool):tL×Int:=if aJ b summing≠0 then (bc,aJ b summing) else (hM b,0)
def aI (blk:LI)(f:Int):Nat→Nat→Int→List bu→List bu×Int×Int
 |0,_,p,out=>(out,p,0)
 |n+1,i,p,out=>
  if (am blk p).2.2≠0 then ([],0,(am blk p).2.2)
  else if (am blk p).1.2.1≠(i:Int) then ([],0,72)
  else if i=0∧(am blk p).1.1≠0∨aG (f+(am blk p).1.1)=false then ([],0,86)
  else aI blk f n (i+1) (am blk p).2.1 (out++[(f+(am blk p).1.1,(am blk p).1.2.2.1,(am blk p).1.2.2.2.1,(am blk p).1.2.2.2.2.1,())])
def cF (blk:LI)(f l:Int)(n:Nat):List bu×Int:=
 if (aI blk f n 0 0 []).2.2≠0 then ([],(aI blk f n 0 0 []).2.2)
 else if (aI blk f n 0 0 []).2.1<(blk.length:Int) then ([],2)
 else if fb (aI blk f n 0 0 []).1≠l then ([],86)
 else ((aI blk f n 0 0 []).1,0)
def aV (b:LI)(packed:Bool):LI×Int:=
 if packed=true then aX (b.drop 61) else if 32768<((b.drop 61).length:Int) then ([],4) else (b.drop 61,0)
def fz (b:LI):List bu×Int:=
 if aJ b true≠0 then ([],aJ b true)
 else if (aV b (decide (b.getD 22 0=1))).2≠0 then ([],(aV b (decide (b.getD 22 0=1))).2)
 else cF (aV b (decide (b.getD 22 0=1))).1 (ap b 27 8) (ap b 35 8) (ap b 57 4).toNat
def aO (b:LI):fZ×Int:=
 if (fz b).2≠0 then (qZ,(fz b).2) else ((ap b 0 8,ap b 12 4,ap b 43 8,ap b 51 2,ap b 53 4,(fz b).1,()),0)
def az (b:LI)(base epoch:Int):LI×Int:=
 if (aO b).2≠0 then ([],(aO b).2)
 else if aK base=true then ([],80)
 else (ay base 8++((b.drop 8).take 4++(ay epoch 4++b.drop 16)),0)
abbrev d8:Sh:=.dat (.int .i8) false false
abbrev sd:Io:=⟨[.ptr 0 0,d8],[Lk],[],[dI],none⟩
def Kr (d:sd.In):Tr sd.Res:=
 .ite (cI d.2.1.1 d.2.1.2.1) (.ret (.ret (((ca d.2.1.1 d.2.1.2.1 d.1.2.1 1).1,()),(((ca d.2.1.1 d.2.1.2.1 d.1.2.1 1).2,(d.2.1.2.1,())),())))) .no
abbrev MH:List (Nat×Hc):=[(87,ah cZ jh)]
def Oo:Hd:=br MH
def ML:Lp:=bA []
def CP (a0:Int)(a1:LI)(a2:Int):Option sd.Res:=bif cI a1 a2&&(decide (0≤1)&&decide (1≤8)) then oR (((ca a1 a2 (u64.wrap a0) (Int.toNat 1)).1,()),((ca a1 a2 (u64.wrap a0) (Int.toNat 1)).2,a2,()),()) else none
theorem NN (a0:Int)(a1:LI)(a2:Int):Io.run tt Oo dr ML sd Tryz.f50 (((),a0,()),(a1,a2,()),())=CP a0 a1 a2:=by kernel_rfl
theorem Oy:HcOk prog 50 (ah sd Kr):=by
 refine bK (cs:=MH) (.cons lU .nil) (lp:=ML) (fn:=Tryz.f50) sd (.done (by kernel_rfl)) Kr ?_
 rintro ⟨⟨⟨⟩,(v:Int),⟨⟩⟩,⟨⟨(b:LI),(m:Int),⟨⟩⟩,⟨⟩⟩⟩ out hw ho
 obtain ⟨hg,ho⟩:=Tr.guard ho
 have hg:cI b m=true:=hg
 cases ho
 refine (NN v b m).trans ?_
 unfold CP
 have e:ca b m (u64.wrap v) 1=ca b m v 1:=by unfold ca;rw[oy v (by decide)]
 simp[hg,e]
abbrev mT:Io:=⟨[.ptr 0 0],[MM],[],[d8,dI],none⟩
def CE (d:mT.In):Tr mT.Res:=
 .ite (cv d.2.1.1 d.2.1.2.1) (.ret (.ret ((i8.wrap (bx d.2.1.1 d.2.1.2.1 1).1,((bx d.2.1.1 d.2.1.2.1 1).2.2,())),((d.2.1.1,((bx d.2.1.1 d.2.1.2.1 1).2.1,())),())))) .no
abbrev Hg:List (Nat×Hc):=[(93,ah cr gk)]
def Na:Hd:=br Hg
def Il:Lp:=bA []
def xR (a0:LI)(a1:Int):Option mT.Res:=bif cv a0 a1&&(decide (0≤1)&&decide (1≤8)) then oR ((i8.wrap (bx a0 a1 (Int.toNat 1)).1,(bx a0 a1 (Int.toNat 1)).2.2,()),(a0,(bx a0 a1 (Int.toNat 1)).2.1,()),()) else none
theorem Mc (a0:LI)(a1:Int):Io.run tt Na dr Il mT Tryz.f67 (((),()),(a0,a1,()),())=xR a0 a1:=by kernel_rfl
theorem NA:HcOk prog 67 (ah mT CE):=by
 refine bK (cs:=Hg) (.cons j8 .nil) (lp:=Il) (fn:=Tryz.f67) mT (.done (by kernel_rfl)) CE ?_
 rintro ⟨⟨⟨⟩,⟨⟩⟩,⟨⟨(b:LI),(p:Int),⟨⟩⟩,⟨⟩⟩⟩ out hw ho
 obtain ⟨hg,ho⟩:=Tr.guard ho
 have hg:cv b p=true:=hg
 cases ho
 refine (Mc b p).trans ?_
 unfold xR
 rw[aa (by simp[hg])]
 rfl
theorem gE {n:Int}(h:bi .i64 n) : -9223372036854775808≤n∧n≤9223372036854775807:=by
 simpa [bi,IntKind.min,IntKind.max,IntKind.signed,IntKind.bits] using h
theorem wt {n:Int}(h:bi .i32 n) : -2147483648≤n∧n≤2147483647:=by
 simpa [bi,IntKind.min,IntKind.max,IntKind.signed,IntKind.bits] using h
theorem Kj {n:Int}(h1:9223372036854775807<n)(h2:n≤18446744073709551615):i64.wrap n=n - 18446744073709551616:=by
 simp[IntKind.wrap,IntKind.signed,IntKind.bits] <;> (try split) <;> omega
theorem Kk {n:Int}(h1:n < -9223372036854775808)(h2 : -18446744073709551616≤n):i64.wrap n=n+18446744073709551616:=by
 simp[IntKind.wrap,IntKind.signed,IntKind.bits] <;> (try split) <;> omega
theorem yI {n:Int}(h1 : -9223372036854775808≤n)(h2:n≤9223372036854775807):aG n=true:=by unfold aG;rw[if_pos ⟨h1,h2⟩]
theorem lG {n:Int}(h:¬(-9223372036854775808≤n∧n≤9223372036854775807)):aG n=false:=by unfold aG;rw[if_neg h]
theorem fC {n:Int}:aG n=true↔-9223372036854775808≤n∧n≤9223372036854775807:=by
 unfold aG
 split
 ·rename_i h;exact ⟨fun _=>h,fun _=>rfl⟩
 ·rename_i h;exact ⟨fun h'=>Bool.noConfusion h',fun h'=>absurd h' h⟩
theorem KJ {t f:Int}(ht:bi .i64 t)(hf:bi .i64 f):(decide (i64.wrap (t - f)<0) == decide (t<f))=aG (t - f):=by
 have h1:=gE ht
 have h2:=gE hf
 by_cases a : -9223372036854775808≤t - f
 ·by_cases b:t - f≤9223372036854775807
  ·rw[yI a b,af a b]
   by_cases c:t<f
   ·rw[decide_eq_true c,decide_eq_true (show t - f<0 by omega)];rfl
   ·rw[decide_eq_false c,decide_eq_false (show ¬ t - f<0 by omega)];rfl
  ·rw[lG (fun h=>b h.2),Kj (by omega) (by omega),decide_eq_true (show t - f - 18446744073709551616<0 by omega),decide_eq_false (show ¬ t<f by omega)];rfl
 ·rw[lG (fun h=>a h.1),Kk (by omega) (by omega),decide_eq_false (show ¬ t - f+18446744073709551616<0 by omega),decide_eq_true (show t<f by omega)];rfl
theorem KI {d f:Int}(hd:bi .i64 d)(hf:bi .i64 f):(decide (i64.wrap (f+d)<f) == decide (d<0))=aG (f+d):=by
 have h1:=gE hd
 have h2:=gE hf
 by_cases a : -9223372036854775808≤f+d
 ·by_cases b:f+d≤9223372036854775807
  ·rw[yI a b,af a b]
   by_cases c:d<0
   ·rw[decide_eq_true c,decide_eq_true (show f+d<f by omega)];rfl
   ·rw[decide_eq_false c,decide_eq_false (show ¬ f+d<f by omega)];rfl
  ·rw[lG (fun h=>b h.2),Kj (by omega) (by omega),decide_eq_true (show f+d - 18446744073709551616<f by omega),decide_eq_false (show ¬ d<0 by omega)];rfl
 ·rw[lG (fun h=>a h.1),Kk (by omega) (by omega),decide_eq_false (show ¬ f+d+18446744073709551616<f by omega),decide_eq_true (show d<0 by omega)];rfl
theorem NR:∀{l:LI},(∀c∈l,0≤c∧c≤255)→l.length=1→i8.wrap (bz l)=bY l
 |[a],h,_=>by
  have ha:=h a (by simp)
  simp only[bz,bY,List.foldl_cons,List.foldl_nil]
  simp[IntKind.wrap,IntKind.signed,IntKind.bits] <;> (try split) <;> omega
theorem EI:∀{l:LI},(∀c∈l,0≤c∧c≤255)→l.length=2→i16.wrap (bz l)=bY l
 |[a,b],h,_=>by
  have ha:=h a (by simp)
  have hb:=h b (by simp)
  simp only[bz,bY,List.foldl_cons,List.foldl_nil]
  simp[IntKind.wrap,IntKind.signed,IntKind.bits] <;> (try split) <;> omega
theorem qX:∀{l:LI},(∀c∈l,0≤c∧c≤255)→l.length=4→i32.wrap (bz l)=bY l
 |[a,b,c,d],h,_=>by
  have ha:=h a (by simp)
  have hb:=h b (by simp)
  have hc:=h c (by simp)
  have hd:=h d (by simp)
  simp only[bz,bY,List.foldl_cons,List.foldl_nil]
  simp[IntKind.wrap,IntKind.signed,IntKind.bits] <;> (try split) <;> omega
theorem Mo:∀{l:LI},(∀c∈l,0≤c∧c≤255)→l.length=8→i64.wrap (bz l)=bY l
 |[a,b,c,d,e,f,g,i],h,_=>by
  have ha:=h a (by simp)
  have hb:=h b (by simp)
  have hc:=h c (by simp)
  have hd:=h d (by simp)
  have he:=h e (by simp)
  have hf:=h f (by simp)
  have hg:=h g (by simp)
  have hi:=h i (by simp)
  simp only[bz,bY,List.foldl_cons,List.foldl_nil]
  simp[IntKind.wrap,IntKind.signed,IntKind.bits] <;> (try split) <;> omega
theorem JJ:∀{l:LI},(∀c∈l,0≤c∧c≤255)→l.length=4→-2147483648≤bY l∧bY l≤2147483647:=fun h hl=>by
 rw[← qX h hl]
 exact wt (bQ _ _)
theorem iL {b:LI}(hb:∀c∈b,0≤c∧c≤255)(p n:Nat):∀c∈(b.drop p).take n,0≤c∧c≤255:=fun c hc=>hb c (List.mem_of_mem_drop (List.mem_of_mem_take hc))
theorem fG {b:LI}{p n:Nat}(h:p+n≤b.length):((b.drop p).take n).length=n:=by simp;omega
abbrev f7:Io:=⟨[jx],[],[],[dB],none⟩
def q7 (d:f7.In):Tr f7.Res:=.ret (.ret ((aK d.1.1,()),()))
abbrev CR:List (Nat×Hc):=[]
def KL:Hd:=br CR
def DP:Lp:=bA []
def tQ (a0:Int):Option f7.Res:=bif decide (a0<0) then oR ((true,()),()) else oR ((decide (4611686018427387648<a0),()),())
theorem I6 (a0:Int):Io.run tt KL dr DP f7 Tryz.f64 ((a0,()),())=tQ a0:=by kernel_rfl
theorem wX:HcOk prog 64 (ah f7 q7):=by
 refine bK (cs:=CR) HcsOk.nil (lp:=DP) (fn:=Tryz.f64) f7 (.done (by kernel_rfl)) q7 ?_
 rintro ⟨⟨(b:Int),⟨⟩⟩,⟨⟩⟩ out hw ho
 cases ho
 refine (I6 b).trans ?_
 show _=oR ((decide (b<0) || decide (4611686018427387648<b),()),())
 unfold tQ
 by_cases h:b<0
 ·refine bT (decide_eq_true h) ?_
  rw[decide_eq_true h];rfl
 ·refine bF (decide_eq_false h) ?_
  rw[decide_eq_false h];rfl
abbrev f9:Io:=⟨[jx,OO,Bw],[],[],[dB],none⟩
def vz (d:f9.In):Tr f9.Res:=.ret (.ret ((aL d.1.1 d.1.2.1 d.1.2.2.1,()),()))
abbrev CV:List (Nat×Hc):=[]
def KP:Hd:=br CV
def DT:Lp:=bA []
def tV (a0 a1 a2:Int):Option f9.Res:=bif a0 == -1 then bif a1 == -1 then bif decide (0≤a0) then bif decide (0≤a1) then bif !a2 == -1 then oR ((!decide (0≤a2),()),()) else oR ((false,()),()) else bif !a2 == -1 then oR ((true,()),()) else oR ((false,()),()) else bif !a2 == -1 then oR ((true,()),()) else oR ((false,()),()) else bif decide (0≤a0) then bif decide (0≤a1) then oR ((!decide (0≤a2),()),()) else oR ((true,()),()) else oR ((true,()),()) else bif decide (0≤a0) then bif decide (0≤a1) then oR ((!decide (0≤a2),()),()) else oR ((true,()),()) else oR ((true,()),())
theorem Jb (a0 a1 a2:Int):Io.run tt KP dr DT f9 Tryz.f69 ((a0,a1,a2,()),())=tV a0 a1 a2:=by kernel_rfl
theorem En:HcOk prog 69 (ah f9 vz):=by
 refine bK (cs:=CV) HcsOk.nil (lp:=DT) (fn:=Tryz.f69) f9 (.done (by kernel_rfl)) vz ?_
 rintro ⟨⟨(pid:Int),(ep:Int),(sq:Int),⟨⟩⟩,⟨⟩⟩ out hw ho
 cases ho
 refine (Jb pid ep sq).trans ?_
 show _=oR (((if pid = -1∧ep = -1∧sq = -1∨0≤pid∧0≤ep∧0≤sq then false else true),()),())
 have hs:(!decide (0≤sq))=if 0≤sq then false else true:=by by_cases h:0≤sq <;> simp[h]
 have key:∀c:Prop,[Decidable c]→∀b:Bool,(b=false↔c)→some (Out.ret ((b,()),()):f9.Res)=oR (((if c then false else true),()),()):=by
  intro c _ b h
  by_cases hc:c
  ·rw[if_pos hc,h.2 hc]
  ·rw[if_neg hc]
   cases b with
   |true=>rfl
   |false=>exact absurd (h.1 rfl) hc
 unfold tV
 by_cases h1:pid = -1
 ·refine bT (by simp[h1]) ?_
  by_cases h2:ep = -1
  ·refine bT (by simp[h2]) ?_
   refine bF (decide_eq_false (by omega)) ?_
   by_cases h3:sq = -1
   ·refine bF (by simp[h3]) ?_
    exact key _ _ (by simp;omega)
   ·refine bT (by simp[h3]) ?_
    exact key _ _ (by simp;omega)
  ·refine bF (by simp[h2]) ?_
   refine bF (decide_eq_false (by omega)) ?_
   exact key _ _ (by simp;omega)
 ·refine bF (by simp[h1]) ?_
  by_cases h2:0≤pid
  ·refine bT (decide_eq_true h2) ?_
   by_cases h3:0≤ep
   ·refine bT (decide_eq_true h3) ?_
    exact key _ _ (by simp;omega)
   ·refine bF (decide_eq_false h3) ?_
    exact key _ _ (by simp;omega)
  ·refine bF (decide_eq_false h2) ?_
   exact key _ _ (by simp;omega)
abbrev gJ:Io:=⟨[jx,jx],[],[],[jx,dB],none⟩
def vx (d:gJ.In):Tr gJ.Res:=.ret (.ret ((i64.wrap (d.1.1 - d.1.2.1),aG (d.1.1 - d.1.2.1),()),()))
abbrev yf:List (Nat×Hc):=[]
def HF:Hd:=br yf
def zh:Lp:=bA []
def rz (a0 a1:Int):Option gJ.Res:=oR ((i64.wrap (a0 - a1),decide (i64.wrap (a0 - a1)<0) == decide (a0<a1),()),())
theorem Fz (a0 a1:Int):Io.run tt HF dr zh gJ Tryz.f82 ((a0,a1,()),())=rz a0 a1:=by kernel_rfl
theorem ID:HcOk prog 82 (ah gJ vx):=by
 refine bK (cs:=yf) HcsOk.nil (lp:=zh) (fn:=Tryz.f82) gJ (.done (by kernel_rfl)) vx ?_
 rintro ⟨⟨(t:Int),(f:Int),⟨⟩⟩,⟨⟩⟩ out hw ho
 cases ho
 refine (Fz t f).trans ?_
 unfold rz
 rw[KJ hw.1.1 hw.1.2.1]
def dE (f:Int):List bu→Nat→Bool
 |[],_=>true
 |r::rs,i=>pz (ge f i r)&&dE f rs (i+1)
abbrev iu:Io:=⟨[yw],[],[],[dO,dI],none⟩
def oQ (d:iu.In):Tr iu.Res:=.ite (dE (aN d.1.1.2.2.2.2.2.1) d.1.1.2.2.2.2.2.1 0) (.ret (.ret (((dF d.1.1).1,(dF d.1.1).2,()),()))) .no
abbrev CW:List (Nat×Hc):=[(64,ah f7 q7),(69,ah f9 vz),(82,ah gJ vx),(83,ah mL Gx)]
def Dy:Hd:=br CW
abbrev cO:Lo:=⟨⟨(.any::.one (.ptr 1 0)::bt (.one (.onl 5 (Ty.int u8) 9)::.any::aj (dC (bO (.one (.hol (.sl 49 ba))::.one hI::.one hI::aj (aj (dC (bt [])))))))),[none,some [hI,hJ,hI,hK,hJ,.hol (.sl 49 ba)]]⟩,[(.ret,⟨(bt (.one (.onl 5 (Ty.int u8) 5)::.one hI::.any::aj (aj (aj (aj (dC (bt []))))))),[]⟩),(.exit 1,⟨(bO (.one (.onl 5 (Ty.int u8) 9)::aj (aj (aj (aj (dC (bt []))))))),[]⟩)]⟩
def jd (d:cO.st.den):Tr (ao cO.xs):=
 .ite (decide (d.1.2.2.2.1=0)&&(decide (d.1.2.2.1=(d.1.2.1.length:Int))&&(decide (d.1.1.length=0)&&((decide (aN d.2.1.2.2.2.2.2.1=aN d.1.2.1)&&decide (1≤d.2.1.2.2.2.2.2.1.length))&&(decide (d.1.2.1.length≤256)&&dE (aN d.1.2.1) d.1.2.1 0)))))
  (.ite (decide ((bW (aN d.1.2.1) d.1.2.1 0 []).2=0)) (.ret (.pan (.ret ((),(((bW (aN d.1.2.1) d.1.2.1 0 []).1,()),()))))) (.ret (.ret ((),(([],(bW (aN d.1.2.1) d.1.2.1 0 []).2,()),()))))) .no
def qM:Lp:=bA [(12,aD cO jd)]
def oJ {R:Type}(h6:LI)(h7:List ba.den)(h8 h9 h10 h11 h12 h13 h14:Int)(h15:List ba.den)(next:LI→List ba.den→Int→Int→Int→Int→Int→Int→Int→List ba.den→Option R)(out:ao cO.xs→Option R):Option R:=bif decide (h9<h8) then bif decide (0≤h9)&&decide (h9<(↑h7.length:Int)) then bif decide (0≤0)&&decide (0<(↑h15.length:Int)) then bif !aG ((h7.getD h9.toNat (0,(false,[],()),(false,[],()),[],())).1 - (h15.getD (Int.toNat 0) (0,(false,[],()),(false,[],()),[],())).1) then out (.ret ((),(([],(86,())),()))) else bif pz (i64.wrap ((h7.getD h9.toNat (0,(false,[],()),(false,[],()),[],())).1 - (h15.getD (Int.toNat 0) (0,(false,[],()),(false,[],()),[],())).1),i32.wrap h9,(h7.getD h9.toNat (0,(false,[],()),(false,[],()),[],())).2) then bif (cE (i64.wrap ((h7.getD h9.toNat (0,(false,[],()),(false,[],()),[],())).1 - (h15.getD (Int.toNat 0) (0,(false,[],()),(false,[],()),[],())).1),i32.wrap h9,(h7.getD h9.toNat (0,(false,[],()),(false,[],()),[],())).2)).2 != 0 then out (.ret ((),(([],((cE (i64.wrap ((h7.getD h9.toNat (0,(false,[],()),(false,[],()),[],())).1 - (h15.getD (Int.toNat 0) (0,(false,[],()),(false,[],()),[],())).1),i32.wrap h9,(h7.getD h9.toNat (0,(false,[],()),(false,[],()),[],())).2)).2,())),()))) else bif decide (h6.length+(cE (i64.wrap ((h7.getD h9.toNat (0,(false,[],()),(false,[],()),[],())).1 - (h15.getD (Int.toNat 0) (0,(false,[],()),(false,[],()),[],())).1),i32.wrap h9,(h7.getD h9.toNat (0,(false,[],()),(false,[],()),[],())).2)).1.length≤4294967296) then next (h6++(cE (i64.wrap ((h7.getD h9.toNat (0,(false,[],()),(false,[],()),[],())).1 - (h15.getD (Int.toNat 0) (0,(false,[],()),(false,[],()),[],())).1),i32.wrap h9,(h7.getD h9.toNat (0,(false,[],()),(false,[],()),[],())).2)).1) (h7) (h8) (i64.wrap (h9+1)) (h10) (h11) (h12) (h13) (h14) (h15) else none else none else none else none else out (.pan (.ret ((),((h6,()),()))))
def m9 (n:Nat)(h6:LI)(h7:List ba.den)(h8 h9 h10 h11 h12 h13 h14:Int)(h15:List ba.den):Option (ao cO.xs):=ik tt Dy dr qM 0 Tryz.f45 (cb Tryz.f45 0) n (cO.st.mk' ((h6,(h7,(h8,(h9,())))),((h10,(h11,(h12,(h13,(h14,(h15,())))))),()))) (bG cO.xs)
theorem Ce (n:Nat)(h6:LI)(h7:List ba.den)(h8 h9 h10 h11 h12 h13 h14:Int)(h15:List ba.den):m9 (n+1) h6 h7 h8 h9 h10 h11 h12 h13 h14 h15=oJ h6 h7 h8 h9 h10 h11 h12 h13 h14 h15 (m9 n) some:=by kernel_rfl
theorem F7 {r:l8}(h:bM r=0):(cE r).2=0∧(cE r).1.length≤16400:=by
 have e:cE r=(b7 (bd (cU r).length)++cU r,0):=by unfold cE;rw[if_pos h]
 rw[e]
 refine ⟨rfl,?_⟩
 have hs:(cU r).length≤16384:=by
  unfold bM at h
  split at h
  ·rename_i h1;exact absurd h h1
  ·split at h
   ·cases h
   ·omega
 have:=vl (bd (cU r).length)
 simp only[zH]
 omega
theorem s3 {r:l8}(h:bM r≠0):(cE r).2=bM r:=by unfold cE;rw[if_neg h]
theorem wD (b1 b2 b3 b4 b5:Int)(rs0:List bu)(h0:1≤rs0.length){f:Int}(hf0:aN rs0=f)(hf:bi .i64 f)(rs:List bu)(hl:rs.length≤256)(hr:∀r∈rs,bi .i64 r.1):∀(k i:Nat) (out:LI),rs.length<i+k→i≤rs.length→dE f (rs.drop i) i=true→out.length≤i*17000→
  m9 k out rs (rs.length:Int) i b1 b2 b3 b4 b5 rs0=if (bW f (rs.drop i) i out).2=0 then some (.pan (.ret ((),(((bW f (rs.drop i) i out).1,()),())))) else some (.ret ((),(([],((bW f (rs.drop i) i out).2,())),()))):=by
 intro k
 induction k with
 |zero=>intro i out h;omega
 |succ k ih=>
  intro i out h1 h2 h3 h4
  rw[Ce]
  unfold oJ
  by_cases hi:i<rs.length
  ·rw[zE hi] at h3 ⊢
   have hri:=hr rs[i] (List.getElem_mem hi)
   have e0:(rs0.getD (Int.toNat 0) (0,(false,[],()),(false,[],()),[],())).1=f:=by
    rw[← hf0]
    cases rs0 with
    |nil=>simp at h0
    |cons r l=>rfl
   have e1:List.getD rs (i:Int).toNat (0,(false,[],()),(false,[],()),[],())=rs[i]:=by rw[zG,aF hi]
   rw[e0,e1]
   generalize rs[i]=r at *
   simp only[dE,zA] at h3
   obtain ⟨h5,h6⟩:=h3
   refine bT (by simpa using hi) ?_
   refine bT (by simpa using hi) ?_
   refine bT (by simp;omega) ?_
   have eL:bW f (r::rs.drop (i+1)) i out=if aG (r.1 - f)=false then ([],86) else if bM (ge f i r)≠0 then ([],bM (ge f i r)) else bW f (rs.drop (i+1)) (i+1) (out++(cE (ge f i r)).1):=rfl
   rw[eL]
   cases h7:aG (r.1 - f) with
   |false=>
    refine (aa rfl _ _).trans ?_
    rw[if_pos rfl,if_neg (show (86:Int)≠0 by decide)]
   |true=>
    have h8:=fC.1 h7
    refine (ac rfl _ _).trans ?_
    rw[if_neg (show ¬ true=false by decide)]
    have eR:((i64.wrap (r.1 - f),i32.wrap (i:Int),r.2):l8)=ge f i r:=by
     rw[af h8.1 h8.2,bD (k:=.i32) (by simp[bi,IntKind.min,IntKind.max,IntKind.signed,IntKind.bits];omega)]
     rfl
    rw[eR]
    refine (aa h5 _ _).trans ?_
    by_cases h9:bM (ge f i r)=0
    ·obtain ⟨p1,p2⟩:=F7 h9
     refine bF (by simpa using p1) ?_
     refine bT (decide_eq_true (by omega)) ?_
     rw[if_neg (aC h9),af (n:=(i:Int)+1) (by omega) (by omega)]
     exact ih (i+1) _ (by omega) (by omega) h6 (by simp;omega)
    ·refine bT (by rw[s3 h9];simpa using h9) ?_
     rw[if_pos h9,s3 h9]
     rw[if_neg h9]
  ·refine bF (by simp;omega) ?_
   rw[zI (by omega)]
   rfl
def tW (a0 a1 a2 a3 a4:Int)(a5:List ba.den):Option iu.Res:=bif aK a0 then oR (([],80,()),()) else bif aL a2 a3 a4 then oR (([],84,()),()) else bif (↑a5.length:Int) == 0 then oR (([],85,()),()) else bif decide (256<(↑a5.length:Int)) then oR (([],9,()),()) else (jd (([],(a5,((↑a5.length:Int),(0,())))),((a0,(a1,(a2,(a3,(a4,(a5,())))))),()))).run fun y=>match y with | .ret ((),((x31,x32,()),()))=>(oR ((x31,x32,()),())) | .pan (.ret ((),((x33,()),())))=>(bif decide (32768<(↑x33.length:Int)) then oR (([],4,()),()) else oR ((x33,0,()),()))
theorem Jc (a0 a1 a2 a3 a4:Int)(a5:List ba.den):Io.run tt Dy dr qM iu Tryz.f45 (((a0,a1,a2,a3,a4,a5,()),()),())=tW a0 a1 a2 a3 a4 a5:=by kernel_rfl
theorem uN:HcsOk prog CW:=.cons wX (.cons En (.cons ID (.cons Nt .nil)))
theorem Eo:HcOk prog 45 (ah iu oQ):=by
 refine bK uN (lp:=qM) (fn:=Tryz.f45) iu (.step (h0:=aD cO jd) (by kernel_rfl) (iK uN (lp:=qM) (fn:=Tryz.f45) (.done (by kernel_rfl)) cO jd ?_) (.done (by kernel_rfl))) oQ ?_
 ·rintro ⟨⟨(out:LI),(rs:List bu),(m:Int),(i:Int),⟨⟩⟩,⟨⟨(b1:Int),(b2:Int),(b3:Int),(b4:Int),(b5:Int),(rs0:List bu),⟨⟩⟩,⟨⟩⟩⟩ y hw hy
  obtain ⟨hg,hy⟩:=Tr.guard hy
  simp only[zA,zB] at hg
  obtain ⟨h1,h2,h3,⟨h4,h5⟩,h6,h7⟩:=hg
  have h1:i=0:=h1
  have h2:m=(rs.length:Int):=h2
  have h3:out=[]:=List.length_eq_zero_iff.1 h3
  have h4:aN rs0=aN rs:=h4
  have h5:1≤rs0.length:=h5
  have h6:rs.length≤256:=h6
  subst h1 h2 h3
  have hf:bi .i64 (aN rs):=by
   cases rs with
   |nil=>exact ⟨by decide,by decide⟩
   |cons r rs=>exact (hw.1.2.1.2 r (by simp)).1
  refine ⟨rs.length+1,(wD b1 b2 b3 b4 b5 rs0 h5 h4 hf rs h6 (fun r hr=>(hw.1.2.1.2 r hr).1) (rs.length+1) 0 [] (by omega) (by omega) h7 (by simp)).trans ?_⟩
  rw[← hy]
  simp only[Tr.val_ite,zB,Tr.val_ret,List.drop_zero]
 ·rintro ⟨⟨⟨(b1:Int),(b2:Int),(b3:Int),(b4:Int),(b5:Int),(rs:List bu),⟨⟩⟩,⟨⟩⟩,⟨⟩⟩ out hw ho
  obtain ⟨hg,ho⟩:=Tr.guard ho
  have hg:dE (aN rs) rs 0=true:=hg
  cases ho
  refine (Jc b1 b2 b3 b4 b5 rs).trans ?_
  show _=oR (((dF (b1,b2,b3,b4,b5,rs,())).1,(dF (b1,b2,b3,b4,b5,rs,())).2,()),())
  have e:aP (b1,b2,b3,b4,b5,rs,())=if aK b1=true then 80 else if aL b3 b4 b5=true then 84 else if rs=[] then 85 else if 256<(rs.length:Int) then 9 else (bB rs).2:=rfl
  have e2:dF (b1,b2,b3,b4,b5,rs,())=if aP (b1,b2,b3,b4,b5,rs,())≠0 then ([],aP (b1,b2,b3,b4,b5,rs,())) else ((bB rs).1,0):=rfl
  unfold tW
  rw[e2]
  cases h1:aK b1 with
  |true=>
   refine (aa rfl _ _).trans ?_
   rw[show aP (b1,b2,b3,b4,b5,rs,())=80 by rw[e,if_pos h1],if_pos (by decide)]
  |false=>
  refine (ac rfl _ _).trans ?_
  cases h2:aL b3 b4 b5 with
  |true=>
   refine (aa rfl _ _).trans ?_
   rw[show aP (b1,b2,b3,b4,b5,rs,())=84 by rw[e,if_neg (by rw[h1];decide),if_pos h2],if_pos (by decide)]
  |false=>
  refine (ac rfl _ _).trans ?_
  by_cases h3:rs=[]
  ·refine bT (by simp[h3]) ?_
   rw[show aP (b1,b2,b3,b4,b5,rs,())=85 by rw[e,if_neg (by rw[h1];decide),if_neg (by rw[h2];decide),if_pos h3],if_pos (by decide)]
  refine bF (by simp[h3]) ?_
  by_cases h4:256<(rs.length:Int)
  ·refine bT (decide_eq_true h4) ?_
   rw[show aP (b1,b2,b3,b4,b5,rs,())=9 by rw[e,if_neg (by rw[h1];decide),if_neg (by rw[h2];decide),if_neg h3,if_pos h4],if_pos (by decide)]
  refine bF (decide_eq_false h4) ?_
  rw[show aP (b1,b2,b3,b4,b5,rs,())=(bB rs).2 by rw[e,if_neg (by rw[h1];decide),if_neg (by rw[h2];decide),if_neg h3,if_neg h4]]
  have hp:=List.length_pos_iff.2 h3
  unfold jd
  refine bT (by simp only[zA,zB];exact ⟨trivial,trivial,rfl,⟨trivial,hp⟩,show rs.length≤256 by omega,hg⟩) ?_
  show (bif decide ((bW (aN rs) rs 0 []).2=0) then (bif decide (32768<((bW (aN rs) rs 0 []).1.length:Int)) then oR (([],4,()),()) else oR (((bW (aN rs) rs 0 []).1,0,()),())) else oR (([],(bW (aN rs) rs 0 []).2,()),()))=_
  unfold bB
  by_cases h5:(bW (aN rs) rs 0 []).2=0
  ·refine bT (decide_eq_true h5) ?_
   rw[if_neg (aC h5)]
   by_cases h6:32768<((bW (aN rs) rs 0 []).1.length:Int)
   ·refine bT (decide_eq_true h6) ?_
    rw[if_pos h6,if_pos (show (4:Int)≠0 by decide)]
   ·refine bF (decide_eq_false h6) ?_
    rw[if_neg h6,if_neg (aC rfl)]
  ·refine bF (decide_eq_false h5) ?_
   rw[if_pos h5,if_pos h5]
abbrev ir:Io:=⟨[yx],[],[],[jx],none⟩
def vy (d:ir.In):Tr ir.Res:=.ite (decide (1≤d.1.1.length)) (.ret (.ret ((fb d.1.1,()),()))) .no
abbrev wa:List (Nat×Hc):=[]
def Dx:Hd:=br wa
abbrev dp:Lo:=⟨⟨(.any::bt (.one hI::bO (bt (.one (.hol (.sl 49 ba))::.one hI::.one hI::.any::dC [])))),[]⟩,[(.exit 0,⟨(.any::bt (.one hI::aj (bt []))),[]⟩)]⟩
def kw (d:dp.st.den):Tr (ao dp.xs):=.ite (decide (d.1.2.2.2.1=0)&&decide (d.1.2.2.1=(d.1.2.1.length:Int))) (.ret (.ret ((),((df d.1.2.1 d.1.1,()),())))) .no
def qL:Lp:=bA [(4,aD dp kw)]
def p9 {R:Type}(h1:Int)(h2:List ba.den)(h3 h4:Int)(next:Int→List ba.den→Int→Int→Option R)(out:ao dp.xs→Option R):Option R:=bif decide (h4<h3) then bif decide (0≤h4)&&decide (h4<(↑h2.length:Int)) then next (dg h1 (h2.getD h4.toNat (0,(false,[],()),(false,[],()),[],())).1) (h2) (h3) (i64.wrap (h4+1)) else none else out (.ret ((),((h1,()),())))
def pa (n:Nat)(h1:Int)(h2:List ba.den)(h3 h4:Int):Option (ao dp.xs):=ik tt Dx dr qL 0 Tryz.f38 (cb Tryz.f38 0) n (dp.st.mk' ((h1,(h2,(h3,(h4,())))),())) (bG dp.xs)
theorem FV (n:Nat)(h1:Int)(h2:List ba.den)(h3 h4:Int):pa (n+1) h1 h2 h3 h4=p9 h1 h2 h3 h4 (pa n) some:=by kernel_rfl
theorem y4 (rs:List bu)(hl:rs.length≤maxLen):∀(k i:Nat) (t:Int),rs.length<i+k→i≤rs.length→pa k t rs (rs.length:Int) i=some (.ret ((),((df (rs.drop i) t,()),()))):=by
 intro k
 induction k with
 |zero=>intro i t h;omega
 |succ k ih=>
  intro i t h1 h2
  rw[FV]
  unfold p9
  by_cases hi:i<rs.length
  ·refine bT (by simpa using hi) ?_
   refine bT (by simpa using hi) ?_
   have e:List.getD rs (i:Int).toNat (0,(false,[],()),(false,[],()),[],())=rs[i]:=by simp only[zG,aF hi]
   rw[e,aQ hi hl,zE hi]
   exact ih (i+1) _ (by omega) (by omega)
  ·refine bF (by simp;omega) ?_
   rw[zI (by omega)]
   rfl
def tT (a0:List ba.den):Option ir.Res:=bif decide (0≤0)&&decide (0<(↑a0.length:Int)) then (kw (((a0.getD (Int.toNat 0) (0,(false,[],()),(false,[],()),[],())).1,(a0,((↑a0.length:Int),(0,())))),())).run fun y=>match y with | .ret ((),((x10,()),()))=>(oR ((x10,()),())) else none
theorem I9 (a0:List ba.den):Io.run tt Dx dr qL ir Tryz.f38 ((a0,()),())=tT a0:=by kernel_rfl
theorem Em:HcOk prog 38 (ah ir vy):=by
 refine bK (cs:=wa) HcsOk.nil (lp:=qL) (fn:=Tryz.f38) ir (.step (h0:=aD dp kw) (by kernel_rfl) (iK (cs:=wa) HcsOk.nil (lp:=qL) (fn:=Tryz.f38) (.done (by kernel_rfl)) dp kw ?_) (.done (by kernel_rfl))) vy ?_
 ·rintro ⟨⟨(t:Int),(rs:List bu),(m:Int),(i:Int),⟨⟩⟩,⟨⟩⟩ y hw hy
  obtain ⟨hg,hy⟩:=Tr.guard hy
  simp only[zA,zB] at hg
  obtain ⟨h1,h2⟩:=hg
  have h1:i=0:=h1
  have h2:m=(rs.length:Int):=h2
  subst h1 h2
  refine ⟨rs.length+1,(y4 rs hw.1.2.1.1 (rs.length+1) 0 t (by omega) (by omega)).trans ?_⟩
  rw[← hy];rfl
 ·rintro ⟨⟨(rs:List bu),⟨⟩⟩,⟨⟩⟩ out hw ho
  obtain ⟨hg,ho⟩:=Tr.guard ho
  have hg:1≤rs.length:=of_decide_eq_true hg
  cases ho
  refine (I9 rs).trans ?_
  show _=oR ((fb rs,()),())
  unfold tT kw
  refine bT (by simp;omega) ?_
  refine bT (by simp) ?_
  cases rs with
  |nil=>simp at hg
  |cons r rs=>
   have e:df (r::rs) r.1=df rs r.1:=by
    show df rs (dg r.1 r.1)=_
    unfold dg
    rw[if_neg (by omega)]
   exact congrArg (fun x=>oR ((x,()),())) e
abbrev jE:Io:=⟨[dL,dI],[],[],[dI,dI],none⟩
def AN (d:jE.In):Tr jE.Res:=.ite (decide (d.1.1.length≤4294960000)) (.ret (.ret (((aA d.1.1 d.1.2.1).1,(aA d.1.1 d.1.2.1).2,()),()))) .no
abbrev CU:List (Nat×Hc):=[(59,ah iA vL),(60,ah iz rh)]
def KO:Hd:=br CU
def DS:Lp:=bA []
def tU (a0:LI)(a1:Int):Option jE.Res:=bif decide (a1<0) then oR ((0,3,()),()) else bif decide ((↑a0.length:Int)<a1) then oR ((0,3,()),()) else bif decide (i64.wrap ((↑a0.length:Int) - a1)<12) then oR ((0,1,()),()) else bif decide (0≤i64.wrap (a1+8))&&(decide (i64.wrap (a1+8)≤i64.wrap (a1+12))&&decide (i64.wrap (a1+12)≤(↑a0.length:Int))) then bif decide ((List.drop (i64.wrap (a1+8)).toNat (List.take (i64.wrap (a1+12)).toNat a0)).length≤4294967296) then bif cv (List.drop (i64.wrap (a1+8)).toNat (List.take (i64.wrap (a1+12)).toNat a0)) 0 then bif decide (i32.wrap (bx (List.drop (i64.wrap (a1+8)).toNat (List.take (i64.wrap (a1+12)).toNat a0)) 0 4).1<49) then oR ((0,5,()),()) else bif decide (35988<i32.wrap (bx (List.drop (i64.wrap (a1+8)).toNat (List.take (i64.wrap (a1+12)).toNat a0)) 0 4).1) then oR ((0,4,()),()) else bif decide (i64.wrap (i64.wrap ((↑a0.length:Int) - a1) - 12)<i64.wrap (i32.wrap (bx (List.drop (i64.wrap (a1+8)).toNat (List.take (i64.wrap (a1+12)).toNat a0)) 0 4).1)) then oR ((0,1,()),()) else oR ((i64.wrap (12+i64.wrap (i32.wrap (bx (List.drop (i64.wrap (a1+8)).toNat (List.take (i64.wrap (a1+12)).toNat a0)) 0 4).1)),0,()),()) else none else none else none
theorem Ja (a0:LI)(a1:Int):Io.run tt KO dr DS jE Tryz.f24 ((a0,a1,()),())=tU a0 a1:=by kernel_rfl
theorem Lq:HcOk prog 24 (ah jE AN):=by
 refine bK (cs:=CU) (.cons Eu (.cons Et .nil)) (lp:=DS) (fn:=Tryz.f24) jE (.done (by kernel_rfl)) AN ?_
 rintro ⟨⟨(b:LI),(p:Int),⟨⟩⟩,⟨⟩⟩ out hw ho
 obtain ⟨hg,ho⟩:=Tr.guard ho
 have hg2:b.length≤4294960000:=of_decide_eq_true hg
 clear hg
 cases ho
 have hb:=dj hw.1.1
 refine (Ja b p).trans ?_
 show _=oR (((aA b p).1,(aA b p).2,()),())
 unfold tU aA
 by_cases h1:p<0
 ·refine bT (decide_eq_true h1) ?_
  rw[if_pos (.inl h1)]
 refine bF (decide_eq_false h1) ?_
 by_cases h2:(b.length:Int)<p
 ·refine bT (decide_eq_true h2) ?_
  rw[if_pos (.inr h2)]
 refine bF (decide_eq_false h2) ?_
 rw[if_neg (by omega)]
 obtain ⟨p,rfl⟩:=aq (show 0≤p by omega)
 rw[af (n:=(b.length:Int) - p) (by omega) (by omega),af (n:=(p:Int)+8) (by omega) (by omega),af (n:=(p:Int)+12) (by omega) (by omega),af (n:=(b.length:Int) - p - 12) (by omega) (by omega)]
 by_cases h3:(b.length:Int) - p<12
 ·refine bT (decide_eq_true h3) ?_
  rw[if_pos h3]
 refine bF (decide_eq_false h3) ?_
 rw[if_neg h3]
 refine bT (by simp only[zA,zB];omega) ?_
 have eL:List.drop ((p:Int)+8).toNat (List.take ((p:Int)+12).toNat b)=(b.drop (p+8)).take 4:=by
  rw[List.drop_take,show ((p:Int)+8).toNat=p+8 by omega,show ((p:Int)+12).toNat - (p+8)=4 by omega]
 rw[eL]
 have hL:=fG (b:=b) (p:=p+8) (n:=4) (by omega)
 have hLr:=iL hb (p+8) 4
 have eI:ap b (((p:Nat):Int).toNat+8) 4=bY ((b.drop (p+8)).take 4):=by rw[zG];rfl
 have eR:i32.wrap (bx ((b.drop (p+8)).take 4) 0 4).1=bY ((b.drop (p+8)).take 4):=by
  unfold bx
  rw[if_neg (by rw[hL];decide)]
  show i32.wrap (bz ((((b.drop (p+8)).take 4).drop 0).take 4))=_
  rw[List.drop_zero,List.take_of_length_le (by rw[hL];exact Nat.le_refl 4)]
  exact qX hLr hL
 have hbd:=JJ hLr hL
 rw[eI,eR]
 refine bT (decide_eq_true (by rw[hL];omega)) ?_
 refine bT (by unfold cv;simp only[zA,zB,hL];omega) ?_
 generalize bY ((b.drop (p+8)).take 4)=n at *
 by_cases h4:n<49
 ·refine bT (decide_eq_true h4) ?_
  rw[if_pos h4]
 refine bF (decide_eq_false h4) ?_
 rw[if_neg h4]
 by_cases h5:35988<n
 ·refine bT (decide_eq_true h5) ?_
  rw[if_pos h5]
 refine bF (decide_eq_false h5) ?_
 rw[if_neg h5,af (n:=n) (by omega) (by omega),af (n:=12+n) (by omega) (by omega)]
 by_cases h6:(b.length:Int) - p - 12<n
 ·refine bT (decide_eq_true h6) ?_
  rw[if_pos h6]
 refine bF (decide_eq_false h6) ?_
 rw[if_neg h6,Int.add_comm]
def bg (g:l8)(i f:Int):bu×Int:=
 if g.2.1≠i then (q3,72)
 else if i=0∧g.1≠0∨aG (f+g.1)=false then (q3,86)
 else ((f+g.1,g.2.2.1,g.2.2.2.1,g.2.2.2.2.1,()),0)
abbrev fk:Io:=⟨[yy,dI,jx],[],[],[MT,dI],none⟩
def rc (d:fk.In):Tr fk.Res:=.ret (.ret (((bg d.1.1 d.1.2.1 d.1.2.2.1).1,(bg d.1.1 d.1.2.1 d.1.2.2.1).2,()),()))
abbrev uy:List (Nat×Hc):=[]
def E4:Hd:=br uy
def uX:Lp:=bA []
def pE (a0 a1:Int)(a2:Bool)(a3:LI)(a4:Bool)(a5:LI)(a6:List co.den)(a7 a8:Int):Option fk.Res:=bif i64.wrap a1 != a7 then oR (((0,(false,[],()),(false,[],()),[],()),72,()),()) else bif a7 == 0 then bif a0 != 0 then oR (((0,(false,[],()),(false,[],()),[],()),86,()),()) else bif !decide (i64.wrap (a8+a0)<a8) == decide (a0<0) then oR (((0,(false,[],()),(false,[],()),[],()),86,()),()) else oR (((i64.wrap (a8+a0),(a2,a3,()),(a4,a5,()),a6,()),0,()),()) else bif !decide (i64.wrap (a8+a0)<a8) == decide (a0<0) then oR (((0,(false,[],()),(false,[],()),[],()),86,()),()) else oR (((i64.wrap (a8+a0),(a2,a3,()),(a4,a5,()),a6,()),0,()),())
theorem BY (a0 a1:Int)(a2:Bool)(a3:LI)(a4:Bool)(a5:LI)(a6:List co.den)(a7 a8:Int):Io.run tt E4 dr uX fk Tryz.f37 (((a0,a1,(a2,a3,()),(a4,a5,()),a6,()),a7,a8,()),())=pE a0 a1 a2 a3 a4 a5 a6 a7 a8:=by kernel_rfl
theorem Fl:HcOk prog 37 (ah fk rc):=by
 refine bK (cs:=uy) HcsOk.nil (lp:=uX) (fn:=Tryz.f37) fk (.done (by kernel_rfl)) rc ?_
 rintro ⟨⟨⟨(a0:Int),(a1:Int),⟨(a2:Bool),(a3:LI),⟨⟩⟩,⟨(a4:Bool),(a5:LI),⟨⟩⟩,(a6:List cx),⟨⟩⟩,(i:Int),(f:Int),⟨⟩⟩,⟨⟩⟩ out hw ho
 cases ho
 refine (BY a0 a1 a2 a3 a4 a5 a6 i f).trans ?_
 have h0:bi .i64 a0:=hw.1.1.1
 have h1:bi .i32 a1:=hw.1.1.2.1
 have hf:bi .i64 f:=hw.1.2.2.1
 have b1:=wt h1
 show _=oR (((bg (a0,a1,(a2,a3,()),(a4,a5,()),a6,()) i f).1,(bg (a0,a1,(a2,a3,()),(a4,a5,()),a6,()) i f).2,()),())
 unfold pE bg
 simp only
 rw[af (n:=a1) (by omega) (by omega),KI h0 hf]
 have hfit:aG (f+a0)=true→i64.wrap (f+a0)=f+a0:=fun h=>af (fC.1 h).1 (fC.1 h).2
 by_cases c1:a1=i
 rotate_left
 ·refine bT (by simpa using c1) ?_
  rw[if_pos c1]
  rfl
 refine bF (by simpa using c1) ?_
 rw[if_neg (aC c1)]
 by_cases c2:i=0
 ·refine bT (by simpa using c2) ?_
  by_cases c3:a0=0
  ·refine bF (by simpa using c3) ?_
   cases c4:aG (f+a0) with
   |false=>
    refine (aa rfl _ _).trans ?_
    rw[if_pos (.inr rfl)]
    rfl
   |true=>
    refine (ac rfl _ _).trans ?_
    rw[if_neg (by rintro (h | h);exact h.2 c3;cases h),hfit c4]
  ·refine bT (by simpa using c3) ?_
   rw[if_pos (.inl ⟨c2,c3⟩)]
   rfl
 ·refine bF (by simpa using c2) ?_
  cases c4:aG (f+a0) with
  |false=>
   refine (aa rfl _ _).trans ?_
   rw[if_pos (.inr rfl)]
   rfl
  |true=>
   refine (ac rfl _ _).trans ?_
   rw[if_neg (by rintro (h | h);exact c2 h.1;cases h),hfit c4]
abbrev gI:Io:=⟨[dL,dB],[],[],[dL,dI],none⟩
def vw (d:gI.In):Tr gI.Res:=.ite (decide (61≤d.1.1.length)&&decide (d.1.1.length≤4294960000)) (.ret (.ret (((aV d.1.1 d.1.2.1).1,(aV d.1.1 d.1.2.1).2,()),()))) .no
abbrev yd:List (Nat×Hc):=[(70,ah jJ AR)]
def HD:Hd:=br yd
def zg:Lp:=bA []
def ry (a0:LI)(a1:Bool):Option gI.Res:=bif decide (0≤61)&&(decide (61≤(↑a0.length:Int))&&decide ((↑a0.length:Int)≤(↑a0.length:Int))) then bif a1 then bif decide (32768=32768)&&decide ((List.drop (Int.toNat 61) (List.take (↑a0.length:Int).toNat a0)).length≤4294960000) then oR (((aX (List.drop (Int.toNat 61) (List.take (↑a0.length:Int).toNat a0))).1,(aX (List.drop (Int.toNat 61) (List.take (↑a0.length:Int).toNat a0))).2,()),()) else none else bif decide (32768<(↑(List.drop (Int.toNat 61) (List.take (↑a0.length:Int).toNat a0)).length:Int)) then oR (([],4,()),()) else oR ((List.drop (Int.toNat 61) (List.take (↑a0.length:Int).toNat a0),0,()),()) else none
theorem Fy (a0:LI)(a1:Bool):Io.run tt HD dr zg gI Tryz.f35 ((a0,a1,()),())=ry a0 a1:=by kernel_rfl
theorem IB:HcOk prog 35 (ah gI vw):=by
 refine bK (cs:=yd) (.cons Ly .nil) (lp:=zg) (fn:=Tryz.f35) gI (.done (by kernel_rfl)) vw ?_
 rintro ⟨⟨(b:LI),(packed:Bool),⟨⟩⟩,⟨⟩⟩ out hw ho
 obtain ⟨hg,ho⟩:=Tr.guard ho
 simp only[zA,zB] at hg
 have h1:61≤b.length:=hg.1
 have h2:b.length≤4294960000:=hg.2
 cases ho
 refine (Fy b packed).trans ?_
 show _=oR (((aV b packed).1,(aV b packed).2,()),())
 unfold ry aV
 rw[zG,List.take_length,show Int.toNat 61=61 from rfl]
 refine bT (by simp only[zA,zB];omega) ?_
 cases packed with
 |true=>
  refine (aa rfl _ _).trans ?_
  refine bT (by simp;omega) ?_
  rfl
 |false=>
  refine (ac rfl _ _).trans ?_
  by_cases h3:32768<((b.drop 61).length:Int)
  ·refine bT (decide_eq_true h3) ?_
   rw[if_neg (by decide),if_pos h3]
  ·refine bF (decide_eq_false h3) ?_
   rw[if_neg (by decide),if_neg h3]
theorem HcOk.weakB {f:Nat}{io:Io}{Fn Fn':io.In→Tr io.Res}(h:HcOk prog f (ah io Fn))(hF:∀d y,io.wf d→(Fn' d).val=some y→(Fn d).val=some y):HcOk prog f (ah io Fn'):=by
 intro R args id A K r F G ts cst w vals hid hc Rl hv
 unfold ah at hc
 cases h1:qr io.args args (List.replicate io.obs.length Option.none) with
 |none=>rw[h1] at hc;cases hc
 |some p=>
  obtain ⟨a,β1⟩:=p
  rw[h1] at hc
  simp only at hc
  cases h2:Gk A.ob io.obs 0 β1 with
  |none=>rw[h2] at hc;cases hc
  |some q=>
   obtain ⟨o,β⟩:=q
   rw[h2] at hc
   simp only at hc
   have hn:=fun y=>hF (a,o) y ⟨wR h1 hv,BP Rl.ob h2⟩
   refine h R args id A K r F G ts cst w vals hid ?_ Rl hv
   unfold ah
   rw[h1]
   simp only[h2]
   revert hc
   cases aZ ((fg (cA 0) io.args args 0++ka A.ob β (kH io.obs.length 0) io.obs 0).map (·.2))&&(aZ ((fg (cA 0) io.args args 0++ka A.ob β (kH io.obs.length 0) io.obs 0).map (·.1))&&io.ok) with
   |false=>intro hc;cases hc
   |true=>
    intro hc
    obtain ⟨out,ho,hk⟩:=Tr.run_val hc
    exact (Tr.run_of_val (hn out ho)).trans hk
@[irreducible] def aH (b:LI)(p:Int)(n:Nat):Int:=bY ((b.drop p.toNat).take n)
theorem jq (b:LI)(p n:Nat):aH b (p:Int) n=ap b p n:=by unfold aH ap;rw[zG]
def il (b:LI)(p n:Int):Bool:=decide (b.length≤4294960000)&&(decide (0≤p)&&decide (p+n≤(b.length:Int)))
theorem ll {b:LI}{p n:Int}(h:il b p n=true):b.length≤4294960000∧0≤p∧p+n≤(b.length:Int):=by
 simpa [il] using h
abbrev ww:Io:=jO
def MB (d:ww.In):Tr ww.Res:=
 .ite (il d.2.1.1 d.2.1.2.1 8) (.ret (.ret ((aH d.2.1.1 d.2.1.2.1 8,(0,())),((d.2.1.1,(d.2.1.2.1+8,())),())))) .no
theorem Nq:HcOk prog 65 (ah ww MB):=by
 refine HcOk.weakB LD ?_
 rintro ⟨⟨⟨⟩,⟨⟩⟩,⟨⟨(b:LI),(p:Int),⟨⟩⟩,⟨⟩⟩⟩ y hw hy
 obtain ⟨hg,hy⟩:=Tr.guard hy
 obtain ⟨h1,h2,h3⟩:=ll (b:=b) (p:=p) (n:=8) hg
 rw[← hy]
 obtain ⟨p,rfl⟩:=aq h2
 have hb:=dj hw.2.1.1
 have hL:=fG (b:=b) (p:=p) (n:=8) (by omega)
 have hk:cv b p=true:=by unfold cv;simp only[zA,zB];omega
 have e:bx b (p:Int) 8=(bz ((b.drop p).take 8),((p:Int)+8,0)):=by unfold bx;rw[if_neg (by omega),zG];rfl
 have e2:i64.wrap (bz ((b.drop p).take 8))=aH b (p:Int) 8:=by rw[jq];exact Mo (iL hb p 8) hL
 show (vK (((),()),((b,((p:Int),())),()))).val=some (.ret ((aH b (p:Int) 8,(0,())),((b,((p:Int)+8,())),())))
 unfold vK
 rw[Tr.val_ite,if_pos hk,Tr.val_ret]
 show oR ((i64.wrap (bx b (p:Int) 8).1,((bx b (p:Int) 8).2.2,())),((b,((bx b (p:Int) 8).2.1,())),()))=_
 rw[e,← e2]
abbrev wv:Io:=iz
def MA (d:wv.In):Tr wv.Res:=
 .ite (il d.2.1.1 d.2.1.2.1 4) (.ret (.ret ((aH d.2.1.1 d.2.1.2.1 4,(0,())),((d.2.1.1,(d.2.1.2.1+4,())),())))) .no
theorem Np:HcOk prog 60 (ah wv MA):=by
 refine HcOk.weakB Et ?_
 rintro ⟨⟨⟨⟩,⟨⟩⟩,⟨⟨(b:LI),(p:Int),⟨⟩⟩,⟨⟩⟩⟩ y hw hy
 obtain ⟨hg,hy⟩:=Tr.guard hy
 obtain ⟨h1,h2,h3⟩:=ll (b:=b) (p:=p) (n:=4) hg
 rw[← hy]
 obtain ⟨p,rfl⟩:=aq h2
 have hb:=dj hw.2.1.1
 have hL:=fG (b:=b) (p:=p) (n:=4) (by omega)
 have hk:cv b p=true:=by unfold cv;simp only[zA,zB];omega
 have e:bx b (p:Int) 4=(bz ((b.drop p).take 4),((p:Int)+4,0)):=by unfold bx;rw[if_neg (by omega),zG];rfl
 have e2:i32.wrap (bz ((b.drop p).take 4))=aH b (p:Int) 4:=by rw[jq];exact qX (iL hb p 4) hL
 show (rh (((),()),((b,((p:Int),())),()))).val=some (.ret ((aH b (p:Int) 4,(0,())),((b,((p:Int)+4,())),())))
 unfold rh
 rw[Tr.val_ite,if_pos hk,Tr.val_ret]
 show oR ((i32.wrap (bx b (p:Int) 4).1,((bx b (p:Int) 4).2.2,())),((b,((bx b (p:Int) 4).2.1,())),()))=_
 rw[e,← e2]
abbrev wu:Io:=jN
def Mz (d:wu.In):Tr wu.Res:=
 .ite (il d.2.1.1 d.2.1.2.1 2) (.ret (.ret ((aH d.2.1.1 d.2.1.2.1 2,(0,())),((d.2.1.1,(d.2.1.2.1+2,())),())))) .no
theorem No:HcOk prog 68 (ah wu Mz):=by
 refine HcOk.weakB LC ?_
 rintro ⟨⟨⟨⟩,⟨⟩⟩,⟨⟨(b:LI),(p:Int),⟨⟩⟩,⟨⟩⟩⟩ y hw hy
 obtain ⟨hg,hy⟩:=Tr.guard hy
 obtain ⟨h1,h2,h3⟩:=ll (b:=b) (p:=p) (n:=2) hg
 rw[← hy]
 obtain ⟨p,rfl⟩:=aq h2
 have hb:=dj hw.2.1.1
 have hL:=fG (b:=b) (p:=p) (n:=2) (by omega)
 have hk:cv b p=true:=by unfold cv;simp only[zA,zB];omega
 have e:bx b (p:Int) 2=(bz ((b.drop p).take 2),((p:Int)+2,0)):=by unfold bx;rw[if_neg (by omega),zG];rfl
 have e2:i16.wrap (bz ((b.drop p).take 2))=aH b (p:Int) 2:=by rw[jq];exact EI (iL hb p 2) hL
 show (vJ (((),()),((b,((p:Int),())),()))).val=some (.ret ((aH b (p:Int) 2,(0,())),((b,((p:Int)+2,())),())))
 unfold vJ
 rw[Tr.val_ite,if_pos hk,Tr.val_ret]
 show oR ((i16.wrap (bx b (p:Int) 2).1,((bx b (p:Int) 2).2.2,())),((b,((bx b (p:Int) 2).2.1,())),()))=_
 rw[e,← e2]
abbrev DL:Io:=mT
def N9 (d:DL.In):Tr DL.Res:=
 .ite (il d.2.1.1 d.2.1.2.1 1) (.ret (.ret ((aH d.2.1.1 d.2.1.2.1 1,(0,())),((d.2.1.1,(d.2.1.2.1+1,())),())))) .no
theorem Ow:HcOk prog 67 (ah DL N9):=by
 refine HcOk.weakB NA ?_
 rintro ⟨⟨⟨⟩,⟨⟩⟩,⟨⟨(b:LI),(p:Int),⟨⟩⟩,⟨⟩⟩⟩ y hw hy
 obtain ⟨hg,hy⟩:=Tr.guard hy
 obtain ⟨h1,h2,h3⟩:=ll (b:=b) (p:=p) (n:=1) hg
 rw[← hy]
 obtain ⟨p,rfl⟩:=aq h2
 have hb:=dj hw.2.1.1
 have hL:=fG (b:=b) (p:=p) (n:=1) (by omega)
 have hk:cv b p=true:=by unfold cv;simp only[zA,zB];omega
 have e:bx b (p:Int) 1=(bz ((b.drop p).take 1),((p:Int)+1,0)):=by unfold bx;rw[if_neg (by omega),zG];rfl
 have e2:i8.wrap (bz ((b.drop p).take 1))=aH b (p:Int) 1:=by rw[jq];exact NR (iL hb p 1) hL
 show (CE (((),()),((b,((p:Int),())),()))).val=some (.ret ((aH b (p:Int) 1,(0,())),((b,((p:Int)+1,())),())))
 unfold CE
 rw[Tr.val_ite,if_pos hk,Tr.val_ret]
 show oR ((i8.wrap (bx b (p:Int) 1).1,((bx b (p:Int) 1).2.2,())),((b,((bx b (p:Int) 1).2.1,())),()))=_
 rw[e,← e2]
abbrev qJ:Io:=gR
def Gr (d:qJ.In):Tr qJ.Res:=
 .ite (il d.2.1.1 d.2.1.2.1 d.1.2.1&&decide (0≤d.1.2.1)) (.ret (.ret ((0,()),((d.2.1.1,(d.2.1.2.1+d.1.2.1,())),())))) .no
theorem Lt:HcOk prog 66 (ah qJ Gr):=by
 refine HcOk.weakB IV ?_
 rintro ⟨⟨⟨⟩,(n:Int),⟨⟩⟩,⟨⟨(b:LI),(p:Int),⟨⟩⟩,⟨⟩⟩⟩ y hw hy
 obtain ⟨hg,hy⟩:=Tr.guard hy
 simp only[zA,zB] at hg
 obtain ⟨h1,h2,h3⟩:=ll (b:=b) (p:=p) (n:=n) hg.1
 have h4:0≤n:=hg.2
 rw[← hy]
 have hk:cv b p=true:=by unfold cv;simp only[zA,zB];omega
 have e:nm b p n=(p+n,0):=by unfold nm;rw[if_neg (by omega),if_neg (by omega)]
 show (qy (((),(n,())),((b,(p,())),()))).val=some (.ret ((0,()),((b,(p+n,())),())))
 unfold qy
 rw[Tr.val_ite,if_pos hk,Tr.val_ret]
 show oR (((nm b p n).2,()),((b,((nm b p n).1,())),()))=_
 rw[e]
end
end Go.Proofs.YtcbcbjdobbgddaaGreatDoor.Sym
