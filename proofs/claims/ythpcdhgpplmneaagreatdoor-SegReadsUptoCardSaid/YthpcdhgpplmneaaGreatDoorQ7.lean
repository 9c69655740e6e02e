/- leatref06: packing; leatref05.Print. -/
import Derived.Test.YthpcdhgpplmneaaGreatDoorTie
import Derived.Test.YthpcdhgpplmneaaGreatDoorCards
import Derived.ProofKit
import Derived.LaidMore
import Derived.OpenShut
import Derived.Stop.Joined
import Derived.Test.YthpcdhgpplmneaaGreatDoorQ6

set_option linter.unusedVariables false
set_option linter.unusedSimpArgs false
namespace Go.Proofs.YthpcdhgpplmneaaGreatDoor.Sym
open Go
open Go.IntKind (i8 i16 i32 i64 u8 u16 u32 u64)
noncomputable section
abbrev kI:Io:=⟨[dL,dI,dI],[],[],[dI],none⟩
def Ee (d:kI.In):Tr kI.Res:=.ite (decide ((0:Int)≤d.1.2.1)&&(decide (d.1.2.1≤d.1.2.2.1)&&decide (d.1.2.2.1≤(d.1.1.length:Int)))) (.ret (.ret (((b9 (d.1.1.drop d.1.2.1.toNat) (d.1.1.drop d.1.2.2.1.toNat) 131:Int),()),()))) .no
abbrev zQ:List (Nat×Hc):=[]
def G7:Hd:=bB zQ
abbrev dW:Lo:=⟨⟨(.one (.hol (.sl 5 (Ty.int u8)))::.one hI::.one hI::bv (.one hI::ah (cN (bv [])))),[]⟩,[(.exit 0,⟨(.any::bv (bi (.one hI::ah (cN (bv []))))),[]⟩)]⟩
def lU (d:dW.st.den):Tr (ao dW.xs):=
 .ite (decide (d.1.2.2.2.1=0)&&(decide ((0:Int)≤d.1.2.1)&&(decide (d.1.2.1≤d.1.2.2.1)&&decide (d.1.2.2.1≤(d.1.1.length:Int))))) (.ret (.ret ((),(((b9 (d.1.1.drop d.1.2.1.toNat) (d.1.1.drop d.1.2.2.1.toNat) 131:Int),()),())))) .no
def th:Lp:=bP [(3,aA dW lU)]
def sD {R:Type}(h3:LI)(h4 h5 h6:Int)(next:LI→Int→Int→Int→Option R)(out:ao dW.xs→Option R):Option R:=bif decide (h6<131) then bif decide (h6<i64.wrap ((↑h3.length:Int) - h5)) then bif decide (0≤i64.wrap (h4+h6))&&decide (i64.wrap (h4+h6)<(↑h3.length:Int)) then bif decide (0≤i64.wrap (h5+h6))&&decide (i64.wrap (h5+h6)<(↑h3.length:Int)) then bif h3.getD (i64.wrap (h4+h6)).toNat 0 == h3.getD (i64.wrap (h5+h6)).toNat 0 then next (h3) (h4) (h5) (i64.wrap (h6+1)) else out (.ret ((),((h6,()),()))) else none else none else out (.ret ((),((h6,()),()))) else out (.ret ((),((h6,()),())))
def rh (n:Nat)(h3:LI)(h4 h5 h6:Int):Option (ao dW.xs):=fH tt G7 dr th 0 Tryz.f176 (bI Tryz.f176 0) n (dW.st.mk' ((h3,(h4,(h5,(h6,())))),())) (bo dW.xs)
theorem JX (n:Nat)(h3:LI)(h4 h5 h6:Int):rh (n+1) h3 h4 h5 h6=sD h3 h4 h5 h6 (rh n) some:=by kernel_rfl
theorem CW (b:LI)(p i:Nat)(hp:p≤i)(hi:i≤b.length)(hl:b.length≤maxLen):∀(k n:Nat),131<n+k→n≤131→i+n≤b.length→
  rh k b p i n=some (.ret ((),((((n+b9 (b.drop (p+n)) (b.drop (i+n)) (131 - n):Nat):Int),()),()))):=by
 rw[aG] at hl
 intro k
 induction k with
 |zero=>intro n h h' _;omega
 |succ k ih=>
  intro n h1 h2 h3
  rw[JX]
  unfold sD
  rw[ae (n:=(b.length:Int) - (i:Int)) (by omega) (by omega),ae (n:=(p:Int)+(n:Int)) (by omega) (by omega),ae (n:=(i:Int)+(n:Int)) (by omega) (by omega),ae (n:=(n:Int)+1) (by omega) (by omega)]
  rw[show ((p:Int)+(n:Int)).toNat=p+n by omega,show ((i:Int)+(n:Int)).toNat=i+n by omega]
  by_cases c1:n<131
  rotate_left
  ·refine bF (decide_eq_false (by omega)) ?_
   rw[show 131 - n=0 by omega]
   have:b9 (b.drop (p+n)) (b.drop (i+n)) 0=0:=by cases b.drop (p+n) <;> cases b.drop (i+n) <;> rfl
   rw[this];rfl
  refine bT (decide_eq_true (by omega)) ?_
  by_cases c2:i+n<b.length
  rotate_left
  ·refine bF (decide_eq_false (by omega)) ?_
   rw[zI (show b.length≤i+n by omega)]
   have:b9 (b.drop (p+n)) [] (131 - n)=0:=by cases b.drop (p+n) <;> rfl
   rw[this];rfl
  refine bT (decide_eq_true (by omega)) ?_
  refine bT (by simp only[zA,zB];omega) ?_
  refine bT (by simp only[zA,zB];omega) ?_
  rw[aB (show p+n<b.length by omega),aB c2,zE (show p+n<b.length by omega),zE c2,show 131 - n=(131 - (n+1))+1 by omega]
  have e:b9 (b[p+n]::b.drop (p+n+1)) (b[i+n]::b.drop (i+n+1)) ((131 - (n+1))+1)=if b[p+n]=b[i+n] then b9 (b.drop (p+n+1)) (b.drop (i+n+1)) (131 - (n+1))+1 else 0:=rfl
  rw[e]
  by_cases c3:b[p+n]=b[i+n]
  ·refine bT (by simpa using c3) ?_
   rw[if_pos c3]
   have:=ih (n+1) (by omega) (by omega) (by omega)
   rw[show p+(n+1)=p+n+1 by omega,show i+(n+1)=i+n+1 by omega] at this
   refine this.trans ?_
   rw[show n+1+b9 (b.drop (p+n+1)) (b.drop (i+n+1)) (131 - (n+1))=n+(b9 (b.drop (p+n+1)) (b.drop (i+n+1)) (131 - (n+1))+1) by omega]
  ·refine bF (by simpa using c3) ?_
   rw[if_neg c3];rfl
def xe (a0:LI)(a1 a2:Int):Option kI.Res:=(lU ((a0,(a1,(a2,(0,())))),())).run fun y=>match y with | .ret ((),((x14,()),()))=>(oR ((x14,()),()))
theorem M7 (a0:LI)(a1 a2:Int):Io.run tt G7 dr th kI Tryz.f176 ((a0,a1,a2,()),())=xe a0 a1 a2:=by kernel_rfl
theorem Pv:HcOk prog 176 (ai kI Ee):=by
 refine bQ (cs:=zQ) HcsOk.nil (lp:=th) (fn:=Tryz.f176) kI (.step (h0:=aA dW lU) (by kernel_rfl) (fR (cs:=zQ) HcsOk.nil (lp:=th) (fn:=Tryz.f176) (.done (by kernel_rfl)) dW lU ?_) (.done (by kernel_rfl))) Ee ?_
 ·rintro ⟨⟨(b:LI),(p:Int),(i:Int),(n:Int),⟨⟩⟩,⟨⟩⟩ y hw hy
  obtain ⟨hg,hy⟩:=Tr.guard hy
  simp only[zA,zB] at hg
  obtain ⟨h1,h2,h3,h4⟩:=hg
  have h1:n=0:=h1
  have h2:0≤p:=h2
  have h3:p≤i:=h3
  have h4:i≤(b.length:Int):=h4
  subst h1
  obtain ⟨p,rfl⟩:=au h2
  obtain ⟨i,rfl⟩:=au (show 0≤i by omega)
  refine ⟨132,(CW b p i (by omega) (by omega) hw.1.1.1 132 0 (by omega) (by omega) (by omega)).trans ?_⟩
  rw[← hy,Nat.zero_add,Nat.add_zero,Nat.add_zero];rfl
 ·rintro ⟨⟨(b:LI),(p:Int),(i:Int),⟨⟩⟩,⟨⟩⟩ out hw ho
  obtain ⟨hg,ho⟩:=Tr.guard ho
  cases ho
  refine (M7 b p i).trans ?_
  unfold xe lU
  exact aa (by simpa using hg) _ _
abbrev iD:Io:=⟨[dL,dI,dI],[],[],[dI,dI],none⟩
def yY (d:iD.In):Tr iD.Res:=.ite (decide ((0:Int)≤d.1.2.1)&&decide (d.1.2.1≤(d.1.1.length:Int))) (.ret (.ret (((aJ d.1.1 d.1.2.1.toNat d.1.2.2.1).1,(aJ d.1.1 d.1.2.1.toNat d.1.2.2.1).2,()),()))) .no
abbrev Cc:List (Nat×Hc):=[(176,ai kI Ee)]
def CD:Hd:=bB Cc
abbrev db:Lo:=⟨⟨(.one (.hol (.sl 5 (Ty.int u8)))::.one hI::.one hI::.any::bv (.one hI::.one hI::.one hI::.one hI::.any::ah (ah (bv (bi []))))),[]⟩,[(.exit 0,⟨(cN (.one hI::.one hI::.any::ah (ah (cN [])))),[]⟩)]⟩
def j0 (d:db.st.den):Tr (ao db.xs):=
 .ite (decide (d.1.2.2.2.1=0)&&(decide (d.1.2.2.2.2.1=0)&&(decide (d.1.2.2.2.2.2.1=0)&&(decide (d.1.2.2.2.2.2.2.1=d.1.2.1 - 1)&&(decide ((0:Int)≤d.1.2.1)&&decide (d.1.2.1≤(d.1.1.length:Int)))))))
  (.ret (.ret ((),(((aJ d.1.1 d.1.2.1.toNat d.1.2.2.1).1,((aJ d.1.1 d.1.2.1.toNat d.1.2.2.1).2,())),())))) .no
def pN:Lp:=bP [(4,aA db j0)]
def qr {R:Type}(h3:LI)(h4 h5 h6 h7 h8 h9:Int)(next:LI→Int→Int→Int→Int→Int→Int→Option R)(out:ao db.xs→Option R):Option R:=bif decide (0≤h9) then bif decide (i64.wrap (h4 - h9)≤4096) then bif decide (h8<h5) then bif decide (0≤h9)&&(decide (h9≤h4)&&decide (h4≤(↑h3.length:Int))) then bif decide (4≤(↑(b9 (List.drop h9.toNat h3) (List.drop h4.toNat h3) 131):Int)) then bif decide (4≤(↑(b9 (List.drop h9.toNat h3) (List.drop h4.toNat h3) 131):Int)) then bif decide (h7<(↑(b9 (List.drop h9.toNat h3) (List.drop h4.toNat h3) 131):Int)) then next (h3) (h4) (h5) (i64.wrap (h4 - h9)) ((↑(b9 (List.drop h9.toNat h3) (List.drop h4.toNat h3) 131):Int)) (i64.wrap (h8+1)) (i64.wrap (h9 - 1)) else next (h3) (h4) (h5) (h6) (h7) (i64.wrap (h8+1)) (i64.wrap (h9 - 1)) else next (h3) (h4) (h5) (h6) (h7) (i64.wrap (h8+1)) (i64.wrap (h9 - 1)) else bif decide (4≤(↑(b9 (List.drop h9.toNat h3) (List.drop h4.toNat h3) 131):Int)) then bif decide (h7<(↑(b9 (List.drop h9.toNat h3) (List.drop h4.toNat h3) 131):Int)) then next (h3) (h4) (h5) (i64.wrap (h4 - h9)) ((↑(b9 (List.drop h9.toNat h3) (List.drop h4.toNat h3) 131):Int)) (h8) (i64.wrap (h9 - 1)) else next (h3) (h4) (h5) (h6) (h7) (h8) (i64.wrap (h9 - 1)) else next (h3) (h4) (h5) (h6) (h7) (h8) (i64.wrap (h9 - 1)) else none else out (.ret ((),((h6,(h7,())),()))) else out (.ret ((),((h6,(h7,())),()))) else out (.ret ((),((h6,(h7,())),())))
def oH (n:Nat)(h3:LI)(h4 h5 h6 h7 h8 h9:Int):Option (ao db.xs):=fH tt CD dr pN 0 Tryz.f154 (bI Tryz.f154 0) n (db.st.mk' ((h3,(h4,(h5,(h6,(h7,(h8,(h9,()))))))),())) (bo db.xs)
theorem Fv (n:Nat)(h3:LI)(h4 h5 h6 h7 h8 h9:Int):oH (n+1) h3 h4 h5 h6 h7 h8 h9=qr h3 h4 h5 h6 h7 h8 h9 (oH n) some:=by kernel_rfl
theorem Ap (b:LI)(i:Nat)(depth:Int)(hi:i≤b.length)(hl:b.length≤maxLen):∀(k q:Nat) (d m s:Int),q<k→q≤i→0≤s→s≤(i:Int) - (q:Int)→
  oH k b i depth d m s ((q:Int) - 1)=some (.ret ((),(((fW b i depth q d m s).1,((fW b i depth q d m s).2,())),()))):=by
 rw[aG] at hl
 intro k
 induction k with
 |zero=>intro q d m s h;omega
 |succ k ih=>
  intro q d m s h1 h2 h3 h4
  rw[Fv]
  unfold qr
  cases q with
  |zero=>exact af (decide_eq_false (by omega)) _ _
  |succ q=>
   have hc:=(vS (b.drop q) (b.drop i) 131).1
   rw[show (((q+1:Nat):Int) - 1)=(q:Int) by omega,ae (n:=(i:Int) - (q:Int)) (by omega) (by omega),ae (n:=s+1) (by omega) (by omega),ae (n:=(q:Int) - 1) (by omega) (by omega),zG,zG]
   unfold fW
   refine bT (decide_eq_true (by omega)) ?_
   by_cases c1:(i:Int) - (q:Int)≤4096
   rotate_left
   ·refine bF (decide_eq_false c1) ?_
    rw[if_neg (fun h=>c1 h.1)]
   refine bT (decide_eq_true c1) ?_
   by_cases c2:s<depth
   rotate_left
   ·refine bF (decide_eq_false c2) ?_
    rw[if_neg (fun h=>c2 h.2)]
   refine bT (decide_eq_true c2) ?_
   rw[if_pos ⟨c1,c2⟩]
   refine bT (by simp only[zA,zB];omega) ?_
   generalize b9 (b.drop q) (b.drop i) 131=n at *
   by_cases c3:4≤n
   ·refine bT (decide_eq_true (by omega)) ?_
    refine bT (decide_eq_true (by omega)) ?_
    rw[if_pos c3]
    by_cases c4:m<(n:Int)
    ·refine bT (decide_eq_true c4) ?_
     rw[if_pos c4]
     exact ih q _ _ _ (by omega) (by omega) (by omega) (by omega)
    ·refine bF (decide_eq_false c4) ?_
     rw[if_neg c4]
     exact ih q _ _ _ (by omega) (by omega) (by omega) (by omega)
   ·refine bF (decide_eq_false (by omega)) ?_
    refine bF (decide_eq_false (by omega)) ?_
    rw[if_neg c3]
    exact ih q _ _ _ (by omega) (by omega) (by omega) (by omega)
def up (a0:LI)(a1 a2:Int):Option iD.Res:=(j0 ((a0,(a1,(a2,(0,(0,(0,(i64.wrap (a1 - 1),()))))))),())).run fun y=>match y with | .ret ((),((x58,x59,()),()))=>(oR ((x58,x59,()),()))
theorem JC (a0:LI)(a1 a2:Int):Io.run tt CD dr pN iD Tryz.f154 ((a0,a1,a2,()),())=up a0 a1 a2:=by kernel_rfl
theorem uT:HcsOk prog Cc:=.cons Pv .nil
theorem Mx:HcOk prog 154 (ai iD yY):=by
 refine bQ uT (lp:=pN) (fn:=Tryz.f154) iD (.step (h0:=aA db j0) (by kernel_rfl) (fR uT (lp:=pN) (fn:=Tryz.f154) (.done (by kernel_rfl)) db j0 ?_) (.done (by kernel_rfl))) yY ?_
 ·rintro ⟨⟨(b:LI),(i:Int),(depth:Int),(d:Int),(m:Int),(s:Int),(p:Int),⟨⟩⟩,⟨⟩⟩ y hw hy
  obtain ⟨hg,hy⟩:=Tr.guard hy
  simp only[zA,zB] at hg
  obtain ⟨h1,h2,h3,h4,h5,h6⟩:=hg
  have h1:d=0:=h1
  have h2:m=0:=h2
  have h3:s=0:=h3
  have h4:p=i - 1:=h4
  have h5:0≤i:=h5
  have h6:i≤(b.length:Int):=h6
  subst h1 h2 h3 h4
  obtain ⟨i,rfl⟩:=au h5
  refine ⟨i+1,(Ap b i depth (by omega) hw.1.1.1 (i+1) i 0 0 0 (by omega) (by omega) (by omega) (by omega)).trans ?_⟩
  rw[← hy];rfl
 ·rintro ⟨⟨(b:LI),(i:Int),(depth:Int),⟨⟩⟩,⟨⟩⟩ out hw ho
  obtain ⟨hg,ho⟩:=Tr.guard ho
  cases ho
  refine (JC b i depth).trans ?_
  have hl:b.length≤maxLen:=hw.1.1.1
  rw[aG] at hl
  simp only[zA,zB] at hg
  have h5:0≤i:=hg.1
  have h6:i≤(b.length:Int):=hg.2
  unfold up j0
  rw[ae (n:=i - 1) (by omega) (by omega)]
  exact aa (by simp only[zA,zB];exact ⟨trivial,trivial,trivial,trivial,h5,h6⟩) _ _
abbrev iE:Io:=⟨[Lc,dL,dI,dI],[],[],[Lc],none⟩
def yZ (d:iE.In):Tr iE.Res:=.ite (decide ((0:Int)≤d.1.2.2.1)&&(decide (d.1.2.2.1≤d.1.2.2.2.1)&&(decide (d.1.2.2.2.1≤(d.1.2.1.length:Int))&&decide (d.1.1.length+d.1.2.1.length≤4294960000)))) (.ret (.ret ((d.1.1++bV d.1.2.1 d.1.2.2.1.toNat d.1.2.2.2.1.toNat,()),()))) .no
abbrev pA:List (Nat×Hc):=[]
def u9:Hd:=bB pA
abbrev dd:Lo:=⟨⟨(.one (.onl 220 dH 1)::.one (.hol (.sl 5 (Ty.int u8)))::.one hI::.one hI::.any::bv (.one (.onl 5 (Ty.int u8) 19)::.any::ah (cN (bi [])))),[]⟩,[(.exit 2,⟨(.one (.onl 220 dH 1)::.one (.hol (.sl 5 (Ty.int u8)))::.one hI::.one hI::.any::bv (.one (.onl 5 (Ty.int u8) 19)::.any::ah (cN (bi [])))),[]⟩)]⟩
abbrev dc:Lo:=⟨⟨(.one (.onl 220 dH 1)::.one (.hol (.sl 5 (Ty.int u8)))::.one hI::.one hI::.any::ah (ah ([]))),[]⟩,[(.exit 0,⟨(.one (.onl 220 dH 1)::ah (ah (bv []))),[]⟩)]⟩
def j3 (d:dd.st.den):Tr (ao dd.xs):=
 .ite (decide (d.1.2.2.2.2.1.length=0)&&(decide ((0:Int)≤d.1.2.2.1)&&(decide (d.1.2.2.1≤d.1.2.2.2.1)&&decide (d.1.2.2.2.1≤(d.1.2.1.length:Int)))))
  (.ret (.ret ((),((d.1.1,(d.1.2.1,(d.1.2.2.1+((((d.1.2.1.take d.1.2.2.2.1.toNat).drop d.1.2.2.1.toNat).take 128).length:Int),(d.1.2.2.2.1,(((d.1.2.1.take d.1.2.2.2.1.toNat).drop d.1.2.2.1.toNat).take 128,()))))),())))) .no
def j1 (d:dc.st.den):Tr (ao dc.xs):=
 .ite (decide ((0:Int)≤d.1.2.2.1)&&(decide (d.1.2.2.1≤d.1.2.2.2.1)&&(decide (d.1.2.2.2.1≤(d.1.2.1.length:Int))&&decide (d.1.1.length+d.1.2.1.length≤4294960000)))) (.ret (.ret ((),((d.1.1++bV d.1.2.1 d.1.2.2.1.toNat d.1.2.2.2.1.toNat,()),())))) .no
def kd:Lp:=bP [(2,aA dc j1),(4,aA dd j3)]
def qt {R:Type}(h8:List dH.den)(h9:LI)(h10 h11:Int)(h12:LI)(next:List dH.den→LI→Int→Int→LI→Option R)(out:ao dd.xs→Option R):Option R:=bif decide ((↑h12.length:Int)<128) then bif decide (h10<h11) then bif decide (0≤h10)&&decide (h10<(↑h9.length:Int)) then bif decide (h12.length+1≤4294967296) then next (h8) (h9) (i64.wrap (h10+1)) (h11) (h12++[h9.getD h10.toNat 0]) else none else none else out (.ret ((),((h8,(h9,(h10,(h11,(h12,()))))),()))) else out (.ret ((),((h8,(h9,(h10,(h11,(h12,()))))),())))
def oI (n:Nat)(h8:List dH.den)(h9:LI)(h10 h11:Int)(h12:LI):Option (ao dd.xs):=fH tt u9 dr kd 0 Tryz.f155 (Kg Tryz.f155 (bI Tryz.f155 0) 0) n (dd.st.mk' ((h8,(h9,(h10,(h11,(h12,()))))),())) (bo dd.xs)
theorem Fx (n:Nat)(h8:List dH.den)(h9:LI)(h10 h11:Int)(h12:LI):oI (n+1) h8 h9 h10 h11 h12=qt h8 h9 h10 h11 h12 (oI n) some:=by kernel_rfl
def qs {R:Type}(h4:List dH.den)(h5:LI)(h6 h7:Int)(next:List dH.den→LI→Int→Int→Option R)(out:ao dc.xs→Option R):Option R:=bif decide (h6<h7) then (j3 ((h4,(h5,(h6,(h7,([],()))))),())).run fun y=>match y with | .ret ((),((x28,x29,x30,x31,x32,()),()))=>(bif decide (x28.length+1≤4294967296) then next (x28++[(x32,0,0,())]) (x29) (x30) (x31) else none) else out (.ret ((),((h4,()),())))
def lc (n:Nat)(h4:List dH.den)(h5:LI)(h6 h7:Int):Option (ao dc.xs):=fH tt u9 dr kd 0 Tryz.f155 (bI Tryz.f155 0) n (dc.st.mk' ((h4,(h5,(h6,(h7,())))),())) (bo dc.xs)
theorem Fw (n:Nat)(h4:List dH.den)(h5:LI)(h6 h7:Int):lc (n+1) h4 h5 h6 h7=qs h4 h5 h6 h7 (lc n) some:=by kernel_rfl
theorem Ar (ts:List gB)(b:LI)(hi:Nat)(h:hi≤b.length)(hl:b.length≤maxLen):∀(k lo:Nat) (lit:LI),128<lit.length+k→lo≤hi→lit.length≤128→
  oI k ts b lo hi lit=some (.ret ((),((ts,(b,(((lo+(((b.take hi).drop lo).take (128 - lit.length)).length:Nat):Int),((hi:Int),(lit++((b.take hi).drop lo).take (128 - lit.length),()))))),()))):=by
 rw[aG] at hl
 intro k
 induction k with
 |zero=>intro lo lit h1 h2 h3;omega
 |succ k ih=>
  intro lo lit h1 h2 h3
  rw[Fx]
  unfold qt
  by_cases c1:lit.length<128
  rotate_left
  ·refine bF (decide_eq_false (by omega)) ?_
   rw[show 128 - lit.length=0 by omega,List.take_zero,List.append_nil];rfl
  refine bT (decide_eq_true (by omega)) ?_
  by_cases c2:lo<hi
  rotate_left
  ·refine bF (decide_eq_false (by omega)) ?_
   rw[zI (show (b.take hi).length≤lo by rw[List.length_take];omega),List.take_nil,List.append_nil];rfl
  refine bT (decide_eq_true (by omega)) ?_
  refine bT (by simp only[zA,zB];omega) ?_
  refine bT (decide_eq_true (by omega)) ?_
  rw[ae (n:=(lo:Int)+1) (by omega) (by omega),zG,aB (show lo<b.length by omega)]
  have:=ih (lo+1) (lit++[b[lo]]) (by simp;omega) (by omega) (by simp;omega)
  refine this.trans ?_
  have hlen:(lit++[b[lo]]).length=lit.length+1:=by simp
  have hd:(b.take hi).drop lo=b[lo]::(b.take hi).drop (lo+1):=by
   rw[zE (show lo<(b.take hi).length by rw[List.length_take];omega),List.getElem_take]
  rw[hlen,hd,show 128 - lit.length=(128 - (lit.length+1))+1 by omega,List.take_succ_cons,zN,zK,zM,
   show lo+1+(((b.take hi).drop (lo+1)).take (128 - (lit.length+1))).length=lo+((((b.take hi).drop (lo+1)).take (128 - (lit.length+1))).length+1) by omega]
theorem Aq (b:LI)(hi:Nat)(h:hi≤b.length)(hl:b.length≤maxLen):∀(k lo:Nat) (ts:List gB),hi<lo+k→lo≤hi→ts.length+(hi - lo)≤4294960000→
  lc k ts b lo hi=some (.ret ((),((ts++bV b lo hi,()),()))):=by
 intro k
 induction k with
 |zero=>intro lo ts h1 h2 h3;omega
 |succ k ih=>
  intro lo ts h1 h2 h3
  rw[Fw]
  unfold qs
  by_cases c2:lo<hi
  rotate_left
  ·refine bF (decide_eq_false (by omega)) ?_
   have:bV b lo hi=[]:=by
    unfold bV
    rw[show hi - lo=0 by omega];rfl
   rw[this,List.append_nil]
  refine bT (decide_eq_true (by omega)) ?_
  unfold j3
  refine bT (by simp only[zA,zB];exact ⟨rfl,show (0:Int)≤(lo:Int) by omega,show (lo:Int)≤(hi:Int) by omega,show (hi:Int)≤(b.length:Int) by omega⟩) ?_
  refine bT (decide_eq_true (show ts.length+1≤4294967296 by omega)) ?_
  show lc k (ts++[(((b.take (hi:Int).toNat).drop (lo:Int).toNat).take 128,0,0,())]) b ((lo:Int)+((((b.take (hi:Int).toNat).drop (lo:Int).toNat).take 128).length:Int)) (hi:Int)=_
  rw[zG,zG,DL c2 h]
  have hP:(((b.take hi).drop lo).take 128).length=min 128 (hi - lo):=by rw[List.length_take,List.length_drop,List.length_take,Nat.min_eq_left h]
  generalize ((b.take hi).drop lo).take 128=P at *
  have:=ih (lo+P.length) (ts++[(P,0,0,())]) (by omega) (by omega) (by simp;omega)
  rw[show ((lo+P.length:Nat):Int)=(lo:Int)+(P.length:Int) by omega] at this
  refine this.trans ?_
  rw[zK];rfl
def uq (a0:List dH.den)(a1:LI)(a2 a3:Int):Option iE.Res:=(j1 ((a0,(a1,(a2,(a3,())))),())).run fun y=>match y with | .ret ((),((x38,()),()))=>(oR ((x38,()),()))
theorem JD (a0:List dH.den)(a1:LI)(a2 a3:Int):Io.run tt u9 dr kd iE Tryz.f155 ((a0,a1,a2,a3,()),())=uq a0 a1 a2 a3:=by kernel_rfl
theorem My:HcOk prog 155 (ai iE yZ):=by
 refine bQ (cs:=pA) HcsOk.nil (lp:=kd) (fn:=Tryz.f155) iE (.step (h0:=aA dc j1) (by kernel_rfl) (fR (cs:=pA) HcsOk.nil (lp:=kd) (fn:=Tryz.f155) (.step (h0:=aA dd j3) (by kernel_rfl) (fR (cs:=pA) HcsOk.nil (lp:=kd) (fn:=Tryz.f155) (.done (by kernel_rfl)) dd j3 ?_) (.done (by kernel_rfl))) dc j1 ?_) (.done (by kernel_rfl))) yZ ?_
 ·rintro ⟨⟨(ts:List gB),(b:LI),(lo:Int),(hi:Int),(lit:LI),⟨⟩⟩,⟨⟩⟩ y hw hy
  obtain ⟨hg,hy⟩:=Tr.guard hy
  simp only[zA,zB] at hg
  obtain ⟨h1,h2,h3,h4⟩:=hg
  have h1:lit=[]:=List.length_eq_zero_iff.1 h1
  have h2:0≤lo:=h2
  have h3:lo≤hi:=h3
  have h4:hi≤(b.length:Int):=h4
  subst h1
  obtain ⟨lo,rfl⟩:=au h2
  obtain ⟨hi,rfl⟩:=au (show 0≤hi by omega)
  refine ⟨129,(Ar ts b hi (by omega) hw.1.2.1.1 129 lo [] (by simp) (by omega) (by simp)).trans ?_⟩
  rw[← hy];rfl
 ·rintro ⟨⟨(ts:List gB),(b:LI),(lo:Int),(hi:Int),⟨⟩⟩,⟨⟩⟩ y hw hy
  obtain ⟨hg,hy⟩:=Tr.guard hy
  simp only[zA,zB] at hg
  obtain ⟨h2,h3,h4,h5⟩:=hg
  have h2:0≤lo:=h2
  have h3:lo≤hi:=h3
  have h4:hi≤(b.length:Int):=h4
  have h5:ts.length+b.length≤4294960000:=h5
  obtain ⟨lo,rfl⟩:=au h2
  obtain ⟨hi,rfl⟩:=au (show 0≤hi by omega)
  refine ⟨hi+1,(Aq b hi (by omega) hw.1.2.1.1 (hi+1) lo ts (by omega) (by omega) (by omega)).trans ?_⟩
  rw[← hy];rfl
 ·rintro ⟨⟨(ts:List gB),(b:LI),(lo:Int),(hi:Int),⟨⟩⟩,⟨⟩⟩ out hw ho
  obtain ⟨hg,ho⟩:=Tr.guard ho
  cases ho
  refine (JD ts b lo hi).trans ?_
  unfold uq j1
  exact aa hg _ _
abbrev iG:Io:=⟨[dL,dI],[],[],[QA,dI],none⟩
def y7 (d:iG.In):Tr iG.Res:=.ite (decide (d.1.2.1=(8:Int))) (.ret (.ret (((fO d.1.1).1,(fO d.1.1).2,()),()))) .no
abbrev Ce:List (Nat×Hc):=[(154,ai iD yY),(155,ai iE yZ)]
def CF:Hd:=bB Ce
abbrev df:Lo:=⟨⟨(.one (.hol (.sl 5 (Ty.int u8)))::.one hI::bv (.one (.onl 220 dH 13)::.one hI::.one hI::.any::ah (ah (cN (bi []))))),[]⟩,[(.exit 0,⟨(.one (.hol (.sl 5 (Ty.int u8)))::.any::bv (.one (.onl 220 dH 13)::.one hI::.one hI::.any::ah (ah (cN (bi []))))),[]⟩)]⟩
def gS (d:df.st.den):Tr (ao df.xs):=
 .ite (decide (d.1.2.1=8)&&(decide (d.1.2.2.1.length=0)&&(decide (d.1.2.2.2.1=0)&&(decide (d.1.2.2.2.2.1=0)&&decide (d.1.1.length≤32768)))))
  (.ret (.ret ((),((d.1.1,((bz d.1.1 8 (d.1.1.length+1) 0 0 []).1,(((bz d.1.1 8 (d.1.1.length+1) 0 0 []).2.1:Int),(((bz d.1.1 8 (d.1.1.length+1) 0 0 []).2.2:Int),())))),())))) .no
def pP:Lp:=bP [(8,aA df gS)]
def qv {R:Type}(h2:LI)(h3:Int)(h4:List dH.den)(h5 h6:Int)(next:LI→Int→List dH.den→Int→Int→Option R)(out:ao df.xs→Option R):Option R:=bif decide (h6<(↑h2.length:Int)) then bif decide (0≤h6)&&decide (h6≤(↑h2.length:Int)) then bif (aJ h2 h6.toNat h3).2 == 0 then next (h2) (h3) (h4) (h5) (i64.wrap (h6+1)) else bif decide (0≤h5)&&(decide (h5≤h6)&&(decide (h6≤(↑h2.length:Int))&&decide (h4.length+h2.length≤4294960000))) then bif decide (List.length (h4++bV h2 h5.toNat h6.toNat)+1≤4294967296) then next (h2) (h3) (h4++bV h2 h5.toNat h6.toNat++[([],(aJ h2 h6.toNat h3).1,(aJ h2 h6.toNat h3).2,())]) (i64.wrap (h6+(aJ h2 h6.toNat h3).2)) (i64.wrap (h6+(aJ h2 h6.toNat h3).2)) else none else none else none else out (.ret ((),((h2,(h4,(h5,(h6,())))),())))
def oK (n:Nat)(h2:LI)(h3:Int)(h4:List dH.den)(h5 h6:Int):Option (ao df.xs):=fH tt CF dr pP 0 Tryz.f120 (bI Tryz.f120 0) n (df.st.mk' ((h2,(h3,(h4,(h5,(h6,()))))),())) (bo df.xs)
theorem Fz (n:Nat)(h2:LI)(h3:Int)(h4:List dH.den)(h5 h6:Int):oK (n+1) h2 h3 h4 h5 h6=qv h2 h3 h4 h5 h6 (oK n) some:=by kernel_rfl
theorem Au (b:LI)(hl:b.length≤32768):∀(n k lo i:Nat) (ts:List gB),b.length<i+n→n≤k→lo≤i→i≤b.length→ts.length≤lo→
  oK k b 8 ts lo i=some (.ret ((),((b,((bz b 8 n lo i ts).1,(((bz b 8 n lo i ts).2.1:Int),(((bz b 8 n lo i ts).2.2:Int),())))),()))):=by
 intro n
 induction n with
 |zero=>intro k lo i ts h1 h2 h3 h4 h5;omega
 |succ n ih=>
  intro k lo i ts h1 h2 h3 h4 h5
  obtain ⟨k,rfl⟩:∃j,k=j+1:=⟨k - 1,by omega⟩
  rw[Fz]
  unfold qv bz
  by_cases c1:i<b.length
  rotate_left
  ·refine bF (decide_eq_false (by omega)) ?_
   rw[if_neg c1]
  refine bT (decide_eq_true (by omega)) ?_
  refine bT (by simp only[zA,zB];omega) ?_
  rw[if_pos c1,zG,zG]
  by_cases c2:(aJ b i 8).2=0
  ·refine bT (by simpa using c2) ?_
   rw[if_pos c2,ae (n:=(i:Int)+1) (by omega) (by omega)]
   exact ih k lo (i+1) ts (by omega) (by omega) (by omega) (by omega) h5
  ·refine bF (by simpa using c2) ?_
   rcases hC c1 8 with h6 | ⟨g1,g2,g3,g4,g5,g6,g7⟩
   ·exact absurd h6.1 c2
   have hlen:=vV h3 h4
   refine bT (by simp only[zA,zB];omega) ?_
   refine bT (decide_eq_true (by rw[zH];omega)) ?_
   rw[if_neg c2,ae (n:=(i:Int)+(aJ b i 8).2) (by omega) (by omega)]
   have:=ih k (i+(aJ b i 8).2.toNat) (i+(aJ b i 8).2.toNat) (ts++bV b lo i++[([],(aJ b i 8).1,(aJ b i 8).2,())]) (by omega) (by omega) (Nat.le_refl _) (by omega) (by simp only[zH,List.length_singleton];omega)
   rw[show ((i+(aJ b i 8).2.toNat:Nat):Int)=(i:Int)+(aJ b i 8).2 by omega] at this
   exact this
def ut (a0:LI)(a1:Int):Option iG.Res:=bif decide (32768<(↑a0.length:Int)) then oR (([],4,()),()) else bif decide (32<a1) then (gS ((a0,(32,([],(0,(0,()))))),())).run fun y=>match y with | .ret ((),((x21,x22,x23,x24,()),()))=>(bif decide (0≤x23)&&(decide (x23≤x24)&&(decide (x24≤(↑x21.length:Int))&&decide (x22.length+x21.length≤4294960000))) then oR ((x22++bV x21 x23.toNat x24.toNat,0,()),()) else none) else (gS ((a0,(a1,([],(0,(0,()))))),())).run fun y=>match y with | .ret ((),((x30,x31,x32,x33,()),()))=>(bif decide (0≤x32)&&(decide (x32≤x33)&&(decide (x33≤(↑x30.length:Int))&&decide (x31.length+x30.length≤4294960000))) then oR ((x31++bV x30 x32.toNat x33.toNat,0,()),()) else none)
theorem JF (a0:LI)(a1:Int):Io.run tt CF dr pP iG Tryz.f120 ((a0,a1,()),())=ut a0 a1:=by kernel_rfl
theorem uV:HcsOk prog Ce:=.cons Mx (.cons My .nil)
theorem MA:HcOk prog 120 (ai iG y7):=by
 refine bQ uV (lp:=pP) (fn:=Tryz.f120) iG (.step (h0:=aA df gS) (by kernel_rfl) (fR uV (lp:=pP) (fn:=Tryz.f120) (.done (by kernel_rfl)) df gS ?_) (.done (by kernel_rfl))) y7 ?_
 ·rintro ⟨⟨(b:LI),(depth:Int),(ts:List gB),(lo:Int),(i:Int),⟨⟩⟩,⟨⟩⟩ y hw hy
  obtain ⟨hg,hy⟩:=Tr.guard hy
  simp only[zA,zB] at hg
  obtain ⟨h1,h2,h3,h4,h5⟩:=hg
  have h1:depth=8:=h1
  have h2:ts=[]:=List.length_eq_zero_iff.1 h2
  have h3:lo=0:=h3
  have h4:i=0:=h4
  have h5:b.length≤32768:=h5
  subst h1 h2 h3 h4
  exact ⟨b.length+1,(Au b h5 (b.length+1) (b.length+1) 0 0 [] (by omega) (Nat.le_refl _) (Nat.le_refl 0) (Nat.zero_le _) (Nat.le_refl 0)).trans hy⟩
 ·rintro ⟨⟨(b:LI),(depth:Int),⟨⟩⟩,⟨⟩⟩ out hw ho
  obtain ⟨hg,ho⟩:=Tr.guard ho
  have hg:depth=8:=of_decide_eq_true hg
  subst hg
  cases ho
  refine (JF b 8).trans ?_
  show _=oR (((fO b).1,(fO b).2,()),())
  unfold ut fO
  by_cases c1:32768<(b.length:Int)
  ·refine bT (decide_eq_true c1) ?_
   rw[if_pos c1]
  refine bF (decide_eq_false c1) ?_
  refine bF (by decide) ?_
  rw[if_neg c1]
  unfold gS
  refine bT (by simp only[zA,zB];exact ⟨trivial,rfl,trivial,trivial,show b.length≤32768 by omega⟩) ?_
  obtain ⟨k1,k2,k3⟩:=rG b 8 (b.length+1) 0 0 [] (Nat.le_refl 0) (Nat.zero_le _) (Nat.le_refl 0)
  have e:eD b=(bz b 8 (b.length+1) 0 0 []).1++bV b (bz b 8 (b.length+1) 0 0 []).2.1 (bz b 8 (b.length+1) 0 0 []).2.2:=rF b 8 (b.length+1) 0 0 []
  rw[e]
  show (bif decide ((0:Int)≤((bz b 8 (b.length+1) 0 0 []).2.1:Int))&&(decide (((bz b 8 (b.length+1) 0 0 []).2.1:Int)≤((bz b 8 (b.length+1) 0 0 []).2.2:Int))&&(decide (((bz b 8 (b.length+1) 0 0 []).2.2:Int)≤(b.length:Int))&&decide ((bz b 8 (b.length+1) 0 0 []).1.length+b.length≤4294960000))) then oR (((bz b 8 (b.length+1) 0 0 []).1++bV b ((bz b 8 (b.length+1) 0 0 []).2.1:Int).toNat ((bz b 8 (b.length+1) 0 0 []).2.2:Int).toNat,0,()),()) else none)=_
  rw[zG,zG]
  exact aa (by simp only[zA,zB];omega) _ _
abbrev gf:Io:=⟨[QA],[],[],[dL,dI],none⟩
def tX (d:gf.In):Tr gf.Res:=.ite (mN d.1.1&&decide ((aI d.1.1).length≤4294960000)) (.ret (.ret ((aI d.1.1,0,()),()))) .no
abbrev xS:List (Nat×Hc):=[(157,ai jr zk),(158,ai gO tW)]
def qX:Hd:=bB xS
abbrev ce:Lo:=⟨⟨(.one (.hol (.sl 220 dH))::.any::bi (.one (.onl 5 (Ty.int u8) 9)::.one hI::.one (.ptr 6 0)::.one hI::ah (ah (ah (cN (bv [])))))),[none,none,none,none,none,none,some [.hol (.sl 5 (Ty.int u8)),hI,hI]]⟩,[(.exit 2,⟨(.one (.hol (.sl 220 dH))::.any::bi (.one (.onl 5 (Ty.int u8) 9)::.one hI::ah (ah (ah (cN (bv (bi []))))))),[]⟩)]⟩
abbrev cB:Lo:=⟨⟨(.one (.hol (.sl 220 dH))::.any::bi (.one (.onl 5 (Ty.int u8) 9)::.one hI::ah (ah (ah (cN (bv (bi []))))))),[]⟩,[(.ret,⟨(bi (.one (.onl 5 (Ty.int u8) 5)::.one hI::ah (ah (ah (ah ([])))))),[]⟩),(.exit 0,⟨(bv (.one (.onl 5 (Ty.int u8) 9)::.any::ah (ah (ah (cN (bv (bi []))))))),[]⟩)]⟩
def gq (d:ce.st.den):Tr (ao ce.xs):=
 .ite (decide (d.1.2.2.2.1=0)&&decide (d.1.2.1.length+d.2.1.1.length≤4294967296)) (.ret (.ret ((),((d.1.1,(d.1.2.1++d.2.1.1,(d.1.2.2.1,()))),())))) .no
def im (d:cB.st.den):Tr (ao cB.xs):=
 .ite (decide (d.1.2.2.1=0)&&(decide (d.1.2.1.length=0)&&(mN d.1.1&&decide ((aI d.1.1).length≤4294960000)))) (.ret (.pan (.ret ((),((aI d.1.1,()),()))))) .no
def gY:Lp:=bP [(4,aA cB im),(10,aA ce gq)]
def mQ {R:Type}(h4:List dH.den)(h5:LI)(h6 h7:Int)(h8:LI)(h9 h10:Int)(next:List dH.den→LI→Int→Int→LI→Int→Int→Option R)(out:ao ce.xs→Option R):Option R:=bif decide (h7<(↑h8.length:Int)) then bif decide (0≤h7)&&decide (h7<(↑h8.length:Int)) then bif decide (h5.length+1≤4294967296) then next (h4) (h5++[h8.getD h7.toNat 0]) (h6) (i64.wrap (h7+1)) (h8) (h9) (h10) else none else none else out (.ret ((),((h4,(h5,(h6,()))),())))
def lg (n:Nat)(h4:List dH.den)(h5:LI)(h6 h7:Int)(h8:LI)(h9 h10:Int):Option (ao ce.xs):=fH tt qX dr gY 0 Tryz.f122 (Kg Tryz.f122 (bI Tryz.f122 0) 0) n (ce.st.mk' ((h4,(h5,(h6,(h7,())))),((h8,(h9,(h10,()))),()))) (bo ce.xs)
theorem Bf (n:Nat)(h4:List dH.den)(h5:LI)(h6 h7:Int)(h8:LI)(h9 h10:Int):lg (n+1) h4 h5 h6 h7 h8 h9 h10=mQ h4 h5 h6 h7 h8 h9 h10 (lg n) some:=by kernel_rfl
def nU {R:Type}(h1:List dH.den)(h2:LI)(h3:Int)(next:List dH.den→LI→Int→Option R)(out:ao cB.xs→Option R):Option R:=bif decide (h3<(↑h1.length:Int)) then bif decide (0≤h3)&&decide (h3<(↑h1.length:Int)) then bif kk (h1.getD h3.toNat ([],0,0,())) then bif decide (h2.length+1≤4294967296) then (gq ((h1,(h2++[u8.wrap (i64.wrap ((↑(List.length (h1.getD h3.toNat ([],0,0,())).1):Int) - 1))],(h3,(0,())))),(((h1.getD h3.toNat ([],0,0,())).1,((h1.getD h3.toNat ([],0,0,())).2.1,((h1.getD h3.toNat ([],0,0,())).2.2.1,()))),()))).run fun y=>match y with | .ret ((),((x21,x22,x23,()),()))=>(next (x21) (x22) (i64.wrap (x23+1))) else none else bif fK (h1.getD h3.toNat ([],0,0,())) then bif decide (h2.length+1≤4294967296) then bif decide ((h2++[u8.wrap (i64.wrap (124+(h1.getD h3.toNat ([],0,0,())).2.2.1))]).length+1≤4294967296) then bif decide ((h2++[u8.wrap (i64.wrap (124+(h1.getD h3.toNat ([],0,0,())).2.2.1))]++[u8.wrap (i64.wrap (Int.tdiv (h1.getD h3.toNat ([],0,0,())).2.1 256))]).length+1≤4294967296) then next (h1) (h2++[u8.wrap (i64.wrap (124+(h1.getD h3.toNat ([],0,0,())).2.2.1))]++[u8.wrap (i64.wrap (Int.tdiv (h1.getD h3.toNat ([],0,0,())).2.1 256))]++[u8.wrap (i64.wrap (Int.tmod (h1.getD h3.toNat ([],0,0,())).2.1 256))]) (i64.wrap (h3+1)) else none else none else none else out (.ret ((),(([],(50,())),()))) else none else out (.pan (.ret ((),((h2,()),()))))
def jy (n:Nat)(h1:List dH.den)(h2:LI)(h3:Int):Option (ao cB.xs):=fH tt qX dr gY 0 Tryz.f122 (bI Tryz.f122 0) n (cB.st.mk' ((h1,(h2,(h3,()))),())) (bo cB.xs)
theorem DG (n:Nat)(h1:List dH.den)(h2:LI)(h3:Int):jy (n+1) h1 h2 h3=nU h1 h2 h3 (jy n) some:=by kernel_rfl
theorem yF {t:gB}:kk t=true↔t.2.1=0∧t.2.2.1=0∧0<t.1.length∧t.1.length≤128:=by unfold kk;split <;> simp[*]
theorem vT {t:gB}:fK t=true↔t.1.length=0∧1≤t.2.1∧t.2.1≤4096∧4≤t.2.2.1∧t.2.2.1≤131:=by
 unfold fK
 split
 ·rename_i h;exact ⟨fun _=>h,fun _=>rfl⟩
 ·rename_i h;exact ⟨fun h'=>by (cases h'),fun h'=>absurd h' h⟩
theorem Bv {n:Int}(h0:0≤n)(h1:n≤255):u8.wrap n=n:=bN (by simp[bC,IntKind.min,IntKind.max,IntKind.signed,IntKind.bits];omega)
theorem vl (ts:List gB)(i:Int)(lit:LI)(d n:Int)(hl:lit.length≤4294967296):∀(k j:Nat) (out:LI),lit.length<j+k→j≤lit.length→out.length+(lit.length - j)≤4294967296→
  lg k ts out i j lit d n=some (.ret ((),((ts,(out++lit.drop j,(i,()))),()))):=by
 intro k
 induction k with
 |zero=>intro j out h;omega
 |succ k ih=>
  intro j out h1 h2 h3
  rw[Bf]
  unfold mQ
  by_cases hj:j<lit.length
  ·refine bT (by simpa using hj) ?_
   refine bT (by simpa using hj) ?_
   refine bT (decide_eq_true (by omega)) ?_
   rw[ae (n:=(j:Int)+1) (by omega) (by omega)]
   refine (ih (j+1) (out++[lit.getD (j:Int).toNat 0]) (by omega) (by omega) (by simp;omega)).trans ?_
   rw[zG,aB hj,zK,zE hj]
   rfl
  ·refine bF (by simpa using hj) ?_
   rw[zI (by omega),List.append_nil]
theorem wz (ts:List gB)(hl:ts.length≤maxLen)(hok:mN ts=true):∀(k i:Nat) (out:LI),ts.length<i+k→i≤ts.length→out.length+(aI (ts.drop i)).length≤4294960000→
  jy k ts out i=some (.pan (.ret ((),((out++aI (ts.drop i),()),())))):=by
 rw[aG] at hl
 intro k
 induction k with
 |zero=>intro i out h;omega
 |succ k ih=>
  intro i out h1 h2 h3
  rw[DG]
  unfold nU
  by_cases hi:i<ts.length
  rotate_left
  ·refine bF (by simpa using hi) ?_
   rw[zI (by omega)]
   show _=some (Out.pan (Out.ret ((),((out++[],()),()))))
   rw[List.append_nil]
  rw[zE hi] at h3 ⊢
  have ht:(kk ts[i] || fK ts[i])=true:=List.all_eq_true.1 hok ts[i] (List.getElem_mem hi)
  have e1:List.getD ts (i:Int).toNat ([],0,0,())=ts[i]:=by rw[zG,aB hi]
  rw[e1]
  have eP:aI (ts[i]::ts.drop (i+1))=dG ts[i]++aI (ts.drop (i+1)):=rfl
  rw[eP,zH] at h3
  rw[eP]
  generalize ts[i]=t at *
  refine bT (by simpa using hi) ?_
  refine bT (by simpa using hi) ?_
  cases c:kk t with
  |true=>
   obtain ⟨g1,g2,g3,g4⟩:=yF.1 c
   have eW:dG t=((t.1.length:Int) - 1)::t.1:=by unfold dG;rw[if_pos g2]
   rw[eW,zN] at h3
   rw[eW]
   refine (aa rfl _ _).trans ?_
   refine bT (decide_eq_true (by omega)) ?_
   rw[ae (n:=(t.1.length:Int) - 1) (by omega) (by omega),Bv (n:=(t.1.length:Int) - 1) (by omega) (by omega)]
   unfold gq
   refine bT (by simp only[zA,zB];exact ⟨trivial,show (out++[(t.1.length:Int) - 1]).length+t.1.length≤4294967296 by simp;omega⟩) ?_
   show jy k ts (out++[(t.1.length:Int) - 1]++t.1) (i64.wrap ((i:Int)+1))=_
   rw[ae (n:=(i:Int)+1) (by omega) (by omega)]
   refine (ih (i+1) _ (by omega) (by omega) (by simp only[zH,List.length_singleton];omega)).trans ?_
   simp only[zK,zM,List.cons_append,List.nil_append]
  |false=>
   rw[c,Bool.false_or] at ht
   obtain ⟨g0,g1,g2,g3,g4⟩:=vT.1 ht
   have eW:dG t=[124+t.2.2.1,t.2.1 / 256,t.2.1 % 256]:=by unfold dG;rw[if_neg (by omega)]
   rw[eW] at h3
   rw[eW]
   simp only[zN,List.length_nil] at h3
   refine (af rfl _ _).trans ?_
   refine (aa ht _ _).trans ?_
   refine bT (decide_eq_true (by omega)) ?_
   refine bT (decide_eq_true (by simp only[zH,List.length_singleton];omega)) ?_
   refine bT (decide_eq_true (by simp only[zH,List.length_singleton];omega)) ?_
   rw[Int.tdiv_eq_ediv_of_nonneg (by omega),Int.tmod_eq_emod_of_nonneg (by omega),ae (n:=124+t.2.2.1) (by omega) (by omega),ae (n:=t.2.1 / 256) (by omega) (by omega),ae (n:=t.2.1 % 256) (by omega) (by omega),ae (n:=(i:Int)+1) (by omega) (by omega),
    Bv (n:=124+t.2.2.1) (by omega) (by omega),Bv (n:=t.2.1 / 256) (by omega) (by omega),Bv (n:=t.2.1 % 256) (by omega) (by omega)]
   refine (ih (i+1) _ (by omega) (by omega) (by simp only[zH,List.length_singleton];omega)).trans ?_
   simp only[zK,zM,List.cons_append,List.nil_append]
def rW (a0:List dH.den):Option gf.Res:=(im ((a0,([],(0,()))),())).run fun y=>match y with | .ret ((),((x33,x34,()),()))=>(oR ((x33,x34,()),())) | .pan (.ret ((),((x35,()),())))=>(oR ((x35,0,()),()))
theorem Fk (a0:List dH.den):Io.run tt qX dr gY gf Tryz.f122 ((a0,()),())=rW a0:=by kernel_rfl
theorem mg:HcsOk prog xS:=.cons H8 (.cons AX .nil)
theorem Jm:HcOk prog 122 (ai gf tX):=by
 refine bQ mg (lp:=gY) (fn:=Tryz.f122) gf (.step (h0:=aA cB im) (by kernel_rfl) (fR mg (lp:=gY) (fn:=Tryz.f122) (.step (h0:=aA ce gq) (by kernel_rfl) (fR mg (lp:=gY) (fn:=Tryz.f122) (.done (by kernel_rfl)) ce gq ?_) (.done (by kernel_rfl))) cB im ?_) (.done (by kernel_rfl))) tX ?_
 ·rintro ⟨⟨(ts:List gB),(out:LI),(i:Int),(j:Int),⟨⟩⟩,⟨⟨(lit:LI),(d:Int),(n:Int),⟨⟩⟩,⟨⟩⟩⟩ y hw hy
  obtain ⟨hg,hy⟩:=Tr.guard hy
  simp only[zA,zB] at hg
  have h1:j=0:=hg.1
  have h2:out.length+lit.length≤4294967296:=hg.2
  subst h1
  refine ⟨lit.length+1,(vl ts i lit d n (by omega) (lit.length+1) 0 out (by omega) (by omega) (by omega)).trans ?_⟩
  rw[← hy];rfl
 ·rintro ⟨⟨(ts:List gB),(out:LI),(i:Int),⟨⟩⟩,⟨⟩⟩ y hw hy
  obtain ⟨hg,hy⟩:=Tr.guard hy
  simp only[zA,zB] at hg
  obtain ⟨h1,h2,h3,h4⟩:=hg
  have h1:i=0:=h1
  have h2:out=[]:=List.length_eq_zero_iff.1 h2
  have h4:(aI ts).length≤4294960000:=h4
  subst h1 h2
  refine ⟨ts.length+1,(wz ts hw.1.1.1 h3 (ts.length+1) 0 [] (by omega) (by omega) (by simpa using h4)).trans ?_⟩
  rw[← hy];rfl
 ·rintro ⟨⟨(ts:List gB),⟨⟩⟩,⟨⟩⟩ out hw ho
  obtain ⟨hg,ho⟩:=Tr.guard ho
  simp only[zA,zB] at hg
  cases ho
  refine (Fk ts).trans ?_
  unfold rW im
  refine bT (by simp only[zA,zB];exact ⟨trivial,rfl,hg.1,hg.2⟩) ?_
  rfl
abbrev iF:Io:=⟨[dL],[],[],[dL,dI],none⟩
def y6 (d:iF.In):Tr iF.Res:=.ret (.ret (((gi d.1.1).1,(gi d.1.1).2,()),()))
abbrev Cd:List (Nat×Hc):=[(120,ai iG y7),(121,ai jM wI),(122,ai gf tX)]
def CE:Hd:=bB Cd
abbrev de:Lo:=⟨⟨(bv (bi (.one (.onl 5 (Ty.int u8) 13)::.one (.hol (.sl 5 (Ty.int u8)))::.one hI::.one hI::.any::ah (cN (bv (bi [])))))),[]⟩,[(.exit 0,⟨(bv (bi (.one (.onl 5 (Ty.int u8) 13)::.any::.one hI::ah (ah ([]))))),[]⟩)]⟩
def j4 (d:de.st.den):Tr (ao de.xs):=
 .ite (decide (d.1.2.2.2.1=0)&&decide (d.1.1.length+d.1.2.1.length≤4294967296)) (.ret (.ret ((),((d.1.1++d.1.2.1,(d.1.2.2.1,())),())))) .no
def pO:Lp:=bP [(8,aA de j4)]
def qu {R:Type}(h1 h2:LI)(h3 h4:Int)(next:LI→LI→Int→Int→Option R)(out:ao de.xs→Option R):Option R:=bif decide (h4<(↑h2.length:Int)) then bif decide (0≤h4)&&decide (h4<(↑h2.length:Int)) then bif decide (h1.length+1≤4294967296) then next (h1++[h2.getD h4.toNat 0]) (h2) (h3) (i64.wrap (h4+1)) else none else none else out (.ret ((),((h1,(h3,())),())))
def oJ (n:Nat)(h1 h2:LI)(h3 h4:Int):Option (ao de.xs):=fH tt CE dr pO 0 Tryz.f84 (bI Tryz.f84 0) n (de.st.mk' ((h1,(h2,(h3,(h4,())))),())) (bo de.xs)
theorem Fy (n:Nat)(h1 h2:LI)(h3 h4:Int):oJ (n+1) h1 h2 h3 h4=qu h1 h2 h3 h4 (oJ n) some:=by kernel_rfl
theorem As (body:LI)(f:Int)(hl:body.length≤4294967296):∀(k j:Nat) (out:LI),body.length<j+k→j≤body.length→out.length+(body.length - j)≤4294967296→
  oJ k out body f j=some (.ret ((),((out++body.drop j,(f,())),()))):=by
 intro k
 induction k with
 |zero=>intro j out h;omega
 |succ k ih=>
  intro j out h1 h2 h3
  rw[Fy]
  unfold qu
  by_cases hj:j<body.length
  ·refine bT (by simpa using hj) ?_
   refine bT (by simpa using hj) ?_
   refine bT (decide_eq_true (by omega)) ?_
   rw[ae (n:=(j:Int)+1) (by omega) (by omega)]
   refine (ih (j+1) (out++[body.getD (j:Int).toNat 0]) (by omega) (by omega) (by simp;omega)).trans ?_
   rw[zG,aB hj,zK,zE hj]
   rfl
  ·refine bF (by simpa using hj) ?_
   rw[zI (by omega),List.append_nil]
theorem Ki {ts:List gB}(h:∀t∈ts,rJ t):mN ts=true:=List.all_eq_true.2 fun t ht=>by
 rw[Bool.or_eq_true]
 rcases h t ht with ⟨h1,h2,h3,h4⟩ | ⟨h1,h2,h3,h4,h5⟩
 ·exact .inl (yF.2 ⟨h1,h2,by omega,h4⟩)
 ·exact .inr (vT.2 ⟨by rw[h1];rfl,h2,h3,h4,h5⟩)
def ur (a0:LI):Option iF.Res:=bif (fO a0).2 != 0 then oR (([],(fO a0).2,()),()) else bif mN (fO a0).1&&decide ((aI (fO a0).1).length≤4294960000) then (j4 ((aF (aC (↑a0.length:Int)),(aI (fO a0).1,(0,(0,())))),())).run fun y=>match y with | .ret ((),((x11,x12,()),()))=>(oR ((x11,x12,()),())) else none
theorem JE (a0:LI):Io.run tt CE dr pO iF Tryz.f84 ((a0,()),())=ur a0:=by kernel_rfl
theorem uU:HcsOk prog Cd:=.cons MA (.cons AW (.cons Jm .nil))
theorem Mz:HcOk prog 84 (ai iF y6):=by
 refine bQ uU (lp:=pO) (fn:=Tryz.f84) iF (.step (h0:=aA de j4) (by kernel_rfl) (fR uU (lp:=pO) (fn:=Tryz.f84) (.done (by kernel_rfl)) de j4 ?_) (.done (by kernel_rfl))) y6 ?_
 ·rintro ⟨⟨(out:LI),(body:LI),(f:Int),(j:Int),⟨⟩⟩,⟨⟩⟩ y hw hy
  obtain ⟨hg,hy⟩:=Tr.guard hy
  simp only[zA,zB] at hg
  have h1:j=0:=hg.1
  have h2:out.length+body.length≤4294967296:=hg.2
  subst h1
  refine ⟨body.length+1,(As body f (by omega) (body.length+1) 0 out (by omega) (by omega) (by omega)).trans ?_⟩
  rw[← hy];rfl
 ·rintro ⟨⟨(b:LI),⟨⟩⟩,⟨⟩⟩ out hw ho
  cases ho
  refine (JE b).trans ?_
  show _=oR (((gi b).1,(gi b).2,()),())
  unfold ur fO gi
  by_cases c1:32768<(b.length:Int)
  ·rw[if_pos c1,if_pos c1]
   exact aa rfl _ _
  rw[if_neg c1,if_neg c1]
  refine (af rfl _ _).trans ?_
  have hp:(aI (eD b)).length≤b.length+b.length / 128+1:=lx b 8 _ 0 0 [] (Nat.le_refl 0) (Nat.zero_le _) (by simp[aI])
  have hd:=np (aC (b.length:Int))
  refine bT (by simp only[zA,zB];exact ⟨Ki (Iw b),show (aI (eD b)).length≤4294960000 by omega⟩) ?_
  unfold j4
  refine bT (by simp only[zA,zB];exact ⟨trivial,show (aF (aC (b.length:Int))).length+(aI (eD b)).length≤4294967296 by omega⟩) ?_
  rfl
def NX (b:cM)(pk:Bool):LI:=bif pk then (gi (ey b.2.2.2.2.2.1).1).1 else (ey b.2.2.2.2.2.1).1
def eC (b:cM)(pk:Bool):LI×Int:=if dq b≠0 then ([],dq b) else (rz b (bif pk then 1 else 0) (NX b pk),0)
abbrev ml:Io:=⟨[Cm,dB],[],[],[dL,dI],none⟩
def KC (d:ml.In):Tr ml.Res:=.ite (cp (aK d.1.1.2.2.2.2.2.1) d.1.1.2.2.2.2.2.1 0) (.ret (.ret (((eC d.1.1 d.1.2.1).1,(eC d.1.1 d.1.2.1).2,()),()))) .no
abbrev K7:List (Nat×Hc):=[(63,ai oC KA),(83,ai jv zn),(84,ai iF y6),(85,ai fm pa),(24,ai lG By),(72,ai fx pj),(86,ai gu sS)]
def Q4:Hd:=bB K7
def Mf:Lp:=bP []
def qL {R:Type}(a b:LI)(K:LI→Option R):Option R:=bif decide (a.length+b.length≤4294967296) then K (a++b) else none
theorem eG {R:Type}{a b:LI}{K:LI→Option R}(h:a.length+b.length≤4294967296):qL a b K=K (a++b):=aa (decide_eq_true h) _ _
def IB (a0 a1 a2 a3 a4:Int)(a5:List aR.den)(attrs:Int)(blk:LI):Option ml.Res:=
 qL (aU attrs (Int.toNat 2)) (aU (i64.wrap ((a5.length:Int) - 1)) (Int.toNat 4)) fun T=>bif decide ((0:Int)≤0)&&decide ((0:Int)<(a5.length:Int)) then
  qL T (aU (a5.getD (Int.toNat 0) (0,(false,[],()),(false,[],()),[],())).1 (Int.toNat 8)) fun T=>qL T (aU (ch a5) (Int.toNat 8)) fun T=>qL T (aU a2 (Int.toNat 8)) fun T=>
  qL T (aU (i64.wrap a3) (Int.toNat 2)) fun T=>qL T (aU (i64.wrap a4) (Int.toNat 4)) fun T=>qL T (aU (a5.length:Int) (Int.toNat 4)) fun T=>qL T blk fun T=>
  qL (aU a0 (Int.toNat 8)) (aU (i64.wrap ((T.length:Int)+9)) (Int.toNat 4)) fun L=>qL L (aU (i64.wrap a1) (Int.toNat 4)) fun L=>bif decide (L.length+1≤4294967296) then
   qL (L++[2]) (aU (i64.wrap (cC 0 T)) (Int.toNat 4)) fun L=>qL L T fun L=>oR ((L,0,()),()) else none else none
def BW (a0 a1 a2 a3 a4:Int)(a5:List aR.den)(a6:Bool):Option ml.Res:=bif cp (aK a5) a5 0 then bif dq (a0,a1,a2,a3,a4,a5,()) != 0 then oR (([],dq (a0,a1,a2,a3,a4,a5,()),()),()) else bif cp (aK a5) a5 0&&decide (a5.length≤256) then
 bif a6 then IB a0 a1 a2 a3 a4 a5 1 (gi (ey a5).1).1 else IB a0 a1 a2 a3 a4 a5 0 (ey a5).1 else none else none
theorem Qc (a0 a1 a2 a3 a4:Int)(a5:List aR.den)(a6:Bool):Io.run tt Q4 dr Mf ml Tryz.f64 (((a0,a1,a2,a3,a4,a5,()),a6,()),())=BW a0 a1 a2 a3 a4 a5 a6:=by kernel_rfl
theorem KH (v:Int){n:Nat}(h:n≤8):aU (i64.wrap v) n=aU v n:=by
 have key:∃t,i64.wrap v=v+256 ^ 8*t:=⟨(i64.wrap v - v) / 18446744073709551616,by simp[IntKind.wrap,IntKind.min,IntKind.max,IntKind.signed,IntKind.bits];omega⟩
 obtain ⟨t,e⟩:=key
 rw[e,ki _ _ _ _ h]
theorem D1 {a0 a1 a2 a3 a4:Int}{a5:List bq}(h1:1≤a5.length)(attrs:Int){blk:LI}(hl:blk.length≤40000):
  IB a0 a1 a2 a3 a4 a5 attrs blk=oR ((rz (a0,a1,a2,a3,a4,a5,()) attrs blk,0,()),()):=by
 have ln:∀(v:Int) (n:Nat),(aU v n).length=n:=vR
 have e4:(a5.getD (Int.toNat 0) (0,(false,[],()),(false,[],()),[],())).1=aK a5:=by
  cases a5 with
  |nil=>simp at h1
  |cons r rs=>rfl
 have n2:Int.toNat 2=2:=rfl
 have n4:Int.toNat 4=4:=rfl
 have n8:Int.toNat 8=8:=rfl
 unfold IB
 simp only[e4,n2,n4,n8,KH _ (show 4≤8 by decide),KH _ (show 2≤8 by decide)]
 refine (eG (by simp[ln])).trans ?_
 refine bT (by simp only[zA,zB];omega) ?_
 refine (eG (by simp[ln])).trans ?_
 refine (eG (by simp[ln])).trans ?_
 refine (eG (by simp[ln])).trans ?_
 refine (eG (by simp[ln])).trans ?_
 refine (eG (by simp[ln])).trans ?_
 refine (eG (by simp[ln])).trans ?_
 refine (eG (by simp[ln];omega)).trans ?_
 have eT:aU attrs 2++aU ((a5.length:Int) - 1) 4++aU (aK a5) 8++aU (ch a5) 8++aU a2 8++aU a3 2++aU a4 4++aU (a5.length:Int) 4++blk=en (a0,a1,a2,a3,a4,a5,()) attrs blk:=by
  simp only[en,zK]
 rw[eT]
 have lT:(en (a0,a1,a2,a3,a4,a5,()) attrs blk).length=40+blk.length:=by simp[en,ln];omega
 have eW:rz (a0,a1,a2,a3,a4,a5,()) attrs blk=aU a0 8++(aU (49+(blk.length:Int)) 4++(aU a1 4++([2]++(aU (cC 0 (en (a0,a1,a2,a3,a4,a5,()) attrs blk)) 4++en (a0,a1,a2,a3,a4,a5,()) attrs blk)))):=rfl
 rw[eW]
 generalize en (a0,a1,a2,a3,a4,a5,()) attrs blk=T at *
 rw[show (T.length:Int)+9=49+(blk.length:Int) by omega]
 refine (eG (by simp[ln])).trans ?_
 refine (eG (by simp[ln])).trans ?_
 refine bT (decide_eq_true (by simp[ln])) ?_
 refine (eG (by simp[ln])).trans ?_
 refine (eG (by simp[ln];omega)).trans ?_
 simp only[zK]
theorem Rp:HcOk prog 64 (ai ml KC):=by
 refine bQ (cs:=K7) (.cons Rn (.cons Ib (.cons Mz (.cons yy (.cons yw (.cons vr (.cons Di .nil))))))) (lp:=Mf) (fn:=Tryz.f64) ml (.done (by kernel_rfl)) KC ?_
 rintro ⟨⟨⟨(a0:Int),(a1:Int),(a2:Int),(a3:Int),(a4:Int),(a5:List bq),⟨⟩⟩,(pk:Bool),⟨⟩⟩,⟨⟩⟩ out hw ho
 obtain ⟨hg,ho⟩:=Tr.guard ho
 have hg:cp (aK a5) a5 0=true:=hg
 cases ho
 refine (Qc a0 a1 a2 a3 a4 a5 pk).trans ?_
 show _=oR (((eC (a0,a1,a2,a3,a4,a5,()) pk).1,(eC (a0,a1,a2,a3,a4,a5,()) pk).2,()),())
 unfold BW eC
 refine (aa hg _ _).trans ?_
 by_cases c:dq (a0,a1,a2,a3,a4,a5,())=0
 rotate_left
 ·refine bT (by simpa using c) ?_
  rw[if_pos c]
 refine bF (by simpa using c) ?_
 rw[if_neg (az c)]
 obtain ⟨g1,g2,g3,g4,g5⟩:=qI c
 have g3:1≤a5.length:=g3
 have g4:a5.length≤256:=g4
 obtain ⟨_,_,h3⟩:=KJ g5
 refine bT (by rw[hg,decide_eq_true g4];rfl) ?_
 cases pk with
 |true=>
  refine (aa rfl _ _).trans ?_
  have:=(A4 h3).2.1
  exact D1 g3 1 (by have:=(A4 h3).2.1;exact Nat.le_trans this (by decide))
 |false=>
  refine (af rfl _ _).trans ?_
  exact D1 g3 0 (by have h3:(ey a5).1.length≤32768:=h3;omega)
def nq (bs:List cM):Bool:=bs.all fun x=>cp (aK x.2.2.2.2.2.1) x.2.2.2.2.2.1 0
def gz (pk:Bool):List cM→Int→LI→LI
 |[],_,out=>out
 |x::xs,q,out=>if (eC (q,x.2) pk).2=0 then gz pk xs (i64.wrap (q+(x.2.2.2.2.2.1.length:Int))) (out++(eC (q,x.2) pk).1) else gz pk xs q out
abbrev iH:Io:=⟨[GQ,cO,dB],[],[],[dL],none⟩
def y8 (d:iH.In):Tr iH.Res:=.ite (nq d.1.1&&decide (d.1.1.length≤100000)) (.ret (.ret ((gz d.1.2.2.1 d.1.1 d.1.2.1 [],()),()))) .no
abbrev Cf:List (Nat×Hc):=[(64,ai ml KC),(24,ai lG By)]
def CG:Hd:=bB Cf
abbrev dg:Lo:=⟨⟨(.one (.hol (.sl 77 mS))::.one hI::.one hL::bv (.one (.onl 5 (Ty.int u8) 15)::.one hI::.any::ah (ah ([])))),[]⟩,[(.exit 0,⟨(.any::bv (bi (.one (.onl 5 (Ty.int u8) 15)::ah (ah (bi []))))),[]⟩)]⟩
def j5 (d:dg.st.den):Tr (ao dg.xs):=
 .ite (decide (d.1.2.2.2.2.1=0)&&(decide (d.1.2.2.2.1.length=0)&&(decide (d.1.1.length≤100000)&&nq d.1.1)))
  (.ret (.ret ((),((gz d.1.2.2.1 d.1.1 d.1.2.1 [],()),())))) .no
def pQ:Lp:=bP [(4,aA dg j5)]
def qw {R:Type}(h3:List mS.den)(h4:Int)(h5:Bool)(h6:LI)(h7:Int)(next:List mS.den→Int→Bool→LI→Int→Option R)(out:ao dg.xs→Option R):Option R:=bif decide (h7<(↑h3.length:Int)) then bif decide (0≤h7)&&decide (h7<(↑h3.length:Int)) then bif cp (aK (h3.getD h7.toNat (0,0,0,0,0,[],())).2.2.2.2.2.1) (h3.getD h7.toNat (0,0,0,0,0,[],())).2.2.2.2.2.1 0 then bif (eC (h4,(h3.getD h7.toNat (0,0,0,0,0,[],())).2) h5).2 == 0 then bif decide (h6.length+(eC (h4,(h3.getD h7.toNat (0,0,0,0,0,[],())).2) h5).1.length≤4294967296) then next (h3) (i64.wrap (h4+(↑(List.length (h3.getD h7.toNat (0,0,0,0,0,[],())).2.2.2.2.2.1):Int))) (h5) (h6++(eC (h4,(h3.getD h7.toNat (0,0,0,0,0,[],())).2) h5).1) (i64.wrap (h7+1)) else none else next (h3) (h4) (h5) (h6) (i64.wrap (h7+1)) else none else none else out (.ret ((),((h6,()),())))
def oL (n:Nat)(h3:List mS.den)(h4:Int)(h5:Bool)(h6:LI)(h7:Int):Option (ao dg.xs):=fH tt CG dr pQ 0 Tryz.f43 (bI Tryz.f43 0) n (dg.st.mk' ((h3,(h4,(h5,(h6,(h7,()))))),())) (bo dg.xs)
theorem FA (n:Nat)(h3:List mS.den)(h4:Int)(h5:Bool)(h6:LI)(h7:Int):oL (n+1) h3 h4 h5 h6 h7=qw h3 h4 h5 h6 h7 (oL n) some:=by kernel_rfl
theorem Li {x:cM}{pk:Bool}(h:(eC x pk).2=0):(eC x pk).1.length≤33101:=by
 unfold eC at h ⊢
 split
 ·simp
 rename_i c
 obtain ⟨_,_,_,_,g5⟩:=qI (Classical.byContradiction c)
 obtain ⟨_,_,h3⟩:=KJ g5
 simp only
 rw[KG]
 unfold NX
 cases pk with
 |true=>have:(gi (ey x.2.2.2.2.2.1).1).1.length≤33040:=(A4 h3).2.1;simp only[cond_true];omega
 |false=>simp only[cond_false];omega
theorem Av (pk:Bool)(bs:List cM)(hl:bs.length≤100000)(hr:nq bs=true):∀(k i:Nat) (q:Int) (out:LI),bs.length<i+k→i≤bs.length→out.length≤33101*i→
  oL k bs q pk out i=some (.ret ((),((gz pk (bs.drop i) q out,()),()))):=by
 intro k
 induction k with
 |zero=>intro i q out h;omega
 |succ k ih=>
  intro i q out h1 h2 h3
  rw[FA]
  unfold qw
  by_cases hi:i<bs.length
  rotate_left
  ·refine bF (decide_eq_false (by omega)) ?_
   rw[zI (by omega)]
   rfl
  refine bT (decide_eq_true (by omega)) ?_
  refine bT (by simpa using hi) ?_
  have e1:List.getD bs (i:Int).toNat (0,0,0,0,0,[],())=bs[i]:=by rw[zG,aB hi]
  have hx:=List.all_eq_true.1 hr bs[i] (List.getElem_mem hi)
  rw[e1,zE hi,ae (n:=(i:Int)+1) (by omega) (by omega)]
  refine (aa hx _ _).trans ?_
  have e2:gz pk (bs[i]::bs.drop (i+1)) q out=if (eC (q,bs[i].2) pk).2=0 then gz pk (bs.drop (i+1)) (i64.wrap (q+(bs[i].2.2.2.2.2.1.length:Int))) (out++(eC (q,bs[i].2) pk).1) else gz pk (bs.drop (i+1)) q out:=rfl
  rw[e2]
  by_cases c:(eC (q,bs[i].2) pk).2=0
  ·have hL:=Li c
   refine bT (by rw[c];rfl) ?_
   refine bT (decide_eq_true (by omega)) ?_
   rw[if_pos c]
   exact ih (i+1) _ _ (by omega) (by omega) (by rw[zH];omega)
  ·refine bF (by simpa using c) ?_
   rw[if_neg c]
   exact ih (i+1) _ _ (by omega) (by omega) (by omega)
def uu (a0:List mS.den)(a1:Int)(a2:Bool):Option iH.Res:=(j5 ((a0,(a1,(a2,([],(0,()))))),())).run fun y=>match y with | .ret ((),((x19,()),()))=>(oR ((x19,()),()))
theorem JG (a0:List mS.den)(a1:Int)(a2:Bool):Io.run tt CG dr pQ iH Tryz.f43 ((a0,a1,a2,()),())=uu a0 a1 a2:=by kernel_rfl
theorem uW:HcsOk prog Cf:=.cons Rp (.cons yw .nil)
theorem MB:HcOk prog 43 (ai iH y8):=by
 refine bQ uW (lp:=pQ) (fn:=Tryz.f43) iH (.step (h0:=aA dg j5) (by kernel_rfl) (fR uW (lp:=pQ) (fn:=Tryz.f43) (.done (by kernel_rfl)) dg j5 ?_) (.done (by kernel_rfl))) y8 ?_
 ·rintro ⟨⟨(bs:List cM),(q:Int),(pk:Bool),(out:LI),(i:Int),⟨⟩⟩,⟨⟩⟩ y hw hy
  obtain ⟨hg,hy⟩:=Tr.guard hy
  simp only[zA,zB] at hg
  obtain ⟨h1,h2,h3,h4⟩:=hg
  have h1:i=0:=h1
  have h2:out=[]:=zF h2
  have h3:bs.length≤100000:=h3
  subst h1 h2
  refine ⟨bs.length+1,(Av pk bs h3 h4 (bs.length+1) 0 q [] (by omega) (Nat.zero_le _) (by simp)).trans ?_⟩
  rw[← hy,List.drop_zero];rfl
 ·rintro ⟨⟨(bs:List cM),(q:Int),(pk:Bool),⟨⟩⟩,⟨⟩⟩ out hw ho
  obtain ⟨hg,ho⟩:=Tr.guard ho
  simp only[zA,zB] at hg
  obtain ⟨h1,h2⟩:=hg
  cases ho
  refine (JG bs q pk).trans ?_
  unfold uu j5
  refine bT (by simp only[zA,zB];exact ⟨trivial,rfl,h2,h1⟩) ?_
  rfl
abbrev kQ:Io:=⟨[.dat .str false false],[],[],[Cm],none⟩
def Em (d:kQ.In):Tr kQ.Res:=.ret (.ret (((0,0,-1,-1,-1,[(7,(false,[],()),(false,d.1.1,()),[],())],()),()),()))
abbrev GB:List (Nat×Hc):=[]
def O0:Hd:=bB GB
def HJ:Lp:=bP []
def II (a0:LI):Option kQ.Res:=oR (((0,0,-1,-1,-1,[(7,(false,[],()),(false,a0,()),[],())],()),()),())
theorem Nm (a0:LI):Io.run tt O0 dr HJ kQ Tryz.f44 ((a0,()),())=II a0:=by kernel_rfl
theorem PF:HcOk prog 44 (ai kQ Em):=by
 refine bQ (cs:=GB) HcsOk.nil (lp:=HJ) (fn:=Tryz.f44) kQ (.done (by kernel_rfl)) Em ?_
 rintro ⟨⟨(s:LI),⟨⟩⟩,⟨⟩⟩ out hw ho
 rw[← ho]
 exact Nm s
end
end Go.Proofs.YthpcdhgpplmneaaGreatDoor.Sym
namespace Go.Proofs.YthpcdhgpplmneaaGreatDoor.Sym
open Go
noncomputable section
abbrev f9:Io:=⟨[],[],[],[dB],none⟩
def tR (d:f9.In):Tr f9.Res:=.ret (.ret ((true,()),()))
abbrev xN:List (Nat×Hc):=[(44,ai kQ Em),(43,ai iH y8),(25,ai jh yS),(15,ai jg yQ),(18,ai kE Ea),(22,ai jL wG),(23,ai gL tH)]
def IX:Hd:=bB xN
def yo:Lp:=bP []
def rS:Option f9.Res:=bif nq [(0,0,-1,-1,-1,[(7,(false,[],()),(false,[120],()),[],())],()),(0,0,-1,-1,-1,[(7,(false,[],()),(false,[121,122],()),[],())],())]&&decide (([(0,0,-1,-1,-1,[(7,(false,[],()),(false,[120],()),[],())],()),(0,0,-1,-1,-1,[(7,(false,[],()),(false,[121,122],()),[],())],())]:List cM).length≤100000) then bif decide ([0,0,0,0,0,0,0,5,0,0,0,57,0,0,0,0,2,205,219,161,248,0,0,0,0,0,0,0,0,0,0,0,0,0,7,0,0,0,0,0,0,0,7,255,255,255,255,255,255,255,255,255,255,255,255,255,255,0,0,0,1,14,0,0,0,0,2,120,0,0,0,0,0,0,0,0,6,0,0,0,58,0,0,0,0,2,177,45,97,141,0,0,0,0,0,0,0,0,0,0,0,0,0,7,0,0,0,0,0,0,0,7,255,255,255,255,255,255,255,255,255,255,255,255,255,255,0,0,0,1,16,0,0,0,0,4,121,122,0].length≤4294950000) then bif decide ([0,0,0,0,0,0,0,5,0,0,0,57,0,0,0,0,2,205,219,161,248,0,0,0,0,0,0,0,0,0,0,0,0,0,7,0,0,0,0,0,0,0,7,255,255,255,255,255,255,255,255,255,255,255,255,255,255,0,0,0,1,14,0,0,0,0,2,120,0,0,0,0,0,0,0,0,6,0,0,0,58,0,0,0,0,2,177,45,97,141,0,0,0,0,0,0,0,0,0,0,0,0,0,7,0,0,0,0,0,0,0,7,255,255,255,255,255,255,255,255,255,255,255,255,255,255,0,0,0,1,16,0,0,0,0,4,121,122,0].length≤4294950000) then bif decide ([0,0,0,0,0,0,0,5,0,0,0,57,0,0,0,0,2,205,219,161,248,0,0,0,0,0,0,0,0,0,0,0,0,0,7,0,0,0,0,0,0,0,7,255,255,255,255,255,255,255,255,255,255,255,255,255,255,0,0,0,1,14,0,0,0,0,2,120,0,0,0,0,0,0,0,0,6,0,0,0,58,0,0,0,0,2,177,45,97,141,0,0,0,0,0,0,0,0,0,0,0,0,0,7,0,0,0,0,0,0,0,7,255,255,255,255,255,255,255,255,255,255,255,255,255,255,0,0,0,1,16,0,0,0,0,4,121,122,0].length≤4294950000) then bif decide ([0,0,0,0,0,0,0,5,0,0,0,57,0,0,0,0,2,205,219,161,248,0,0,0,0,0,0,0,0,0,0,0,0,0,7,0,0,0,0,0,0,0,7,255,255,255,255,255,255,255,255,255,255,255,255,255,255,0,0,0,1,14,0,0,0,0,2,120,0,0,0,0,0,0,0,0,6,0,0,0,58,0,0,0,0,2,177,45,97,141,0,0,0,0,0,0,0,0,0,0,0,0,0,7,0,0,0,0,0,0,0,7,255,255,255,255,255,255,255,255,255,255,255,255,255,255,0,0,0,1,16,0,0,0,0,4,121,122,0].length≤4294950000) then bif (↑(List.length (aO [0,0,0,0,0,0,0,5,0,0,0,57,0,0,0,0,2,205,219,161,248,0,0,0,0,0,0,0,0,0,0,0,0,0,7,0,0,0,0,0,0,0,7,255,255,255,255,255,255,255,255,255,255,255,255,255,255,0,0,0,1,14,0,0,0,0,2,120,0,0,0,0,0,0,0,0,6,0,0,0,58,0,0,0,0,2,177,45,97,141,0,0,0,0,0,0,0,0,0,0,0,0,0,7,0,0,0,0,0,0,0,7,255,255,255,255,255,255,255,255,255,255,255,255,255,255,0,0,0,1,16,0,0,0,0,4,121,122,0] 5).1):Int) != 2 then oR ((false,()),()) else bif (aO [0,0,0,0,0,0,0,5,0,0,0,57,0,0,0,0,2,205,219,161,248,0,0,0,0,0,0,0,0,0,0,0,0,0,7,0,0,0,0,0,0,0,7,255,255,255,255,255,255,255,255,255,255,255,255,255,255,0,0,0,1,14,0,0,0,0,2,120,0,0,0,0,0,0,0,0,6,0,0,0,58,0,0,0,0,2,177,45,97,141,0,0,0,0,0,0,0,0,0,0,0,0,0,7,0,0,0,0,0,0,0,7,255,255,255,255,255,255,255,255,255,255,255,255,255,255,0,0,0,1,16,0,0,0,0,4,121,122,0] 5).2.2.1 != 7 then oR ((false,()),()) else bif (aO [0,0,0,0,0,0,0,5,0,0,0,57,0,0,0,0,2,205,219,161,248,0,0,0,0,0,0,0,0,0,0,0,0,0,7,0,0,0,0,0,0,0,7,255,255,255,255,255,255,255,255,255,255,255,255,255,255,0,0,0,1,14,0,0,0,0,2,120,0,0,0,0,0,0,0,0,6,0,0,0,58,0,0,0,0,2,177,45,97,141,0,0,0,0,0,0,0,0,0,0,0,0,0,7,0,0,0,0,0,0,0,7,255,255,255,255,255,255,255,255,255,255,255,255,255,255,0,0,0,1,16,0,0,0,0,4,121,122,0] 5).2.1 != (↑[0,0,0,0,0,0,0,5,0,0,0,57,0,0,0,0,2,205,219,161,248,0,0,0,0,0,0,0,0,0,0,0,0,0,7,0,0,0,0,0,0,0,7,255,255,255,255,255,255,255,255,255,255,255,255,255,255,0,0,0,1,14,0,0,0,0,2,120,0,0,0,0,0,0,0,0,6,0,0,0,58,0,0,0,0,2,177,45,97,141,0,0,0,0,0,0,0,0,0,0,0,0,0,7,0,0,0,0,0,0,0,7,255,255,255,255,255,255,255,255,255,255,255,255,255,255,0,0,0,1,16,0,0,0,0,4,121,122,0].length:Int) then oR ((false,()),()) else bif (aO [0,0,0,0,0,0,0,5,0,0,0,57,0,0,0,0,2,205,219,161,248,0,0,0,0,0,0,0,0,0,0,0,0,0,7,0,0,0,0,0,0,0,7,255,255,255,255,255,255,255,255,255,255,255,255,255,255,0,0,0,1,14,0,0,0,0,2,120,0,0,0,0,0,0,0,0,6,0,0,0,58,0,0,0,0,2,177,45,97,141,0,0,0,0,0,0,0,0,0,0,0,0,0,7,0,0,0,0,0,0,0,7,255,255,255,255,255,255,255,255,255,255,255,255,255,255,0,0,0,1,16,0,0,0,0,4,121,122,0] 5).2.2.2.1 != 0 then oR ((false,()),()) else bif (cj [0,0,0,0,0,0,0,5,0,0,0,57,0,0,0,0,2,205,219,161,248,0,0,0,0,0,0,0,0,0,0,0,0,0,7,0,0,0,0,0,0,0,7,255,255,255,255,255,255,255,255,255,255,255,255,255,255,0,0,0,1,14,0,0,0,0,2,120,0,0,0,0,0,0,0,0,6,0,0,0,58,0,0,0,0,2,177,45,97,141,0,0,0,0,0,0,0,0,0,0,0,0,0,7,0,0,0,0,0,0,0,7,255,255,255,255,255,255,255,255,255,255,255,255,255,255,0,0,0,1,16,0,0,0,0,4,121,122,0] 5 6 1).2 != 0 then oR ((false,()),()) else bif (cj [0,0,0,0,0,0,0,5,0,0,0,57,0,0,0,0,2,205,219,161,248,0,0,0,0,0,0,0,0,0,0,0,0,0,7,0,0,0,0,0,0,0,7,255,255,255,255,255,255,255,255,255,255,255,255,255,255,0,0,0,1,14,0,0,0,0,2,120,0,0,0,0,0,0,0,0,6,0,0,0,58,0,0,0,0,2,177,45,97,141,0,0,0,0,0,0,0,0,0,0,0,0,0,7,0,0,0,0,0,0,0,7,255,255,255,255,255,255,255,255,255,255,255,255,255,255,0,0,0,1,16,0,0,0,0,4,121,122,0] 5 8 1).2 != 221 then oR ((false,()),()) else bif decide (0≤1)&&decide (1<(↑(List.length (aO [0,0,0,0,0,0,0,5,0,0,0,57,0,0,0,0,2,205,219,161,248,0,0,0,0,0,0,0,0,0,0,0,0,0,7,0,0,0,0,0,0,0,7,255,255,255,255,255,255,255,255,255,255,255,255,255,255,0,0,0,1,14,0,0,0,0,2,120,0,0,0,0,0,0,0,0,6,0,0,0,58,0,0,0,0,2,177,45,97,141,0,0,0,0,0,0,0,0,0,0,0,0,0,7,0,0,0,0,0,0,0,7,255,255,255,255,255,255,255,255,255,255,255,255,255,255,0,0,0,1,16,0,0,0,0,4,121,122,0] 5).1):Int)) then bif decide ([0,0,0,0,0,0,0,5,0,0,0,57,0,0,0,0,2,205,219,161,248,0,0,0,0,0,0,0,0,0,0,0,0,0,7,0,0,0,0,0,0,0,7,255,255,255,255,255,255,255,255,255,255,255,255,255,255,0,0,0,1,14,0,0,0,0,2,120,0,0,0,0,0,0,0,0,6,0,0,0,58,0,0,0,0,2,177,45,97,141,0,0,0,0,0,0,0,0,0,0,0,0,0,7,0,0,0,0,0,0,0,7,255,255,255,255,255,255,255,255,255,255,255,255,255,255,0,0,0,1,16,0,0,0,0,4,121,122,0].length≤4294967296) then bif decide ([0,0,0,0,0,0,0,6,0,0,0,58,0,0,0,0,2,177,45,97,141,0,0,0,0,0,0,0,0,0,0,0,0,0,7,0,0,0,0,0,0,0,7,255,255,255,255,255,255,255,255,255,255,255,255,255,255,0,0,0,1,16,0,0,0,0,4,121,122,0]=[0,0,0,0,0,0,0,6,0,0,0,58,0,0,0,0,2,177,45,97,141,0,0,0,0,0,0,0,0,0,0,0,0,0,7,0,0,0,0,0,0,0,7,255,255,255,255,255,255,255,255,255,255,255,255,255,255,0,0,0,1,16,0,0,0,0,4,121,122,0]) then bif (rB [0,0,0,0,0,0,0,5,0,0,0,57,0,0,0,0,2,205,219,161,248,0,0,0,0,0,0,0,0,0,0,0,0,0,7,0,0,0,0,0,0,0,7,255,255,255,255,255,255,255,255,255,255,255,255,255,255,0,0,0,1,14,0,0,0,0,2,120,0,0,0,0,0,0,0,0,6,0,0,0,58,0,0,0,0,2,177,45,97,141,0,0,0,0,0,0,0,0,0,0,0,0,0,7,0,0,0,0,0,0,0,7,255,255,255,255,255,255,255,255,255,255,255,255,255,255,0,0,0,1,16,0,0,0,0,4,121,122,0] 5 3).1 == 5 then bif (rB [0,0,0,0,0,0,0,5,0,0,0,57,0,0,0,0,2,205,219,161,248,0,0,0,0,0,0,0,0,0,0,0,0,0,7,0,0,0,0,0,0,0,7,255,255,255,255,255,255,255,255,255,255,255,255,255,255,0,0,0,1,14,0,0,0,0,2,120,0,0,0,0,0,0,0,0,6,0,0,0,58,0,0,0,0,2,177,45,97,141,0,0,0,0,0,0,0,0,0,0,0,0,0,7,0,0,0,0,0,0,0,7,255,255,255,255,255,255,255,255,255,255,255,255,255,255,0,0,0,1,16,0,0,0,0,4,121,122,0] 5 3).2.1 == 7 then oR (((rB [0,0,0,0,0,0,0,5,0,0,0,57,0,0,0,0,2,205,219,161,248,0,0,0,0,0,0,0,0,0,0,0,0,0,7,0,0,0,0,0,0,0,7,255,255,255,255,255,255,255,255,255,255,255,255,255,255,0,0,0,1,14,0,0,0,0,2,120,0,0,0,0,0,0,0,0,6,0,0,0,58,0,0,0,0,2,177,45,97,141,0,0,0,0,0,0,0,0,0,0,0,0,0,7,0,0,0,0,0,0,0,7,255,255,255,255,255,255,255,255,255,255,255,255,255,255,0,0,0,1,16,0,0,0,0,4,121,122,0] 5 3).2.2,()),()) else oR ((false,()),()) else oR ((false,()),()) else oR ((false,()),()) else none else none else none else none else none else none else none
theorem Ff:Io.run tt IX dr yo f9 Tryz.f12 ((),())=rS:=by kernel_rfl
theorem Jh:HcOk prog 12 (ai f9 tR):=by
 refine bQ (cs:=xN) (.cons PF (.cons MB (.cons HZ (.cons HY (.cons Pp (.cons AR (.cons AQ .nil))))))) (lp:=yo) (fn:=Tryz.f12) f9 (.done (by kernel_rfl)) tR ?_
 rintro ⟨⟨⟩,⟨⟩⟩ out hw ho
 cases ho
 have e:rS=oR ((true,()),()):=by kernel_rfl
 exact Ff.trans e
end
end Go.Proofs.YthpcdhgpplmneaaGreatDoor.Sym
namespace Go.Proofs.YthpcdhgpplmneaaGreatDoor.Sym
open Go
open Go.IntKind (i8 i16 i32 i64 u8 u16 u32 u64)
noncomputable section
abbrev kK:Io:=⟨[dL,cO],[],[],[GQ,Lb],none⟩
def Eg (d:kK.In):Tr kK.Res:=.ite (decide (d.1.1.length≤4294950000)) (.ret (.ret (((ax d.1.1 d.1.2.1).1.map (·.2),(aO d.1.1 d.1.2.1,())),()))) .no
abbrev Gq:List (Nat×Hc):=[(71,ai ju zl),(59,ai jN KB),(23,ai gL tH),(72,ai fx pj)]
def G8:Hd:=bB Gq
abbrev dw:Lo:=⟨⟨(.one (.hol (.sl 5 (Ty.int u8)))::bv (.one (.ptr 5 0)::.one (.onl 77 mS 13)::.one (.ptr 7 0)::ah (ah (ah (ah (ah (cN (bv (bi []))))))))),[none,none,none,none,none,some [.onl 46 bX 2562,hI,hI,hI],none,some [.onl 46 bX 3586,hI,hI,hI]]⟩,[(.ret,⟨(bv (.one (.onl 77 mS 13)::.one (.ptr 5 0)::ah (ah (ah (ah (ah (ah ([])))))))),[none,none,none,none,none,some [.onl 46 bX 3586,hI,hI,hI]]⟩),(.exit 0,⟨(.any::bv (.one (.ptr 5 0)::.one (.onl 77 mS 13)::.one (.ptr 7 0)::ah (ah (ah (ah (ah (cN (bv (bi []))))))))),[none,none,none,none,none,some [.onl 46 bX 2562,hI,hI,hI],none,some [.onl 46 bX 3586,hI,hI,hI]]⟩)]⟩
def lV (d:dw.st.den):Tr (ao dw.xs):=
 .ite (decide (d.1.2.1.length=0)&&(decide (d.2.2.1.1.length=0)&&(decide (d.2.2.1.2.1=0)&&(decide (d.2.2.1.2.2.2.1=0)&&decide (d.1.1.length≤4294950000)))))
  (.ite (decide ((ax d.1.1 d.2.2.1.2.2.1).2.2.2=0)) (.ret (.pan (.ret ((),(((ax d.1.1 d.2.2.1.2.2.1).1.map (·.2),()),(d.2.1,(((ax d.1.1 d.2.2.1.2.2.1).1.map (·.1),((ax d.1.1 d.2.2.1.2.2.1).2.1,((ax d.1.1 d.2.2.1.2.2.1).2.2.1,(0,())))),())))))))
   (.ret (.ret ((),(((ax d.1.1 d.2.2.1.2.2.1).1.map (·.2),()),(((ax d.1.1 d.2.2.1.2.2.1).1.map (·.1),((ax d.1.1 d.2.2.1.2.2.1).2.1,((ax d.1.1 d.2.2.1.2.2.1).2.2.1,((ax d.1.1 d.2.2.1.2.2.1).2.2.2,())))),())))))) .no
def tj:Lp:=bP [(4,aA dw lV)]
def sE {R:Type}(h2:LI)(h3:List mS.den)(h4:List bX.den)(h5 h6 h7:Int)(h8:List bX.den)(h9 h10 h11:Int)(next:LI→List mS.den→List bX.den→Int→Int→Int→List bX.den→Int→Int→Int→Option R)(out:ao dw.xs→Option R):Option R:=bif decide (h9<(↑h2.length:Int)) then bif (aj h2 h9).2 != 0 then out (.ret ((),((h3,()),((h8,(h9,(h10,((aj h2 h9).2,())))),())))) else bif decide (h2.length≤4294967296) then bif decide ((List.drop h9.toNat (List.take (i64.wrap (h9+(aj h2 h9).1)).toNat h2)).length≤4294960000) then bif (ap (List.drop h9.toNat (List.take (i64.wrap (h9+(aj h2 h9).1)).toNat h2))).2 != 0 then out (.ret ((),((h3,()),((h8,(h9,(h10,((ap (List.drop h9.toNat (List.take (i64.wrap (h9+(aj h2 h9).1)).toNat h2))).2,())))),())))) else bif (ap (List.drop h9.toNat (List.take (i64.wrap (h9+(aj h2 h9).1)).toNat h2))).1.1 != h10 then out (.ret ((),((h3,()),((h8,(h9,(h10,(190,())))),())))) else bif decide (h8.length+1≤4294967296) then bif decide (h3.length+1≤4294967296) then next (h2) (h3++[(ap (List.drop h9.toNat (List.take (i64.wrap (h9+(aj h2 h9).1)).toNat h2))).1]) (h4) (h5) (h6) (h7) (h8++[((ap (List.drop h9.toNat (List.take (i64.wrap (h9+(aj h2 h9).1)).toNat h2))).1.1,(↑(List.length (ap (List.drop h9.toNat (List.take (i64.wrap (h9+(aj h2 h9).1)).toNat h2))).1.2.2.2.2.2.1):Int),h9,(aj h2 h9).1,ch (ap (List.drop h9.toNat (List.take (i64.wrap (h9+(aj h2 h9).1)).toNat h2))).1.2.2.2.2.2.1,(ap (List.drop h9.toNat (List.take (i64.wrap (h9+(aj h2 h9).1)).toNat h2))).1.2.2.1,(ap (List.drop h9.toNat (List.take (i64.wrap (h9+(aj h2 h9).1)).toNat h2))).1.2.2.2.1,(ap (List.drop h9.toNat (List.take (i64.wrap (h9+(aj h2 h9).1)).toNat h2))).1.2.2.2.2.1,())]) (i64.wrap (h9+(aj h2 h9).1)) (i64.wrap (h10+(↑(List.length (ap (List.drop h9.toNat (List.take (i64.wrap (h9+(aj h2 h9).1)).toNat h2))).1.2.2.2.2.2.1):Int))) (h11) else none else none else none else none else out (.pan (.ret ((),((h3,()),((h4,(h5,(h6,(h7,())))),((h8,(h9,(h10,(h11,())))),()))))))
def m9 (n:Nat)(h2:LI)(h3:List mS.den)(h4:List bX.den)(h5 h6 h7:Int)(h8:List bX.den)(h9 h10 h11:Int):Option (ao dw.xs):=fH tt G8 dr tj 0 Tryz.f52 (bI Tryz.f52 0) n (dw.st.mk' ((h2,(h3,())),((h4,(h5,(h6,(h7,())))),((h8,(h9,(h10,(h11,())))),())))) (bo dw.xs)
theorem JY (n:Nat)(h2:LI)(h3:List mS.den)(h4:List bX.den)(h5 h6 h7:Int)(h8:List bX.den)(h9 h10 h11:Int):m9 (n+1) h2 h3 h4 h5 h6 h7 h8 h9 h10 h11=sE h2 h3 h4 h5 h6 h7 h8 h9 h10 h11 (m9 n) some:=by kernel_rfl
def Ba (W:List (bp×cM)×Int×Int×Int)(out:List cM)(es x4:List bp)(x5 x6 x7:Int):ao dw.xs:=
 if W.2.2.2=0 then .pan (.ret ((),((out++W.1.map (·.2),()),((x4,(x5,(x6,(x7,())))),((es++W.1.map (·.1),(W.2.1,(W.2.2.1,(0,())))),()))))) else .ret ((),((out++W.1.map (·.2),()),((es++W.1.map (·.1),(W.2.1,(W.2.2.1,(W.2.2.2,())))),())))
theorem Jo (p q:Int)(out:List cM)(es x4:List bp)(x5 x6 x7:Int):Ba ([],p,q,0) out es x4 x5 x6 x7=.pan (.ret ((),((out,()),((x4,(x5,(x6,(x7,())))),((es,(p,(q,(0,())))),()))))):=by
 unfold Ba;rw[if_pos rfl];simp
theorem ru {w':Int}(h:w'≠0)(p q:Int)(out:List cM)(es x4:List bp)(x5 x6 x7:Int):Ba ([],p,q,w') out es x4 x5 x6 x7=.ret ((),((out,()),((es,(p,(q,(w',())))),()))):=by
 unfold Ba;rw[if_neg h];simp
theorem Jn (e:bp)(x:cM)(W:List (bp×cM)×Int×Int×Int)(out:List cM)(es x4:List bp)(x5 x6 x7:Int):Ba ((e,x)::W.1,W.2) out es x4 x5 x6 x7=Ba W (out++[x]) (es++[e]) x4 x5 x6 x7:=by
 unfold Ba;simp
theorem CX (b:LI)(hb:bf b)(hl:b.length≤4294950000)(x4:List bp)(x5 x6 x7:Int):∀(k:Nat) (p q:Int) (out:List cM) (es:List bp),0≤p→p≤b.length→(b.length:Int)<p+k→61*(es.length:Int)≤p→out.length=es.length→
  m9 k b out x4 x5 x6 x7 es p q 0=some (Ba (fh b k p q) out es x4 x5 x6 x7):=by
 intro k
 induction k with
 |zero=>intro p q out es h0 h1 h2;omega
 |succ k ih=>
  intro p q out es h0 h1 h2 h3 h4
  rw[JY]
  unfold sE fh
  by_cases c1:p<b.length
  rotate_left
  ·refine bF (decide_eq_false c1) ?_
   rw[if_pos (by omega),Jo]
  refine bT (decide_eq_true c1) ?_
  rw[if_neg (by omega:¬(b.length:Int)≤p)]
  by_cases c2:(aj b p).2=0
  rotate_left
  ·refine bT (by simpa using c2) ?_
   rw[if_pos c2,ru c2]
  refine bF (by rw[c2];rfl) ?_
  rw[if_neg (fun h=>h c2)]
  have hm:=hY c2
  have hx:=kr (mY hb p.toNat (aj b p).1.toNat)
  generalize (aj b p).1=m at *
  have hd:List.drop p.toNat (List.take (p+m).toNat b)=(b.drop p.toNat).take m.toNat:=by
   rw[List.drop_take,show (p+m).toNat - p.toNat=m.toNat by omega]
  rw[ae (n:=p+m) (by omega) (by omega),hd]
  refine bT (decide_eq_true (by omega)) ?_
  refine bT (decide_eq_true (by rw[List.length_take,List.length_drop];omega)) ?_
  generalize ap ((b.drop p.toNat).take m.toNat)=D at *
  obtain ⟨⟨(x1:Int),(x2:Int),(x3:Int),(y4:Int),(y5:Int),(rs:List bq),⟨⟩⟩,(z:Int)⟩:=D
  by_cases c3:z=0
  rotate_left
  ·refine bT (by simpa using c3) ?_
   rw[if_pos c3,ru c3]
  refine bF (by simpa using c3) ?_
  rw[if_neg (fun h=>h c3)]
  obtain ⟨z1,z2,z3,z4⟩:=hx c3
  have z1:0≤x1:=z1
  have z2:x1≤4611686018427387648:=z2
  have z4:rs.length≤256:=z4
  by_cases c4:x1=q
  rotate_left
  ·refine bT (by simpa using c4) ?_
   rw[if_pos c4,ru (show (190:Int)≠0 by decide)]
  refine bF (by simpa using c4) ?_
  rw[if_neg (fun h=>h c4)]
  refine bT (decide_eq_true (by show es.length+1≤4294967296;omega)) ?_
  refine bT (decide_eq_true (by show out.length+1≤4294967296;omega)) ?_
  show m9 k b (out++[(x1,(x2,(x3,(y4,(y5,(rs,()))))))]) x4 x5 x6 x7 (es++[(x1,((rs.length:Int),(p,(m,(ch rs,(x3,(y4,(y5,()))))))))]) (p+m) (i64.wrap (q+(rs.length:Int))) 0=_
  rw[ae (n:=q+(rs.length:Int)) (by omega) (by omega)]
  refine (ih (p+m) (q+(rs.length:Int)) _ _ (by omega) (by omega) (by omega) (by rw[zH,List.length_singleton];push_cast;omega) (by rw[zH,zH,List.length_singleton,List.length_singleton,h4])).trans ?_
  exact congrArg some (Jn _ _ _ out es x4 x5 x6 x7).symm
def xg (a0:LI)(a1:Int):Option kK.Res:=(lV ((a0,([],())),(([],(0,(0,(0,())))),(([],(0,(a1,(0,())))),())))).run fun y=>match y with | .ret ((),((x46,()),(x47,x48,x49,x50,()),()))=>(oR ((x46,(x47,x48,x49,x50,()),()),())) | .pan (.ret ((),((x51,()),(x52,x53,x54,x55,()),(x56,x57,x58,x59,()),())))=>(oR ((x51,(x56,x57,x58,x59,()),()),()))
theorem M9 (a0:LI)(a1:Int):Io.run tt G8 dr tj kK Tryz.f52 ((a0,a1,()),())=xg a0 a1:=by kernel_rfl
theorem ya:HcsOk prog Gq:=.cons H9 (.cons Ro (.cons AQ (.cons vr .nil)))
theorem Px:HcOk prog 52 (ai kK Eg):=by
 refine bQ ya (lp:=tj) (fn:=Tryz.f52) kK (.step (h0:=aA dw lV) (by kernel_rfl) (fR ya (lp:=tj) (fn:=Tryz.f52) (.done (by kernel_rfl)) dw lV ?_) (.done (by kernel_rfl))) Eg ?_
 ·rintro ⟨⟨(b:LI),(out:List cM),⟨⟩⟩,⟨⟨(x4:List bp),(x5:Int),(x6:Int),(x7:Int),⟨⟩⟩,⟨(es:List bp),(p:Int),(q:Int),(w:Int),⟨⟩⟩,⟨⟩⟩⟩ y hw hy
  obtain ⟨hg,hy⟩:=Tr.guard hy
  simp only[zA,zB] at hg
  obtain ⟨h1,h2,h3,h4,h5⟩:=hg
  have h1:out=[]:=zF h1
  have h2:es=[]:=zF h2
  have h3:p=0:=h3
  have h4:w=0:=h4
  have h5:b.length≤4294950000:=h5
  subst h1 h2 h3 h4
  refine ⟨b.length+1,(CX b (bytesOf hw.1.1) h5 x4 x5 x6 x7 (b.length+1) 0 q [] [] (by omega) (by omega) (by omega) (by simp) rfl).trans ?_⟩
  unfold Ba
  show some (if (ax b q).2.2.2=0 then _ else _)=_
  by_cases c:(ax b q).2.2.2=0
  ·rw[if_pos c]
   exact ((aa (decide_eq_true c) _ _).symm.trans hy)
  ·rw[if_neg c]
   exact ((af (decide_eq_false c) _ _).symm.trans hy)
 ·rintro ⟨⟨(b:LI),(q:Int),⟨⟩⟩,⟨⟩⟩ out hw ho
  obtain ⟨hg,ho⟩:=Tr.guard ho
  cases ho
  refine (M9 b q).trans ?_
  unfold xg lV
  refine bT (by simp only[zA,zB];exact ⟨rfl,rfl,trivial,trivial,of_decide_eq_true hg⟩) ?_
  by_cases c:(ax b q).2.2.2=0
  ·refine bT (decide_eq_true c) ?_
   show oR (((ax b q).1.map (·.2),(((ax b q).1.map (·.1),((ax b q).2.1,((ax b q).2.2.1,(0,())))),())),())=oR (((ax b q).1.map (·.2),(((ax b q).1.map (·.1),((ax b q).2.1,((ax b q).2.2.1,((ax b q).2.2.2,())))),())),())
   rw[c]
  ·exact af (decide_eq_false c) _ _
abbrev kL:Io:=⟨[dL,cO],[],[],[Lb],none⟩
def Ei (d:kL.In):Tr kL.Res:=.ite (decide (d.1.1.length≤4294950000)) (.ret (.ret ((aO d.1.1 d.1.2.1,()),()))) .no
abbrev Gs:List (Nat×Hc):=[(52,ai kK Eg)]
def OQ:Hd:=bB Gs
def HA:Lp:=bP []
def xi (a0:LI)(a1:Int):Option kL.Res:=bif decide (a0.length≤4294950000) then oR ((aO a0 a1,()),()) else none
theorem Nb (a0:LI)(a1:Int):Io.run tt OQ dr HA kL Tryz.f20 ((a0,a1,()),())=xi a0 a1:=by kernel_rfl
theorem Pz:HcOk prog 20 (ai kL Ei):=by
 refine bQ (cs:=Gs) (.cons Px .nil) (lp:=HA) (fn:=Tryz.f20) kL (.done (by kernel_rfl)) Ei ?_
 rintro ⟨⟨(b:LI),(q:Int),⟨⟩⟩,⟨⟩⟩ out hw ho
 obtain ⟨hg,ho⟩:=Tr.guard ho
 cases ho
 refine (Nb b q).trans ?_
 unfold xi
 exact aa hg _ _
abbrev jk:Io:=⟨[dL,cO,cO,dI],[],[],[dL,dI],none⟩
def Eh (d:jk.In):Tr jk.Res:=.ite (decide (d.1.1.length≤4294950000)) (.ret (.ret (((cj d.1.1 d.1.2.1 d.1.2.2.1 d.1.2.2.2.1).1,((cj d.1.1 d.1.2.1 d.1.2.2.1 d.1.2.2.2.1).2,())),()))) .no
abbrev Gr:List (Nat×Hc):=[(20,ai kL Ei),(23,ai gL tH),(24,ai lG By)]
def G9:Hd:=bB Gr
abbrev dX:Lo:=⟨⟨(.one (.hol (.sl 5 (Ty.int u8)))::.any::.one hI::.one hI::bv (bi (.one (.ptr 10 0)::.one (.onl 5 (Ty.int u8) 23)::.one hI::.any::ah (ah (ah (cN (bv (bi [])))))))),[none,none,none,none,none,none,none,none,none,none,some [.hol (.sl 46 bX),hI,hI,hI]]⟩,[(.ret,⟨(cN (.one (.onl 5 (Ty.int u8) 23)::.one hI::ah (ah (ah (ah (bi [])))))),[]⟩),(.exit 0,⟨(.any::cN (bi (.one (.onl 5 (Ty.int u8) 23)::ah (ah (ah (ah ([]))))))),[]⟩)]⟩
def qh (b:LI)(x y:Int):LI:=(b.take y.toNat).drop x.toNat
def gA (b:LI)(f most:Int):List bp→LI→LI×Bool
 |[],out=>(out,false)
 |e::es,out=>if f<e.1+e.2.1 then (if (out.length:Int)=0∨(out.length:Int)+e.2.2.2.1≤most then gA b f most es (out++qh b e.2.2.1 (e.2.2.1+e.2.2.2.1)) else (out,true)) else gA b f most es out
def QH (len:Int)(es:List bp):Bool:=@decide (∃q p' q',Tiles len es 0 q p' q') (Classical.propDecidable _)
def lW (d:dX.st.den):Tr (ao dX.xs):=
 .ite (decide (d.1.2.2.2.2.1=0)&&(decide (d.1.2.2.2.1.length=0)&&(decide (d.1.1.length≤4294950000)&&QH (d.1.1.length:Int) d.2.1.1)))
  (.ite (gA d.1.1 d.1.2.1 d.1.2.2.1 d.2.1.1 []).2
   (.ret (.ret ((),(((gA d.1.1 d.1.2.1 d.1.2.2.1 d.2.1.1 []).1,(0,())),()))))
   (.ret (.pan (.ret ((),(((gA d.1.1 d.1.2.1 d.1.2.2.1 d.2.1.1 []).1,()),())))))) .no
def tk:Lp:=bP [(7,aA dX lW)]
def sF {R:Type}(h4:LI)(h5 h6:Int)(h7:LI)(h8:Int)(h9:List bX.den)(h10 h11 h12:Int)(next:LI→Int→Int→LI→Int→List bX.den→Int→Int→Int→Option R)(out:ao dX.xs→Option R):Option R:=bif decide (h8<(↑h9.length:Int)) then bif decide (0≤h8)&&decide (h8<(↑h9.length:Int)) then bif decide (h5<i64.wrap ((h9.getD h8.toNat (0,0,0,0,0,0,0,0,())).1+(h9.getD h8.toNat (0,0,0,0,0,0,0,0,())).2.1)) then bif (↑h7.length:Int) == 0 then bif decide (h4.length≤4294967296) then bif decide (h7.length+(List.drop (Int.toNat (h9.getD h8.toNat (0,0,0,0,0,0,0,0,())).2.2.1) (List.take (i64.wrap ((h9.getD h8.toNat (0,0,0,0,0,0,0,0,())).2.2.1+(h9.getD h8.toNat (0,0,0,0,0,0,0,0,())).2.2.2.1)).toNat h4)).length≤4294967296) then next (h4) (h5) (h6) (h7++List.drop (Int.toNat (h9.getD h8.toNat (0,0,0,0,0,0,0,0,())).2.2.1) (List.take (i64.wrap ((h9.getD h8.toNat (0,0,0,0,0,0,0,0,())).2.2.1+(h9.getD h8.toNat (0,0,0,0,0,0,0,0,())).2.2.2.1)).toNat h4)) (i64.wrap (h8+1)) (h9) (h10) (h11) (h12) else none else none else bif decide (i64.wrap ((↑h7.length:Int)+(h9.getD h8.toNat (0,0,0,0,0,0,0,0,())).2.2.2.1)≤h6) then bif decide (h4.length≤4294967296) then bif decide (h7.length+(List.drop (Int.toNat (h9.getD h8.toNat (0,0,0,0,0,0,0,0,())).2.2.1) (List.take (i64.wrap ((h9.getD h8.toNat (0,0,0,0,0,0,0,0,())).2.2.1+(h9.getD h8.toNat (0,0,0,0,0,0,0,0,())).2.2.2.1)).toNat h4)).length≤4294967296) then next (h4) (h5) (h6) (h7++List.drop (Int.toNat (h9.getD h8.toNat (0,0,0,0,0,0,0,0,())).2.2.1) (List.take (i64.wrap ((h9.getD h8.toNat (0,0,0,0,0,0,0,0,())).2.2.1+(h9.getD h8.toNat (0,0,0,0,0,0,0,0,())).2.2.2.1)).toNat h4)) (i64.wrap (h8+1)) (h9) (h10) (h11) (h12) else none else none else bif decide (h5<i64.wrap ((h9.getD h8.toNat (0,0,0,0,0,0,0,0,())).1+(h9.getD h8.toNat (0,0,0,0,0,0,0,0,())).2.1)) then out (.ret ((),((h7,(0,())),()))) else next (h4) (h5) (h6) (h7) (i64.wrap (h8+1)) (h9) (h10) (h11) (h12) else bif decide (h5<i64.wrap ((h9.getD h8.toNat (0,0,0,0,0,0,0,0,())).1+(h9.getD h8.toNat (0,0,0,0,0,0,0,0,())).2.1)) then out (.ret ((),((h7,(0,())),()))) else next (h4) (h5) (h6) (h7) (i64.wrap (h8+1)) (h9) (h10) (h11) (h12) else none else out (.pan (.ret ((),((h7,()),()))))
def ri (n:Nat)(h4:LI)(h5 h6:Int)(h7:LI)(h8:Int)(h9:List bX.den)(h10 h11 h12:Int):Option (ao dX.xs):=fH tt G9 dr tk 0 Tryz.f14 (bI Tryz.f14 0) n (dX.st.mk' ((h4,(h5,(h6,(h7,(h8,()))))),((h9,(h10,(h11,(h12,())))),()))) (bo dX.xs)
theorem JZ (n:Nat)(h4:LI)(h5 h6:Int)(h7:LI)(h8:Int)(h9:List bX.den)(h10 h11 h12:Int):ri (n+1) h4 h5 h6 h7 h8 h9 h10 h11 h12=sF h4 h5 h6 h7 h8 h9 h10 h11 h12 (ri n) some:=by kernel_rfl
theorem NB (b:LI){x y:Int}(h0:0≤x)(h1:x≤y)(h2:y≤b.length):((qh b x y).length:Int)=y - x:=by
 unfold qh
 rw[List.length_drop,List.length_take];omega
theorem Rx (b:LI){x y z:Int}(h0:0≤x)(h1:x≤y)(h2:y≤z)(h3:z≤b.length):qh b x y++qh b y z=qh b x z:=by
 unfold qh
 obtain ⟨x,rfl⟩:=Int.eq_ofNat_of_zero_le h0
 obtain ⟨y,rfl⟩:=Int.eq_ofNat_of_zero_le (Int.le_trans h0 h1)
 obtain ⟨z,rfl⟩:=Int.eq_ofNat_of_zero_le (Int.le_trans (Int.le_trans h0 h1) h2)
 simp only[Int.ofNat_eq_natCast,zG] at *
 rw[List.drop_take,List.drop_take,List.drop_take]
 have e1:z - x=(y - x)+(z - y):=by omega
 have e2:b.drop y=(b.drop x).drop (y - x):=by rw[List.drop_drop];congr 1;omega
 rw[e1,e2,List.take_add]
theorem CY (b:LI)(hl:b.length≤4294950000)(f most:Int)(es:List bp)(hel:es.length≤maxLen)(l n w:Int):∀(k i:Nat) (out:LI) (p q p' q':Int),Tiles b.length (es.drop i) p q p' q'→0≤p→(out.length:Int)≤p→p≤b.length→es.length<i+k→i≤es.length→
  ri k b f most out i es l n w=some (if (gA b f most (es.drop i) out).2=true then .ret ((),(((gA b f most (es.drop i) out).1,(0,())),())) else .pan (.ret ((),(((gA b f most (es.drop i) out).1,()),())))):=by
 intro k
 induction k with
 |zero=>intro i out p q p' q' _ _ _ _ h;omega
 |succ k ih=>
  intro i out p q p' q' ht h0 hp hp2 h1 h2
  rw[JZ]
  unfold sF
  by_cases hi:i<es.length
  rotate_left
  ·refine bF (decide_eq_false (by omega)) ?_
   rw[zI (by omega)]
   rfl
  refine bT (decide_eq_true (by omega)) ?_
  refine bT (by simpa using hi) ?_
  have e1:List.getD es (i:Int).toNat (0,0,0,0,0,0,0,0,())=es[i]:=by rw[zG,aB hi]
  rw[e1,bb hi hel]
  rw[zE hi] at ht ⊢
  generalize es[i]=e at *
  obtain ⟨⟨t1,t2,t3,t4,t5,t6,t7,t8,t9⟩,ht⟩:=ht
  have eQ:gA b f most (e::es.drop (i+1)) out=if f<e.1+e.2.1 then (if (out.length:Int)=0∨(out.length:Int)+e.2.2.2.1≤most then gA b f most (es.drop (i+1)) (out++qh b e.2.2.1 (e.2.2.1+e.2.2.2.1)) else (out,true)) else gA b f most (es.drop (i+1)) out:=rfl
  have hs:=NB b (x:=e.2.2.1) (y:=e.2.2.1+e.2.2.2.1) (by omega) (by omega) (by omega)
  rw[eQ,ae (n:=e.1+e.2.1) (by omega) (by omega),ae (n:=e.2.2.1+e.2.2.2.1) (by omega) (by omega),ae (n:=(out.length:Int)+e.2.2.2.1) (by omega) (by omega)]
  have eS:List.drop (Int.toNat e.2.2.1) (List.take (e.2.2.1+e.2.2.2.1).toNat b)=qh b e.2.2.1 (e.2.2.1+e.2.2.2.1):=rfl
  rw[eS]
  by_cases c1:f<e.1+e.2.1
  rotate_left
  ·refine bF (decide_eq_false c1) ?_
   refine bF (decide_eq_false c1) ?_
   rw[if_neg c1]
   exact ih (i+1) out _ _ p' q' ht (by omega) (by omega) (by omega) (by omega) (by omega)
  refine bT (decide_eq_true c1) ?_
  rw[if_pos c1]
  by_cases c2:(out.length:Int)=0
  ·refine bT (by rw[c2];rfl) ?_
   rw[if_pos (show (out.length:Int)=0∨(out.length:Int)+e.2.2.2.1≤most from .inl c2)]
   refine bT (decide_eq_true (by omega)) ?_
   refine bT (decide_eq_true (by omega)) ?_
   exact ih (i+1) _ _ _ p' q' ht (by omega) (by rw[zH];push_cast;omega) (by omega) (by omega) (by omega)
  refine bF (by simpa using c2) ?_
  by_cases c3:(out.length:Int)+e.2.2.2.1≤most
  ·refine bT (decide_eq_true c3) ?_
   rw[if_pos (show (out.length:Int)=0∨(out.length:Int)+e.2.2.2.1≤most from .inr c3)]
   refine bT (decide_eq_true (by omega)) ?_
   refine bT (decide_eq_true (by omega)) ?_
   exact ih (i+1) _ _ _ p' q' ht (by omega) (by rw[zH];push_cast;omega) (by omega) (by omega) (by omega)
  ·refine bF (decide_eq_false c3) ?_
   refine bT (decide_eq_true c1) ?_
   rw[if_neg (show ¬((out.length:Int)=0∨(out.length:Int)+e.2.2.2.1≤most) from fun h=>h.elim c2 c3)]
   rfl
theorem Ij (b:LI)(f most a:Int)(ha:0≤a):∀{es:List bp} {p q p' q':Int},Tiles b.length es p q p' q'→f<q→a<p→p≤b.length→(gA b f most es (qh b a p)).1=qh b a (cJ a most es p)
 |[],p,q,p',q',_,_,_,_=>rfl
 |e::es,p,q,p',q',⟨⟨t1,t2,t3,t4,t5,t6,t7,t8,t9⟩,ht⟩,hf,hp,hb=>by
  have hs:=NB b (x:=a) (y:=p) ha (by omega) hb
  unfold gA cJ
  rw[if_pos (by omega)]
  by_cases c:most<e.2.2.1+e.2.2.2.1 - a
  ·rw[if_pos c,if_neg (by omega)]
  ·rw[if_neg c,if_pos (by omega),t2,Rx b ha (by omega) (by omega) (by omega)]
   exact Ij b f most a ha ht (by omega) (by omega) (by omega)
theorem Ik (b:LI)(f most:Int)(out:LI):∀{es:List bp} {p q p' q':Int},Tiles b.length es p q p' q'→q'≤f→q'=q'→gA b f most es out=(out,false)
 |[],p,q,p',q',_,_,_=>rfl
 |e::es,p,q,p',q',⟨⟨t1,t2,t3,t4,t5,t6,t7,t8,t9⟩,ht⟩,hf,h=>by
  have hq:q+e.2.1≤q':=by
   have key:∀{es:List bp} {p q p' q':Int},Tiles b.length es p q p' q'→q≤q':=by
    intro es
    induction es with
    |nil=>intro p q p' q' h;have:=h.2;omega
    |cons x xs ih=>intro p q p' q' h;have h1:=ih h.2;have h2:=h.1;omega
   exact key ht
  unfold gA
  rw[if_neg (by omega)]
  exact Ik b f most out ht hf rfl
theorem Ii (b:LI)(f most:Int):∀{es:List bp} {p q p' q':Int},Tiles b.length es p q p' q'→0≤p→q≤f→f<q'→∃u:Nat,aL f es=u+1∧∃hu:u<es.length,
  (gA b f most es []).1=qh b (es[u]).2.2.1 (cJ (es[u]).2.2.1 most (es.drop (u+1)) ((es[u]).2.2.1+(es[u]).2.2.2.1))
 |[],p,q,p',q',h,_,h1,h2=>by have:=h.2;omega
 |e::es,p,q,p',q',⟨⟨t1,t2,t3,t4,t5,t6,t7,t8,t9⟩,ht⟩,h0,h1,h2=>by
  by_cases c:f<q+e.2.1
  ·refine ⟨0,?_,by simp,?_⟩
   ·unfold aL
    rw[List.takeWhile_cons,if_pos (decide_eq_true (by omega)),zN]
    cases es with
    |nil=>rfl
    |cons y ys=>
     have h3:y.1=q+e.2.1:=ht.1.1
     rw[List.takeWhile_cons,if_neg (by simp;omega)]
     rfl
   ·show (gA b f most (e::es) []).1=qh b e.2.2.1 (cJ e.2.2.1 most es (e.2.2.1+e.2.2.2.1))
    unfold gA
    rw[if_pos (by omega),if_pos (.inl rfl),List.nil_append,t2]
    exact Ij b f most p h0 ht (by omega) (by omega) (by omega)
  ·obtain ⟨u,k1,k2,k3⟩:=Ii b f most ht (by omega) (by omega) h2
   refine ⟨u+1,?_,by simpa using k2,?_⟩
   ·unfold aL at k1 ⊢
    rw[List.takeWhile_cons,if_pos (decide_eq_true (by omega)),zN,k1]
   ·unfold gA
    rw[if_neg (by omega)]
    exact k3
def xh (a0:LI)(a1 a2 a3:Int):Option jk.Res:=bif decide (a0.length≤4294950000) then bif decide (a2<a1) then oR (([],221,()),()) else bif decide ((aO a0 a1).2.2.1<a2) then oR (([],221,()),()) else (lW ((a0,(a2,(a3,([],(0,()))))),(((aO a0 a1).1,((aO a0 a1).2.1,((aO a0 a1).2.2.1,((aO a0 a1).2.2.2.1,())))),()))).run fun y=>match y with | .ret ((),((x54,x55,()),()))=>(oR ((x54,x55,()),())) | .pan (.ret ((),((x56,()),())))=>(oR ((x56,0,()),())) else none
theorem Na (a0:LI)(a1 a2 a3:Int):Io.run tt G9 dr tk jk Tryz.f14 ((a0,a1,a2,a3,()),())=xh a0 a1 a2 a3:=by kernel_rfl
theorem yb:HcsOk prog Gr:=.cons Pz (.cons AQ (.cons yw .nil))
theorem Py:HcOk prog 14 (ai jk Eh):=by
 refine bQ yb (lp:=tk) (fn:=Tryz.f14) jk (.step (h0:=aA dX lW) (by kernel_rfl) (fR yb (lp:=tk) (fn:=Tryz.f14) (.done (by kernel_rfl)) dX lW ?_) (.done (by kernel_rfl))) Eh ?_
 ·rintro ⟨⟨(b:LI),(f:Int),(most:Int),(out:LI),(i:Int),⟨⟩⟩,⟨⟨(es:List bp),(l:Int),(n:Int),(w:Int),⟨⟩⟩,⟨⟩⟩⟩ y hw hy
  obtain ⟨hg,hy⟩:=Tr.guard hy
  simp only[zA,zB] at hg
  obtain ⟨h0,h1,h2,h3⟩:=hg
  have h0:i=0:=h0
  have h1:out=[]:=zF h1
  have h2:b.length≤4294950000:=h2
  unfold QH at h3
  obtain ⟨q,p',q',ht⟩:=@of_decide_eq_true _ (Classical.propDecidable _) h3
  have ht:Tiles b.length es 0 q p' q':=ht
  subst h0 h1
  refine ⟨es.length+1,(CY b h2 f most es hw.2.1.1.1 l n w (es.length+1) 0 [] 0 q p' q' ht (Int.le_refl 0) (by simp) (by omega) (by omega) (Nat.zero_le _)).trans ?_⟩
  rw[List.drop_zero]
  have hy:(bif (gA b f most es []).2 then some (.ret ((),(((gA b f most es []).1,(0,())),()))) else some (.pan (.ret ((),(((gA b f most es []).1,()),())))))=some y:=hy
  rw[← hy]
  cases (gA b f most es []).2 <;> rfl
 ·rintro ⟨⟨(b:LI),(base:Int),(f:Int),(most:Int),⟨⟩⟩,⟨⟩⟩ out hw ho
  obtain ⟨hg,ho⟩:=Tr.guard ho
  have hg2:b.length≤4294950000:=of_decide_eq_true hg
  cases ho
  have hb:bf b:=bytesOf hw.1.1
  refine (Na b base f most).trans ?_
  show _=oR (((cj b base f most).1,((cj b base f most).2,())),())
  unfold xh
  refine (aa hg _ _).trans ?_
  have hN:(aO b base).2.2.1=(ax b base).2.2.1:=rfl
  have eS:cj b base f most=if f<base∨(ax b base).2.2.1<f then ([],221) else if f=(ax b base).2.2.1 then ([],0) else (qh b ((((ax b base).1.map (·.1)).getD (aL f ((ax b base).1.map (·.1)) - 1) eV).2.2.1) (cJ ((((ax b base).1.map (·.1)).getD (aL f ((ax b base).1.map (·.1)) - 1) eV).2.2.1) most (((ax b base).1.map (·.1)).drop (aL f ((ax b base).1.map (·.1)))) (((((ax b base).1.map (·.1)).getD (aL f ((ax b base).1.map (·.1)) - 1) eV).2.2.1)+((((ax b base).1.map (·.1)).getD (aL f ((ax b base).1.map (·.1)) - 1) eV).2.2.2.1))),0):=rfl
  rw[eS,hN]
  by_cases c1:f<base
  ·refine bT (decide_eq_true c1) ?_
   rw[if_pos (.inl c1)]
  refine bF (decide_eq_false c1) ?_
  by_cases c2:(ax b base).2.2.1<f
  ·refine bT (decide_eq_true c2) ?_
   rw[if_pos (.inr c2)]
  refine bF (decide_eq_false c2) ?_
  rw[if_neg (by omega)]
  obtain ⟨ht,_,_⟩:=wm hb base
  have hE:(aO b base).1=(ax b base).1.map (·.1):=rfl
  unfold lW
  refine bT (by simp only[zA,zB];exact ⟨trivial,rfl,hg2,@decide_eq_true _ (Classical.propDecidable _) ⟨_,_,_,ht⟩⟩) ?_
  show (bif (gA b f most ((ax b base).1.map (·.1)) []).2 then oR (((gA b f most ((ax b base).1.map (·.1)) []).1,(0,())),()) else oR (((gA b f most ((ax b base).1.map (·.1)) []).1,(0,())),()))=_
  have hb2:∀(c:Bool) (x:jk.Res),(bif c then some x else some x)=some x:=fun c x=>by cases c <;> rfl
  rw[hb2]
  by_cases c3:f=(ax b base).2.2.1
  ·rw[if_pos c3,Ik b f most [] ht (by omega) rfl]
  rw[if_neg c3]
  obtain ⟨u,k1,k2,k3⟩:=Ii b f most ht (Int.le_refl 0) (by omega) (by omega)
  generalize (ax b base).1.map (·.1)=es at *
  rw[k1,k3]
  have hz:List.getD es (u+1 - 1) eV=es[u]:=by rw[Nat.add_sub_cancel];exact aB k2
  rw[hz]
abbrev jj:Io:=⟨[dL,cO,cO,dI],[],[],[dB],none⟩
def yX (d:jj.In):Tr jj.Res:=.ite (decide (d.1.1.length≤4294950000)) (.ret (.ret ((true,()),()))) .no
abbrev Gl:List (Nat×Hc):=[(12,ai f9 tR),(13,ai mh FV),(14,ai jk Eh),(15,A8 (ai jg yQ)),(16,ai iu yL),(17,zq)]
def OM:Hd:=bB Gl
def Hw:Lp:=bP []
def w8 (a0:LI)(a1 a2 a3:Int):Option jj.Res:=bif decide (a0.length≤4294967000) then bif decide (a0.length≤4294950000) then bif decide (0≤0)&&(decide (0≤(↑a0.length:Int))&&decide ((↑a0.length:Int)≤(↑(List.length (a0++[13,20,27,34,41,48,55,62,69,76,83,90,97,104,111,118,125,132,139,146,153,160,167,174,181,188,195,202,209,216,223,230,237,244,251,2,9,16,23,30,37,44,51,58,65,72,79,86,93,100,107,114,121,128,135,142,149,156,163,170,177,184,191,198,205,212,219,226,233,240,247,254,5,12,19,26,33,40,47,54,61,68,75,82,89,96,103,110,117,124,131,138,145,152,159,166])):Int))) then bif decide ((List.drop (Int.toNat 0) (List.take (↑a0.length:Int).toNat (a0++[13,20,27,34,41,48,55,62,69,76,83,90,97,104,111,118,125,132,139,146,153,160,167,174,181,188,195,202,209,216,223,230,237,244,251,2,9,16,23,30,37,44,51,58,65,72,79,86,93,100,107,114,121,128,135,142,149,156,163,170,177,184,191,198,205,212,219,226,233,240,247,254,5,12,19,26,33,40,47,54,61,68,75,82,89,96,103,110,117,124,131,138,145,152,159,166]))).length≤4294950000) then bif decide (0≤0)&&(decide (0≤(↑a0.length:Int))&&decide ((↑a0.length:Int)≤(↑(List.length (a0++[13,20,27,34,41,48,55,62,69,76,83,90,97,104,111,118,125,132,139,146,153,160,167,174,181,188,195,202,209,216,223,230,237,244,251,2,9,16,23,30,37,44,51,58,65,72,79,86,93,100,107,114,121,128,135,142,149,156,163,170,177,184,191,198,205,212,219,226,233,240,247,254,5,12,19,26,33,40,47,54,61,68,75,82,89,96,103,110,117,124,131,138,145,152,159,166])):Int))) then bif decide ((List.drop (Int.toNat 0) (List.take (↑a0.length:Int).toNat (a0++[13,20,27,34,41,48,55,62,69,76,83,90,97,104,111,118,125,132,139,146,153,160,167,174,181,188,195,202,209,216,223,230,237,244,251,2,9,16,23,30,37,44,51,58,65,72,79,86,93,100,107,114,121,128,135,142,149,156,163,170,177,184,191,198,205,212,219,226,233,240,247,254,5,12,19,26,33,40,47,54,61,68,75,82,89,96,103,110,117,124,131,138,145,152,159,166]))).length≤4294950000) then bif (cj (List.drop (Int.toNat 0) (List.take (↑a0.length:Int).toNat (a0++[13,20,27,34,41,48,55,62,69,76,83,90,97,104,111,118,125,132,139,146,153,160,167,174,181,188,195,202,209,216,223,230,237,244,251,2,9,16,23,30,37,44,51,58,65,72,79,86,93,100,107,114,121,128,135,142,149,156,163,170,177,184,191,198,205,212,219,226,233,240,247,254,5,12,19,26,33,40,47,54,61,68,75,82,89,96,103,110,117,124,131,138,145,152,159,166]))) a1 a2 a3).2 != (cj a0 a1 a2 a3).2 then oR ((false,()),()) else bif (cj (List.drop (Int.toNat 0) (List.take (↑a0.length:Int).toNat (a0++[13,20,27,34,41,48,55,62,69,76,83,90,97,104,111,118,125,132,139,146,153,160,167,174,181,188,195,202,209,216,223,230,237,244,251,2,9,16,23,30,37,44,51,58,65,72,79,86,93,100,107,114,121,128,135,142,149,156,163,170,177,184,191,198,205,212,219,226,233,240,247,254,5,12,19,26,33,40,47,54,61,68,75,82,89,96,103,110,117,124,131,138,145,152,159,166]))) a1 a2 a3).2 != (cj (List.drop (Int.toNat 0) (List.take (↑a0.length:Int).toNat (a0++[13,20,27,34,41,48,55,62,69,76,83,90,97,104,111,118,125,132,139,146,153,160,167,174,181,188,195,202,209,216,223,230,237,244,251,2,9,16,23,30,37,44,51,58,65,72,79,86,93,100,107,114,121,128,135,142,149,156,163,170,177,184,191,198,205,212,219,226,233,240,247,254,5,12,19,26,33,40,47,54,61,68,75,82,89,96,103,110,117,124,131,138,145,152,159,166]))) a1 a2 a3).2 then oR ((false,()),()) else bif decide (a0.length≤4294967000) then bif !decide (a0++[13,20,27,34,41,48,55,62,69,76,83,90,97,104,111,118,125,132,139,146,153,160,167,174,181,188,195,202,209,216,223,230,237,244,251,2,9,16,23,30,37,44,51,58,65,72,79,86,93,100,107,114,121,128,135,142,149,156,163,170,177,184,191,198,205,212,219,226,233,240,247,254,5,12,19,26,33,40,47,54,61,68,75,82,89,96,103,110,117,124,131,138,145,152,159,166]=a0++[13,20,27,34,41,48,55,62,69,76,83,90,97,104,111,118,125,132,139,146,153,160,167,174,181,188,195,202,209,216,223,230,237,244,251,2,9,16,23,30,37,44,51,58,65,72,79,86,93,100,107,114,121,128,135,142,149,156,163,170,177,184,191,198,205,212,219,226,233,240,247,254,5,12,19,26,33,40,47,54,61,68,75,82,89,96,103,110,117,124,131,138,145,152,159,166]) then oR ((false,()),()) else bif decide ((cj (List.drop (Int.toNat 0) (List.take (↑a0.length:Int).toNat (a0++[13,20,27,34,41,48,55,62,69,76,83,90,97,104,111,118,125,132,139,146,153,160,167,174,181,188,195,202,209,216,223,230,237,244,251,2,9,16,23,30,37,44,51,58,65,72,79,86,93,100,107,114,121,128,135,142,149,156,163,170,177,184,191,198,205,212,219,226,233,240,247,254,5,12,19,26,33,40,47,54,61,68,75,82,89,96,103,110,117,124,131,138,145,152,159,166]))) a1 a2 a3).1.length≤4294967000)&&decide ((cj (List.drop (Int.toNat 0) (List.take (↑a0.length:Int).toNat (a0++[13,20,27,34,41,48,55,62,69,76,83,90,97,104,111,118,125,132,139,146,153,160,167,174,181,188,195,202,209,216,223,230,237,244,251,2,9,16,23,30,37,44,51,58,65,72,79,86,93,100,107,114,121,128,135,142,149,156,163,170,177,184,191,198,205,212,219,226,233,240,247,254,5,12,19,26,33,40,47,54,61,68,75,82,89,96,103,110,117,124,131,138,145,152,159,166]))) a1 a2 a3).1.length≤4294967000) then bif decide ((cj (List.drop (Int.toNat 0) (List.take (↑a0.length:Int).toNat (a0++[13,20,27,34,41,48,55,62,69,76,83,90,97,104,111,118,125,132,139,146,153,160,167,174,181,188,195,202,209,216,223,230,237,244,251,2,9,16,23,30,37,44,51,58,65,72,79,86,93,100,107,114,121,128,135,142,149,156,163,170,177,184,191,198,205,212,219,226,233,240,247,254,5,12,19,26,33,40,47,54,61,68,75,82,89,96,103,110,117,124,131,138,145,152,159,166]))) a1 a2 a3).1=(cj a0 a1 a2 a3).1)&&decide ((cj (List.drop (Int.toNat 0) (List.take (↑a0.length:Int).toNat (a0++[13,20,27,34,41,48,55,62,69,76,83,90,97,104,111,118,125,132,139,146,153,160,167,174,181,188,195,202,209,216,223,230,237,244,251,2,9,16,23,30,37,44,51,58,65,72,79,86,93,100,107,114,121,128,135,142,149,156,163,170,177,184,191,198,205,212,219,226,233,240,247,254,5,12,19,26,33,40,47,54,61,68,75,82,89,96,103,110,117,124,131,138,145,152,159,166]))) a1 a2 a3).1=(cj a0 a1 a2 a3).1) then bif decide (a0.length≤4294967000) then oR ((decide (a0++[13,20,27,34,41,48,55,62,69,76,83,90,97,104,111,118,125,132,139,146,153,160,167,174,181,188,195,202,209,216,223,230,237,244,251,2,9,16,23,30,37,44,51,58,65,72,79,86,93,100,107,114,121,128,135,142,149,156,163,170,177,184,191,198,205,212,219,226,233,240,247,254,5,12,19,26,33,40,47,54,61,68,75,82,89,96,103,110,117,124,131,138,145,152,159,166]=a0++[13,20,27,34,41,48,55,62,69,76,83,90,97,104,111,118,125,132,139,146,153,160,167,174,181,188,195,202,209,216,223,230,237,244,251,2,9,16,23,30,37,44,51,58,65,72,79,86,93,100,107,114,121,128,135,142,149,156,163,170,177,184,191,198,205,212,219,226,233,240,247,254,5,12,19,26,33,40,47,54,61,68,75,82,89,96,103,110,117,124,131,138,145,152,159,166]),()),()) else none else oR ((false,()),()) else none else none else none else none else none else none else none else none
theorem M3 (a0:LI)(a1 a2 a3:Int):Io.run tt OM dr Hw jj Tryz.f3 ((a0,a1,a2,a3,()),())=w8 a0 a1 a2 a3:=by kernel_rfl
theorem Ps:HcOk prog 3 (ai jj yX):=by
 refine bQ (cs:=Gl) (.cons Jh (.cons okWide (.cons Py (.cons (oV HY) (.cons Ml (.cons Pi .nil)))))) (lp:=Hw) (fn:=Tryz.f3) jj (.done (by kernel_rfl)) yX ?_
 rintro ⟨⟨(b:LI),(base:Int),(f:Int),(most:Int),⟨⟩⟩,⟨⟩⟩ out hw ho
 obtain ⟨hg,ho⟩:=Tr.guard ho
 have hg:b.length≤4294950000:=of_decide_eq_true hg
 cases ho
 have hb:bf b:=bytesOf hw.1.1
 have e:∀t:LI,List.drop (Int.toNat 0) (List.take (b.length:Int).toNat (b++t))=b:=by
  intro t
  show List.drop 0 (List.take (b.length:Int).toNat (b++t))=b
  rw[zG,List.drop_zero,List.take_left]
 have sl:∀t:LI,(decide ((0:Int)≤0)&&(decide ((0:Int)≤(b.length:Int))&&decide ((b.length:Int)≤((b++t).length:Int))))=true:=by
  intro t
  simp only[zA,zB,zH];omega
 have g1:decide (b.length≤4294967000)=true:=decide_eq_true (by omega)
 have g2:decide (b.length≤4294950000)=true:=decide_eq_true (by omega)
 have hl:(cj b base f most).1.length≤b.length:=by
  unfold cj
  split
  ·simp
  split
  ·simp
  rw[List.length_drop,List.length_take];omega
 refine (M3 b base f most).trans ?_
 unfold w8
 rw[e]
 refine (aa g1 _ _).trans ?_
 refine (aa g2 _ _).trans ?_
 refine (aa (sl _) _ _).trans ?_
 refine (aa g2 _ _).trans ?_
 refine (aa (sl _) _ _).trans ?_
 refine (aa g2 _ _).trans ?_
 refine (af (bne_self_eq_false _) _ _).trans ?_
 refine (af (bne_self_eq_false _) _ _).trans ?_
 refine (aa g1 _ _).trans ?_
 refine bF (by rw[decide_eq_true rfl];rfl) ?_
 refine bT (by first | (exact decide_eq_true (by omega)) | (simp only[zA,zB];omega)) ?_
 refine bT (by rw[decide_eq_true rfl];rfl) ?_
 refine (aa g1 _ _).trans ?_
 rw[decide_eq_true rfl]
end
end Go.Proofs.YthpcdhgpplmneaaGreatDoor.Sym
namespace Go.Proofs.YthpcdhgpplmneaaGreatDoor.Sym
open Go
open Go.IntKind (i8 i16 i32 i64 u8 u16 u32 u64)
open Go.ChangeShapes Go.WideShapes Go.ChangeAt Go.RowKit
noncomputable section
abbrev CN:List (String×DataW Unit):=[("leat/crc.rows",Rows.laid_leat_crc_rows)]
theorem QB:Tryz.prog.globalNamed "leat/crc.rows"=some 0:=by kernel_rfl
theorem Ss:(Tryz.prog.globals[0]?).map (·.type)=some ((Tryz.prog.globals[0]?).map (·.type)).get!:=by kernel_rfl
theorem Sv:Tryz.prog.underlying ((Tryz.prog.globals[0]?).map (·.type)).get!=some (.array 16 137):=by kernel_rfl
theorem SR:Tryz.prog.underlying 137=some (.int .u32):=by kernel_rfl
theorem Si:(Rows.laid_leat_crc_rows:DataW Unit)=.agg (rI.map fun n=>.lit (.int .u32 n)):=by kernel_rfl
set_option maxRecDepth 100000 in
theorem DW {W:World}(h:laidMetH Tryz.prog CN W):lE (S0 W) W:=by
 rw[MakeChecks.laidMetH_plain _ _ _ (by kernel_rfl)] at h
 obtain ⟨ps,⟨g0,t0,cs0,f0,p0,q0,hg0,ht0,hv0,hd0,_,_⟩,_,_⟩:=h
 obtain rfl:=Option.some.inj (QB.symm.trans hg0)
 obtain rfl:=Option.some.inj (Ss.symm.trans ht0)
 obtain ⟨xs,m,rfl,hx,hlen,hn,hel⟩:=DataW.trod_array Sv hd0
 have c1:Tryz.prog.cellsOf 137=1:=by kernel_rfl
 intro g i hg hi
 have hg:g=0:=Nat.eq_of_beq_eq_true hg
 subst hg
 have hi:i<16:=hi
 have key:W.cell? ⟨0,i,none⟩=some (.int .u32 (fc (i:Int))):=by
  have h1:=hel i hi
  have h2:xs[i]?=some xs[i]:=List.getElem?_eq_getElem (by omega)
  rw[h2,c1] at h1
  obtain ⟨k,e1,e2,_⟩:=DataW.trod_int SR h1
  have h3:=World.var?_cell QB hv0 i
  rw[h3]
  have h4:cs0.toList[i]?=some (.int .u32 k):=by
   have:((cs0.toList.drop (i*1)).take 1)[0]?=some (.int .u32 k):=by rw[e1];rfl
   rw[List.getElem?_take] at this
   simpa using this
  have h5:cs0[i]?=some (.int .u32 k):=by simpa using h4
  rw[h5]
  have hk:(rI.map fun n=>(DataW.lit (.int .u32 n):DataW Unit))[i]?=some (.lit (.int .u32 k)):=by
   have hx1:(.agg (rI.map fun n=>.lit (.int .u32 n)):DataW Unit)=.agg (xs.map (·.1)):=Si.symm.trans (congrArg Prod.fst hx)
   have hx1:=DataW.agg.inj hx1
   rw[hx1,List.getElem?_map,h2]
   simp[e2]
  rw[List.getElem?_map] at hk
  have hs:fc (i:Int)=rI.getD i 0:=rfl
  rw[hs,List.getD_eq_getElem?_getD]
  cases ht:rI[i]? with
  |none=>rw[ht] at hk;cases hk
  |some x=>
   rw[ht] at hk
   simp only[Option.map_some,zC,DataW.lit.injEq,Lit.int.injEq] at hk
   rw[hk.2]
   rfl
 exact ⟨⟨_,key⟩,key⟩
theorem Lf (os:Os)(args:Array Value):laidMetH Tryz.prog CN ((World.doorLaid Tryz.prog 400 os).forCall (fun _ _=>0) ⟨#[],args,[]⟩).memory:=
 laidMetH_of_parts3 (fuel:=8) (laidMet_of_run' 8 (by kernel_rfl) (by kernel_rfl)) (by kernel_rfl) (by kernel_rfl)
section
variable {H:Type} {enc:TypeId×Value→H}
theorem od {a:Assume}{C:Checked}{os:Os}{f:FuncId}{fn:Func}{s:OpenSpec}{k:(H:Type)→List (DataW H)→Bool}(hk:s.cond=some k){F:Stop.Interp}{conds:List PathCond}{apart fresh handsOn again:Bool}{laid:List (String×DataW Unit)}
  (own:ownKnob C.prog.godebug=none) (started:os.Started) (noInit:C.prog.inits.idxOf? f=none) (hfn:C.prog.funcs[f]?=some fn)
  (witness:∃(w:World) (tape:Tape) (i:Input),w.os=os∧(w.forCall tape i).Shaped C.prog∧i.vars=[]∧Input.okWide C.prog (w.forCall tape i) .any w.heap.size f i∧
   ((s.pre enc C.prog fn conds apart (w.forCall tape i).memory i.args∧laidMetH C.prog laid (w.forCall tape i).memory)∧sizedMet enc C.prog fn s apart (w.forCall tape i).memory i.args)∧a.holds C.prog (lone (Frame.enter C.prog f i.args .normal) [] (w.forCall tape i)))
  (contract:∀(W:World) (base:Nat) (args:Array Value) (ds gs:List (DataW H)) (before:List MemPlace),
   (∀(j:Nat) t v,fn.params[j]?=some t→args[j]?=some v→Value.okWide C.prog W .any base t v)→
   DataW.Whole enc C.prog fn.params.toList s.vars apart W args.toList ds gs before→k H (ds++gs)=true→laidMetH C.prog laid W→
   Calls C.prog f args W fun e W'=>∃v,e=.returned v∧(s.at F).post enc C.prog fn apart fresh handsOn again W args v W'):
  ReturnsInHanded a C os f .any (fun w args=>(s.pre enc C.prog fn conds apart w args∧laidMetH C.prog laid w)∧sizedMet enc C.prog fn s apart w args) ((s.at F).post enc C.prog fn apart fresh handsOn again):=by
 refine returnsInHanded_of_calls own started noInit witness ?_
 intro w tape i _ _ _ hok hpre hholds
 obtain ⟨_,_,_,fn',hfn',_,_,_,_,hval⟩:=hok
 have e:fn'=fn:=Option.some.inj (hfn'.symm.trans hfn)
 subst e
 obtain ⟨ds,gs,before,hw,hc,hkk⟩:=(OpenSpec.pre_some hk conds apart _ _).1 hpre.1.1
 have hw':=DataW.Whole.of_heap (w':=w.forCall tape i) (by rfl) hw
 refine (contract (w.forCall tape i) w.heap.size i.args ds gs before hval hw' hkk (hpre.1.2.of_heap (by rfl))).mono fun e W' ⟨v,he,hp⟩=>?_
 subst he
 exact ChangeSpec.post_blind hp
theorem Bu {C:Checked}{os:Os}{f:FuncId}{fn:Func}{s:OpenSpec}{k:(H:Type)→List (DataW H)→Bool}(hk:s.cond=some k){apart:Bool}{laid:List (String×DataW Unit)}(w0:World)(args:Array Value)(fuel:Nat)(hos:w0.os=os)
  (hsh:(w0.forCall (fun _ _=>0) ⟨#[],args,[]⟩).Shaped C.prog)
  (hok:Input.okWideB C.prog (w0.forCall (fun _ _=>0) ⟨#[],args,[]⟩) f ⟨#[],args,[]⟩=true)
  {x:List (DataW H)×List (DataW H)×List MemPlace} (hx:DataW.whole enc C.prog (w0.forCall (fun _ _=>0) ⟨#[],args,[]⟩).memory fn.params.toList s.vars apart args.toList fuel=some x)
  (hkk:k H (x.1++x.2.1)=true)
  (hsz:s.bare.sizedB enc C.prog fn apart (w0.forCall (fun _ _=>0) ⟨#[],args,[]⟩).memory args fuel=true)
  (hl:laidMetH C.prog laid (w0.forCall (fun _ _=>0) ⟨#[],args,[]⟩).memory):
  ∃(w:World) (tape:Tape) (i:Input),w.os=os∧(w.forCall tape i).Shaped C.prog∧i.vars=[]∧Input.okWide C.prog (w.forCall tape i) .any w.heap.size f i∧
   ((s.pre enc C.prog fn [] apart (w.forCall tape i).memory i.args∧laidMetH C.prog laid (w.forCall tape i).memory)∧sizedMet enc C.prog fn s apart (w.forCall tape i).memory i.args)∧({}:Assume).holds C.prog (lone (Frame.enter C.prog f i.args .normal) [] (w.forCall tape i)):=
 ⟨w0,fun _ _=>0,⟨#[],args,[]⟩,hos,hsh,(Input.okWide_of_okWideB (base:=0) hok).1,(Input.okWide_of_okWideB hok).2,
  ⟨⟨(OpenSpec.pre_some hk [] apart _ _).2 ⟨x.1,x.2.1,x.2.2,DataW.Whole_of_whole hx,rfl,hkk⟩,hl⟩,sizedMet_of_sizedB hsz⟩,by
  simp only[Assume.holds]
  exact ⟨by simp,by simp,fun _=>Modest.zero,by simp,by simp⟩⟩
end
end
end Go.Proofs.YthpcdhgpplmneaaGreatDoor.Sym
