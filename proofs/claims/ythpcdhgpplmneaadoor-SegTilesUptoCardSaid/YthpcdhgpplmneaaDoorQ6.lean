/- What is packed is unpacked; how long it is. -/
import Derived.Test.YthpcdhgpplmneaaDoorTie
import Derived.Test.YthpcdhgpplmneaaDoorCards
import Derived.ProofKit
import Derived.LaidMore
import Derived.OpenShut
import Derived.Stop.Joined
import Derived.Test.YthpcdhgpplmneaaDoorQ5

set_option linter.unusedVariables false
set_option linter.unusedSimpArgs false
namespace Go.Proofs.YthpcdhgpplmneaaDoor.Sym
open Go
noncomputable section
theorem lu (xs ys:List fJ):(av (xs++ys)).length=(av xs).length+(av ys).length:=by simp[av]
theorem jR:∀(k:Nat) (l:LI),(av (aP k l)).length≤l.length+(l.length+127) / 128
 |0,l=>by simp[aP,av]
 |_+1,[]=>by simp[aP,av]
 |k+1,c::l=>by
  have ih:=jR k ((c::l).drop 128)
  have e:av (aP (k+1) (c::l))=db ((c::l).take 128,0,0,())++av (aP k ((c::l).drop 128)):=rfl
  have e2:db ((c::l).take 128,0,0,())=((((c::l).take 128).length:Int) - 1)::(c::l).take 128:=rfl
  rw[e,e2,zH,zN]
  rw[List.length_drop] at ih
  rw[List.length_take]
  have hpos:1≤(c::l).length:=by simp
  omega
theorem jS (b:LI)(depth:Int):∀(k lo i:Nat) (ts:List fJ),lo≤i→i≤b.length→(av ts).length≤lo+lo / 128→(av (dQ b depth k lo i ts)).length≤b.length+b.length / 128+1
 |0,lo,i,ts,h1,h2,h3=>by
  unfold dQ
  rw[lu]
  have:=jR (i - lo) ((b.take i).drop lo)
  rw[List.length_drop,List.length_take,Nat.min_eq_left h2] at this
  unfold bD
  omega
 |k+1,lo,i,ts,h1,h2,h3=>by
  unfold dQ
  have hc:=jR (i - lo) ((b.take i).drop lo)
  rw[List.length_drop,List.length_take,Nat.min_eq_left h2] at hc
  split
  ·rename_i hi
   split
   ·exact jS b depth k _ _ _ (by omega) (by omega) h3
   ·rename_i hn
    rcases f4 hi depth with h4 | ⟨g1,g2,g3,g4,g5,g6,g7⟩
    ·exact absurd h4.1 hn
    refine jS b depth k _ _ _ (Nat.le_refl _) (by omega) ?_
    rw[lu,lu]
    have e:(av [(([]:LI),(aw b i depth).1,(aw b i depth).2,())]).length=3:=by
     have:av [(([]:LI),(aw b i depth).1,(aw b i depth).2,())]=db ([],(aw b i depth).1,(aw b i depth).2,())++[]:=rfl
     rw[this]
     unfold db
     rw[if_neg (show ¬(aw b i depth).2=0 from hn)]
     rfl
    rw[e]
    unfold bD
    omega
  ·rw[lu]
   unfold bD
   omega
theorem Dc (b:LI):∀t∈dE b,pb t:=o7 b 8 _ 0 0 [] fun t h=>by cases h
theorem wq {b:LI}(h:b.length≤32768):(fk b).2=0∧(fk b).1.length≤33040∧ci (fk b).1=(b,0):=by
 have e:fk b=(ar (ap b.length)++av (dE b),0):=by unfold fk;rw[if_neg (by omega)]
 rw[e]
 refine ⟨rfl,?_,?_⟩
 ·have h1:=lw (ap b.length)
  have h2:(av (dE b)).length≤b.length+b.length / 128+1:=jS b 8 _ 0 0 [] (Nat.le_refl 0) (Nat.zero_le _) (by simp[av])
  simp only[zH]
  omega
 ·have hH:Has (ar (ap (b.length:Int))++av (dE b)) 0 (ar (ap (b.length:Int))):=⟨Int.le_refl 0,by omega,av (dE b),rfl⟩
  have hg:=EB (v:=(b.length:Int)) (by omega) (by omega) hH
  have hz:=JP (v:=(b.length:Int))
  have hx:aE (av (dE b)) (b.length:Int)=(b,0):=by
   rw[fD]
   have hb:aV (b.length:Int)=(b.length:Int):=by
    unfold aV pC cz
    split <;> split <;> omega
   rw[hb]
   have:=uG (b.length:Int) (dE b) ((av (dE b)).length+1) [] (Dc b) (zl b) (by rw[pB];omega) (by omega)
   rw[this,pB]
  simp only
  unfold ci
  rw[hg]
  simp only
  rw[hz,if_neg (by decide),if_neg (by omega),if_neg (by omega),Int.zero_add,zG,List.drop_left,hx,if_neg (by simp),if_neg (by simp)]
end
end Go.Proofs.YthpcdhgpplmneaaDoor.Sym
namespace Go.Proofs.YthpcdhgpplmneaaDoor.Sym
open Go
open Go.IntKind (i8 i16 i32 i64 u8 u16 u32 u64)
noncomputable section
abbrev jw:Io:=⟨[dL,dI,dI],[],[],[dI],none⟩
def zP (d:jw.In):Tr jw.Res:=.ite (decide ((0:Int)≤d.1.2.1)&&(decide (d.1.2.1≤d.1.2.2.1)&&decide (d.1.2.2.1≤(d.1.1.length:Int)))) (.ret (.ret (((bL (d.1.1.drop d.1.2.1.toNat) (d.1.1.drop d.1.2.2.1.toNat) 131:Int),()),()))) .no
abbrev vu:List (Nat×Hc):=[]
def Cd:Hd:=b8 vu
abbrev dm:Lo:=⟨⟨(.one (.hol (.sl 5 (Ty.int u8)))::.one hI::.one hI::b9 (.one hI::ai (dZ (b9 [])))),[]⟩,[(.exit 0,⟨(.any::b9 (bN (.one hI::ai (dZ (b9 []))))),[]⟩)]⟩
def kh (d:dm.st.den):Tr (am dm.xs):=
 .ite (decide (d.1.2.2.2.1=0)&&(decide ((0:Int)≤d.1.2.1)&&(decide (d.1.2.1≤d.1.2.2.1)&&decide (d.1.2.2.1≤(d.1.1.length:Int))))) (.ret (.ret ((),(((bL (d.1.1.drop d.1.2.1.toNat) (d.1.1.drop d.1.2.2.1.toNat) 131:Int),()),())))) .no
def qm:Lp:=cp [(3,aC dm kh)]
def pN {R:Type}(h3:LI)(h4 h5 h6:Int)(next:LI→Int→Int→Int→Option R)(out:am dm.xs→Option R):Option R:=bif decide (h6<131) then bif decide (h6<i64.wrap ((↑h3.length:Int) - h5)) then bif decide (0≤i64.wrap (h4+h6))&&decide (i64.wrap (h4+h6)<(↑h3.length:Int)) then bif decide (0≤i64.wrap (h5+h6))&&decide (i64.wrap (h5+h6)<(↑h3.length:Int)) then bif h3.getD (i64.wrap (h4+h6)).toNat 0 == h3.getD (i64.wrap (h5+h6)).toNat 0 then next (h3) (h4) (h5) (i64.wrap (h6+1)) else out (.ret ((),((h6,()),()))) else none else none else out (.ret ((),((h6,()),()))) else out (.ret ((),((h6,()),())))
def oP (n:Nat)(h3:LI)(h4 h5 h6:Int):Option (am dm.xs):=gO tt Cd dr qm 0 Tryd.f124 (ct Tryd.f124 0) n (dm.st.mk' ((h3,(h4,(h5,(h6,())))),())) (bE dm.xs)
theorem Ev (n:Nat)(h3:LI)(h4 h5 h6:Int):oP (n+1) h3 h4 h5 h6=pN h3 h4 h5 h6 (oP n) some:=by kernel_rfl
theorem ym (b:LI)(p i:Nat)(hp:p≤i)(hi:i≤b.length)(hl:b.length≤maxLen):∀(k n:Nat),131<n+k→n≤131→i+n≤b.length→
  oP k b p i n=some (.ret ((),((((n+bL (b.drop (p+n)) (b.drop (i+n)) (131 - n):Nat):Int),()),()))):=by
 rw[bq] at hl
 intro k
 induction k with
 |zero=>intro n h h' _;omega
 |succ k ih=>
  intro n h1 h2 h3
  rw[Ev]
  unfold pN
  rw[af (n:=(b.length:Int) - (i:Int)) (by omega) (by omega),af (n:=(p:Int)+(n:Int)) (by omega) (by omega),af (n:=(i:Int)+(n:Int)) (by omega) (by omega),af (n:=(n:Int)+1) (by omega) (by omega)]
  rw[show ((p:Int)+(n:Int)).toNat=p+n by omega,show ((i:Int)+(n:Int)).toNat=i+n by omega]
  by_cases c1:n<131
  rotate_left
  ·refine bF (decide_eq_false (by omega)) ?_
   rw[show 131 - n=0 by omega]
   have:bL (b.drop (p+n)) (b.drop (i+n)) 0=0:=by cases b.drop (p+n) <;> cases b.drop (i+n) <;> rfl
   rw[this];rfl
  refine bT (decide_eq_true (by omega)) ?_
  by_cases c2:i+n<b.length
  rotate_left
  ·refine bF (decide_eq_false (by omega)) ?_
   rw[zI (show b.length≤i+n by omega)]
   have:bL (b.drop (p+n)) [] (131 - n)=0:=by cases b.drop (p+n) <;> rfl
   rw[this];rfl
  refine bT (decide_eq_true (by omega)) ?_
  refine bT (by simp only[zA,zB];omega) ?_
  refine bT (by simp only[zA,zB];omega) ?_
  rw[aA (show p+n<b.length by omega),aA c2,zE (show p+n<b.length by omega),zE c2,show 131 - n=(131 - (n+1))+1 by omega]
  have e:bL (b[p+n]::b.drop (p+n+1)) (b[i+n]::b.drop (i+n+1)) ((131 - (n+1))+1)=if b[p+n]=b[i+n] then bL (b.drop (p+n+1)) (b.drop (i+n+1)) (131 - (n+1))+1 else 0:=rfl
  rw[e]
  by_cases c3:b[p+n]=b[i+n]
  ·refine bT (by simpa using c3) ?_
   rw[if_pos c3]
   have:=ih (n+1) (by omega) (by omega) (by omega)
   rw[show p+(n+1)=p+n+1 by omega,show i+(n+1)=i+n+1 by omega] at this
   refine this.trans ?_
   rw[show n+1+bL (b.drop (p+n+1)) (b.drop (i+n+1)) (131 - (n+1))=n+(bL (b.drop (p+n+1)) (b.drop (i+n+1)) (131 - (n+1))+1) by omega]
  ·refine bF (by simpa using c3) ?_
   rw[if_neg c3];rfl
def tH (a0:LI)(a1 a2:Int):Option jw.Res:=(kh ((a0,(a1,(a2,(0,())))),())).run fun y=>match y with | .ret ((),((x14,()),()))=>(oR ((x14,()),()))
theorem He (a0:LI)(a1 a2:Int):Io.run tt Cd dr qm jw Tryd.f124 ((a0,a1,a2,()),())=tH a0 a1 a2:=by kernel_rfl
theorem I6:HcOk prog 124 (ah jw zP):=by
 refine cx (cs:=vu) HcsOk.nil (lp:=qm) (fn:=Tryd.f124) jw (.step (h0:=aC dm kh) (by kernel_rfl) (iB (cs:=vu) HcsOk.nil (lp:=qm) (fn:=Tryd.f124) (.done (by kernel_rfl)) dm kh ?_) (.done (by kernel_rfl))) zP ?_
 ·rintro ⟨⟨(b:LI),(p:Int),(i:Int),(n:Int),⟨⟩⟩,⟨⟩⟩ y hw hy
  obtain ⟨hg,hy⟩:=Tr.guard hy
  simp only[zA,zB] at hg
  obtain ⟨h1,h2,h3,h4⟩:=hg
  have h1:n=0:=h1
  have h2:0≤p:=h2
  have h3:p≤i:=h3
  have h4:i≤(b.length:Int):=h4
  subst h1
  obtain ⟨p,rfl⟩:=au h2
  obtain ⟨i,rfl⟩:=au (show 0≤i by omega)
  refine ⟨132,(ym b p i (by omega) (by omega) hw.1.1.1 132 0 (by omega) (by omega) (by omega)).trans ?_⟩
  rw[← hy,Nat.zero_add,Nat.add_zero,Nat.add_zero];rfl
 ·rintro ⟨⟨(b:LI),(p:Int),(i:Int),⟨⟩⟩,⟨⟩⟩ out hw ho
  obtain ⟨hg,ho⟩:=Tr.guard ho
  cases ho
  refine (He b p i).trans ?_
  unfold tH kh
  exact aa (by simpa using hg) _ _
abbrev gt:Io:=⟨[dL,dI,dI],[],[],[dI,dI],none⟩
def uY (d:gt.In):Tr gt.Res:=.ite (decide ((0:Int)≤d.1.2.1)&&decide (d.1.2.1≤(d.1.1.length:Int))) (.ret (.ret (((aw d.1.1 d.1.2.1.toNat d.1.2.2.1).1,(aw d.1.1 d.1.2.1.toNat d.1.2.2.1).2,()),()))) .no
abbrev xA:List (Nat×Hc):=[(124,ah jw zP)]
def xV:Hd:=b8 xA
abbrev cH:Lo:=⟨⟨(.one (.hol (.sl 5 (Ty.int u8)))::.one hI::.one hI::.any::b9 (.one hI::.one hI::.one hI::.one hI::.any::ai (ai (b9 (bN []))))),[]⟩,[(.exit 0,⟨(dZ (.one hI::.one hI::.any::ai (ai (dZ [])))),[]⟩)]⟩
def iL (d:cH.st.den):Tr (am cH.xs):=
 .ite (decide (d.1.2.2.2.1=0)&&(decide (d.1.2.2.2.2.1=0)&&(decide (d.1.2.2.2.2.2.1=0)&&(decide (d.1.2.2.2.2.2.2.1=d.1.2.1 - 1)&&(decide ((0:Int)≤d.1.2.1)&&decide (d.1.2.1≤(d.1.1.length:Int)))))))
  (.ret (.ret ((),(((aw d.1.1 d.1.2.1.toNat d.1.2.2.1).1,((aw d.1.1 d.1.2.1.toNat d.1.2.2.1).2,())),())))) .no
def np:Lp:=cp [(4,aC cH iL)]
def nV {R:Type}(h3:LI)(h4 h5 h6 h7 h8 h9:Int)(next:LI→Int→Int→Int→Int→Int→Int→Option R)(out:am cH.xs→Option R):Option R:=bif decide (0≤h9) then bif decide (i64.wrap (h4 - h9)≤4096) then bif decide (h8<h5) then bif decide (0≤h9)&&(decide (h9≤h4)&&decide (h4≤(↑h3.length:Int))) then bif decide (4≤(↑(bL (List.drop h9.toNat h3) (List.drop h4.toNat h3) 131):Int)) then bif decide (4≤(↑(bL (List.drop h9.toNat h3) (List.drop h4.toNat h3) 131):Int)) then bif decide (h7<(↑(bL (List.drop h9.toNat h3) (List.drop h4.toNat h3) 131):Int)) then next (h3) (h4) (h5) (i64.wrap (h4 - h9)) ((↑(bL (List.drop h9.toNat h3) (List.drop h4.toNat h3) 131):Int)) (i64.wrap (h8+1)) (i64.wrap (h9 - 1)) else next (h3) (h4) (h5) (h6) (h7) (i64.wrap (h8+1)) (i64.wrap (h9 - 1)) else next (h3) (h4) (h5) (h6) (h7) (i64.wrap (h8+1)) (i64.wrap (h9 - 1)) else bif decide (4≤(↑(bL (List.drop h9.toNat h3) (List.drop h4.toNat h3) 131):Int)) then bif decide (h7<(↑(bL (List.drop h9.toNat h3) (List.drop h4.toNat h3) 131):Int)) then next (h3) (h4) (h5) (i64.wrap (h4 - h9)) ((↑(bL (List.drop h9.toNat h3) (List.drop h4.toNat h3) 131):Int)) (h8) (i64.wrap (h9 - 1)) else next (h3) (h4) (h5) (h6) (h7) (h8) (i64.wrap (h9 - 1)) else next (h3) (h4) (h5) (h6) (h7) (h8) (i64.wrap (h9 - 1)) else none else out (.ret ((),((h6,(h7,())),()))) else out (.ret ((),((h6,(h7,())),()))) else out (.ret ((),((h6,(h7,())),())))
def mr (n:Nat)(h3:LI)(h4 h5 h6 h7 h8 h9:Int):Option (am cH.xs):=gO tt xV dr np 0 Tryd.f106 (ct Tryd.f106 0) n (cH.st.mk' ((h3,(h4,(h5,(h6,(h7,(h8,(h9,()))))))),())) (bE cH.xs)
theorem AY (n:Nat)(h3:LI)(h4 h5 h6 h7 h8 h9:Int):mr (n+1) h3 h4 h5 h6 h7 h8 h9=nV h3 h4 h5 h6 h7 h8 h9 (mr n) some:=by kernel_rfl
theorem vO (b:LI)(i:Nat)(depth:Int)(hi:i≤b.length)(hl:b.length≤maxLen):∀(k q:Nat) (d m s:Int),q<k→q≤i→0≤s→s≤(i:Int) - (q:Int)→
  mr k b i depth d m s ((q:Int) - 1)=some (.ret ((),(((eU b i depth q d m s).1,((eU b i depth q d m s).2,())),()))):=by
 rw[bq] at hl
 intro k
 induction k with
 |zero=>intro q d m s h;omega
 |succ k ih=>
  intro q d m s h1 h2 h3 h4
  rw[AY]
  unfold nV
  cases q with
  |zero=>exact ac (decide_eq_false (by omega)) _ _
  |succ q=>
   have hc:=(sw (b.drop q) (b.drop i) 131).1
   rw[show (((q+1:Nat):Int) - 1)=(q:Int) by omega,af (n:=(i:Int) - (q:Int)) (by omega) (by omega),af (n:=s+1) (by omega) (by omega),af (n:=(q:Int) - 1) (by omega) (by omega),zG,zG]
   unfold eU
   refine bT (decide_eq_true (by omega)) ?_
   by_cases c1:(i:Int) - (q:Int)≤4096
   rotate_left
   ·refine bF (decide_eq_false c1) ?_
    rw[if_neg (fun h=>c1 h.1)]
   refine bT (decide_eq_true c1) ?_
   by_cases c2:s<depth
   rotate_left
   ·refine bF (decide_eq_false c2) ?_
    rw[if_neg (fun h=>c2 h.2)]
   refine bT (decide_eq_true c2) ?_
   rw[if_pos ⟨c1,c2⟩]
   refine bT (by simp only[zA,zB];omega) ?_
   generalize bL (b.drop q) (b.drop i) 131=n at *
   by_cases c3:4≤n
   ·refine bT (decide_eq_true (by omega)) ?_
    refine bT (decide_eq_true (by omega)) ?_
    rw[if_pos c3]
    by_cases c4:m<(n:Int)
    ·refine bT (decide_eq_true c4) ?_
     rw[if_pos c4]
     exact ih q _ _ _ (by omega) (by omega) (by omega) (by omega)
    ·refine bF (decide_eq_false c4) ?_
     rw[if_neg c4]
     exact ih q _ _ _ (by omega) (by omega) (by omega) (by omega)
   ·refine bF (decide_eq_false (by omega)) ?_
    refine bF (decide_eq_false (by omega)) ?_
    rw[if_neg c3]
    exact ih q _ _ _ (by omega) (by omega) (by omega) (by omega)
def qY (a0:LI)(a1 a2:Int):Option gt.Res:=(iL ((a0,(a1,(a2,(0,(0,(0,(i64.wrap (a1 - 1),()))))))),())).run fun y=>match y with | .ret ((),((x58,x59,()),()))=>(oR ((x58,x59,()),()))
theorem Ed (a0:LI)(a1 a2:Int):Io.run tt xV dr np gt Tryd.f106 ((a0,a1,a2,()),())=qY a0 a1 a2:=by kernel_rfl
theorem rx:HcsOk prog xA:=.cons I6 .nil
theorem GG:HcOk prog 106 (ah gt uY):=by
 refine cx rx (lp:=np) (fn:=Tryd.f106) gt (.step (h0:=aC cH iL) (by kernel_rfl) (iB rx (lp:=np) (fn:=Tryd.f106) (.done (by kernel_rfl)) cH iL ?_) (.done (by kernel_rfl))) uY ?_
 ·rintro ⟨⟨(b:LI),(i:Int),(depth:Int),(d:Int),(m:Int),(s:Int),(p:Int),⟨⟩⟩,⟨⟩⟩ y hw hy
  obtain ⟨hg,hy⟩:=Tr.guard hy
  simp only[zA,zB] at hg
  obtain ⟨h1,h2,h3,h4,h5,h6⟩:=hg
  have h1:d=0:=h1
  have h2:m=0:=h2
  have h3:s=0:=h3
  have h4:p=i - 1:=h4
  have h5:0≤i:=h5
  have h6:i≤(b.length:Int):=h6
  subst h1 h2 h3 h4
  obtain ⟨i,rfl⟩:=au h5
  refine ⟨i+1,(vO b i depth (by omega) hw.1.1.1 (i+1) i 0 0 0 (by omega) (by omega) (by omega) (by omega)).trans ?_⟩
  rw[← hy];rfl
 ·rintro ⟨⟨(b:LI),(i:Int),(depth:Int),⟨⟩⟩,⟨⟩⟩ out hw ho
  obtain ⟨hg,ho⟩:=Tr.guard ho
  cases ho
  refine (Ed b i depth).trans ?_
  have hl:b.length≤maxLen:=hw.1.1.1
  rw[bq] at hl
  simp only[zA,zB] at hg
  have h5:0≤i:=hg.1
  have h6:i≤(b.length:Int):=hg.2
  unfold qY iL
  rw[af (n:=i - 1) (by omega) (by omega)]
  exact aa (by simp only[zA,zB];exact ⟨trivial,trivial,trivial,trivial,h5,h6⟩) _ _
abbrev gu:Io:=⟨[Fy,dL,dI,dI],[],[],[Fy],none⟩
def uZ (d:gu.In):Tr gu.Res:=.ite (decide ((0:Int)≤d.1.2.2.1)&&(decide (d.1.2.2.1≤d.1.2.2.2.1)&&(decide (d.1.2.2.2.1≤(d.1.2.1.length:Int))&&decide (d.1.1.length+d.1.2.1.length≤4294960000)))) (.ret (.ret ((d.1.1++bD d.1.2.1 d.1.2.2.1.toNat d.1.2.2.2.1.toNat,()),()))) .no
abbrev nc:List (Nat×Hc):=[]
def rE:Hd:=b8 nc
abbrev cJ:Lo:=⟨⟨(.one (.onl 173 dc 1)::.one (.hol (.sl 5 (Ty.int u8)))::.one hI::.one hI::.any::b9 (.one (.onl 5 (Ty.int u8) 19)::.any::ai (dZ (bN [])))),[]⟩,[(.exit 2,⟨(.one (.onl 173 dc 1)::.one (.hol (.sl 5 (Ty.int u8)))::.one hI::.one hI::.any::b9 (.one (.onl 5 (Ty.int u8) 19)::.any::ai (dZ (bN [])))),[]⟩)]⟩
abbrev cI:Lo:=⟨⟨(.one (.onl 173 dc 1)::.one (.hol (.sl 5 (Ty.int u8)))::.one hI::.one hI::.any::ai (ai ([]))),[]⟩,[(.exit 0,⟨(.one (.onl 173 dc 1)::ai (ai (b9 []))),[]⟩)]⟩
def iN (d:cJ.st.den):Tr (am cJ.xs):=
 .ite (decide (d.1.2.2.2.2.1.length=0)&&(decide ((0:Int)≤d.1.2.2.1)&&(decide (d.1.2.2.1≤d.1.2.2.2.1)&&decide (d.1.2.2.2.1≤(d.1.2.1.length:Int)))))
  (.ret (.ret ((),((d.1.1,(d.1.2.1,(d.1.2.2.1+((((d.1.2.1.take d.1.2.2.2.1.toNat).drop d.1.2.2.1.toNat).take 128).length:Int),(d.1.2.2.2.1,(((d.1.2.1.take d.1.2.2.2.1.toNat).drop d.1.2.2.1.toNat).take 128,()))))),())))) .no
def iM (d:cI.st.den):Tr (am cI.xs):=
 .ite (decide ((0:Int)≤d.1.2.2.1)&&(decide (d.1.2.2.1≤d.1.2.2.2.1)&&(decide (d.1.2.2.2.1≤(d.1.2.1.length:Int))&&decide (d.1.1.length+d.1.2.1.length≤4294960000)))) (.ret (.ret ((),((d.1.1++bD d.1.2.1 d.1.2.2.1.toNat d.1.2.2.2.1.toNat,()),())))) .no
def iW:Lp:=cp [(2,aC cI iM),(4,aC cJ iN)]
def nX {R:Type}(h8:List dc.den)(h9:LI)(h10 h11:Int)(h12:LI)(next:List dc.den→LI→Int→Int→LI→Option R)(out:am cJ.xs→Option R):Option R:=bif decide ((↑h12.length:Int)<128) then bif decide (h10<h11) then bif decide (0≤h10)&&decide (h10<(↑h9.length:Int)) then bif decide (h12.length+1≤4294967296) then next (h8) (h9) (i64.wrap (h10+1)) (h11) (h12++[h9.getD h10.toNat 0]) else none else none else out (.ret ((),((h8,(h9,(h10,(h11,(h12,()))))),()))) else out (.ret ((),((h8,(h9,(h10,(h11,(h12,()))))),())))
def mt (n:Nat)(h8:List dc.den)(h9:LI)(h10 h11:Int)(h12:LI):Option (am cJ.xs):=gO tt rE dr iW 0 Tryd.f107 (EL Tryd.f107 (ct Tryd.f107 0) 0) n (cJ.st.mk' ((h8,(h9,(h10,(h11,(h12,()))))),())) (bE cJ.xs)
theorem A4 (n:Nat)(h8:List dc.den)(h9:LI)(h10 h11:Int)(h12:LI):mt (n+1) h8 h9 h10 h11 h12=nX h8 h9 h10 h11 h12 (mt n) some:=by kernel_rfl
def nW {R:Type}(h4:List dc.den)(h5:LI)(h6 h7:Int)(next:List dc.den→LI→Int→Int→Option R)(out:am cI.xs→Option R):Option R:=bif decide (h6<h7) then (iN ((h4,(h5,(h6,(h7,([],()))))),())).run fun y=>match y with | .ret ((),((x28,x29,x30,x31,x32,()),()))=>(bif decide (x28.length+1≤4294967296) then next (x28++[(x32,0,0,())]) (x29) (x30) (x31) else none) else out (.ret ((),((h4,()),())))
def jK (n:Nat)(h4:List dc.den)(h5:LI)(h6 h7:Int):Option (am cI.xs):=gO tt rE dr iW 0 Tryd.f107 (ct Tryd.f107 0) n (cI.st.mk' ((h4,(h5,(h6,(h7,())))),())) (bE cI.xs)
theorem AZ (n:Nat)(h4:List dc.den)(h5:LI)(h6 h7:Int):jK (n+1) h4 h5 h6 h7=nW h4 h5 h6 h7 (jK n) some:=by kernel_rfl
theorem vQ (ts:List fJ)(b:LI)(hi:Nat)(h:hi≤b.length)(hl:b.length≤maxLen):∀(k lo:Nat) (lit:LI),128<lit.length+k→lo≤hi→lit.length≤128→
  mt k ts b lo hi lit=some (.ret ((),((ts,(b,(((lo+(((b.take hi).drop lo).take (128 - lit.length)).length:Nat):Int),((hi:Int),(lit++((b.take hi).drop lo).take (128 - lit.length),()))))),()))):=by
 rw[bq] at hl
 intro k
 induction k with
 |zero=>intro lo lit h1 h2 h3;omega
 |succ k ih=>
  intro lo lit h1 h2 h3
  rw[A4]
  unfold nX
  by_cases c1:lit.length<128
  rotate_left
  ·refine bF (decide_eq_false (by omega)) ?_
   rw[show 128 - lit.length=0 by omega,List.take_zero,List.append_nil];rfl
  refine bT (decide_eq_true (by omega)) ?_
  by_cases c2:lo<hi
  rotate_left
  ·refine bF (decide_eq_false (by omega)) ?_
   rw[zI (show (b.take hi).length≤lo by rw[List.length_take];omega),List.take_nil,List.append_nil];rfl
  refine bT (decide_eq_true (by omega)) ?_
  refine bT (by simp only[zA,zB];omega) ?_
  refine bT (decide_eq_true (by omega)) ?_
  rw[af (n:=(lo:Int)+1) (by omega) (by omega),zG,aA (show lo<b.length by omega)]
  have:=ih (lo+1) (lit++[b[lo]]) (by simp;omega) (by omega) (by simp;omega)
  refine this.trans ?_
  have hlen:(lit++[b[lo]]).length=lit.length+1:=by simp
  have hd:(b.take hi).drop lo=b[lo]::(b.take hi).drop (lo+1):=by
   rw[zE (show lo<(b.take hi).length by rw[List.length_take];omega),List.getElem_take]
  rw[hlen,hd,show 128 - lit.length=(128 - (lit.length+1))+1 by omega,List.take_succ_cons,zN,zK,zM,
   show lo+1+(((b.take hi).drop (lo+1)).take (128 - (lit.length+1))).length=lo+((((b.take hi).drop (lo+1)).take (128 - (lit.length+1))).length+1) by omega]
theorem vP (b:LI)(hi:Nat)(h:hi≤b.length)(hl:b.length≤maxLen):∀(k lo:Nat) (ts:List fJ),hi<lo+k→lo≤hi→ts.length+(hi - lo)≤4294960000→
  jK k ts b lo hi=some (.ret ((),((ts++bD b lo hi,()),()))):=by
 intro k
 induction k with
 |zero=>intro lo ts h1 h2 h3;omega
 |succ k ih=>
  intro lo ts h1 h2 h3
  rw[AZ]
  unfold nW
  by_cases c2:lo<hi
  rotate_left
  ·refine bF (decide_eq_false (by omega)) ?_
   have:bD b lo hi=[]:=by
    unfold bD
    rw[show hi - lo=0 by omega];rfl
   rw[this,List.append_nil]
  refine bT (decide_eq_true (by omega)) ?_
  unfold iN
  refine bT (by simp only[zA,zB];exact ⟨rfl,show (0:Int)≤(lo:Int) by omega,show (lo:Int)≤(hi:Int) by omega,show (hi:Int)≤(b.length:Int) by omega⟩) ?_
  refine bT (decide_eq_true (show ts.length+1≤4294967296 by omega)) ?_
  show jK k (ts++[(((b.take (hi:Int).toNat).drop (lo:Int).toNat).take 128,0,0,())]) b ((lo:Int)+((((b.take (hi:Int).toNat).drop (lo:Int).toNat).take 128).length:Int)) (hi:Int)=_
  rw[zG,zG,y6 c2 h]
  have hP:(((b.take hi).drop lo).take 128).length=min 128 (hi - lo):=by rw[List.length_take,List.length_drop,List.length_take,Nat.min_eq_left h]
  generalize ((b.take hi).drop lo).take 128=P at *
  have:=ih (lo+P.length) (ts++[(P,0,0,())]) (by omega) (by omega) (by simp;omega)
  rw[show ((lo+P.length:Nat):Int)=(lo:Int)+(P.length:Int) by omega] at this
  refine this.trans ?_
  rw[zK];rfl
def qZ (a0:List dc.den)(a1:LI)(a2 a3:Int):Option gu.Res:=(iM ((a0,(a1,(a2,(a3,())))),())).run fun y=>match y with | .ret ((),((x38,()),()))=>(oR ((x38,()),()))
theorem Ee (a0:List dc.den)(a1:LI)(a2 a3:Int):Io.run tt rE dr iW gu Tryd.f107 ((a0,a1,a2,a3,()),())=qZ a0 a1 a2 a3:=by kernel_rfl
theorem GH:HcOk prog 107 (ah gu uZ):=by
 refine cx (cs:=nc) HcsOk.nil (lp:=iW) (fn:=Tryd.f107) gu (.step (h0:=aC cI iM) (by kernel_rfl) (iB (cs:=nc) HcsOk.nil (lp:=iW) (fn:=Tryd.f107) (.step (h0:=aC cJ iN) (by kernel_rfl) (iB (cs:=nc) HcsOk.nil (lp:=iW) (fn:=Tryd.f107) (.done (by kernel_rfl)) cJ iN ?_) (.done (by kernel_rfl))) cI iM ?_) (.done (by kernel_rfl))) uZ ?_
 ·rintro ⟨⟨(ts:List fJ),(b:LI),(lo:Int),(hi:Int),(lit:LI),⟨⟩⟩,⟨⟩⟩ y hw hy
  obtain ⟨hg,hy⟩:=Tr.guard hy
  simp only[zA,zB] at hg
  obtain ⟨h1,h2,h3,h4⟩:=hg
  have h1:lit=[]:=List.length_eq_zero_iff.1 h1
  have h2:0≤lo:=h2
  have h3:lo≤hi:=h3
  have h4:hi≤(b.length:Int):=h4
  subst h1
  obtain ⟨lo,rfl⟩:=au h2
  obtain ⟨hi,rfl⟩:=au (show 0≤hi by omega)
  refine ⟨129,(vQ ts b hi (by omega) hw.1.2.1.1 129 lo [] (by simp) (by omega) (by simp)).trans ?_⟩
  rw[← hy];rfl
 ·rintro ⟨⟨(ts:List fJ),(b:LI),(lo:Int),(hi:Int),⟨⟩⟩,⟨⟩⟩ y hw hy
  obtain ⟨hg,hy⟩:=Tr.guard hy
  simp only[zA,zB] at hg
  obtain ⟨h2,h3,h4,h5⟩:=hg
  have h2:0≤lo:=h2
  have h3:lo≤hi:=h3
  have h4:hi≤(b.length:Int):=h4
  have h5:ts.length+b.length≤4294960000:=h5
  obtain ⟨lo,rfl⟩:=au h2
  obtain ⟨hi,rfl⟩:=au (show 0≤hi by omega)
  refine ⟨hi+1,(vP b hi (by omega) hw.1.2.1.1 (hi+1) lo ts (by omega) (by omega) (by omega)).trans ?_⟩
  rw[← hy];rfl
 ·rintro ⟨⟨(ts:List fJ),(b:LI),(lo:Int),(hi:Int),⟨⟩⟩,⟨⟩⟩ out hw ho
  obtain ⟨hg,ho⟩:=Tr.guard ho
  cases ho
  refine (Ee ts b lo hi).trans ?_
  unfold qZ iM
  exact aa hg _ _
abbrev gx:Io:=⟨[dL,dI],[],[],[JY,dI],none⟩
def va (d:gx.In):Tr gx.Res:=.ite (decide (d.1.2.1=(8:Int))) (.ret (.ret (((eG d.1.1).1,(eG d.1.1).2,()),()))) .no
abbrev xC:List (Nat×Hc):=[(106,ah gt uY),(107,ah gu uZ)]
def xX:Hd:=b8 xC
abbrev cL:Lo:=⟨⟨(.one (.hol (.sl 5 (Ty.int u8)))::.one hI::b9 (.one (.onl 173 dc 13)::.one hI::.one hI::.any::ai (ai (dZ (bN []))))),[]⟩,[(.exit 0,⟨(.one (.hol (.sl 5 (Ty.int u8)))::.any::b9 (.one (.onl 173 dc 13)::.one hI::.one hI::.any::ai (ai (dZ (bN []))))),[]⟩)]⟩
def fX (d:cL.st.den):Tr (am cL.xs):=
 .ite (decide (d.1.2.1=8)&&(decide (d.1.2.2.1.length=0)&&(decide (d.1.2.2.2.1=0)&&(decide (d.1.2.2.2.2.1=0)&&decide (d.1.1.length≤32768)))))
  (.ret (.ret ((),((d.1.1,((bg d.1.1 8 (d.1.1.length+1) 0 0 []).1,(((bg d.1.1 8 (d.1.1.length+1) 0 0 []).2.1:Int),(((bg d.1.1 8 (d.1.1.length+1) 0 0 []).2.2:Int),())))),())))) .no
def nr:Lp:=cp [(8,aC cL fX)]
def nZ {R:Type}(h2:LI)(h3:Int)(h4:List dc.den)(h5 h6:Int)(next:LI→Int→List dc.den→Int→Int→Option R)(out:am cL.xs→Option R):Option R:=bif decide (h6<(↑h2.length:Int)) then bif decide (0≤h6)&&decide (h6≤(↑h2.length:Int)) then bif (aw h2 h6.toNat h3).2 == 0 then next (h2) (h3) (h4) (h5) (i64.wrap (h6+1)) else bif decide (0≤h5)&&(decide (h5≤h6)&&(decide (h6≤(↑h2.length:Int))&&decide (h4.length+h2.length≤4294960000))) then bif decide (List.length (h4++bD h2 h5.toNat h6.toNat)+1≤4294967296) then next (h2) (h3) (h4++bD h2 h5.toNat h6.toNat++[([],(aw h2 h6.toNat h3).1,(aw h2 h6.toNat h3).2,())]) (i64.wrap (h6+(aw h2 h6.toNat h3).2)) (i64.wrap (h6+(aw h2 h6.toNat h3).2)) else none else none else none else out (.ret ((),((h2,(h4,(h5,(h6,())))),())))
def mw (n:Nat)(h2:LI)(h3:Int)(h4:List dc.den)(h5 h6:Int):Option (am cL.xs):=gO tt xX dr nr 0 Tryd.f85 (ct Tryd.f85 0) n (cL.st.mk' ((h2,(h3,(h4,(h5,(h6,()))))),())) (bE cL.xs)
theorem A6 (n:Nat)(h2:LI)(h3:Int)(h4:List dc.den)(h5 h6:Int):mw (n+1) h2 h3 h4 h5 h6=nZ h2 h3 h4 h5 h6 (mw n) some:=by kernel_rfl
theorem vS (b:LI)(hl:b.length≤32768):∀(n k lo i:Nat) (ts:List fJ),b.length<i+n→n≤k→lo≤i→i≤b.length→ts.length≤lo→
  mw k b 8 ts lo i=some (.ret ((),((b,((bg b 8 n lo i ts).1,(((bg b 8 n lo i ts).2.1:Int),(((bg b 8 n lo i ts).2.2:Int),())))),()))):=by
 intro n
 induction n with
 |zero=>intro k lo i ts h1 h2 h3 h4 h5;omega
 |succ n ih=>
  intro k lo i ts h1 h2 h3 h4 h5
  obtain ⟨k,rfl⟩:∃j,k=j+1:=⟨k - 1,by omega⟩
  rw[A6]
  unfold nZ bg
  by_cases c1:i<b.length
  rotate_left
  ·refine bF (decide_eq_false (by omega)) ?_
   rw[if_neg c1]
  refine bT (decide_eq_true (by omega)) ?_
  refine bT (by simp only[zA,zB];omega) ?_
  rw[if_pos c1,zG,zG]
  by_cases c2:(aw b i 8).2=0
  ·refine bT (by simpa using c2) ?_
   rw[if_pos c2,af (n:=(i:Int)+1) (by omega) (by omega)]
   exact ih k lo (i+1) ts (by omega) (by omega) (by omega) (by omega) h5
  ·refine bF (by simpa using c2) ?_
   rcases f4 c1 8 with h6 | ⟨g1,g2,g3,g4,g5,g6,g7⟩
   ·exact absurd h6.1 c2
   have hlen:=sC h3 h4
   refine bT (by simp only[zA,zB];omega) ?_
   refine bT (decide_eq_true (by rw[zH];omega)) ?_
   rw[if_neg c2,af (n:=(i:Int)+(aw b i 8).2) (by omega) (by omega)]
   have:=ih k (i+(aw b i 8).2.toNat) (i+(aw b i 8).2.toNat) (ts++bD b lo i++[([],(aw b i 8).1,(aw b i 8).2,())]) (by omega) (by omega) (Nat.le_refl _) (by omega) (by simp only[zH,List.length_singleton];omega)
   rw[show ((i+(aw b i 8).2.toNat:Nat):Int)=(i:Int)+(aw b i 8).2 by omega] at this
   exact this
def q8 (a0:LI)(a1:Int):Option gx.Res:=bif decide (32768<(↑a0.length:Int)) then oR (([],4,()),()) else bif decide (32<a1) then (fX ((a0,(32,([],(0,(0,()))))),())).run fun y=>match y with | .ret ((),((x21,x22,x23,x24,()),()))=>(bif decide (0≤x23)&&(decide (x23≤x24)&&(decide (x24≤(↑x21.length:Int))&&decide (x22.length+x21.length≤4294960000))) then oR ((x22++bD x21 x23.toNat x24.toNat,0,()),()) else none) else (fX ((a0,(a1,([],(0,(0,()))))),())).run fun y=>match y with | .ret ((),((x30,x31,x32,x33,()),()))=>(bif decide (0≤x32)&&(decide (x32≤x33)&&(decide (x33≤(↑x30.length:Int))&&decide (x31.length+x30.length≤4294960000))) then oR ((x31++bD x30 x32.toNat x33.toNat,0,()),()) else none)
theorem Eg (a0:LI)(a1:Int):Io.run tt xX dr nr gx Tryd.f85 ((a0,a1,()),())=q8 a0 a1:=by kernel_rfl
theorem rz:HcsOk prog xC:=.cons GG (.cons GH .nil)
theorem GJ:HcOk prog 85 (ah gx va):=by
 refine cx rz (lp:=nr) (fn:=Tryd.f85) gx (.step (h0:=aC cL fX) (by kernel_rfl) (iB rz (lp:=nr) (fn:=Tryd.f85) (.done (by kernel_rfl)) cL fX ?_) (.done (by kernel_rfl))) va ?_
 ·rintro ⟨⟨(b:LI),(depth:Int),(ts:List fJ),(lo:Int),(i:Int),⟨⟩⟩,⟨⟩⟩ y hw hy
  obtain ⟨hg,hy⟩:=Tr.guard hy
  simp only[zA,zB] at hg
  obtain ⟨h1,h2,h3,h4,h5⟩:=hg
  have h1:depth=8:=h1
  have h2:ts=[]:=List.length_eq_zero_iff.1 h2
  have h3:lo=0:=h3
  have h4:i=0:=h4
  have h5:b.length≤32768:=h5
  subst h1 h2 h3 h4
  exact ⟨b.length+1,(vS b h5 (b.length+1) (b.length+1) 0 0 [] (by omega) (Nat.le_refl _) (Nat.le_refl 0) (Nat.zero_le _) (Nat.le_refl 0)).trans hy⟩
 ·rintro ⟨⟨(b:LI),(depth:Int),⟨⟩⟩,⟨⟩⟩ out hw ho
  obtain ⟨hg,ho⟩:=Tr.guard ho
  have hg:depth=8:=of_decide_eq_true hg
  subst hg
  cases ho
  refine (Eg b 8).trans ?_
  show _=oR (((eG b).1,(eG b).2,()),())
  unfold q8 eG
  by_cases c1:32768<(b.length:Int)
  ·refine bT (decide_eq_true c1) ?_
   rw[if_pos c1]
  refine bF (decide_eq_false c1) ?_
  refine bF (by decide) ?_
  rw[if_neg c1]
  unfold fX
  refine bT (by simp only[zA,zB];exact ⟨trivial,rfl,trivial,trivial,show b.length≤32768 by omega⟩) ?_
  obtain ⟨k1,k2,k3⟩:=o9 b 8 (b.length+1) 0 0 [] (Nat.le_refl 0) (Nat.zero_le _) (Nat.le_refl 0)
  have e:dE b=(bg b 8 (b.length+1) 0 0 []).1++bD b (bg b 8 (b.length+1) 0 0 []).2.1 (bg b 8 (b.length+1) 0 0 []).2.2:=o8 b 8 (b.length+1) 0 0 []
  rw[e]
  show (bif decide ((0:Int)≤((bg b 8 (b.length+1) 0 0 []).2.1:Int))&&(decide (((bg b 8 (b.length+1) 0 0 []).2.1:Int)≤((bg b 8 (b.length+1) 0 0 []).2.2:Int))&&(decide (((bg b 8 (b.length+1) 0 0 []).2.2:Int)≤(b.length:Int))&&decide ((bg b 8 (b.length+1) 0 0 []).1.length+b.length≤4294960000))) then oR (((bg b 8 (b.length+1) 0 0 []).1++bD b ((bg b 8 (b.length+1) 0 0 []).2.1:Int).toNat ((bg b 8 (b.length+1) 0 0 []).2.2:Int).toNat,0,()),()) else none)=_
  rw[zG,zG]
  exact aa (by simp only[zA,zB];omega) _ _
abbrev fi:Io:=⟨[JY],[],[],[dL,dI],none⟩
def qL (d:fi.In):Tr fi.Res:=.ite (kR d.1.1&&decide ((av d.1.1).length≤4294960000)) (.ret (.ret ((av d.1.1,0,()),()))) .no
abbrev uh:List (Nat×Hc):=[(109,ah jF zX),(110,ah jE zW)]
def oD:Hd:=b8 uh
abbrev bQ:Lo:=⟨⟨(.one (.hol (.sl 173 dc))::.any::bN (.one (.onl 5 (Ty.int u8) 9)::.one hI::.one (.ptr 6 0)::.one hI::ai (ai (ai (dZ (b9 [])))))),[none,none,none,none,none,none,some [.hol (.sl 5 (Ty.int u8)),hI,hI]]⟩,[(.exit 2,⟨(.one (.hol (.sl 173 dc))::.any::bN (.one (.onl 5 (Ty.int u8) 9)::.one hI::ai (ai (ai (dZ (b9 (bN []))))))),[]⟩)]⟩
abbrev cg:Lo:=⟨⟨(.one (.hol (.sl 173 dc))::.any::bN (.one (.onl 5 (Ty.int u8) 9)::.one hI::ai (ai (ai (dZ (b9 (bN []))))))),[]⟩,[(.ret,⟨(bN (.one (.onl 5 (Ty.int u8) 5)::.one hI::ai (ai (ai (ai ([])))))),[]⟩),(.exit 0,⟨(b9 (.one (.onl 5 (Ty.int u8) 9)::.any::ai (ai (ai (dZ (b9 (bN []))))))),[]⟩)]⟩
def fu (d:bQ.st.den):Tr (am bQ.xs):=
 .ite (decide (d.1.2.2.2.1=0)&&decide (d.1.2.1.length+d.2.1.1.length≤4294967296)) (.ret (.ret ((),((d.1.1,(d.1.2.1++d.2.1.1,(d.1.2.2.1,()))),())))) .no
def gg (d:cg.st.den):Tr (am cg.xs):=
 .ite (decide (d.1.2.2.1=0)&&(decide (d.1.2.1.length=0)&&(kR d.1.1&&decide ((av d.1.1).length≤4294960000)))) (.ret (.pan (.ret ((),((av d.1.1,()),()))))) .no
def f2:Lp:=cp [(4,aC cg gg),(10,aC bQ fu)]
def kU {R:Type}(h4:List dc.den)(h5:LI)(h6 h7:Int)(h8:LI)(h9 h10:Int)(next:List dc.den→LI→Int→Int→LI→Int→Int→Option R)(out:am bQ.xs→Option R):Option R:=bif decide (h7<(↑h8.length:Int)) then bif decide (0≤h7)&&decide (h7<(↑h8.length:Int)) then bif decide (h5.length+1≤4294967296) then next (h4) (h5++[h8.getD h7.toNat 0]) (h6) (i64.wrap (h7+1)) (h8) (h9) (h10) else none else none else out (.ret ((),((h4,(h5,(h6,()))),())))
def jM (n:Nat)(h4:List dc.den)(h5:LI)(h6 h7:Int)(h8:LI)(h9 h10:Int):Option (am bQ.xs):=gO tt oD dr f2 0 Tryd.f87 (EL Tryd.f87 (ct Tryd.f87 0) 0) n (bQ.st.mk' ((h4,(h5,(h6,(h7,())))),((h8,(h9,(h10,()))),()))) (bE bQ.xs)
theorem wA (n:Nat)(h4:List dc.den)(h5:LI)(h6 h7:Int)(h8:LI)(h9 h10:Int):jM (n+1) h4 h5 h6 h7 h8 h9 h10=kU h4 h5 h6 h7 h8 h9 h10 (jM n) some:=by kernel_rfl
def lU {R:Type}(h1:List dc.den)(h2:LI)(h3:Int)(next:List dc.den→LI→Int→Option R)(out:am cg.xs→Option R):Option R:=bif decide (h3<(↑h1.length:Int)) then bif decide (0≤h3)&&decide (h3<(↑h1.length:Int)) then bif sA (h1.getD h3.toNat ([],0,0,())) then bif decide (h2.length+1≤4294967296) then (fu ((h1,(h2++[u8.wrap (i64.wrap ((↑(List.length (h1.getD h3.toNat ([],0,0,())).1):Int) - 1))],(h3,(0,())))),(((h1.getD h3.toNat ([],0,0,())).1,((h1.getD h3.toNat ([],0,0,())).2.1,((h1.getD h3.toNat ([],0,0,())).2.2.1,()))),()))).run fun y=>match y with | .ret ((),((x21,x22,x23,()),()))=>(next (x21) (x22) (i64.wrap (x23+1))) else none else bif o3 (h1.getD h3.toNat ([],0,0,())) then bif decide (h2.length+1≤4294967296) then bif decide ((h2++[u8.wrap (i64.wrap (124+(h1.getD h3.toNat ([],0,0,())).2.2.1))]).length+1≤4294967296) then bif decide ((h2++[u8.wrap (i64.wrap (124+(h1.getD h3.toNat ([],0,0,())).2.2.1))]++[u8.wrap (i64.wrap (Int.tdiv (h1.getD h3.toNat ([],0,0,())).2.1 256))]).length+1≤4294967296) then next (h1) (h2++[u8.wrap (i64.wrap (124+(h1.getD h3.toNat ([],0,0,())).2.2.1))]++[u8.wrap (i64.wrap (Int.tdiv (h1.getD h3.toNat ([],0,0,())).2.1 256))]++[u8.wrap (i64.wrap (Int.tmod (h1.getD h3.toNat ([],0,0,())).2.1 256))]) (i64.wrap (h3+1)) else none else none else none else out (.ret ((),(([],(50,())),()))) else none else out (.pan (.ret ((),((h2,()),()))))
def ik (n:Nat)(h1:List dc.den)(h2:LI)(h3:Int):Option (am cg.xs):=gO tt oD dr f2 0 Tryd.f87 (ct Tryd.f87 0) n (cg.st.mk' ((h1,(h2,(h3,()))),())) (bE cg.xs)
theorem yY (n:Nat)(h1:List dc.den)(h2:LI)(h3:Int):ik (n+1) h1 h2 h3=lU h1 h2 h3 (ik n) some:=by kernel_rfl
theorem uJ {t:fJ}:sA t=true↔t.2.1=0∧t.2.2.1=0∧0<t.1.length∧t.1.length≤128:=by unfold sA;split <;> simp[*]
theorem sx {t:fJ}:o3 t=true↔t.1.length=0∧1≤t.2.1∧t.2.1≤4096∧4≤t.2.2.1∧t.2.2.1≤131:=by
 unfold o3
 split
 ·rename_i h;exact ⟨fun _=>h,fun _=>rfl⟩
 ·rename_i h;exact ⟨fun h'=>by (cases h'),fun h'=>absurd h' h⟩
theorem wP {n:Int}(h0:0≤n)(h1:n≤255):u8.wrap n=n:=bG (by simp[bu,IntKind.min,IntKind.max,IntKind.signed,IntKind.bits];omega)
theorem rP (ts:List fJ)(i:Int)(lit:LI)(d n:Int)(hl:lit.length≤4294967296):∀(k j:Nat) (out:LI),lit.length<j+k→j≤lit.length→out.length+(lit.length - j)≤4294967296→
  jM k ts out i j lit d n=some (.ret ((),((ts,(out++lit.drop j,(i,()))),()))):=by
 intro k
 induction k with
 |zero=>intro j out h;omega
 |succ k ih=>
  intro j out h1 h2 h3
  rw[wA]
  unfold kU
  by_cases hj:j<lit.length
  ·refine bT (by simpa using hj) ?_
   refine bT (by simpa using hj) ?_
   refine bT (decide_eq_true (by omega)) ?_
   rw[af (n:=(j:Int)+1) (by omega) (by omega)]
   refine (ih (j+1) (out++[lit.getD (j:Int).toNat 0]) (by omega) (by omega) (by simp;omega)).trans ?_
   rw[zG,aA hj,zK,zE hj]
   rfl
  ·refine bF (by simpa using hj) ?_
   rw[zI (by omega),List.append_nil]
theorem s6 (ts:List fJ)(hl:ts.length≤maxLen)(hok:kR ts=true):∀(k i:Nat) (out:LI),ts.length<i+k→i≤ts.length→out.length+(av (ts.drop i)).length≤4294960000→
  ik k ts out i=some (.pan (.ret ((),((out++av (ts.drop i),()),())))):=by
 rw[bq] at hl
 intro k
 induction k with
 |zero=>intro i out h;omega
 |succ k ih=>
  intro i out h1 h2 h3
  rw[yY]
  unfold lU
  by_cases hi:i<ts.length
  rotate_left
  ·refine bF (by simpa using hi) ?_
   rw[zI (by omega)]
   show _=some (Out.pan (Out.ret ((),((out++[],()),()))))
   rw[List.append_nil]
  rw[zE hi] at h3 ⊢
  have ht:(sA ts[i] || o3 ts[i])=true:=List.all_eq_true.1 hok ts[i] (List.getElem_mem hi)
  have e1:List.getD ts (i:Int).toNat ([],0,0,())=ts[i]:=by rw[zG,aA hi]
  rw[e1]
  have eP:av (ts[i]::ts.drop (i+1))=db ts[i]++av (ts.drop (i+1)):=rfl
  rw[eP,zH] at h3
  rw[eP]
  generalize ts[i]=t at *
  refine bT (by simpa using hi) ?_
  refine bT (by simpa using hi) ?_
  cases c:sA t with
  |true=>
   obtain ⟨g1,g2,g3,g4⟩:=uJ.1 c
   have eW:db t=((t.1.length:Int) - 1)::t.1:=by unfold db;rw[if_pos g2]
   rw[eW,zN] at h3
   rw[eW]
   refine (aa rfl _ _).trans ?_
   refine bT (decide_eq_true (by omega)) ?_
   rw[af (n:=(t.1.length:Int) - 1) (by omega) (by omega),wP (n:=(t.1.length:Int) - 1) (by omega) (by omega)]
   unfold fu
   refine bT (by simp only[zA,zB];exact ⟨trivial,show (out++[(t.1.length:Int) - 1]).length+t.1.length≤4294967296 by simp;omega⟩) ?_
   show ik k ts (out++[(t.1.length:Int) - 1]++t.1) (i64.wrap ((i:Int)+1))=_
   rw[af (n:=(i:Int)+1) (by omega) (by omega)]
   refine (ih (i+1) _ (by omega) (by omega) (by simp only[zH,List.length_singleton];omega)).trans ?_
   simp only[zK,zM,List.cons_append,List.nil_append]
  |false=>
   rw[c,Bool.false_or] at ht
   obtain ⟨g0,g1,g2,g3,g4⟩:=sx.1 ht
   have eW:db t=[124+t.2.2.1,t.2.1 / 256,t.2.1 % 256]:=by unfold db;rw[if_neg (by omega)]
   rw[eW] at h3
   rw[eW]
   simp only[zN,List.length_nil] at h3
   refine (ac rfl _ _).trans ?_
   refine (aa ht _ _).trans ?_
   refine bT (decide_eq_true (by omega)) ?_
   refine bT (decide_eq_true (by simp only[zH,List.length_singleton];omega)) ?_
   refine bT (decide_eq_true (by simp only[zH,List.length_singleton];omega)) ?_
   rw[Int.tdiv_eq_ediv_of_nonneg (by omega),Int.tmod_eq_emod_of_nonneg (by omega),af (n:=124+t.2.2.1) (by omega) (by omega),af (n:=t.2.1 / 256) (by omega) (by omega),af (n:=t.2.1 % 256) (by omega) (by omega),af (n:=(i:Int)+1) (by omega) (by omega),
    wP (n:=124+t.2.2.1) (by omega) (by omega),wP (n:=t.2.1 / 256) (by omega) (by omega),wP (n:=t.2.1 % 256) (by omega) (by omega)]
   refine (ih (i+1) _ (by omega) (by omega) (by simp only[zH,List.length_singleton];omega)).trans ?_
   simp only[zK,zM,List.cons_append,List.nil_append]
def pp (a0:List dc.den):Option fi.Res:=(gg ((a0,([],(0,()))),())).run fun y=>match y with | .ret ((),((x33,x34,()),()))=>(oR ((x33,x34,()),())) | .pan (.ret ((),((x35,()),())))=>(oR ((x35,0,()),()))
theorem AR (a0:List dc.den):Io.run tt oD dr f2 fi Tryd.f87 ((a0,()),())=pp a0:=by kernel_rfl
theorem kt:HcsOk prog uh:=.cons Jg (.cons Jf .nil)
theorem D1:HcOk prog 87 (ah fi qL):=by
 refine cx kt (lp:=f2) (fn:=Tryd.f87) fi (.step (h0:=aC cg gg) (by kernel_rfl) (iB kt (lp:=f2) (fn:=Tryd.f87) (.step (h0:=aC bQ fu) (by kernel_rfl) (iB kt (lp:=f2) (fn:=Tryd.f87) (.done (by kernel_rfl)) bQ fu ?_) (.done (by kernel_rfl))) cg gg ?_) (.done (by kernel_rfl))) qL ?_
 ·rintro ⟨⟨(ts:List fJ),(out:LI),(i:Int),(j:Int),⟨⟩⟩,⟨⟨(lit:LI),(d:Int),(n:Int),⟨⟩⟩,⟨⟩⟩⟩ y hw hy
  obtain ⟨hg,hy⟩:=Tr.guard hy
  simp only[zA,zB] at hg
  have h1:j=0:=hg.1
  have h2:out.length+lit.length≤4294967296:=hg.2
  subst h1
  refine ⟨lit.length+1,(rP ts i lit d n (by omega) (lit.length+1) 0 out (by omega) (by omega) (by omega)).trans ?_⟩
  rw[← hy];rfl
 ·rintro ⟨⟨(ts:List fJ),(out:LI),(i:Int),⟨⟩⟩,⟨⟩⟩ y hw hy
  obtain ⟨hg,hy⟩:=Tr.guard hy
  simp only[zA,zB] at hg
  obtain ⟨h1,h2,h3,h4⟩:=hg
  have h1:i=0:=h1
  have h2:out=[]:=List.length_eq_zero_iff.1 h2
  have h4:(av ts).length≤4294960000:=h4
  subst h1 h2
  refine ⟨ts.length+1,(s6 ts hw.1.1.1 h3 (ts.length+1) 0 [] (by omega) (by omega) (by simpa using h4)).trans ?_⟩
  rw[← hy];rfl
 ·rintro ⟨⟨(ts:List fJ),⟨⟩⟩,⟨⟩⟩ out hw ho
  obtain ⟨hg,ho⟩:=Tr.guard ho
  simp only[zA,zB] at hg
  cases ho
  refine (AR ts).trans ?_
  unfold pp gg
  refine bT (by simp only[zA,zB];exact ⟨trivial,rfl,hg.1,hg.2⟩) ?_
  rfl
abbrev gv:Io:=⟨[dL],[],[],[dL,dI],none⟩
def u9 (d:gv.In):Tr gv.Res:=.ret (.ret (((fk d.1.1).1,(fk d.1.1).2,()),()))
abbrev xB:List (Nat×Hc):=[(85,ah gx va),(86,ah iA te),(87,ah fi qL)]
def xW:Hd:=b8 xB
abbrev cK:Lo:=⟨⟨(b9 (bN (.one (.onl 5 (Ty.int u8) 13)::.one (.hol (.sl 5 (Ty.int u8)))::.one hI::.one hI::.any::ai (dZ (b9 (bN [])))))),[]⟩,[(.exit 0,⟨(b9 (bN (.one (.onl 5 (Ty.int u8) 13)::.any::.one hI::ai (ai ([]))))),[]⟩)]⟩
def iO (d:cK.st.den):Tr (am cK.xs):=
 .ite (decide (d.1.2.2.2.1=0)&&decide (d.1.1.length+d.1.2.1.length≤4294967296)) (.ret (.ret ((),((d.1.1++d.1.2.1,(d.1.2.2.1,())),())))) .no
def nq:Lp:=cp [(8,aC cK iO)]
def nY {R:Type}(h1 h2:LI)(h3 h4:Int)(next:LI→LI→Int→Int→Option R)(out:am cK.xs→Option R):Option R:=bif decide (h4<(↑h2.length:Int)) then bif decide (0≤h4)&&decide (h4<(↑h2.length:Int)) then bif decide (h1.length+1≤4294967296) then next (h1++[h2.getD h4.toNat 0]) (h2) (h3) (i64.wrap (h4+1)) else none else none else out (.ret ((),((h1,(h3,())),())))
def mv (n:Nat)(h1 h2:LI)(h3 h4:Int):Option (am cK.xs):=gO tt xW dr nq 0 Tryd.f61 (ct Tryd.f61 0) n (cK.st.mk' ((h1,(h2,(h3,(h4,())))),())) (bE cK.xs)
theorem A5 (n:Nat)(h1 h2:LI)(h3 h4:Int):mv (n+1) h1 h2 h3 h4=nY h1 h2 h3 h4 (mv n) some:=by kernel_rfl
theorem vR (body:LI)(f:Int)(hl:body.length≤4294967296):∀(k j:Nat) (out:LI),body.length<j+k→j≤body.length→out.length+(body.length - j)≤4294967296→
  mv k out body f j=some (.ret ((),((out++body.drop j,(f,())),()))):=by
 intro k
 induction k with
 |zero=>intro j out h;omega
 |succ k ih=>
  intro j out h1 h2 h3
  rw[A5]
  unfold nY
  by_cases hj:j<body.length
  ·refine bT (by simpa using hj) ?_
   refine bT (by simpa using hj) ?_
   refine bT (decide_eq_true (by omega)) ?_
   rw[af (n:=(j:Int)+1) (by omega) (by omega)]
   refine (ih (j+1) (out++[body.getD (j:Int).toNat 0]) (by omega) (by omega) (by simp;omega)).trans ?_
   rw[zG,aA hj,zK,zE hj]
   rfl
  ·refine bF (by simpa using hj) ?_
   rw[zI (by omega),List.append_nil]
theorem EN {ts:List fJ}(h:∀t∈ts,pb t):kR ts=true:=List.all_eq_true.2 fun t ht=>by
 rw[Bool.or_eq_true]
 rcases h t ht with ⟨h1,h2,h3,h4⟩ | ⟨h1,h2,h3,h4,h5⟩
 ·exact .inl (uJ.2 ⟨h1,h2,by omega,h4⟩)
 ·exact .inr (sx.2 ⟨by rw[h1];rfl,h2,h3,h4,h5⟩)
def q7 (a0:LI):Option gv.Res:=bif (eG a0).2 != 0 then oR (([],(eG a0).2,()),()) else bif kR (eG a0).1&&decide ((av (eG a0).1).length≤4294960000) then (iO ((ar (ap (↑a0.length:Int)),(av (eG a0).1,(0,(0,())))),())).run fun y=>match y with | .ret ((),((x11,x12,()),()))=>(oR ((x11,x12,()),())) else none
theorem Ef (a0:LI):Io.run tt xW dr nq gv Tryd.f61 ((a0,()),())=q7 a0:=by kernel_rfl
theorem ry:HcsOk prog xB:=.cons GJ (.cons wm (.cons D1 .nil))
theorem GI:HcOk prog 61 (ah gv u9):=by
 refine cx ry (lp:=nq) (fn:=Tryd.f61) gv (.step (h0:=aC cK iO) (by kernel_rfl) (iB ry (lp:=nq) (fn:=Tryd.f61) (.done (by kernel_rfl)) cK iO ?_) (.done (by kernel_rfl))) u9 ?_
 ·rintro ⟨⟨(out:LI),(body:LI),(f:Int),(j:Int),⟨⟩⟩,⟨⟩⟩ y hw hy
  obtain ⟨hg,hy⟩:=Tr.guard hy
  simp only[zA,zB] at hg
  have h1:j=0:=hg.1
  have h2:out.length+body.length≤4294967296:=hg.2
  subst h1
  refine ⟨body.length+1,(vR body f (by omega) (body.length+1) 0 out (by omega) (by omega) (by omega)).trans ?_⟩
  rw[← hy];rfl
 ·rintro ⟨⟨(b:LI),⟨⟩⟩,⟨⟩⟩ out hw ho
  cases ho
  refine (Ef b).trans ?_
  show _=oR (((fk b).1,(fk b).2,()),())
  unfold q7 eG fk
  by_cases c1:32768<(b.length:Int)
  ·rw[if_pos c1,if_pos c1]
   exact aa rfl _ _
  rw[if_neg c1,if_neg c1]
  refine (ac rfl _ _).trans ?_
  have hp:(av (dE b)).length≤b.length+b.length / 128+1:=jS b 8 _ 0 0 [] (Nat.le_refl 0) (Nat.zero_le _) (by simp[av])
  have hd:=lw (ap (b.length:Int))
  refine bT (by simp only[zA,zB];exact ⟨EN (Dc b),show (av (dE b)).length≤4294960000 by omega⟩) ?_
  unfold iO
  refine bT (by simp only[zA,zB];exact ⟨trivial,show (ar (ap (b.length:Int))).length+(av (dE b)).length≤4294967296 by omega⟩) ?_
  rfl
def HN (b:dz)(pk:Bool):LI:=bif pk then (fk (dy b.2.2.2.2.2.1).1).1 else (dy b.2.2.2.2.2.1).1
def dC (b:dz)(pk:Bool):LI×Int:=if cU b≠0 then ([],cU b) else (oY b (bif pk then 1 else 0) (HN b pk),0)
abbrev kw:Io:=⟨[Ao,dB],[],[],[dL,dI],none⟩
def E4 (d:kw.In):Tr kw.Res:=.ite (b7 (ax d.1.1.2.2.2.2.2.1) d.1.1.2.2.2.2.2.1 0) (.ret (.ret (((dC d.1.1 d.1.2.1).1,(dC d.1.1 d.1.2.1).2,()),()))) .no
abbrev Fw:List (Nat×Hc):=[(59,ah mo E3),(60,ah ig vj),(61,ah gv u9),(62,ah fc qF),(13,ah ku zn),(11,ah fB p5),(63,ah gk uQ)]
def Km:Hd:=b8 Fw
def Gr:Lp:=cp []
def ot {R:Type}(a b:LI)(K:LI→Option R):Option R:=bif decide (a.length+b.length≤4294967296) then K (a++b) else none
theorem dG {R:Type}{a b:LI}{K:LI→Option R}(h:a.length+b.length≤4294967296):ot a b K=K (a++b):=aa (decide_eq_true h) _ _
def Dh (a0 a1 a2 a3 a4:Int)(a5:List aK.den)(attrs:Int)(blk:LI):Option kw.Res:=
 ot (aI attrs (Int.toNat 2)) (aI (i64.wrap ((a5.length:Int) - 1)) (Int.toNat 4)) fun T=>bif decide ((0:Int)≤0)&&decide ((0:Int)<(a5.length:Int)) then
  ot T (aI (a5.getD (Int.toNat 0) (0,(false,[],()),(false,[],()),[],())).1 (Int.toNat 8)) fun T=>ot T (aI (cq a5) (Int.toNat 8)) fun T=>ot T (aI a2 (Int.toNat 8)) fun T=>
  ot T (aI (i64.wrap a3) (Int.toNat 2)) fun T=>ot T (aI (i64.wrap a4) (Int.toNat 4)) fun T=>ot T (aI (a5.length:Int) (Int.toNat 4)) fun T=>ot T blk fun T=>
  ot (aI a0 (Int.toNat 8)) (aI (i64.wrap ((T.length:Int)+9)) (Int.toNat 4)) fun L=>ot L (aI (i64.wrap a1) (Int.toNat 4)) fun L=>bif decide (L.length+1≤4294967296) then
   ot (L++[2]) (aI (i64.wrap (cC 0 T)) (Int.toNat 4)) fun L=>ot L T fun L=>oR ((L,0,()),()) else none else none
def xl (a0 a1 a2 a3 a4:Int)(a5:List aK.den)(a6:Bool):Option kw.Res:=bif b7 (ax a5) a5 0 then bif cU (a0,a1,a2,a3,a4,a5,()) != 0 then oR (([],cU (a0,a1,a2,a3,a4,a5,()),()),()) else bif b7 (ax a5) a5 0&&decide (a5.length≤256) then
 bif a6 then Dh a0 a1 a2 a3 a4 a5 1 (fk (dy a5).1).1 else Dh a0 a1 a2 a3 a4 a5 0 (dy a5).1 else none else none
theorem JC (a0 a1 a2 a3 a4:Int)(a5:List aK.den)(a6:Bool):Io.run tt Km dr Gr kw Tryd.f32 (((a0,a1,a2,a3,a4,a5,()),a6,()),())=xl a0 a1 a2 a3 a4 a5 a6:=by kernel_rfl
theorem E9 (v:Int){n:Nat}(h:n≤8):aI (i64.wrap v) n=aI v n:=by
 have key:∃t,i64.wrap v=v+256 ^ 8*t:=⟨(i64.wrap v - v) / 18446744073709551616,by simp[IntKind.wrap,IntKind.min,IntKind.max,IntKind.signed,IntKind.bits];omega⟩
 obtain ⟨t,e⟩:=key
 rw[e,ja _ _ _ _ h]
theorem zk {a0 a1 a2 a3 a4:Int}{a5:List bf}(h1:1≤a5.length)(attrs:Int){blk:LI}(hl:blk.length≤40000):
  Dh a0 a1 a2 a3 a4 a5 attrs blk=oR ((oY (a0,a1,a2,a3,a4,a5,()) attrs blk,0,()),()):=by
 have ln:∀(v:Int) (n:Nat),(aI v n).length=n:=so
 have e4:(a5.getD (Int.toNat 0) (0,(false,[],()),(false,[],()),[],())).1=ax a5:=by
  cases a5 with
  |nil=>simp at h1
  |cons r rs=>rfl
 have n2:Int.toNat 2=2:=rfl
 have n4:Int.toNat 4=4:=rfl
 have n8:Int.toNat 8=8:=rfl
 unfold Dh
 simp only[e4,n2,n4,n8,E9 _ (show 4≤8 by decide),E9 _ (show 2≤8 by decide)]
 refine (dG (by simp[ln])).trans ?_
 refine bT (by simp only[zA,zB];omega) ?_
 refine (dG (by simp[ln])).trans ?_
 refine (dG (by simp[ln])).trans ?_
 refine (dG (by simp[ln])).trans ?_
 refine (dG (by simp[ln])).trans ?_
 refine (dG (by simp[ln])).trans ?_
 refine (dG (by simp[ln])).trans ?_
 refine (dG (by simp[ln];omega)).trans ?_
 have eT:aI attrs 2++aI ((a5.length:Int) - 1) 4++aI (ax a5) 8++aI (cq a5) 8++aI a2 8++aI a3 2++aI a4 4++aI (a5.length:Int) 4++blk=dw (a0,a1,a2,a3,a4,a5,()) attrs blk:=by
  simp only[dw,zK]
 rw[eT]
 have lT:(dw (a0,a1,a2,a3,a4,a5,()) attrs blk).length=40+blk.length:=by simp[dw,ln];omega
 have eW:oY (a0,a1,a2,a3,a4,a5,()) attrs blk=aI a0 8++(aI (49+(blk.length:Int)) 4++(aI a1 4++([2]++(aI (cC 0 (dw (a0,a1,a2,a3,a4,a5,()) attrs blk)) 4++dw (a0,a1,a2,a3,a4,a5,()) attrs blk)))):=rfl
 rw[eW]
 generalize dw (a0,a1,a2,a3,a4,a5,()) attrs blk=T at *
 rw[show (T.length:Int)+9=49+(blk.length:Int) by omega]
 refine (dG (by simp[ln])).trans ?_
 refine (dG (by simp[ln])).trans ?_
 refine bT (decide_eq_true (by simp[ln])) ?_
 refine (dG (by simp[ln])).trans ?_
 refine (dG (by simp[ln];omega)).trans ?_
 simp only[zK]
theorem KD:HcOk prog 32 (ah kw E4):=by
 refine cx (cs:=Fw) (.cons KC (.cons CV (.cons GI (.cons DW (.cons yD (.cons yG (.cons Gx .nil))))))) (lp:=Gr) (fn:=Tryd.f32) kw (.done (by kernel_rfl)) E4 ?_
 rintro ⟨⟨⟨(a0:Int),(a1:Int),(a2:Int),(a3:Int),(a4:Int),(a5:List bf),⟨⟩⟩,(pk:Bool),⟨⟩⟩,⟨⟩⟩ out hw ho
 obtain ⟨hg,ho⟩:=Tr.guard ho
 have hg:b7 (ax a5) a5 0=true:=hg
 cases ho
 refine (JC a0 a1 a2 a3 a4 a5 pk).trans ?_
 show _=oR (((dC (a0,a1,a2,a3,a4,a5,()) pk).1,(dC (a0,a1,a2,a3,a4,a5,()) pk).2,()),())
 unfold xl dC
 refine (aa hg _ _).trans ?_
 by_cases c:cU (a0,a1,a2,a3,a4,a5,())=0
 rotate_left
 ·refine bT (by simpa using c) ?_
  rw[if_pos c]
 refine bF (by simpa using c) ?_
 rw[if_neg (aD c)]
 obtain ⟨g1,g2,g3,g4,g5⟩:=om c
 have g3:1≤a5.length:=g3
 have g4:a5.length≤256:=g4
 obtain ⟨_,_,h3⟩:=Fb g5
 refine bT (by rw[hg,decide_eq_true g4];rfl) ?_
 cases pk with
 |true=>
  refine (aa rfl _ _).trans ?_
  have:=(wq h3).2.1
  exact zk g3 1 (by have:=(wq h3).2.1;exact Nat.le_trans this (by decide))
 |false=>
  refine (ac rfl _ _).trans ?_
  exact zk g3 0 (by have h3:(dy a5).1.length≤32768:=h3;omega)
def ly (bs:List dz):Bool:=bs.all fun x=>b7 (ax x.2.2.2.2.2.1) x.2.2.2.2.2.1 0
def fC (pk:Bool):List dz→Int→LI→LI
 |[],_,out=>out
 |x::xs,q,out=>if (dC (q,x.2) pk).2=0 then fC pk xs (i64.wrap (q+(x.2.2.2.2.2.1.length:Int))) (out++(dC (q,x.2) pk).1) else fC pk xs q out
abbrev gy:Io:=⟨[Ig,dd,dB],[],[],[dL],none⟩
def vb (d:gy.In):Tr gy.Res:=.ite (ly d.1.1&&decide (d.1.1.length≤100000)) (.ret (.ret ((fC d.1.2.2.1 d.1.1 d.1.2.1 [],()),()))) .no
abbrev xD:List (Nat×Hc):=[(32,ah kw E4),(13,ah ku zn)]
def xY:Hd:=b8 xD
abbrev cM:Lo:=⟨⟨(.one (.hol (.sl 35 td))::.one hI::.one hL::b9 (.one (.onl 5 (Ty.int u8) 15)::.one hI::.any::ai (ai ([])))),[]⟩,[(.exit 0,⟨(.any::b9 (bN (.one (.onl 5 (Ty.int u8) 15)::ai (ai (bN []))))),[]⟩)]⟩
def iP (d:cM.st.den):Tr (am cM.xs):=
 .ite (decide (d.1.2.2.2.2.1=0)&&(decide (d.1.2.2.2.1.length=0)&&(decide (d.1.1.length≤100000)&&ly d.1.1)))
  (.ret (.ret ((),((fC d.1.2.2.1 d.1.1 d.1.2.1 [],()),())))) .no
def nu:Lp:=cp [(4,aC cM iP)]
def n3 {R:Type}(h3:List td.den)(h4:Int)(h5:Bool)(h6:LI)(h7:Int)(next:List td.den→Int→Bool→LI→Int→Option R)(out:am cM.xs→Option R):Option R:=bif decide (h7<(↑h3.length:Int)) then bif decide (0≤h7)&&decide (h7<(↑h3.length:Int)) then bif b7 (ax (h3.getD h7.toNat (0,0,0,0,0,[],())).2.2.2.2.2.1) (h3.getD h7.toNat (0,0,0,0,0,[],())).2.2.2.2.2.1 0 then bif (dC (h4,(h3.getD h7.toNat (0,0,0,0,0,[],())).2) h5).2 == 0 then bif decide (h6.length+(dC (h4,(h3.getD h7.toNat (0,0,0,0,0,[],())).2) h5).1.length≤4294967296) then next (h3) (i64.wrap (h4+(↑(List.length (h3.getD h7.toNat (0,0,0,0,0,[],())).2.2.2.2.2.1):Int))) (h5) (h6++(dC (h4,(h3.getD h7.toNat (0,0,0,0,0,[],())).2) h5).1) (i64.wrap (h7+1)) else none else next (h3) (h4) (h5) (h6) (i64.wrap (h7+1)) else none else none else out (.ret ((),((h6,()),())))
def my (n:Nat)(h3:List td.den)(h4:Int)(h5:Bool)(h6:LI)(h7:Int):Option (am cM.xs):=gO tt xY dr nu 0 Tryd.f12 (ct Tryd.f12 0) n (cM.st.mk' ((h3,(h4,(h5,(h6,(h7,()))))),())) (bE cM.xs)
theorem A7 (n:Nat)(h3:List td.den)(h4:Int)(h5:Bool)(h6:LI)(h7:Int):my (n+1) h3 h4 h5 h6 h7=n3 h3 h4 h5 h6 h7 (my n) some:=by kernel_rfl
theorem FC {x:dz}{pk:Bool}(h:(dC x pk).2=0):(dC x pk).1.length≤33101:=by
 unfold dC at h ⊢
 split
 ·simp
 rename_i c
 obtain ⟨_,_,_,_,g5⟩:=om (Classical.byContradiction c)
 obtain ⟨_,_,h3⟩:=Fb g5
 simp only
 rw[E8]
 unfold HN
 cases pk with
 |true=>have:(fk (dy x.2.2.2.2.2.1).1).1.length≤33040:=(wq h3).2.1;simp only[cond_true];omega
 |false=>simp only[cond_false];omega
theorem vT (pk:Bool)(bs:List dz)(hl:bs.length≤100000)(hr:ly bs=true):∀(k i:Nat) (q:Int) (out:LI),bs.length<i+k→i≤bs.length→out.length≤33101*i→
  my k bs q pk out i=some (.ret ((),((fC pk (bs.drop i) q out,()),()))):=by
 intro k
 induction k with
 |zero=>intro i q out h;omega
 |succ k ih=>
  intro i q out h1 h2 h3
  rw[A7]
  unfold n3
  by_cases hi:i<bs.length
  rotate_left
  ·refine bF (decide_eq_false (by omega)) ?_
   rw[zI (by omega)]
   rfl
  refine bT (decide_eq_true (by omega)) ?_
  refine bT (by simpa using hi) ?_
  have e1:List.getD bs (i:Int).toNat (0,0,0,0,0,[],())=bs[i]:=by rw[zG,aA hi]
  have hx:=List.all_eq_true.1 hr bs[i] (List.getElem_mem hi)
  rw[e1,zE hi,af (n:=(i:Int)+1) (by omega) (by omega)]
  refine (aa hx _ _).trans ?_
  have e2:fC pk (bs[i]::bs.drop (i+1)) q out=if (dC (q,bs[i].2) pk).2=0 then fC pk (bs.drop (i+1)) (i64.wrap (q+(bs[i].2.2.2.2.2.1.length:Int))) (out++(dC (q,bs[i].2) pk).1) else fC pk (bs.drop (i+1)) q out:=rfl
  rw[e2]
  by_cases c:(dC (q,bs[i].2) pk).2=0
  ·have hL:=FC c
   refine bT (by rw[c];rfl) ?_
   refine bT (decide_eq_true (by omega)) ?_
   rw[if_pos c]
   exact ih (i+1) _ _ (by omega) (by omega) (by rw[zH];omega)
  ·refine bF (by simpa using c) ?_
   rw[if_neg c]
   exact ih (i+1) _ _ (by omega) (by omega) (by omega)
def q9 (a0:List td.den)(a1:Int)(a2:Bool):Option gy.Res:=(iP ((a0,(a1,(a2,([],(0,()))))),())).run fun y=>match y with | .ret ((),((x19,()),()))=>(oR ((x19,()),()))
theorem Eh (a0:List td.den)(a1:Int)(a2:Bool):Io.run tt xY dr nu gy Tryd.f12 ((a0,a1,a2,()),())=q9 a0 a1 a2:=by kernel_rfl
theorem rA:HcsOk prog xD:=.cons KD (.cons yD .nil)
theorem GK:HcOk prog 12 (ah gy vb):=by
 refine cx rA (lp:=nu) (fn:=Tryd.f12) gy (.step (h0:=aC cM iP) (by kernel_rfl) (iB rA (lp:=nu) (fn:=Tryd.f12) (.done (by kernel_rfl)) cM iP ?_) (.done (by kernel_rfl))) vb ?_
 ·rintro ⟨⟨(bs:List dz),(q:Int),(pk:Bool),(out:LI),(i:Int),⟨⟩⟩,⟨⟩⟩ y hw hy
  obtain ⟨hg,hy⟩:=Tr.guard hy
  simp only[zA,zB] at hg
  obtain ⟨h1,h2,h3,h4⟩:=hg
  have h1:i=0:=h1
  have h2:out=[]:=zF h2
  have h3:bs.length≤100000:=h3
  subst h1 h2
  refine ⟨bs.length+1,(vT pk bs h3 h4 (bs.length+1) 0 q [] (by omega) (Nat.zero_le _) (by simp)).trans ?_⟩
  rw[← hy,List.drop_zero];rfl
 ·rintro ⟨⟨(bs:List dz),(q:Int),(pk:Bool),⟨⟩⟩,⟨⟩⟩ out hw ho
  obtain ⟨hg,ho⟩:=Tr.guard ho
  simp only[zA,zB] at hg
  obtain ⟨h1,h2⟩:=hg
  cases ho
  refine (Eh bs q pk).trans ?_
  unfold q9 iP
  refine bT (by simp only[zA,zB];exact ⟨trivial,rfl,h2,h1⟩) ?_
  rfl
abbrev jA:Io:=⟨[.dat .str false false],[],[],[Ao],none⟩
def zS (d:jA.In):Tr jA.Res:=.ret (.ret (((0,0,-1,-1,-1,[(7,(false,[],()),(false,d.1.1,()),[],())],()),()),()))
abbrev BQ:List (Nat×Hc):=[]
def IE:Hd:=b8 BQ
def CC:Lp:=cp []
def Dm (a0:LI):Option jA.Res:=oR (((0,0,-1,-1,-1,[(7,(false,[],()),(false,a0,()),[],())],()),()),())
theorem Hm (a0:LI):Io.run tt IE dr CC jA Tryd.f22 ((a0,()),())=Dm a0:=by kernel_rfl
theorem Jb:HcOk prog 22 (ah jA zS):=by
 refine cx (cs:=BQ) HcsOk.nil (lp:=CC) (fn:=Tryd.f22) jA (.done (by kernel_rfl)) zS ?_
 rintro ⟨⟨(s:LI),⟨⟩⟩,⟨⟩⟩ out hw ho
 rw[← ho]
 exact Hm s
abbrev ff:Io:=⟨[],[],[],[dB],none⟩
def qI (d:ff.In):Tr ff.Res:=.ret (.ret ((true,()),()))
abbrev ue:List (Nat×Hc):=[(22,ah jA zS),(12,ah gy vb),(7,ah fR qB),(23,ah jr zw),(24,ah jq zv),(19,ah ma ES),(10,ah gT uO)]
def DG:Hd:=b8 ue
def ux:Lp:=cp []
def pn:Option ff.Res:=bif ly [(0,0,-1,-1,-1,[(7,(false,[],()),(false,[120],()),[],())],()),(0,0,-1,-1,-1,[(7,(false,[],()),(false,[121,122],()),[],())],())]&&decide (([(0,0,-1,-1,-1,[(7,(false,[],()),(false,[120],()),[],())],()),(0,0,-1,-1,-1,[(7,(false,[],()),(false,[121,122],()),[],())],())]:List dz).length≤100000) then bif decide ([0,0,0,0,0,0,0,5,0,0,0,57,0,0,0,0,2,205,219,161,248,0,0,0,0,0,0,0,0,0,0,0,0,0,7,0,0,0,0,0,0,0,7,255,255,255,255,255,255,255,255,255,255,255,255,255,255,0,0,0,1,14,0,0,0,0,2,120,0,0,0,0,0,0,0,0,6,0,0,0,58,0,0,0,0,2,177,45,97,141,0,0,0,0,0,0,0,0,0,0,0,0,0,7,0,0,0,0,0,0,0,7,255,255,255,255,255,255,255,255,255,255,255,255,255,255,0,0,0,1,16,0,0,0,0,4,121,122,0].length≤4294950000) then bif decide ([0,0,0,0,0,0,0,5,0,0,0,57,0,0,0,0,2,205,219,161,248,0,0,0,0,0,0,0,0,0,0,0,0,0,7,0,0,0,0,0,0,0,7,255,255,255,255,255,255,255,255,255,255,255,255,255,255,0,0,0,1,14,0,0,0,0,2,120,0,0,0,0,0,0,0,0,6,0,0,0,58,0,0,0,0,2,177,45,97,141,0,0,0,0,0,0,0,0,0,0,0,0,0,7,0,0,0,0,0,0,0,7,255,255,255,255,255,255,255,255,255,255,255,255,255,255,0,0,0,1,16,0,0,0,0,4,121,122,0].length≤4294950000) then bif decide ([0,0,0,0,0,0,0,5,0,0,0,57,0,0,0,0,2,205,219,161,248,0,0,0,0,0,0,0,0,0,0,0,0,0,7,0,0,0,0,0,0,0,7,255,255,255,255,255,255,255,255,255,255,255,255,255,255,0,0,0,1,14,0,0,0,0,2,120,0,0,0,0,0,0,0,0,6,0,0,0,58,0,0,0,0,2,177,45,97,141,0,0,0,0,0,0,0,0,0,0,0,0,0,7,0,0,0,0,0,0,0,7,255,255,255,255,255,255,255,255,255,255,255,255,255,255,0,0,0,1,16,0,0,0,0,4,121,122,0].length≤4294950000) then bif decide ([0,0,0,0,0,0,0,5,0,0,0,57,0,0,0,0,2,205,219,161,248,0,0,0,0,0,0,0,0,0,0,0,0,0,7,0,0,0,0,0,0,0,7,255,255,255,255,255,255,255,255,255,255,255,255,255,255,0,0,0,1,14,0,0,0,0,2,120,0,0,0,0,0,0,0,0,6,0,0,0,58,0,0,0,0,2,177,45,97,141,0,0,0,0,0,0,0,0,0,0,0,0,0,7,0,0,0,0,0,0,0,7,255,255,255,255,255,255,255,255,255,255,255,255,255,255,0,0,0,1,16,0,0,0,0,4,121,122,0].length≤4294950000) then bif (↑(List.length (az [0,0,0,0,0,0,0,5,0,0,0,57,0,0,0,0,2,205,219,161,248,0,0,0,0,0,0,0,0,0,0,0,0,0,7,0,0,0,0,0,0,0,7,255,255,255,255,255,255,255,255,255,255,255,255,255,255,0,0,0,1,14,0,0,0,0,2,120,0,0,0,0,0,0,0,0,6,0,0,0,58,0,0,0,0,2,177,45,97,141,0,0,0,0,0,0,0,0,0,0,0,0,0,7,0,0,0,0,0,0,0,7,255,255,255,255,255,255,255,255,255,255,255,255,255,255,0,0,0,1,16,0,0,0,0,4,121,122,0] 5).1):Int) != 2 then oR ((false,()),()) else bif (az [0,0,0,0,0,0,0,5,0,0,0,57,0,0,0,0,2,205,219,161,248,0,0,0,0,0,0,0,0,0,0,0,0,0,7,0,0,0,0,0,0,0,7,255,255,255,255,255,255,255,255,255,255,255,255,255,255,0,0,0,1,14,0,0,0,0,2,120,0,0,0,0,0,0,0,0,6,0,0,0,58,0,0,0,0,2,177,45,97,141,0,0,0,0,0,0,0,0,0,0,0,0,0,7,0,0,0,0,0,0,0,7,255,255,255,255,255,255,255,255,255,255,255,255,255,255,0,0,0,1,16,0,0,0,0,4,121,122,0] 5).2.2.1 != 7 then oR ((false,()),()) else bif (az [0,0,0,0,0,0,0,5,0,0,0,57,0,0,0,0,2,205,219,161,248,0,0,0,0,0,0,0,0,0,0,0,0,0,7,0,0,0,0,0,0,0,7,255,255,255,255,255,255,255,255,255,255,255,255,255,255,0,0,0,1,14,0,0,0,0,2,120,0,0,0,0,0,0,0,0,6,0,0,0,58,0,0,0,0,2,177,45,97,141,0,0,0,0,0,0,0,0,0,0,0,0,0,7,0,0,0,0,0,0,0,7,255,255,255,255,255,255,255,255,255,255,255,255,255,255,0,0,0,1,16,0,0,0,0,4,121,122,0] 5).2.1 != (↑[0,0,0,0,0,0,0,5,0,0,0,57,0,0,0,0,2,205,219,161,248,0,0,0,0,0,0,0,0,0,0,0,0,0,7,0,0,0,0,0,0,0,7,255,255,255,255,255,255,255,255,255,255,255,255,255,255,0,0,0,1,14,0,0,0,0,2,120,0,0,0,0,0,0,0,0,6,0,0,0,58,0,0,0,0,2,177,45,97,141,0,0,0,0,0,0,0,0,0,0,0,0,0,7,0,0,0,0,0,0,0,7,255,255,255,255,255,255,255,255,255,255,255,255,255,255,0,0,0,1,16,0,0,0,0,4,121,122,0].length:Int) then oR ((false,()),()) else bif (az [0,0,0,0,0,0,0,5,0,0,0,57,0,0,0,0,2,205,219,161,248,0,0,0,0,0,0,0,0,0,0,0,0,0,7,0,0,0,0,0,0,0,7,255,255,255,255,255,255,255,255,255,255,255,255,255,255,0,0,0,1,14,0,0,0,0,2,120,0,0,0,0,0,0,0,0,6,0,0,0,58,0,0,0,0,2,177,45,97,141,0,0,0,0,0,0,0,0,0,0,0,0,0,7,0,0,0,0,0,0,0,7,255,255,255,255,255,255,255,255,255,255,255,255,255,255,0,0,0,1,16,0,0,0,0,4,121,122,0] 5).2.2.2.1 != 0 then oR ((false,()),()) else bif (mG [0,0,0,0,0,0,0,5,0,0,0,57,0,0,0,0,2,205,219,161,248,0,0,0,0,0,0,0,0,0,0,0,0,0,7,0,0,0,0,0,0,0,7,255,255,255,255,255,255,255,255,255,255,255,255,255,255,0,0,0,1,14,0,0,0,0,2,120,0,0,0,0,0,0,0,0,6,0,0,0,58,0,0,0,0,2,177,45,97,141,0,0,0,0,0,0,0,0,0,0,0,0,0,7,0,0,0,0,0,0,0,7,255,255,255,255,255,255,255,255,255,255,255,255,255,255,0,0,0,1,16,0,0,0,0,4,121,122,0] 5 6 1).2 != 0 then oR ((false,()),()) else bif (mG [0,0,0,0,0,0,0,5,0,0,0,57,0,0,0,0,2,205,219,161,248,0,0,0,0,0,0,0,0,0,0,0,0,0,7,0,0,0,0,0,0,0,7,255,255,255,255,255,255,255,255,255,255,255,255,255,255,0,0,0,1,14,0,0,0,0,2,120,0,0,0,0,0,0,0,0,6,0,0,0,58,0,0,0,0,2,177,45,97,141,0,0,0,0,0,0,0,0,0,0,0,0,0,7,0,0,0,0,0,0,0,7,255,255,255,255,255,255,255,255,255,255,255,255,255,255,0,0,0,1,16,0,0,0,0,4,121,122,0] 5 8 1).2 != 221 then oR ((false,()),()) else bif decide (0≤1)&&decide (1<(↑(List.length (az [0,0,0,0,0,0,0,5,0,0,0,57,0,0,0,0,2,205,219,161,248,0,0,0,0,0,0,0,0,0,0,0,0,0,7,0,0,0,0,0,0,0,7,255,255,255,255,255,255,255,255,255,255,255,255,255,255,0,0,0,1,14,0,0,0,0,2,120,0,0,0,0,0,0,0,0,6,0,0,0,58,0,0,0,0,2,177,45,97,141,0,0,0,0,0,0,0,0,0,0,0,0,0,7,0,0,0,0,0,0,0,7,255,255,255,255,255,255,255,255,255,255,255,255,255,255,0,0,0,1,16,0,0,0,0,4,121,122,0] 5).1):Int)) then bif decide ([0,0,0,0,0,0,0,5,0,0,0,57,0,0,0,0,2,205,219,161,248,0,0,0,0,0,0,0,0,0,0,0,0,0,7,0,0,0,0,0,0,0,7,255,255,255,255,255,255,255,255,255,255,255,255,255,255,0,0,0,1,14,0,0,0,0,2,120,0,0,0,0,0,0,0,0,6,0,0,0,58,0,0,0,0,2,177,45,97,141,0,0,0,0,0,0,0,0,0,0,0,0,0,7,0,0,0,0,0,0,0,7,255,255,255,255,255,255,255,255,255,255,255,255,255,255,0,0,0,1,16,0,0,0,0,4,121,122,0].length≤4294967296) then bif decide ([0,0,0,0,0,0,0,6,0,0,0,58,0,0,0,0,2,177,45,97,141,0,0,0,0,0,0,0,0,0,0,0,0,0,7,0,0,0,0,0,0,0,7,255,255,255,255,255,255,255,255,255,255,255,255,255,255,0,0,0,1,16,0,0,0,0,4,121,122,0]=[0,0,0,0,0,0,0,6,0,0,0,58,0,0,0,0,2,177,45,97,141,0,0,0,0,0,0,0,0,0,0,0,0,0,7,0,0,0,0,0,0,0,7,255,255,255,255,255,255,255,255,255,255,255,255,255,255,0,0,0,1,16,0,0,0,0,4,121,122,0]) then bif (o4 [0,0,0,0,0,0,0,5,0,0,0,57,0,0,0,0,2,205,219,161,248,0,0,0,0,0,0,0,0,0,0,0,0,0,7,0,0,0,0,0,0,0,7,255,255,255,255,255,255,255,255,255,255,255,255,255,255,0,0,0,1,14,0,0,0,0,2,120,0,0,0,0,0,0,0,0,6,0,0,0,58,0,0,0,0,2,177,45,97,141,0,0,0,0,0,0,0,0,0,0,0,0,0,7,0,0,0,0,0,0,0,7,255,255,255,255,255,255,255,255,255,255,255,255,255,255,0,0,0,1,16,0,0,0,0,4,121,122,0] 5 3).1 == 5 then bif (o4 [0,0,0,0,0,0,0,5,0,0,0,57,0,0,0,0,2,205,219,161,248,0,0,0,0,0,0,0,0,0,0,0,0,0,7,0,0,0,0,0,0,0,7,255,255,255,255,255,255,255,255,255,255,255,255,255,255,0,0,0,1,14,0,0,0,0,2,120,0,0,0,0,0,0,0,0,6,0,0,0,58,0,0,0,0,2,177,45,97,141,0,0,0,0,0,0,0,0,0,0,0,0,0,7,0,0,0,0,0,0,0,7,255,255,255,255,255,255,255,255,255,255,255,255,255,255,0,0,0,1,16,0,0,0,0,4,121,122,0] 5 3).2.1 == 7 then oR (((o4 [0,0,0,0,0,0,0,5,0,0,0,57,0,0,0,0,2,205,219,161,248,0,0,0,0,0,0,0,0,0,0,0,0,0,7,0,0,0,0,0,0,0,7,255,255,255,255,255,255,255,255,255,255,255,255,255,255,0,0,0,1,14,0,0,0,0,2,120,0,0,0,0,0,0,0,0,6,0,0,0,58,0,0,0,0,2,177,45,97,141,0,0,0,0,0,0,0,0,0,0,0,0,0,7,0,0,0,0,0,0,0,7,255,255,255,255,255,255,255,255,255,255,255,255,255,255,0,0,0,1,16,0,0,0,0,4,121,122,0] 5 3).2.2,()),()) else oR ((false,()),()) else oR ((false,()),()) else oR ((false,()),()) else none else none else none else none else none else none else none
theorem AO:Io.run tt DG dr ux ff Tryd.f6 ((),())=pn:=by kernel_rfl
theorem DY:HcOk prog 6 (ah ff qI):=by
 refine cx (cs:=ue) (.cons Jb (.cons GK (.cons wk (.cons I1 (.cons I0 (.cons Ko (.cons CO .nil))))))) (lp:=ux) (fn:=Tryd.f6) ff (.done (by kernel_rfl)) qI ?_
 rintro ⟨⟨⟩,⟨⟩⟩ out hw ho
 cases ho
 have e:pn=oR ((true,()),()):=by kernel_rfl
 exact AO.trans e
def uL (b:LI):List bx→Int→Int→Bool
 |[],_,_=>true
 |e::es,p,q=>(decide (e.1=q)&&(decide (61≤e.2.2.2.1)&&(decide (p+e.2.2.2.1≤(b.length:Int))&&(decide ((an ((b.drop p.toNat).take e.2.2.2.1.toNat)).2=0)&&@decide (e=C6 (an ((b.drop p.toNat).take e.2.2.2.1.toNat)).1 p e.2.2.2.1) (Classical.propDecidable _)))))&&uL b es (p+e.2.2.2.1) (q+e.2.1)
def gJ:List bx→Int→Int→Int×Int
 |[],p,q=>(p,q)
 |e::es,p,q=>gJ es (p+e.2.2.2.1) (q+e.2.1)
theorem zi {b:LI}(hb:aR b):∀(k:Nat) (p q:Int),0≤p→p≤b.length→(b.length:Int)<p+k→uL b ((br b k p q).1.map (·.1)) p q=true∧gJ ((br b k p q).1.map (·.1)) p q=((br b k p q).2.1,(br b k p q).2.2.1)∧((br b k p q).2.2.2=0↔(br b k p q).2.1=b.length)
 |0,p,q,h0,h1,h2=>by omega
 |k+1,p,q,h0,h1,h2=>by
  unfold br
  split
  ·exact ⟨rfl,rfl,⟨fun _=>(by show p=b.length;omega),fun _=>rfl⟩⟩
  rename_i c1
  split
  ·rename_i c2
   exact ⟨rfl,rfl,⟨fun h=>absurd h c2,fun h=>(by have h:p=b.length:=h;omega)⟩⟩
  rename_i c2
  split
  ·rename_i c3
   exact ⟨rfl,rfl,⟨fun h=>absurd h c3,fun h=>(by have h:p=b.length:=h;omega)⟩⟩
  rename_i c3
  split
  ·exact ⟨rfl,rfl,⟨fun h=>absurd h (show (190:Int)≠0 by decide),fun h=>(by have h:p=b.length:=h;omega)⟩⟩
  rename_i c4
  have c2:(aj b p).2=0:=Classical.byContradiction c2
  have c3:=Classical.byContradiction c3
  have c4:=Classical.byContradiction c4
  have hm:=f5 c2
  obtain ⟨g1,g2,g3⟩:=zi hb k (p+(aj b p).1) (q+((an ((b.drop p.toNat).take (aj b p).1.toNat)).1.2.2.2.2.2.1.length:Int)) (by omega) (by omega) (by omega)
  refine ⟨?_,g2,g3⟩
  rw[zL]
  unfold uL
  rw[zA]
  refine ⟨?_,g1⟩
  simp only[zA,zB]
  exact ⟨c4,hm.1,hm.2.2.1,c3,rfl⟩
abbrev gX:Io:=⟨[dL,dd],[],[],[dB],none⟩
def uX (d:gX.In):Tr gX.Res:=.ite (decide (d.1.1.length≤4294950000)) (.ret (.ret ((true,()),()))) .no
abbrev BH:List (Nat×Hc):=[(6,ah ff qI),(8,ah jl wS),(7,ah fR qB),(10,ah gT uO),(9,ah iz wT),(11,ah fB p5)]
def Cb:Hd:=b8 BH
abbrev dk:Lo:=⟨⟨(.one (.hol (.sl 5 (Ty.int u8)))::b9 (.one (.ptr 5 0)::.one hI::.one hI::dZ (b9 (.one (.hol (.sl 32 ca))::.one hI::.one hI::ai (ai (ai (ai (ai (ai (ai (b9 (bN [])))))))))))),[none,none,none,none,none,some [.hol (.sl 32 ca),hI,hI,hI]]⟩,[(.ret,⟨(b9 (.one hL::ai (ai (ai (ai (ai (ai (ai (ai (dZ [])))))))))),[]⟩),(.exit 0,⟨(.one (.hol (.sl 5 (Ty.int u8)))::b9 (.one (.ptr 5 0)::.one hI::.one hI::.any::ai (ai (ai (ai (ai (ai (ai (ai (b9 [])))))))))),[none,none,none,none,none,some [.hol (.sl 32 ca),hI,hI,hI]]⟩)]⟩
def kf (d:dk.st.den):Tr (am dk.xs):=
 .ite (decide (d.1.2.1=0)&&(decide (d.1.2.2.2.2.1=(d.1.2.2.2.1.length:Int))&&(decide (d.1.2.2.2.2.2.1=0)&&(decide (d.1.1.length≤4294950000)&&uL d.1.1 d.1.2.2.2.1 d.1.2.1 d.1.2.2.1))))
  (.ret (.pan (.ret ((),((d.1.1,((gJ d.1.2.2.2.1 d.1.2.1 d.1.2.2.1).1,((gJ d.1.2.2.2.1 d.1.2.1 d.1.2.2.1).2,()))),d.2))))) .no
def qk:Lp:=cp [(7,aC dk kf)]
def pL {R:Type}(h2:LI)(h3 h4:Int)(h5:List ca.den)(h6 h7:Int)(h8:List ca.den)(h9 h10 h11:Int)(next:LI→Int→Int→List ca.den→Int→Int→List ca.den→Int→Int→Int→Option R)(out:am dk.xs→Option R):Option R:=bif decide (h7<h6) then bif decide (0≤h7)&&decide (h7<(↑h5.length:Int)) then bif (h5.getD h7.toNat (0,0,0,0,0,0,0,0,())).2.2.1 != h3 then out (.ret ((),((false,()),()))) else bif (h5.getD h7.toNat (0,0,0,0,0,0,0,0,())).1 != h4 then out (.ret ((),((false,()),()))) else bif decide ((h5.getD h7.toNat (0,0,0,0,0,0,0,0,())).2.2.2.1<1) then out (.ret ((),((false,()),()))) else bif decide ((h5.getD h7.toNat (0,0,0,0,0,0,0,0,())).2.1<1) then out (.ret ((),((false,()),()))) else bif decide (i64.wrap ((↑h2.length:Int) - h3)<(h5.getD h7.toNat (0,0,0,0,0,0,0,0,())).2.2.2.1) then out (.ret ((),((false,()),()))) else bif decide (h2.length≤4294967296) then bif decide ((List.drop h3.toNat (List.take (i64.wrap (h3+(h5.getD h7.toNat (0,0,0,0,0,0,0,0,())).2.2.2.1)).toNat h2)).length≤4294960000) then bif (an (List.drop h3.toNat (List.take (i64.wrap (h3+(h5.getD h7.toNat (0,0,0,0,0,0,0,0,())).2.2.2.1)).toNat h2))).2 != 0 then out (.ret ((),((false,()),()))) else bif (an (List.drop h3.toNat (List.take (i64.wrap (h3+(h5.getD h7.toNat (0,0,0,0,0,0,0,0,())).2.2.2.1)).toNat h2))).1.1 != (h5.getD h7.toNat (0,0,0,0,0,0,0,0,())).1 then out (.ret ((),((false,()),()))) else bif (↑(List.length (an (List.drop h3.toNat (List.take (i64.wrap (h3+(h5.getD h7.toNat (0,0,0,0,0,0,0,0,())).2.2.2.1)).toNat h2))).1.2.2.2.2.2.1):Int) != (h5.getD h7.toNat (0,0,0,0,0,0,0,0,())).2.1 then out (.ret ((),((false,()),()))) else bif (an (List.drop h3.toNat (List.take (i64.wrap (h3+(h5.getD h7.toNat (0,0,0,0,0,0,0,0,())).2.2.2.1)).toNat h2))).1.2.2.1 != (h5.getD h7.toNat (0,0,0,0,0,0,0,0,())).2.2.2.2.2.1 then out (.ret ((),((false,()),()))) else bif (an (List.drop h3.toNat (List.take (i64.wrap (h3+(h5.getD h7.toNat (0,0,0,0,0,0,0,0,())).2.2.2.1)).toNat h2))).1.2.2.2.1 != (h5.getD h7.toNat (0,0,0,0,0,0,0,0,())).2.2.2.2.2.2.1 then out (.ret ((),((false,()),()))) else bif (an (List.drop h3.toNat (List.take (i64.wrap (h3+(h5.getD h7.toNat (0,0,0,0,0,0,0,0,())).2.2.2.1)).toNat h2))).1.2.2.2.2.1 != (h5.getD h7.toNat (0,0,0,0,0,0,0,0,())).2.2.2.2.2.2.2.1 then out (.ret ((),((false,()),()))) else bif cq (an (List.drop h3.toNat (List.take (i64.wrap (h3+(h5.getD h7.toNat (0,0,0,0,0,0,0,0,())).2.2.2.1)).toNat h2))).1.2.2.2.2.2.1 != (h5.getD h7.toNat (0,0,0,0,0,0,0,0,())).2.2.2.2.1 then out (.ret ((),((false,()),()))) else next (h2) (i64.wrap (h3+(h5.getD h7.toNat (0,0,0,0,0,0,0,0,())).2.2.2.1)) (i64.wrap (h4+(h5.getD h7.toNat (0,0,0,0,0,0,0,0,())).2.1)) (h5) (h6) (i64.wrap (h7+1)) (h8) (h9) (h10) (h11) else none else none else none else out (.pan (.ret ((),((h2,(h3,(h4,()))),((h8,(h9,(h10,(h11,())))),())))))
def oN (n:Nat)(h2:LI)(h3 h4:Int)(h5:List ca.den)(h6 h7:Int)(h8:List ca.den)(h9 h10 h11:Int):Option (am dk.xs):=gO tt Cb dr qk 0 Tryd.f3 (ct Tryd.f3 0) n (dk.st.mk' ((h2,(h3,(h4,(h5,(h6,(h7,())))))),((h8,(h9,(h10,(h11,())))),()))) (bE dk.xs)
theorem Et (n:Nat)(h2:LI)(h3 h4:Int)(h5:List ca.den)(h6 h7:Int)(h8:List ca.den)(h9 h10 h11:Int):oN (n+1) h2 h3 h4 h5 h6 h7 h8 h9 h10 h11=pL h2 h3 h4 h5 h6 h7 h8 h9 h10 h11 (oN n) some:=by kernel_rfl
theorem yl (b:LI)(hb:aR b)(hl:b.length≤4294950000)(es:List bx)(hel:es.length≤maxLen)(es2:List bx)(l n w:Int):∀(k i:Nat) (p q:Int),uL b (es.drop i) p q=true→0≤p→p≤b.length→es.length<i+k→i≤es.length→
  oN k b p q es (es.length:Int) i es2 l n w=some (.pan (.ret ((),((b,((gJ (es.drop i) p q).1,((gJ (es.drop i) p q).2,()))),((es2,(l,(n,(w,())))),()))))):=by
 intro k
 induction k with
 |zero=>intro i p q _ _ _ h;omega
 |succ k ih=>
  intro i p q ht h0 h1 h2 h3
  rw[Et]
  unfold pL
  by_cases hi:i<es.length
  rotate_left
  ·refine bF (decide_eq_false (by omega)) ?_
   rw[zI (by omega)]
   rfl
  refine bT (decide_eq_true (by omega)) ?_
  refine bT (by simpa using hi) ?_
  have e1:List.getD es (i:Int).toNat (0,0,0,0,0,0,0,0,())=es[i]:=by rw[zG,aA hi]
  rw[e1,bH hi hel]
  rw[zE hi] at ht ⊢
  generalize es[i]=e at *
  unfold uL at ht
  simp only[zA,zB] at ht
  obtain ⟨⟨t1,t2,t3,t4,t5⟩,t6⟩:=ht
  have hx:=jf (kZ hb p.toNat e.2.2.2.1.toNat) t4
  have hd:List.drop p.toNat (List.take (p+e.2.2.2.1).toNat b)=(b.drop p.toNat).take e.2.2.2.1.toNat:=by
   rw[List.drop_take,show (p+e.2.2.2.1).toNat - p.toNat=e.2.2.2.1.toNat by omega]
  rw[af (n:=p+e.2.2.2.1) (by omega) (by omega),af (n:=(b.length:Int) - p) (by omega) (by omega),hd]
  have e2:gJ (e::es.drop (i+1)) p q=gJ (es.drop (i+1)) (p+e.2.2.2.1) (q+e.2.1):=rfl
  rw[e2]
  have hlen:((b.drop p.toNat).take e.2.2.2.1.toNat).length≤4294960000:=by rw[List.length_take,List.length_drop];omega
  obtain ⟨a0,a1,a2,m,a4,a5,a6,a7,⟨⟩⟩:=e
  simp only at t1 t2 t3 t4 t5 t6 hx hlen ⊢
  generalize an ((b.drop p.toNat).take m.toNat)=D at *
  obtain ⟨⟨(x1:Int),(x2:Int),(x3:Int),(x4:Int),(x5:Int),(rs:List bf),⟨⟩⟩,(z:Int)⟩:=D
  have t5:(a0,a1,a2,m,a4,a5,a6,a7,())=((x1,(rs.length:Int),p,m,cq rs,x3,x4,x5,()):bx):=t5
  simp only[zD,true_and,and_true] at t5
  obtain ⟨r0,r1,r2,r4,r5,r6,r7⟩:=t5
  have t4:z=0:=t4
  obtain ⟨y1,y2,y3,y4⟩:=hx
  have y1:0≤x1:=y1
  have y2:x1≤4611686018427387648:=y2
  have y3:1≤rs.length:=y3
  have y4:rs.length≤256:=y4
  subst r0 r1 r2 r4 r5 r6 r7 t4 t1
  refine (ac (bne_self_eq_false _) _ _).trans ?_
  refine (ac (bne_self_eq_false _) _ _).trans ?_
  refine bF (decide_eq_false (show ¬ m<1 by omega)) ?_
  refine bF (decide_eq_false (show ¬(rs.length:Int)<1 by omega)) ?_
  refine bF (decide_eq_false (by omega)) ?_
  refine bT (decide_eq_true (by omega)) ?_
  refine bT (decide_eq_true hlen) ?_
  refine (ac (bne_self_eq_false _) _ _).trans ?_
  refine (ac (bne_self_eq_false _) _ _).trans ?_
  refine (ac (bne_self_eq_false _) _ _).trans ?_
  refine (ac (bne_self_eq_false _) _ _).trans ?_
  refine (ac (bne_self_eq_false _) _ _).trans ?_
  refine (ac (bne_self_eq_false _) _ _).trans ?_
  refine (ac (bne_self_eq_false _) _ _).trans ?_
  rw[af (n:=a0+(rs.length:Int)) (by omega) (by omega)]
  exact ih (i+1) _ _ t6 (by omega) (by omega) (by omega) (by omega)
def tD (a0:LI)(a1:Int):Option gX.Res:=bif decide (a0.length≤4294967296) then bif decide (a0.length≤4294950000) then (kf ((a0,(0,(a1,((az a0 a1).1,((↑(List.length (az a0 a1).1):Int),(0,())))))),(((az a0 a1).1,((az a0 a1).2.1,((az a0 a1).2.2.1,((az a0 a1).2.2.2.1,())))),()))).run fun y=>match y with | .ret ((),((x41,()),()))=>(oR ((x41,()),())) | .pan (.ret ((),((x42,x43,x44,()),(x45,x46,x47,x48,()),())))=>(bif x46 == x43 then bif x47 == x44 then oR (((x48 == 0) == (x43 == (↑x42.length:Int)),()),()) else oR ((false,()),()) else oR ((false,()),())) else none else none
theorem G8 (a0:LI)(a1:Int):Io.run tt Cb dr qk gX Tryd.f3 ((a0,a1,()),())=tD a0 a1:=by kernel_rfl
theorem un:HcsOk prog BH:=.cons DY (.cons AB (.cons wk (.cons CO (.cons AC (.cons yG .nil)))))
theorem I3:HcOk prog 3 (ah gX uX):=by
 refine cx un (lp:=qk) (fn:=Tryd.f3) gX (.step (h0:=aC dk kf) (by kernel_rfl) (iB un (lp:=qk) (fn:=Tryd.f3) (.done (by kernel_rfl)) dk kf ?_) (.done (by kernel_rfl))) uX ?_
 ·rintro ⟨⟨(b:LI),(p:Int),(q:Int),(es:List bx),(m:Int),(i:Int),⟨⟩⟩,⟨⟨(es2:List bx),(l:Int),(n:Int),(w:Int),⟨⟩⟩,⟨⟩⟩⟩ y hw hy
  obtain ⟨hg,hy⟩:=Tr.guard hy
  simp only[zA,zB] at hg
  obtain ⟨h0,h1,h2,h3,h4⟩:=hg
  have h0:p=0:=h0
  have h1:m=(es.length:Int):=h1
  have h2:i=0:=h2
  have h3:b.length≤4294950000:=h3
  subst h0 h1 h2
  refine ⟨es.length+1,(yl b (bytesOf hw.1.1) h3 es hw.1.2.2.2.1.1 es2 l n w (es.length+1) 0 0 q h4 (by omega) (by omega) (by omega) (Nat.zero_le _)).trans ?_⟩
  rw[← hy,List.drop_zero];rfl
 ·rintro ⟨⟨(b:LI),(base:Int),⟨⟩⟩,⟨⟩⟩ out hw ho
  obtain ⟨hg,ho⟩:=Tr.guard ho
  have hg:b.length≤4294950000:=of_decide_eq_true hg
  cases ho
  have hb:aR b:=bytesOf hw.1.1
  refine (G8 b base).trans ?_
  unfold tD
  refine bT (decide_eq_true (by omega)) ?_
  refine bT (decide_eq_true hg) ?_
  unfold kf
  obtain ⟨k1,k2,k3⟩:=zi hb (b.length+1) 0 base (Int.le_refl 0) (by omega) (by omega)
  refine bT (by simp only[zA,zB];exact ⟨trivial,trivial,trivial,hg,k1⟩) ?_
  show (bif (az b base).2.1 == (gJ ((br b (b.length+1) 0 base).1.map (·.1)) 0 base).1 then bif (az b base).2.2.1 == (gJ ((br b (b.length+1) 0 base).1.map (·.1)) 0 base).2 then oR ((((az b base).2.2.2.1 == 0) == ((gJ ((br b (b.length+1) 0 base).1.map (·.1)) 0 base).1 == (b.length:Int)),()),()) else oR ((false,()),()) else oR ((false,()),()))=oR ((true,()),())
  rw[k2]
  refine (aa (beq_self_eq_true _) _ _).trans ?_
  refine (aa (beq_self_eq_true _) _ _).trans ?_
  have:(((az b base).2.2.2.1 == 0) == ((br b (b.length+1) 0 base).2.1 == (b.length:Int)))=true:=by
   rw[beq_iff_eq]
   by_cases c:(br b (b.length+1) 0 base).2.2.2=0
   ·rw[k3.1 c]
    rw[show (az b base).2.2.2.1=0 from c]
    simp
   ·have c2:(br b (b.length+1) 0 base).2.1≠b.length:=fun h=>c (k3.2 h)
    rw[show (az b base).2.2.2.1=(br b (b.length+1) 0 base).2.2.2 from rfl]
    rw[beq_eq_false_iff_ne.2 c,beq_eq_false_iff_ne.2 c2]
  rw[this]
end
end Go.Proofs.YthpcdhgpplmneaaDoor.Sym
namespace Go.Proofs.YthpcdhgpplmneaaDoor.Sym
open Go
open Go.IntKind (i8 i16 i32 i64 u8 u16 u32 u64)
open Go.ChangeShapes Go.WideShapes Go.ChangeAt Go.RowKit
noncomputable section
abbrev yd:List (String×DataW Unit):=[("leat/crc.rows",Rows.laid_leat_crc_rows)]
theorem J0:Tryd.prog.globalNamed "leat/crc.rows"=some 0:=by kernel_rfl
theorem Lw:(Tryd.prog.globals[0]?).map (·.type)=some ((Tryd.prog.globals[0]?).map (·.type)).get!:=by kernel_rfl
theorem LA:Tryd.prog.underlying ((Tryd.prog.globals[0]?).map (·.type)).get!=some (.array 16 106):=by kernel_rfl
theorem LS:Tryd.prog.underlying 106=some (.int .u32):=by kernel_rfl
theorem Lj:(Rows.laid_leat_crc_rows:DataW Unit)=.agg (pa.map fun n=>.lit (.int .u32 n)):=by kernel_rfl
set_option maxRecDepth 100000 in
theorem ze {W:World}(h:laidMetH Tryd.prog yd W):mU (S0 W) W:=by
 rw[MakeChecks.laidMetH_plain _ _ _ (by kernel_rfl)] at h
 obtain ⟨ps,⟨g0,t0,cs0,f0,p0,q0,hg0,ht0,hv0,hd0,_,_⟩,_,_⟩:=h
 obtain rfl:=Option.some.inj (J0.symm.trans hg0)
 obtain rfl:=Option.some.inj (Lw.symm.trans ht0)
 obtain ⟨xs,m,rfl,hx,hlen,hn,hel⟩:=DataW.trod_array LA hd0
 have c1:Tryd.prog.cellsOf 106=1:=by kernel_rfl
 intro g i hg hi
 have hg:g=0:=Nat.eq_of_beq_eq_true hg
 subst hg
 have hi:i<16:=hi
 have key:W.cell? ⟨0,i,none⟩=some (.int .u32 (dN (i:Int))):=by
  have h1:=hel i hi
  have h2:xs[i]?=some xs[i]:=List.getElem?_eq_getElem (by omega)
  rw[h2,c1] at h1
  obtain ⟨k,e1,e2,_⟩:=DataW.trod_int LS h1
  have h3:=World.var?_cell J0 hv0 i
  rw[h3]
  have h4:cs0.toList[i]?=some (.int .u32 k):=by
   have:((cs0.toList.drop (i*1)).take 1)[0]?=some (.int .u32 k):=by rw[e1];rfl
   rw[List.getElem?_take] at this
   simpa using this
  have h5:cs0[i]?=some (.int .u32 k):=by simpa using h4
  rw[h5]
  have hk:(pa.map fun n=>(DataW.lit (.int .u32 n):DataW Unit))[i]?=some (.lit (.int .u32 k)):=by
   have hx1:(.agg (pa.map fun n=>.lit (.int .u32 n)):DataW Unit)=.agg (xs.map (·.1)):=Lj.symm.trans (congrArg Prod.fst hx)
   have hx1:=DataW.agg.inj hx1
   rw[hx1,List.getElem?_map,h2]
   simp[e2]
  rw[List.getElem?_map] at hk
  have hs:dN (i:Int)=pa.getD i 0:=rfl
  rw[hs,List.getD_eq_getElem?_getD]
  cases ht:pa[i]? with
  |none=>rw[ht] at hk;cases hk
  |some x=>
   rw[ht] at hk
   simp only[Option.map_some,zC,DataW.lit.injEq,Lit.int.injEq] at hk
   rw[hk.2]
   rfl
 exact ⟨⟨_,key⟩,key⟩
theorem FA (os:Os)(args:Array Value):laidMetH Tryd.prog yd ((World.doorLaid Tryd.prog 400 os).forCall (fun _ _=>0) ⟨#[],args,[]⟩).memory:=
 laidMetH_of_parts3 (fuel:=8) (laidMet_of_run' 8 (by kernel_rfl) (by kernel_rfl)) (by kernel_rfl) (by kernel_rfl)
section
variable {H:Type} {enc:TypeId×Value→H}
theorem l7 {a:Assume}{C:Checked}{os:Os}{f:FuncId}{fn:Func}{s:OpenSpec}{k:(H:Type)→List (DataW H)→Bool}(hk:s.cond=some k){F:Stop.Interp}{conds:List PathCond}{apart fresh handsOn again:Bool}{laid:List (String×DataW Unit)}
  (own:ownKnob C.prog.godebug=none) (started:os.Started) (noInit:C.prog.inits.idxOf? f=none) (hfn:C.prog.funcs[f]?=some fn)
  (witness:∃(w:World) (tape:Tape) (i:Input),w.os=os∧(w.forCall tape i).Shaped C.prog∧i.vars=[]∧Input.okWide C.prog (w.forCall tape i) .any w.heap.size f i∧
   ((s.pre enc C.prog fn conds apart (w.forCall tape i).memory i.args∧laidMetH C.prog laid (w.forCall tape i).memory)∧sizedMet enc C.prog fn s apart (w.forCall tape i).memory i.args)∧a.holds C.prog (lone (Frame.enter C.prog f i.args .normal) [] (w.forCall tape i)))
  (contract:∀(W:World) (base:Nat) (args:Array Value) (ds gs:List (DataW H)) (before:List MemPlace),
   (∀(j:Nat) t v,fn.params[j]?=some t→args[j]?=some v→Value.okWide C.prog W .any base t v)→
   DataW.Whole enc C.prog fn.params.toList s.vars apart W args.toList ds gs before→k H (ds++gs)=true→laidMetH C.prog laid W→
   Calls C.prog f args W fun e W'=>∃v,e=.returned v∧(s.at F).post enc C.prog fn apart fresh handsOn again W args v W'):
  ReturnsInHanded a C os f .any (fun w args=>(s.pre enc C.prog fn conds apart w args∧laidMetH C.prog laid w)∧sizedMet enc C.prog fn s apart w args) ((s.at F).post enc C.prog fn apart fresh handsOn again):=by
 refine returnsInHanded_of_calls own started noInit witness ?_
 intro w tape i _ _ _ hok hpre hholds
 obtain ⟨_,_,_,fn',hfn',_,_,_,_,hval⟩:=hok
 have e:fn'=fn:=Option.some.inj (hfn'.symm.trans hfn)
 subst e
 obtain ⟨ds,gs,before,hw,hc,hkk⟩:=(OpenSpec.pre_some hk conds apart _ _).1 hpre.1.1
 have hw':=DataW.Whole.of_heap (w':=w.forCall tape i) (by rfl) hw
 refine (contract (w.forCall tape i) w.heap.size i.args ds gs before hval hw' hkk (hpre.1.2.of_heap (by rfl))).mono fun e W' ⟨v,he,hp⟩=>?_
 subst he
 exact ChangeSpec.post_blind hp
theorem wO {C:Checked}{os:Os}{f:FuncId}{fn:Func}{s:OpenSpec}{k:(H:Type)→List (DataW H)→Bool}(hk:s.cond=some k){apart:Bool}{laid:List (String×DataW Unit)}(w0:World)(args:Array Value)(fuel:Nat)(hos:w0.os=os)
  (hsh:(w0.forCall (fun _ _=>0) ⟨#[],args,[]⟩).Shaped C.prog)
  (hok:Input.okWideB C.prog (w0.forCall (fun _ _=>0) ⟨#[],args,[]⟩) f ⟨#[],args,[]⟩=true)
  {x:List (DataW H)×List (DataW H)×List MemPlace} (hx:DataW.whole enc C.prog (w0.forCall (fun _ _=>0) ⟨#[],args,[]⟩).memory fn.params.toList s.vars apart args.toList fuel=some x)
  (hkk:k H (x.1++x.2.1)=true)
  (hsz:s.bare.sizedB enc C.prog fn apart (w0.forCall (fun _ _=>0) ⟨#[],args,[]⟩).memory args fuel=true)
  (hl:laidMetH C.prog laid (w0.forCall (fun _ _=>0) ⟨#[],args,[]⟩).memory):
  ∃(w:World) (tape:Tape) (i:Input),w.os=os∧(w.forCall tape i).Shaped C.prog∧i.vars=[]∧Input.okWide C.prog (w.forCall tape i) .any w.heap.size f i∧
   ((s.pre enc C.prog fn [] apart (w.forCall tape i).memory i.args∧laidMetH C.prog laid (w.forCall tape i).memory)∧sizedMet enc C.prog fn s apart (w.forCall tape i).memory i.args)∧({}:Assume).holds C.prog (lone (Frame.enter C.prog f i.args .normal) [] (w.forCall tape i)):=
 ⟨w0,fun _ _=>0,⟨#[],args,[]⟩,hos,hsh,(Input.okWide_of_okWideB (base:=0) hok).1,(Input.okWide_of_okWideB hok).2,
  ⟨⟨(OpenSpec.pre_some hk [] apart _ _).2 ⟨x.1,x.2.1,x.2.2,DataW.Whole_of_whole hx,rfl,hkk⟩,hl⟩,sizedMet_of_sizedB hsz⟩,by
  simp only[Assume.holds]
  exact ⟨by simp,by simp,fun _=>Modest.zero,by simp,by simp⟩⟩
end
end
end Go.Proofs.YthpcdhgpplmneaaDoor.Sym
