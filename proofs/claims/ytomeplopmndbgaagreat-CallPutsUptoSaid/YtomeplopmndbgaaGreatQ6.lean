/- leatref11: requests and answers as trees. -/
import Derived.Test.YtomeplopmndbgaaGreatQ5

namespace Go.Proofs.YtomeplopmndbgaaGreat.Sym
open Go
set_option linter.unusedSimpArgs false
set_option linter.unusedVariables false
noncomputable section
abbrev ay (k n:Int):Nd:=.mk (k,(n,(false,(([]:List Int),())))) []
abbrev fN (s:List Int):Nd:=.mk (5,(0,(false,(s,())))) []
abbrev i4 (x:gP.den):Nd:=.mk (6,(0,(x.1,(x.2.1,())))) []
abbrev gU (x:pm.den):Nd:=.mk (8,(0,(x.1,(x.2.1,())))) []
abbrev bn (l:List Nd):Nd:=.mk (10,(0,(false,(([]:List Int),())))) l
abbrev bb (l:List Nd):Nd:=.mk (9,(0,(false,(([]:List Int),())))) l
theorem cO {n:Int}(h:ey .i32 n):IntKind.i64.wrap n=n:=by
 simp only[ey,IntKind.min,IntKind.max,IntKind.signed,IntKind.bits] at h
 simp at h
 exact aC (by omega) (by omega)
theorem ge {n:Int}(h:ey .i16 n):IntKind.i64.wrap n=n:=by
 simp only[ey,IntKind.min,IntKind.max,IntKind.signed,IntKind.bits] at h
 simp at h
 exact aC (by omega) (by omega)
def eH (p:bZ.den):Nd:=bn [ay 3 p.1,gU p.2.1]
theorem M2 {p:bZ.den}(h:bZ.wf p):bn [ay 3 (IntKind.i64.wrap p.1),gU p.2.1]=eH p:=by
 rw[cO h.1];rfl
def cv (t:ap.den):Nd:=bn [fN t.1,bb (t.2.1.map eH)]
@[irreducible] def bg (m:kr.den):Nd:=bn [i4 m.1,ay 2 m.2.1,ay 3 m.2.2.1,bb (m.2.2.2.1.map cv)]
theorem Sg (n:Nd):n.lab.2.2.2.1.length≤aP n:=by rw[cC];omega
theorem iu (n:Nd):aI n.kids≤aP n:=by rw[cC];omega
theorem o6 (n:Nd)(i:Int):aP (aZ n i)≤aP n:=by
 unfold aZ
 split
 ·rename_i h
  have hlt:i.toNat<n.kids.length:=by omega
  rw[aH hlt]
  have:=cY (List.getElem_mem hlt)
  have:=iu n
  omega
 ·have:=nH n
  have h0:=cG
  rw[cC (Tre.mk _ _)]
  show 1+0+aI []≤aP n
  omega
def lT (x:Nd):bZ.den:=(IntKind.i32.wrap (aZ x 0).lab.2.1,((aZ x 1).lab.2.2,()))
def jN (x:Nd):ap.den:=((aZ x 0).lab.2.2.2.1,((aZ x 1).kids.map lT,()))
@[irreducible] def rH (n:Nd):kr.den:=(((aZ n 0).lab.2.2.1,((aZ n 0).lab.2.2.2.1,())),(IntKind.i16.wrap (aZ n 1).lab.2.1,(IntKind.i32.wrap (aZ n 2).lab.2.1,((aZ n 3).kids.map jN,()))))
def kM (p:ga.den):Nd:=bn [ay 3 p.1,ay 2 p.2.1,ay 4 p.2.2.1,ay 4 p.2.2.2.1,ay 4 p.2.2.2.2.1]
theorem M1 {p:ga.den}(h:ga.wf p):bn [ay 3 (IntKind.i64.wrap p.1),ay 2 (IntKind.i64.wrap p.2.1),ay 4 p.2.2.1,ay 4 p.2.2.2.1,ay 4 p.2.2.2.2.1]=kM p:=by
 rw[cO h.1,ge h.2.1];rfl
def mP (t:aV.den):Nd:=bn [fN t.1,bb (t.2.1.map kM)]
@[irreducible] def eO (m:Hh.den):Nd:=bn [bb (m.1.map mP),ay 3 m.2.1]
def qp (x:Nd):ga.den:=(IntKind.i32.wrap (aZ x 0).lab.2.1,(IntKind.i16.wrap (aZ x 1).lab.2.1,((aZ x 2).lab.2.1,((aZ x 3).lab.2.1,((aZ x 4).lab.2.1,())))))
def qq (x:Nd):aV.den:=((aZ x 0).lab.2.2.2.1,((aZ x 1).kids.map qp,()))
@[irreducible] def Py (n:Nd):Hh.den:=((aZ n 0).kids.map qq,(IntKind.i32.wrap (aZ n 1).lab.2.1,()))
abbrev f5:Io:=⟨[.dat kr true false],[],[],[cQ],none⟩
def cF (l:List ap.den):Bool:=decide (l.length≤4294967296)&&l.all fun t=>decide (t.2.1.length≤4294967296)
def qM (d:f5.In):Tr f5.Res:=.ite (cF d.1.1.2.2.2.1) (.ret (.ret ((bg d.1.1,()),()))) .no
abbrev n8:List (Nat×Hc):=[(181,ah jz tD),(182,ah gf pO),(180,ah kl wS),(183,ah hJ pP),(184,ah gg nP),(185,ah kc yj)]
def sC:Hd:=bA n8
abbrev dz:Lo:=⟨⟨(.any::.one (.ptr 1 0)::.one (.ptr 2 0)::.one (.onl 91 ao 7)::.one (.hol (.int IntKind.i64))::.one (.onl 91 ao 11)::.one (.hol (.int IntKind.i64))::.any::ai (ai (ai (ai (bQ (bh [])))))),[none,some [.hol .bool,.hol .str,.hol (.int IntKind.i16),.hol (.int IntKind.i32),.hol (.sl 172 ap)],some [.hol (.int IntKind.i64),.hol (.int IntKind.i64),.hol .bool,.onl 5 (Ty.int IntKind.u8) 1032,.onl 91 ao 1034]]⟩,[(.exit 2,⟨(.any::.one (.ptr 1 0)::.one (.ptr 2 0)::.one (.onl 91 ao 7)::.one (.hol (.int IntKind.i64))::.one (.onl 91 ao 11)::ai (ai (ai (ai (dR []))))),[none,some [.hol .bool,.hol .str,.hol (.int IntKind.i16),.hol (.int IntKind.i32),.hol (.sl 172 ap)],some [.hol (.int IntKind.i64),.hol (.int IntKind.i64),.hol .bool,.onl 5 (Ty.int IntKind.u8) 1032,.onl 91 ao 1034]]⟩)]⟩
abbrev dy:Lo:=⟨⟨(.any::.one (.ptr 1 0)::.one (.ptr 2 0)::.one (.onl 91 ao 7)::.one (.hol (.int IntKind.i64))::.any::ai (ai (ai (ai (dR []))))),[none,some [.hol .bool,.hol .str,.hol (.int IntKind.i16),.hol (.int IntKind.i32),.hol (.sl 172 ap)],some [.hol (.int IntKind.i64),.hol (.int IntKind.i64),.hol .bool,.onl 5 (Ty.int IntKind.u8) 1032,.onl 91 ao 1034]]⟩,[(.exit 0,⟨(.any::.one (.ptr 1 0)::.one (.ptr 2 0)::.one (.onl 91 ao 7)::ai (ai (ai (ai (dR (bh [])))))),[none,some [.hol .bool,.hol .str,.hol (.int IntKind.i16),.hol (.int IntKind.i32),.hol (.sl 172 ap)],some [.hol (.int IntKind.i64),.hol (.int IntKind.i64),.hol .bool,.onl 5 (Ty.int IntKind.u8) 1032,.onl 91 ao 1034]]⟩)]⟩
def mh (d:dz.st.den):Tr (aD dz.xs):=
 .ite ((decide ((0:Int)≤d.1.2.1)&&decide (d.1.2.1<(d.2.1.2.2.2.2.1.length:Int)))&&((decide (d.1.2.2.1.length=0)&&decide (d.1.2.2.2.1=0))&&decide ((d.2.1.2.2.2.2.1.getD d.1.2.1.toNat ap.zero).2.1.length≤4294967296)))
  (.ret (.ret ((),((d.1.1,(d.1.2.1,((d.2.1.2.2.2.2.1.getD d.1.2.1.toNat ap.zero).2.1.map eH,()))),(d.2.1,(d.2.2.1,())))))) .no
def mg (d:dy.st.den):Tr (aD dy.xs):=
 .ite ((decide (d.1.1.length=0)&&decide (d.1.2.1=0))&&cF d.2.1.2.2.2.2.1)
  (.ret (.ret ((),((d.2.1.2.2.2.2.1.map cv,()),(d.2.1,(d.2.2.1,())))))) .no
def jI:Lp:=bv [(4,aN dy mg),(8,aN dz mh)]
def qE {R:Type}(h17:List ao.den)(h18:Int)(h19:List ao.den)(h20:Int)(h21:Bool)(h22:List Int)(h23 h24:Int)(h25:List ap.den)(h26 h27:Int)(h28:Bool)(h29:List Int)(h30:List ao.den)(next:List ao.den→Int→List ao.den→Int→Bool→List Int→Int→Int→List ap.den→Int→Int→Bool→List Int→List ao.den→Option R)(out:aD dz.xs→Option R):Option R:=bif decide (0≤h18)&&decide (h18<(↑h25.length:Int)) then bif decide (h20<(↑(List.length (h25.getD h18.toNat ([],[],())).2.1):Int)) then bif decide (0≤h18)&&decide (h18<(↑h25.length:Int)) then bif decide (0≤h20)&&decide (h20<(↑(List.length (h25.getD h18.toNat ([],[],())).2.1):Int)) then bif decide (h19.length+1≤4294967296) then next (h17) (h18) (h19++[Tre.mk (10,0,false,[],()) [Tre.mk (3,IntKind.i64.wrap (List.getD (h25.getD h18.toNat ([],[],())).2.1 h20.toNat (0,(false,[],()),())).1,false,[],()) [],Tre.mk (8,0,(List.getD (h25.getD h18.toNat ([],[],())).2.1 h20.toNat (0,(false,[],()),())).2.1) []]]) (IntKind.i64.wrap (h20+1)) (h21) (h22) (h23) (h24) (h25) (h26) (h27) (h28) (h29) (h30) else none else none else none else out (.ret ((),((h17,(h18,(h19,()))),((h21,(h22,(h23,(h24,(h25,()))))),((h26,(h27,(h28,(h29,(h30,()))))),()))))) else none
def kI (n:Nat)(h17:List ao.den)(h18:Int)(h19:List ao.den)(h20:Int)(h21:Bool)(h22:List Int)(h23 h24:Int)(h25:List ap.den)(h26 h27:Int)(h28:Bool)(h29:List Int)(h30:List ao.den):Option (aD dz.xs):=gd tt sC dr jI 0 Tryz.f84 (wP Tryz.f84 (cE Tryz.f84 0) 0) n (dz.st.mk' ((h17,(h18,(h19,(h20,())))),((h21,(h22,(h23,(h24,(h25,()))))),((h26,(h27,(h28,(h29,(h30,()))))),())))) (bL dz.xs)
theorem GW (n:Nat)(h17:List ao.den)(h18:Int)(h19:List ao.den)(h20:Int)(h21:Bool)(h22:List Int)(h23 h24:Int)(h25:List ap.den)(h26 h27:Int)(h28:Bool)(h29:List Int)(h30:List ao.den):kI (n+1) h17 h18 h19 h20 h21 h22 h23 h24 h25 h26 h27 h28 h29 h30=qE h17 h18 h19 h20 h21 h22 h23 h24 h25 h26 h27 h28 h29 h30 (kI n) some:=by kernel_rfl
def qD {R:Type}(h5:List ao.den)(h6:Int)(h7:Bool)(h8:List Int)(h9 h10:Int)(h11:List ap.den)(h12 h13:Int)(h14:Bool)(h15:List Int)(h16:List ao.den)(next:List ao.den→Int→Bool→List Int→Int→Int→List ap.den→Int→Int→Bool→List Int→List ao.den→Option R)(out:aD dy.xs→Option R):Option R:=bif decide (h6<(↑h11.length:Int)) then (mh ((h5,(h6,([],(0,())))),((h7,(h8,(h9,(h10,(h11,()))))),((h12,(h13,(h14,(h15,(h16,()))))),())))).run fun y=>match y with | .ret ((),((x58,x59,x60,()),(x61,x62,x63,x64,x65,()),(x66,x67,x68,x69,x70,()),()))=>(bif decide (0≤x59)&&decide (x59<(↑x65.length:Int)) then bif decide (x58.length+1≤4294967296) then next (x58++[Tre.mk (10,0,false,[],()) [Tre.mk (5,0,false,(x65.getD x59.toNat ([],[],())).1,()) [],Tre.mk (9,0,false,[],()) x60]]) (IntKind.i64.wrap (x59+1)) (x61) (x62) (x63) (x64) (x65) (x66) (x67) (x68) (x69) (x70) else none else none) else out (.ret ((),((h5,()),((h7,(h8,(h9,(h10,(h11,()))))),((h12,(h13,(h14,(h15,(h16,()))))),())))))
def kH (n:Nat)(h5:List ao.den)(h6:Int)(h7:Bool)(h8:List Int)(h9 h10:Int)(h11:List ap.den)(h12 h13:Int)(h14:Bool)(h15:List Int)(h16:List ao.den):Option (aD dy.xs):=gd tt sC dr jI 0 Tryz.f84 (cE Tryz.f84 0) n (dy.st.mk' ((h5,(h6,())),((h7,(h8,(h9,(h10,(h11,()))))),((h12,(h13,(h14,(h15,(h16,()))))),())))) (bL dy.xs)
theorem GV (n:Nat)(h5:List ao.den)(h6:Int)(h7:Bool)(h8:List Int)(h9 h10:Int)(h11:List ap.den)(h12 h13:Int)(h14:Bool)(h15:List Int)(h16:List ao.den):kH (n+1) h5 h6 h7 h8 h9 h10 h11 h12 h13 h14 h15 h16=qD h5 h6 h7 h8 h9 h10 h11 h12 h13 h14 h15 h16 (kH n) some:=by kernel_rfl
theorem AK {ts:List ap.den}(hw:∀t∈ts,ap.wf t)(hl:ts.length≤maxLen){i:Nat}(hi:i<ts.length)(hp:(ts[i]).2.1.length≤4294967296)(acc:List Nd)(nz:Bool)(ns:List Int)(ak wt a' b':Int)(z':Bool)(x':List Int)(l':List Nd):∀(k j:Nat) (o:List Nd),(ts[i]).2.1.length<j+k→j≤(ts[i]).2.1.length→o.length≤j→
  kI k acc i o j nz ns ak wt ts a' b' z' x' l'=some (.ret ((),((acc,((i:Int),(o++((ts[i]).2.1.drop j).map eH,()))),((nz,(ns,(ak,(wt,(ts,()))))),((a',(b',(z',(x',(l',()))))),()))))):=by
 intro k
 induction k with
 |zero=>intro j o h1 h2;omega
 |succ k ih=>
  intro j o h1 h2 h3
  rw[GW]
  unfold qE
  refine (aa (by simp;omega) _ _).trans ?_
  have hti:=hw _ (List.getElem_mem hi)
  simp only[Int.toNat_natCast,aH hi]
  generalize ts[i]=t at hp h1 h2 ih hti ⊢
  by_cases hj:j<t.2.1.length
  ·refine (aa (decide_eq_true (show (j:Int)<(t.2.1.length:Int) by omega)) _ _).trans ?_
   refine (aa (by simp;omega) _ _).trans ?_
   refine (aa (by simp;omega) _ _).trans ?_
   refine (aa (decide_eq_true (show o.length+1≤4294967296 by omega)) _ _).trans ?_
   have hpw:=hti.2.1.2 _ (List.getElem_mem hj)
   have ih':=ih (j+1) (o++[eH t.2.1[j]]) (by omega) (by omega) (by simp;omega)
   have hd:t.2.1.drop j=t.2.1[j]::t.2.1.drop (j+1):=List.drop_eq_getElem_cons hj
   rw[hd,aC (n:=(j:Int)+1) (by omega) (by omega)]
   have hgp:List.getD t.2.1 ((j:Int)).toNat bZ.zero=t.2.1[j]:=by simp only[Int.toNat_natCast];exact aH hj
   refine Eq.trans ?_ (ih'.trans ?_)
   ·refine congrArg (fun x=>kI k acc i (o++[x]) _ nz ns ak wt ts a' b' z' x' l') ?_
    show bn [ay 3 (IntKind.i64.wrap (List.getD t.2.1 ((j:Int)).toNat bZ.zero).1),gU (List.getD t.2.1 ((j:Int)).toNat bZ.zero).2.1]=_
    rw[hgp]
    exact M2 hpw
   ·simp only[List.map_cons,List.append_assoc,List.singleton_append]
  ·refine (ab (decide_eq_false (show ¬(j:Int)<(t.2.1.length:Int) by omega)) _ _).trans ?_
   rw[List.drop_of_length_le (by omega)]
   simp
theorem AJ {ts:List ap.den}(hw:∀t∈ts,ap.wf t)(hl:ts.length≤maxLen)(hs:cF ts=true)(nz:Bool)(ns:List Int)(ak wt a' b':Int)(z':Bool)(x':List Int)(l':List Nd):∀(k j:Nat) (o:List Nd),ts.length<j+k→j≤ts.length→o.length≤j→
  kH k o j nz ns ak wt ts a' b' z' x' l'=some (.ret ((),((o++(ts.drop j).map cv,()),((nz,(ns,(ak,(wt,(ts,()))))),((a',(b',(z',(x',(l',()))))),()))))):=by
 intro k
 have hs1:=(Bool.and_eq_true _ _▸hs).1
 have hs2:=(Bool.and_eq_true _ _▸hs).2
 have hs1:ts.length≤4294967296:=of_decide_eq_true hs1
 induction k with
 |zero=>intro j o h1 h2;omega
 |succ k ih=>
  intro j o h1 h2 h3
  rw[GV]
  unfold qD
  by_cases hj:j<ts.length
  ·refine (aa (decide_eq_true (show (j:Int)<(ts.length:Int) by omega)) _ _).trans ?_
   have hgp:ts.getD ((j:Int)).toNat ap.zero=ts[j]:=by simp only[Int.toNat_natCast];exact aH hj
   have hpl:(ts[j]).2.1.length≤4294967296:=of_decide_eq_true (List.all_eq_true.1 hs2 _ (List.getElem_mem hj))
   have c8:((decide ((0:Int)≤(j:Int))&&decide ((j:Int)<(ts.length:Int)))&&((decide (([]:List Nd).length=0)&&decide ((0:Int)=0))&&decide ((ts.getD ((j:Int)).toNat ap.zero).2.1.length≤4294967296)))=true:=by
    rw[hgp];simp;omega
   refine (aa c8 _ _).trans ?_
   refine (aa (by simp;omega) _ _).trans ?_
   refine (aa (decide_eq_true (show o.length+1≤4294967296 by omega)) _ _).trans ?_
   rw[aC (n:=(j:Int)+1) (by omega) (by omega)]
   have ih':=ih (j+1) (o++[cv ts[j]]) (by omega) (by omega) (by simp;omega)
   have hd:ts.drop j=ts[j]::ts.drop (j+1):=List.drop_eq_getElem_cons hj
   rw[hd]
   refine Eq.trans ?_ (ih'.trans ?_)
   ·refine congrArg (fun x=>kH k (o++[x]) _ nz ns ak wt ts a' b' z' x' l') ?_
    show (bn [fN (ts.getD ((j:Int)).toNat ap.zero).1,bb ((ts.getD ((j:Int)).toNat ap.zero).2.1.map eH)])=_
    rw[hgp];rfl
   ·simp only[List.map_cons,List.append_assoc,List.singleton_append]
  ·refine (ab (decide_eq_false (show ¬(j:Int)<(ts.length:Int) by omega)) _ _).trans ?_
   rw[List.drop_of_length_le (by omega)]
   simp
def tZ (a0:Bool)(a1:List Int)(a2 a3:Int)(a4:List ap.den):Option f5.Res:=(mg (([],(0,())),((a0,(a1,(a2,(a3,(a4,()))))),((0,(0,(false,([],([],()))))),())))).run fun y=>match y with | .ret ((),((x94,()),(x95,x96,x97,x98,x99,()),(x100,x101,x102,x103,x104,()),()))=>(some (Out.ret ((Tre.mk (10,0,false,[],()) [Tre.mk (6,0,x95,x96,()) [],Tre.mk (2,IntKind.i64.wrap x97,false,[],()) [],Tre.mk (3,IntKind.i64.wrap x98,false,[],()) [],Tre.mk (9,0,false,[],()) x94],()),())))
theorem J2 (a0:Bool)(a1:List Int)(a2 a3:Int)(a4:List ap.den):Io.run tt sC dr jI f5 Tryz.f84 ((((a0,a1,()),a2,a3,a4,()),()),())=tZ a0 a1 a2 a3 a4:=by kernel_rfl
theorem Ba:HcOk prog 84 (ah f5 qM):=by
 refine aj (n:=400) hm (cs:=n8) (.cons eM (.cons gD (.cons fO (.cons dQ (.cons c7 (.cons nC .nil)))))) (lp:=jI) (fn:=Tryz.f84) (by kernel_rfl) (by kernel_rfl) (by kernel_rfl) f5 (.step (h0:=aN dy mg) (by kernel_rfl) (aw (n:=400) hm (cs:=n8) (.cons eM (.cons gD (.cons fO (.cons dQ (.cons c7 (.cons nC .nil)))))) (lp:=jI) (fn:=Tryz.f84) (.step (h0:=aN dz mh) (by kernel_rfl) (aw (n:=400) hm (cs:=n8) (.cons eM (.cons gD (.cons fO (.cons dQ (.cons c7 (.cons nC .nil)))))) (lp:=jI) (fn:=Tryz.f84) (.done (by kernel_rfl)) dz mh ?_) (.done (by kernel_rfl))) dy mg ?_) (.done (by kernel_rfl))) qM ?_
 ·rintro ⟨⟨(acc:List Nd),(i:Int),(o:List Nd),(j:Int),⟨⟩⟩,⟨⟨(nz:Bool),(ns:List Int),(ak:Int),(wt:Int),(ts:List ap.den),⟨⟩⟩,⟨(a':Int),(b':Int),(z':Bool),(x':List Int),(l':List Nd),⟨⟩⟩,⟨⟩⟩⟩ y hw hy
  obtain ⟨hg,hy⟩:=Tr.guard hy
  simp only[Bool.and_eq_true,decide_eq_true_eq] at hg
  obtain ⟨⟨h1,h2⟩,⟨h3,h4⟩,h5⟩:=hg
  have h1:0≤i:=h1
  have h2:i<(ts.length:Int):=h2
  have h3:o=[]:=List.eq_nil_of_length_eq_zero h3
  have h4:j=0:=h4
  obtain ⟨i,rfl⟩:=cZ h1
  subst h3
  subst h4
  have hi:i<ts.length:=by omega
  have hgp:ts.getD ((i:Int)).toNat ap.zero=ts[i]:=by simp only[Int.toNat_natCast];exact aH hi
  have h5:(ts.getD ((i:Int)).toNat ap.zero).2.1.length≤4294967296:=h5
  rw[hgp] at h5
  have hwt:ts.length≤maxLen∧∀t∈ts,ap.wf t:=by have:=hw.2.1.2.2.2.2.1;exact this
  refine ⟨(ts[i]).2.1.length+1,(AK hwt.2 hwt.1 hi h5 acc nz ns ak wt a' b' z' x' l' ((ts[i]).2.1.length+1) 0 [] (by omega) (by omega) (by simp)).trans ?_⟩
  rw[← hy,← hgp,List.drop_zero]
  rfl
 ·rintro ⟨⟨(o:List Nd),(j:Int),⟨⟩⟩,⟨⟨(nz:Bool),(ns:List Int),(ak:Int),(wt:Int),(ts:List ap.den),⟨⟩⟩,⟨(a':Int),(b':Int),(z':Bool),(x':List Int),(l':List Nd),⟨⟩⟩,⟨⟩⟩⟩ y hw hy
  obtain ⟨hg,hy⟩:=Tr.guard hy
  simp only[Bool.and_eq_true,decide_eq_true_eq] at hg
  obtain ⟨⟨h3,h4⟩,h5⟩:=hg
  have h3:o=[]:=List.eq_nil_of_length_eq_zero h3
  have h4:j=0:=h4
  have h5:cF ts=true:=h5
  subst h3
  subst h4
  have hwt:ts.length≤maxLen∧∀t∈ts,ap.wf t:=by have:=hw.2.1.2.2.2.2.1;exact this
  refine ⟨ts.length+1,(AJ hwt.2 hwt.1 h5 nz ns ak wt a' b' z' x' l' (ts.length+1) 0 [] (by omega) (by omega) (by simp)).trans ?_⟩
  rw[← hy,List.drop_zero]
  rfl
 ·rintro ⟨⟨⟨⟨(nz:Bool),(ns:List Int),⟨⟩⟩,(ak:Int),(wt:Int),(ts:List ap.den),⟨⟩⟩,⟨⟩⟩,⟨⟩⟩ out hw ho
  obtain ⟨hg,ho⟩:=Tr.guard ho
  have hg:cF ts=true:=hg
  cases ho
  refine (J2 nz ns ak wt ts).trans ?_
  unfold tZ
  have c1:((decide (([]:List Nd).length=0)&&decide ((0:Int)=0))&&cF ts)=true:=by rw[hg];rfl
  refine (aa c1 _ _).trans ?_
  show _=some (Out.ret ((bg ((nz,(ns,())),(ak,(wt,(ts,())))),()),()))
  unfold bg
  have h1:IntKind.i64.wrap ak=ak:=ge hw.1.1.2.1
  have h2:IntKind.i64.wrap wt=wt:=cO hw.1.1.2.2.1
  show some (Out.ret ((bn [i4 (nz,(ns,())),ay 2 (IntKind.i64.wrap ak),ay 3 (IntKind.i64.wrap wt),bb (ts.map cv)],()),()))=_
  rw[h1,h2]
abbrev lG:Io:=⟨[cQ],[],[],[.dat kr true false],none⟩
def Fr (d:lG.In):Tr lG.Res:=.ite (decide (aP d.1.1≤4294967296)) (.ret (.ret ((rH d.1.1,()),()))) .no
abbrev ua:List (Nat×Hc):=[(164,ah up SK),(163,ah jy zd),(165,ah jx zc)]
def Ao:Hd:=bA ua
abbrev d6:Lo:=⟨⟨(bh (.one (.ptr 2 0)::.one (.ptr 3 0)::.one (.hol (.sl 91 ao))::.one (.hol (.int IntKind.i64))::.one (.ptr 6 0)::.one (.hol (.sl 91 ao))::.one (.hol (.int IntKind.i64))::.any::ai (ai (ai (ai (bh [])))))),[none,none,some [.hol .bool,.hol .str,.hol (.int IntKind.i16),.hol (.int IntKind.i32),.onl 172 ap 1034],some [.hol .bool,.hol .str,.hol (.int IntKind.i16),.hol (.int IntKind.i32),.onl 172 ap 1546],none,none,some [.hol .str,.onl 178 bZ 3076]]⟩,[(.exit 2,⟨(bh (.one (.ptr 2 0)::.one (.ptr 3 0)::.one (.hol (.sl 91 ao))::.one (.hol (.int IntKind.i64))::.one (.ptr 6 0)::.any::ai (ai (ai (ai (bQ [])))))),[none,none,some [.hol .bool,.hol .str,.hol (.int IntKind.i16),.hol (.int IntKind.i32),.onl 172 ap 1034],some [.hol .bool,.hol .str,.hol (.int IntKind.i16),.hol (.int IntKind.i32),.onl 172 ap 1546],none,none,some [.hol .str,.onl 178 bZ 3076]]⟩)]⟩
abbrev fi:Lo:=⟨⟨(bh (.one (.ptr 2 0)::.one (.ptr 3 0)::.one (.hol (.sl 91 ao))::.one (.hol (.int IntKind.i64))::ai (ai (ai (ai (bQ (bh []))))))),[none,none,some [.hol .bool,.hol .str,.hol (.int IntKind.i16),.hol (.int IntKind.i32),.onl 172 ap 1034],some [.hol .bool,.hol .str,.hol (.int IntKind.i16),.hol (.int IntKind.i32),.onl 172 ap 1546]]⟩,[(.exit 0,⟨(bh (.one (.ptr 2 0)::.one (.ptr 3 0)::ai (ai (ai (ai (dR [])))))),[none,none,some [.hol .bool,.hol .str,.hol (.int IntKind.i16),.hol (.int IntKind.i32),.onl 172 ap 1034],some [.hol .bool,.hol .str,.hol (.int IntKind.i16),.hol (.int IntKind.i32),.onl 172 ap 1546]]⟩)]⟩
def nR (d:d6.st.den):Tr (aD d6.xs):=
 .ite ((decide (d.1.2.2.2.1=0)&&decide (d.2.2.2.1.2.1.length=0))&&decide (aI d.1.2.2.1≤4294967296))
  (.ret (.ret ((),((d.1.1,(d.1.2.1,())),(d.2.1,(d.2.2.1,((d.2.2.2.1.1,(d.1.2.2.1.map lT,())),()))))))) .no
def qN (d:fi.st.den):Tr (aD fi.xs):=
 .ite ((decide (d.1.2.1=0)&&decide (d.2.2.1.2.2.2.2.1.length=0))&&decide (aI d.1.1≤4294967296))
  (.ret (.ret ((),((),(d.2.1,((d.2.2.1.1,(d.2.2.1.2.1,(d.2.2.1.2.2.1,(d.2.2.1.2.2.2.1,(d.1.1.map jN,()))))),())))))) .no
def nw:Lp:=bv [(5,aN fi qN),(10,aN d6 nR)]
def sb {R:Type}(h13:List (Nd))(h14:Int)(h15:List (Nd))(h16:Int)(h17:Bool)(h18:List Int)(h19 h20:Int)(h21:List ap.den)(h22:Bool)(h23:List Int)(h24 h25:Int)(h26:List ap.den)(h27:List Int)(h28:List bZ.den)(next:List (Nd)→Int→List (Nd)→Int→Bool→List Int→Int→Int→List ap.den→Bool→List Int→Int→Int→List ap.den→List Int→List bZ.den→Option R)(out:aD d6.xs→Option R):Option R:=bif decide (h16<(↑h15.length:Int)) then bif decide (0≤h16)&&decide (h16<(↑h15.length:Int)) then bif decide (0≤h16)&&decide (h16<(↑h15.length:Int)) then bif decide (List.length (aZ (Tre.mk (h15.getD h16.toNat (Tre.mk (0,0,false,[],()) [])).1 (h15.getD h16.toNat (Tre.mk (0,0,false,[],()) [])).2) 1).1.2.2.2.1≤4294967296) then bif decide (h28.length+1≤4294967296) then next (h13) (h14) (h15) (IntKind.i64.wrap (h16+1)) (h17) (h18) (h19) (h20) (h21) (h22) (h23) (h24) (h25) (h26) (h27) (h28++[(IntKind.i32.wrap (aZ (Tre.mk (h15.getD h16.toNat (Tre.mk (0,0,false,[],()) [])).1 (h15.getD h16.toNat (Tre.mk (0,0,false,[],()) [])).2) 0).1.2.1,(aZ (Tre.mk (h15.getD h16.toNat (Tre.mk (0,0,false,[],()) [])).1 (h15.getD h16.toNat (Tre.mk (0,0,false,[],()) [])).2) 1).1.2.2,())]) else none else none else none else none else out (.ret ((),((h13,(h14,())),((h17,(h18,(h19,(h20,(h21,()))))),((h22,(h23,(h24,(h25,(h26,()))))),((h27,(h28,())),()))))))
def qc (n:Nat)(h13:List (Nd))(h14:Int)(h15:List (Nd))(h16:Int)(h17:Bool)(h18:List Int)(h19 h20:Int)(h21:List ap.den)(h22:Bool)(h23:List Int)(h24 h25:Int)(h26:List ap.den)(h27:List Int)(h28:List bZ.den):Option (aD d6.xs):=gd tt Ao dr nw 0 Tryz.f71 (wP Tryz.f71 (cE Tryz.f71 0) 0) n (d6.st.mk' ((h13,(h14,(h15,(h16,())))),((h17,(h18,(h19,(h20,(h21,()))))),((h22,(h23,(h24,(h25,(h26,()))))),((h27,(h28,())),()))))) (bL d6.xs)
theorem Ka (n:Nat)(h13:List (Nd))(h14:Int)(h15:List (Nd))(h16:Int)(h17:Bool)(h18:List Int)(h19 h20:Int)(h21:List ap.den)(h22:Bool)(h23:List Int)(h24 h25:Int)(h26:List ap.den)(h27:List Int)(h28:List bZ.den):qc (n+1) h13 h14 h15 h16 h17 h18 h19 h20 h21 h22 h23 h24 h25 h26 h27 h28=sb h13 h14 h15 h16 h17 h18 h19 h20 h21 h22 h23 h24 h25 h26 h27 h28 (qc n) some:=by kernel_rfl
def vn {R:Type}(h1:List (Nd))(h2:Int)(h3:Bool)(h4:List Int)(h5 h6:Int)(h7:List ap.den)(h8:Bool)(h9:List Int)(h10 h11:Int)(h12:List ap.den)(next:List (Nd)→Int→Bool→List Int→Int→Int→List ap.den→Bool→List Int→Int→Int→List ap.den→Option R)(out:aD fi.xs→Option R):Option R:=bif decide (h2<(↑h1.length:Int)) then bif decide (0≤h2)&&decide (h2<(↑h1.length:Int)) then bif decide (0≤h2)&&decide (h2<(↑h1.length:Int)) then (nR ((h1,(h2,((aZ (Tre.mk (h1.getD h2.toNat (Tre.mk (0,0,false,[],()) [])).1 (h1.getD h2.toNat (Tre.mk (0,0,false,[],()) [])).2) 1).2,(0,())))),((h3,(h4,(h5,(h6,(h7,()))))),((h8,(h9,(h10,(h11,(h12,()))))),(((aZ (Tre.mk (h1.getD h2.toNat (Tre.mk (0,0,false,[],()) [])).1 (h1.getD h2.toNat (Tre.mk (0,0,false,[],()) [])).2) 0).1.2.2.2.1,([],())),()))))).run fun y=>match y with | .ret ((),((x59,x60,()),(x61,x62,x63,x64,x65,()),(x66,x67,x68,x69,x70,()),(x71,x72,()),()))=>(bif decide (x70.length+1≤4294967296) then next (x59) (IntKind.i64.wrap (x60+1)) (x61) (x62) (x63) (x64) (x65) (x66) (x67) (x68) (x69) (x70++[(x71,x72,())]) else none) else none else none else out (.ret ((),((),((h3,(h4,(h5,(h6,(h7,()))))),((h8,(h9,(h10,(h11,(h12,()))))),())))))
def sS (n:Nat)(h1:List (Nd))(h2:Int)(h3:Bool)(h4:List Int)(h5 h6:Int)(h7:List ap.den)(h8:Bool)(h9:List Int)(h10 h11:Int)(h12:List ap.den):Option (aD fi.xs):=gd tt Ao dr nw 0 Tryz.f71 (cE Tryz.f71 0) n (fi.st.mk' ((h1,(h2,())),((h3,(h4,(h5,(h6,(h7,()))))),((h8,(h9,(h10,(h11,(h12,()))))),())))) (bL fi.xs)
theorem MU (n:Nat)(h1:List (Nd))(h2:Int)(h3:Bool)(h4:List Int)(h5 h6:Int)(h7:List ap.den)(h8:Bool)(h9:List Int)(h10 h11:Int)(h12:List ap.den):sS (n+1) h1 h2 h3 h4 h5 h6 h7 h8 h9 h10 h11 h12=vn h1 h2 h3 h4 h5 h6 h7 h8 h9 h10 h11 h12 (sS n) some:=by kernel_rfl
theorem Cm {ps:List Nd}(hb:aI ps≤4294967296)(dT:List Nd)(i:Int)(nz0:Bool)(ns0:List Int)(ak0 wt0:Int)(ts0:List ap.den)(nz:Bool)(ns:List Int)(ak wt:Int)(ts:List ap.den)(tn:List Int):∀(k j:Nat) (o:List bZ.den),ps.length<j+k→j≤ps.length→o.length≤j→
  qc k dT i ps j nz0 ns0 ak0 wt0 ts0 nz ns ak wt ts tn o=some (.ret ((),((dT,(i,())),((nz0,(ns0,(ak0,(wt0,(ts0,()))))),((nz,(ns,(ak,(wt,(ts,()))))),((tn,(o++(ps.drop j).map lT,())),())))))):=by
 intro k
 have hlen:=gI ps
 induction k with
 |zero=>intro j o h1 h2;omega
 |succ k ih=>
  intro j o h1 h2 h3
  rw[Ka]
  unfold sb
  by_cases hj:j<ps.length
  ·refine (aa (decide_eq_true (show (j:Int)<(ps.length:Int) by omega)) _ _).trans ?_
   have hmem:=cY (List.getElem_mem hj)
   have ih':=ih (j+1) (o++[lT ps[j]]) (by omega) (by omega) (by simp;omega)
   have hd:ps.drop j=ps[j]::ps.drop (j+1):=List.drop_eq_getElem_cons hj
   rw[hd,aC (n:=(j:Int)+1) (by omega) (by omega)]
   simp only[Int.toNat_natCast,aH hj]
   generalize ps[j]=u at hmem ih' ⊢
   obtain ⟨ul,uk⟩:=u
   refine (aa (by simp;omega) _ _).trans ?_
   refine (aa (by simp;omega) _ _).trans ?_
   refine (aa (decide_eq_true (show (aZ (Tre.mk ul uk) 1).lab.2.2.2.1.length≤4294967296 by have:=o6 (Tre.mk ul uk) 1;have:=Sg (aZ (Tre.mk ul uk) 1);omega)) _ _).trans ?_
   refine (aa (decide_eq_true (show o.length+1≤4294967296 by omega)) _ _).trans ?_
   refine ih'.trans ?_
   simp only[List.map_cons,List.append_assoc,List.singleton_append]
  ·refine (ab (decide_eq_false (show ¬(j:Int)<(ps.length:Int) by omega)) _ _).trans ?_
   rw[List.drop_of_length_le (by omega)]
   simp
theorem Ge {nds:List Nd}(hb:aI nds≤4294967296)(nz0:Bool)(ns0:List Int)(ak0 wt0:Int)(ts0:List ap.den)(nz:Bool)(ns:List Int)(ak wt:Int):∀(k j:Nat) (ts:List ap.den),nds.length<j+k→j≤nds.length→ts.length≤j→
  sS k nds j nz0 ns0 ak0 wt0 ts0 nz ns ak wt ts=some (.ret ((),((),((nz0,(ns0,(ak0,(wt0,(ts0,()))))),((nz,(ns,(ak,(wt,(ts++(nds.drop j).map jN,()))))),()))))):=by
 intro k
 have hlen:=gI nds
 induction k with
 |zero=>intro j o h1 h2;omega
 |succ k ih=>
  intro j ts h1 h2 h3
  rw[MU]
  unfold vn
  by_cases hj:j<nds.length
  ·refine (aa (decide_eq_true (show (j:Int)<(nds.length:Int) by omega)) _ _).trans ?_
   have hmem:=cY (List.getElem_mem hj)
   have ih':=ih (j+1) (ts++[jN nds[j]]) (by omega) (by omega) (by simp;omega)
   have hd:nds.drop j=nds[j]::nds.drop (j+1):=List.drop_eq_getElem_cons hj
   rw[hd]
   simp only[Int.toNat_natCast,aH hj]
   generalize nds[j]=u at hmem ih' ⊢
   obtain ⟨ul,uk⟩:=u
   refine (aa (by simp;omega) _ _).trans ?_
   refine (aa (by simp;omega) _ _).trans ?_
   have hw1:=o6 (Tre.mk ul uk) 1
   have hw2:=iu (aZ (Tre.mk ul uk) 1)
   have cA:((decide ((0:Int)=0)&&decide (([]:List bZ.den).length=0))&&decide (aI (aZ (Tre.mk ul uk) 1).kids≤4294967296))=true:=by simp;omega
   refine (aa cA _ _).trans ?_
   refine (aa (decide_eq_true (show ts.length+1≤4294967296 by omega)) _ _).trans ?_
   rw[aC (n:=(j:Int)+1) (by omega) (by omega)]
   refine ih'.trans ?_
   simp only[List.map_cons,List.append_assoc,List.singleton_append]
  ·refine (ab (decide_eq_false (show ¬(j:Int)<(nds.length:Int) by omega)) _ _).trans ?_
   rw[List.drop_of_length_le (by omega)]
   simp
def zT (a0:Nd):Option lG.Res:=(qN (((aZ (Tre.mk a0.1 a0.2) 3).2,(0,())),((false,([],(0,(0,([],()))))),(((aZ (Tre.mk a0.1 a0.2) 0).1.2.2.1,((aZ (Tre.mk a0.1 a0.2) 0).1.2.2.2.1,(IntKind.i16.wrap (aZ (Tre.mk a0.1 a0.2) 1).1.2.1,(IntKind.i32.wrap (aZ (Tre.mk a0.1 a0.2) 2).1.2.1,([],()))))),())))).run fun y=>match y with | .ret ((),((),(x95,x96,x97,x98,x99,()),(x100,x101,x102,x103,x104,()),()))=>(some (Out.ret ((((x100,x101,()),x102,x103,x104,()),()),())))
theorem RA (a0:Nd):Io.run tt Ao dr nw lG Tryz.f71 ((a0,()),())=zT a0:=by kernel_rfl
theorem VJ:HcOk prog 71 (ah lG Fr):=by
 refine aj (n:=400) hm (cs:=ua) (.cons uF (.cons wq (.cons wo .nil))) (lp:=nw) (fn:=Tryz.f71) (by kernel_rfl) (by kernel_rfl) (by kernel_rfl) lG (.step (h0:=aN fi qN) (by kernel_rfl) (aw (n:=400) hm (cs:=ua) (.cons uF (.cons wq (.cons wo .nil))) (lp:=nw) (fn:=Tryz.f71) (.step (h0:=aN d6 nR) (by kernel_rfl) (aw (n:=400) hm (cs:=ua) (.cons uF (.cons wq (.cons wo .nil))) (lp:=nw) (fn:=Tryz.f71) (.done (by kernel_rfl)) d6 nR ?_) (.done (by kernel_rfl))) fi qN ?_) (.done (by kernel_rfl))) Fr ?_
 ·rintro ⟨⟨(dT:List Nd),(i:Int),(ps:List Nd),(j:Int),⟨⟩⟩,⟨⟨(nz0:Bool),(ns0:List Int),(ak0:Int),(wt0:Int),(ts0:List ap.den),⟨⟩⟩,⟨(nz:Bool),(ns:List Int),(ak:Int),(wt:Int),(ts:List ap.den),⟨⟩⟩,⟨(tn:List Int),(o:List bZ.den),⟨⟩⟩,⟨⟩⟩⟩ y hw hy
  obtain ⟨hg,hy⟩:=Tr.guard hy
  simp only[Bool.and_eq_true,decide_eq_true_eq] at hg
  obtain ⟨⟨h1,h2⟩,h3⟩:=hg
  have h1:j=0:=h1
  have h2:o=[]:=List.eq_nil_of_length_eq_zero h2
  have h3:aI ps≤4294967296:=h3
  subst h1
  subst h2
  refine ⟨ps.length+1,(Cm h3 dT i nz0 ns0 ak0 wt0 ts0 nz ns ak wt ts tn (ps.length+1) 0 [] (by omega) (by omega) (by simp)).trans ?_⟩
  rw[← hy,List.drop_zero]
  rfl
 ·rintro ⟨⟨(nds:List Nd),(j:Int),⟨⟩⟩,⟨⟨(nz0:Bool),(ns0:List Int),(ak0:Int),(wt0:Int),(ts0:List ap.den),⟨⟩⟩,⟨(nz:Bool),(ns:List Int),(ak:Int),(wt:Int),(ts:List ap.den),⟨⟩⟩,⟨⟩⟩⟩ y hw hy
  obtain ⟨hg,hy⟩:=Tr.guard hy
  simp only[Bool.and_eq_true,decide_eq_true_eq] at hg
  obtain ⟨⟨h1,h2⟩,h3⟩:=hg
  have h1:j=0:=h1
  have h2:ts=[]:=List.eq_nil_of_length_eq_zero h2
  have h3:aI nds≤4294967296:=h3
  subst h1
  subst h2
  refine ⟨nds.length+1,(Ge h3 nz0 ns0 ak0 wt0 ts0 nz ns ak wt (nds.length+1) 0 [] (by omega) (by omega) (by simp)).trans ?_⟩
  rw[← hy,List.drop_zero]
  rfl
 ·rintro ⟨⟨(n:Nd),⟨⟩⟩,⟨⟩⟩ out hw ho
  obtain ⟨hg,ho⟩:=Tr.guard ho
  have hg:aP n≤4294967296:=of_decide_eq_true hg
  cases ho
  refine (RA n).trans ?_
  unfold zT
  obtain ⟨nl,nk⟩:=n
  have hw1:=o6 (Tre.mk nl nk) 3
  have hw2:=iu (aZ (Tre.mk nl nk) 3)
  have c1:((decide ((0:Int)=0)&&decide (([]:List ap.den).length=0))&&decide (aI (aZ (Tre.mk nl nk) 3).kids≤4294967296))=true:=by simp;omega
  refine (aa c1 _ _).trans ?_
  show _=some (Out.ret ((rH (Tre.mk nl nk),()),()))
  unfold rH
  rfl
abbrev im:Io:=⟨[.dat Hh true false],[],[],[cQ],none⟩
def gG (l:List aV.den):Bool:=decide (l.length≤4294967296)&&l.all fun t=>decide (t.2.1.length≤4294967296)
def vF (d:im.In):Tr im.Res:=.ite (gG d.1.1.1) (.ret (.ret ((eO d.1.1,()),()))) .no
abbrev n7:List (Nat×Hc):=[(181,ah jz tD),(182,ah gf pO),(180,ah kl wS),(183,ah hJ pP),(184,ah gg nP),(185,ah kc yj)]
def sA:Hd:=bA n7
abbrev dx:Lo:=⟨⟨(.any::.one (.ptr 1 0)::.one (.ptr 2 0)::.one (.onl 91 ao 7)::.one (.hol (.int IntKind.i64))::.one (.onl 91 ao 11)::.one (.hol (.int IntKind.i64))::ai (ai (ai (ai (dR (bQ [])))))),[none,some [.hol (.sl 212 aV),.hol (.int IntKind.i32)],some [.hol (.int IntKind.i64),.hol (.int IntKind.i64),.hol .bool,.onl 5 (Ty.int IntKind.u8) 1032,.onl 91 ao 1034]]⟩,[(.exit 2,⟨(.any::.one (.ptr 1 0)::.one (.ptr 2 0)::.one (.onl 91 ao 7)::.one (.hol (.int IntKind.i64))::.one (.onl 91 ao 11)::.any::ai (ai (ai (ai (dR (bQ [])))))),[none,some [.hol (.sl 212 aV),.hol (.int IntKind.i32)],some [.hol (.int IntKind.i64),.hol (.int IntKind.i64),.hol .bool,.onl 5 (Ty.int IntKind.u8) 1032,.onl 91 ao 1034]]⟩)]⟩
abbrev dw:Lo:=⟨⟨(.any::.one (.ptr 1 0)::.one (.ptr 2 0)::.one (.onl 91 ao 7)::.one (.hol (.int IntKind.i64))::ai (ai (ai (ai (dR (bQ (bh []))))))),[none,some [.hol (.sl 212 aV),.hol (.int IntKind.i32)],some [.hol (.int IntKind.i64),.hol (.int IntKind.i64),.hol .bool,.onl 5 (Ty.int IntKind.u8) 1032,.onl 91 ao 1034]]⟩,[(.exit 0,⟨(.any::.one (.ptr 1 0)::.one (.ptr 2 0)::.one (.onl 91 ao 7)::.any::ai (ai (ai (ai (dR (bQ (bh []))))))),[none,some [.hol (.sl 212 aV),.hol (.int IntKind.i32)],some [.hol (.int IntKind.i64),.hol (.int IntKind.i64),.hol .bool,.onl 5 (Ty.int IntKind.u8) 1032,.onl 91 ao 1034]]⟩)]⟩
def mf (d:dx.st.den):Tr (aD dx.xs):=
 .ite ((decide ((0:Int)≤d.1.2.1)&&decide (d.1.2.1<(d.2.1.1.length:Int)))&&((decide (d.1.2.2.1.length=0)&&decide (d.1.2.2.2.1=0))&&decide ((d.2.1.1.getD d.1.2.1.toNat aV.zero).2.1.length≤4294967296)))
  (.ret (.ret ((),((d.1.1,(d.1.2.1,((d.2.1.1.getD d.1.2.1.toNat aV.zero).2.1.map kM,()))),(d.2.1,(d.2.2.1,())))))) .no
def me (d:dw.st.den):Tr (aD dw.xs):=
 .ite ((decide (d.1.1.length=0)&&decide (d.1.2.1=0))&&gG d.2.1.1)
  (.ret (.ret ((),((d.2.1.1.map mP,()),(d.2.1,(d.2.2.1,())))))) .no
def jH:Lp:=bv [(4,aN dw me),(8,aN dx mf)]
def qC {R:Type}(h11:List ao.den)(h12:Int)(h13:List ao.den)(h14:Int)(h15:List aV.den)(h16 h17 h18:Int)(h19:Bool)(h20:List Int)(h21:List ao.den)(next:List ao.den→Int→List ao.den→Int→List aV.den→Int→Int→Int→Bool→List Int→List ao.den→Option R)(out:aD dx.xs→Option R):Option R:=bif decide (0≤h12)&&decide (h12<(↑h15.length:Int)) then bif decide (h14<(↑(List.length (h15.getD h12.toNat ([],[],())).2.1):Int)) then bif decide (0≤h12)&&decide (h12<(↑h15.length:Int)) then bif decide (0≤h14)&&decide (h14<(↑(List.length (h15.getD h12.toNat ([],[],())).2.1):Int)) then bif decide (h13.length+1≤4294967296) then next (h11) (h12) (h13++[Tre.mk (10,0,false,[],()) [Tre.mk (3,IntKind.i64.wrap (List.getD (h15.getD h12.toNat ([],[],())).2.1 h14.toNat (0,0,0,0,0,())).1,false,[],()) [],Tre.mk (2,IntKind.i64.wrap (List.getD (h15.getD h12.toNat ([],[],())).2.1 h14.toNat (0,0,0,0,0,())).2.1,false,[],()) [],Tre.mk (4,(List.getD (h15.getD h12.toNat ([],[],())).2.1 h14.toNat (0,0,0,0,0,())).2.2.1,false,[],()) [],Tre.mk (4,(List.getD (h15.getD h12.toNat ([],[],())).2.1 h14.toNat (0,0,0,0,0,())).2.2.2.1,false,[],()) [],Tre.mk (4,(List.getD (h15.getD h12.toNat ([],[],())).2.1 h14.toNat (0,0,0,0,0,())).2.2.2.2.1,false,[],()) []]]) (IntKind.i64.wrap (h14+1)) (h15) (h16) (h17) (h18) (h19) (h20) (h21) else none else none else none else out (.ret ((),((h11,(h12,(h13,()))),((h15,(h16,())),((h17,(h18,(h19,(h20,(h21,()))))),()))))) else none
def kG (n:Nat)(h11:List ao.den)(h12:Int)(h13:List ao.den)(h14:Int)(h15:List aV.den)(h16 h17 h18:Int)(h19:Bool)(h20:List Int)(h21:List ao.den):Option (aD dx.xs):=gd tt sA dr jH 0 Tryz.f119 (wP Tryz.f119 (cE Tryz.f119 0) 0) n (dx.st.mk' ((h11,(h12,(h13,(h14,())))),((h15,(h16,())),((h17,(h18,(h19,(h20,(h21,()))))),())))) (bL dx.xs)
theorem GU (n:Nat)(h11:List ao.den)(h12:Int)(h13:List ao.den)(h14:Int)(h15:List aV.den)(h16 h17 h18:Int)(h19:Bool)(h20:List Int)(h21:List ao.den):kG (n+1) h11 h12 h13 h14 h15 h16 h17 h18 h19 h20 h21=qC h11 h12 h13 h14 h15 h16 h17 h18 h19 h20 h21 (kG n) some:=by kernel_rfl
def qB {R:Type}(h2:List ao.den)(h3:Int)(h4:List aV.den)(h5 h6 h7:Int)(h8:Bool)(h9:List Int)(h10:List ao.den)(next:List ao.den→Int→List aV.den→Int→Int→Int→Bool→List Int→List ao.den→Option R)(out:aD dw.xs→Option R):Option R:=bif decide (h3<(↑h4.length:Int)) then (mf ((h2,(h3,([],(0,())))),((h4,(h5,())),((h6,(h7,(h8,(h9,(h10,()))))),())))).run fun y=>match y with | .ret ((),((x43,x44,x45,()),(x46,x47,()),(x48,x49,x50,x51,x52,()),()))=>(bif decide (0≤x44)&&decide (x44<(↑x46.length:Int)) then bif decide (x43.length+1≤4294967296) then next (x43++[Tre.mk (10,0,false,[],()) [Tre.mk (5,0,false,(x46.getD x44.toNat ([],[],())).1,()) [],Tre.mk (9,0,false,[],()) x45]]) (IntKind.i64.wrap (x44+1)) (x46) (x47) (x48) (x49) (x50) (x51) (x52) else none else none) else out (.ret ((),((h2,()),((h4,(h5,())),((h6,(h7,(h8,(h9,(h10,()))))),())))))
def kF (n:Nat)(h2:List ao.den)(h3:Int)(h4:List aV.den)(h5 h6 h7:Int)(h8:Bool)(h9:List Int)(h10:List ao.den):Option (aD dw.xs):=gd tt sA dr jH 0 Tryz.f119 (cE Tryz.f119 0) n (dw.st.mk' ((h2,(h3,())),((h4,(h5,())),((h6,(h7,(h8,(h9,(h10,()))))),())))) (bL dw.xs)
theorem GT (n:Nat)(h2:List ao.den)(h3:Int)(h4:List aV.den)(h5 h6 h7:Int)(h8:Bool)(h9:List Int)(h10:List ao.den):kF (n+1) h2 h3 h4 h5 h6 h7 h8 h9 h10=qB h2 h3 h4 h5 h6 h7 h8 h9 h10 (kF n) some:=by kernel_rfl
theorem AI {ts:List aV.den}(hw:∀t∈ts,aV.wf t)(hl:ts.length≤maxLen){i:Nat}(hi:i<ts.length)(hp:(ts[i]).2.1.length≤4294967296)(acc:List Nd)(th a' b':Int)(z':Bool)(x':List Int)(l':List Nd):∀(k j:Nat) (o:List Nd),(ts[i]).2.1.length<j+k→j≤(ts[i]).2.1.length→o.length≤j→
  kG k acc i o j ts th a' b' z' x' l'=some (.ret ((),((acc,((i:Int),(o++((ts[i]).2.1.drop j).map kM,()))),((ts,(th,())),((a',(b',(z',(x',(l',()))))),()))))):=by
 intro k
 induction k with
 |zero=>intro j o h1 h2;omega
 |succ k ih=>
  intro j o h1 h2 h3
  rw[GU]
  unfold qC
  refine (aa (by simp;omega) _ _).trans ?_
  have hti:=hw _ (List.getElem_mem hi)
  simp only[Int.toNat_natCast,aH hi]
  generalize ts[i]=t at hp h1 h2 ih hti ⊢
  by_cases hj:j<t.2.1.length
  ·refine (aa (decide_eq_true (show (j:Int)<(t.2.1.length:Int) by omega)) _ _).trans ?_
   refine (aa (by simp;omega) _ _).trans ?_
   refine (aa (by simp;omega) _ _).trans ?_
   refine (aa (decide_eq_true (show o.length+1≤4294967296 by omega)) _ _).trans ?_
   have hpw:=hti.2.1.2 _ (List.getElem_mem hj)
   have ih':=ih (j+1) (o++[kM t.2.1[j]]) (by omega) (by omega) (by simp;omega)
   have hd:t.2.1.drop j=t.2.1[j]::t.2.1.drop (j+1):=List.drop_eq_getElem_cons hj
   rw[hd,aC (n:=(j:Int)+1) (by omega) (by omega)]
   have hgp:List.getD t.2.1 ((j:Int)).toNat ga.zero=t.2.1[j]:=by simp only[Int.toNat_natCast];exact aH hj
   refine Eq.trans ?_ (ih'.trans ?_)
   ·refine congrArg (fun x=>kG k acc i (o++[x]) _ ts th a' b' z' x' l') ?_
    show bn [ay 3 (IntKind.i64.wrap (List.getD t.2.1 ((j:Int)).toNat ga.zero).1),ay 2 (IntKind.i64.wrap (List.getD t.2.1 ((j:Int)).toNat ga.zero).2.1),ay 4 (List.getD t.2.1 ((j:Int)).toNat ga.zero).2.2.1,ay 4 (List.getD t.2.1 ((j:Int)).toNat ga.zero).2.2.2.1,ay 4 (List.getD t.2.1 ((j:Int)).toNat ga.zero).2.2.2.2.1]=_
    rw[hgp]
    exact M1 hpw
   ·simp only[List.map_cons,List.append_assoc,List.singleton_append]
  ·refine (ab (decide_eq_false (show ¬(j:Int)<(t.2.1.length:Int) by omega)) _ _).trans ?_
   rw[List.drop_of_length_le (by omega)]
   simp
theorem AH {ts:List aV.den}(hw:∀t∈ts,aV.wf t)(hl:ts.length≤maxLen)(hs:gG ts=true)(th a' b':Int)(z':Bool)(x':List Int)(l':List Nd):∀(k j:Nat) (o:List Nd),ts.length<j+k→j≤ts.length→o.length≤j→
  kF k o j ts th a' b' z' x' l'=some (.ret ((),((o++(ts.drop j).map mP,()),((ts,(th,())),((a',(b',(z',(x',(l',()))))),()))))):=by
 intro k
 have hs1:=(Bool.and_eq_true _ _▸hs).1
 have hs2:=(Bool.and_eq_true _ _▸hs).2
 have hs1:ts.length≤4294967296:=of_decide_eq_true hs1
 induction k with
 |zero=>intro j o h1 h2;omega
 |succ k ih=>
  intro j o h1 h2 h3
  rw[GT]
  unfold qB
  by_cases hj:j<ts.length
  ·refine (aa (decide_eq_true (show (j:Int)<(ts.length:Int) by omega)) _ _).trans ?_
   have hgp:ts.getD ((j:Int)).toNat aV.zero=ts[j]:=by simp only[Int.toNat_natCast];exact aH hj
   have hpl:(ts[j]).2.1.length≤4294967296:=of_decide_eq_true (List.all_eq_true.1 hs2 _ (List.getElem_mem hj))
   have c8:((decide ((0:Int)≤(j:Int))&&decide ((j:Int)<(ts.length:Int)))&&((decide (([]:List Nd).length=0)&&decide ((0:Int)=0))&&decide ((ts.getD ((j:Int)).toNat aV.zero).2.1.length≤4294967296)))=true:=by
    rw[hgp];simp;omega
   refine (aa c8 _ _).trans ?_
   refine (aa (by simp;omega) _ _).trans ?_
   refine (aa (decide_eq_true (show o.length+1≤4294967296 by omega)) _ _).trans ?_
   rw[aC (n:=(j:Int)+1) (by omega) (by omega)]
   have ih':=ih (j+1) (o++[mP ts[j]]) (by omega) (by omega) (by simp;omega)
   have hd:ts.drop j=ts[j]::ts.drop (j+1):=List.drop_eq_getElem_cons hj
   rw[hd]
   refine Eq.trans ?_ (ih'.trans ?_)
   ·refine congrArg (fun x=>kF k (o++[x]) _ ts th a' b' z' x' l') ?_
    show (bn [fN (ts.getD ((j:Int)).toNat aV.zero).1,bb ((ts.getD ((j:Int)).toNat aV.zero).2.1.map kM)])=_
    rw[hgp];rfl
   ·simp only[List.map_cons,List.append_assoc,List.singleton_append]
  ·refine (ab (decide_eq_false (show ¬(j:Int)<(ts.length:Int) by omega)) _ _).trans ?_
   rw[List.drop_of_length_le (by omega)]
   simp
def tY (a0:List aV.den)(a1:Int):Option im.Res:=(me (([],(0,())),((a0,(a1,())),((0,(0,(false,([],([],()))))),())))).run fun y=>match y with | .ret ((),((x70,()),(x71,x72,()),(x73,x74,x75,x76,x77,()),()))=>(some (Out.ret ((Tre.mk (10,0,false,[],()) [Tre.mk (9,0,false,[],()) x70,Tre.mk (3,IntKind.i64.wrap x72,false,[],()) []],()),())))
theorem J1 (a0:List aV.den)(a1:Int):Io.run tt sA dr jH im Tryz.f119 (((a0,a1,()),()),())=tY a0 a1:=by kernel_rfl
theorem Mi:HcOk prog 119 (ah im vF):=by
 refine aj (n:=400) hm (cs:=n7) (.cons eM (.cons gD (.cons fO (.cons dQ (.cons c7 (.cons nC .nil)))))) (lp:=jH) (fn:=Tryz.f119) (by kernel_rfl) (by kernel_rfl) (by kernel_rfl) im (.step (h0:=aN dw me) (by kernel_rfl) (aw (n:=400) hm (cs:=n7) (.cons eM (.cons gD (.cons fO (.cons dQ (.cons c7 (.cons nC .nil)))))) (lp:=jH) (fn:=Tryz.f119) (.step (h0:=aN dx mf) (by kernel_rfl) (aw (n:=400) hm (cs:=n7) (.cons eM (.cons gD (.cons fO (.cons dQ (.cons c7 (.cons nC .nil)))))) (lp:=jH) (fn:=Tryz.f119) (.done (by kernel_rfl)) dx mf ?_) (.done (by kernel_rfl))) dw me ?_) (.done (by kernel_rfl))) vF ?_
 ·rintro ⟨⟨(acc:List Nd),(i:Int),(o:List Nd),(j:Int),⟨⟩⟩,⟨⟨(ts:List aV.den),(th:Int),⟨⟩⟩,⟨(a':Int),(b':Int),(z':Bool),(x':List Int),(l':List Nd),⟨⟩⟩,⟨⟩⟩⟩ y hw hy
  obtain ⟨hg,hy⟩:=Tr.guard hy
  simp only[Bool.and_eq_true,decide_eq_true_eq] at hg
  obtain ⟨⟨h1,h2⟩,⟨h3,h4⟩,h5⟩:=hg
  have h1:0≤i:=h1
  have h2:i<(ts.length:Int):=h2
  have h3:o=[]:=List.eq_nil_of_length_eq_zero h3
  have h4:j=0:=h4
  obtain ⟨i,rfl⟩:=cZ h1
  subst h3
  subst h4
  have hi:i<ts.length:=by omega
  have hgp:ts.getD ((i:Int)).toNat aV.zero=ts[i]:=by simp only[Int.toNat_natCast];exact aH hi
  have h5:(ts.getD ((i:Int)).toNat aV.zero).2.1.length≤4294967296:=h5
  rw[hgp] at h5
  have hwt:ts.length≤maxLen∧∀t∈ts,aV.wf t:=by have:=hw.2.1.1;exact this
  refine ⟨(ts[i]).2.1.length+1,(AI hwt.2 hwt.1 hi h5 acc th a' b' z' x' l' ((ts[i]).2.1.length+1) 0 [] (by omega) (by omega) (by simp)).trans ?_⟩
  rw[← hy,← hgp,List.drop_zero]
  rfl
 ·rintro ⟨⟨(o:List Nd),(j:Int),⟨⟩⟩,⟨⟨(ts:List aV.den),(th:Int),⟨⟩⟩,⟨(a':Int),(b':Int),(z':Bool),(x':List Int),(l':List Nd),⟨⟩⟩,⟨⟩⟩⟩ y hw hy
  obtain ⟨hg,hy⟩:=Tr.guard hy
  simp only[Bool.and_eq_true,decide_eq_true_eq] at hg
  obtain ⟨⟨h3,h4⟩,h5⟩:=hg
  have h3:o=[]:=List.eq_nil_of_length_eq_zero h3
  have h4:j=0:=h4
  have h5:gG ts=true:=h5
  subst h3
  subst h4
  have hwt:ts.length≤maxLen∧∀t∈ts,aV.wf t:=by have:=hw.2.1.1;exact this
  refine ⟨ts.length+1,(AH hwt.2 hwt.1 h5 th a' b' z' x' l' (ts.length+1) 0 [] (by omega) (by omega) (by simp)).trans ?_⟩
  rw[← hy,List.drop_zero]
  rfl
 ·rintro ⟨⟨⟨(ts:List aV.den),(th:Int),⟨⟩⟩,⟨⟩⟩,⟨⟩⟩ out hw ho
  obtain ⟨hg,ho⟩:=Tr.guard ho
  have hg:gG ts=true:=hg
  cases ho
  refine (J1 ts th).trans ?_
  unfold tY
  have c1:((decide (([]:List Nd).length=0)&&decide ((0:Int)=0))&&gG ts)=true:=by rw[hg];rfl
  refine (aa c1 _ _).trans ?_
  show _=some (Out.ret ((eO (ts,(th,())),()),()))
  unfold eO
  have h1:IntKind.i64.wrap th=th:=cO hw.1.1.2.1
  show some (Out.ret ((bn [bb (ts.map mP),ay 3 (IntKind.i64.wrap th)],()),()))=_
  rw[h1]
abbrev xu:Lo:=⟨⟨(bh (.one (.ptr 2 0)::.one (.ptr 3 0)::.one (.hol (.sl 91 ao))::.one (.hol (.int IntKind.i64))::.one (.ptr 6 0)::.one (.hol (.sl 91 ao))::.one (.hol (.int IntKind.i64))::.any::ai (ai (ai (ai (dR [])))))),[none,none,some [.onl 212 aV 1026,.hol (.int IntKind.i32)],some [.onl 212 aV 1538,.hol (.int IntKind.i32)],none,none,some [.hol .str,.onl 214 ga 3076]]⟩,[(.exit 2,⟨(bh (.one (.ptr 2 0)::.one (.ptr 3 0)::.one (.hol (.sl 91 ao))::.one (.hol (.int IntKind.i64))::.one (.ptr 6 0)::.any::ai (ai (ai (ai (dR (bh []))))))),[none,none,some [.onl 212 aV 1026,.hol (.int IntKind.i32)],some [.onl 212 aV 1538,.hol (.int IntKind.i32)],none,none,some [.hol .str,.onl 214 ga 3076]]⟩)]⟩
abbrev AN:Lo:=⟨⟨(bh (.one (.ptr 2 0)::.one (.ptr 3 0)::.one (.hol (.sl 91 ao))::.one (.hol (.int IntKind.i64))::ai (ai (ai (ai (dR (bQ []))))))),[none,none,some [.onl 212 aV 1026,.hol (.int IntKind.i32)],some [.onl 212 aV 1538,.hol (.int IntKind.i32)]]⟩,[(.exit 0,⟨(bh (.one (.ptr 2 0)::.one (.ptr 3 0)::ai (ai (ai (ai (dR (bQ (bh [])))))))),[none,none,some [.onl 212 aV 1026,.hol (.int IntKind.i32)],some [.onl 212 aV 1538,.hol (.int IntKind.i32)]]⟩)]⟩
def aaB (d:xu.st.den):Tr (aD xu.xs):=
 .ite ((decide (d.1.2.2.2.1=0)&&decide (d.2.2.2.1.2.1.length=0))&&decide (aI d.1.2.2.1≤4294967296))
  (.ret (.ret ((),((d.1.1,(d.1.2.1,())),(d.2.1,(d.2.2.1,((d.2.2.2.1.1,(d.1.2.2.1.map qp,())),()))))))) .no
def abT (d:AN.st.den):Tr (aD AN.xs):=
 .ite ((decide (d.1.2.1=0)&&decide (d.2.2.1.1.length=0))&&decide (aI d.1.1≤4294967296))
  (.ret (.ret ((),((),(d.2.1,((d.1.1.map qq,(d.2.2.1.2.1,())),())))))) .no
end
end Go.Proofs.YtomeplopmndbgaaGreat.Sym
namespace Go.Proofs.YtomeplopmndbgaaGreat.Sym
open Go
set_option linter.unusedSimpArgs false
set_option linter.unusedVariables false
noncomputable section
theorem eI {n:Int}(h:ey .i32 n):IntKind.i32.wrap n=n:=by
 simp only[ey,IntKind.min,IntKind.max,IntKind.signed,IntKind.bits] at h
 exact dd (by simp[ey,IntKind.min,IntKind.max,IntKind.signed,IntKind.bits];simpa using h)
theorem F3 {n:Int}(h:ey .i16 n):IntKind.i16.wrap n=n:=by
 simp only[ey,IntKind.min,IntKind.max,IntKind.signed,IntKind.bits] at h
 exact dd (by simp[ey,IntKind.min,IntKind.max,IntKind.signed,IntKind.bits];simpa using h)
theorem dF {α:Type}{f:α→α}{l:List α}(h:∀x∈l,f x=x):l.map f=l:=by
 conv=>rhs;rw[← List.map_id l]
 exact List.map_congr_left h
theorem CA {p:bZ.den}(h:bZ.wf p):lT (eH p)=p:=by
 obtain ⟨a,⟨z,x,⟨⟩⟩,⟨⟩⟩:=p
 show (IntKind.i32.wrap a,_,_)=_
 rw[eI h.1];rfl
theorem BQ {t:ap.den}(h:ap.wf t):jN (cv t)=t:=by
 obtain ⟨n,l,⟨⟩⟩:=t
 show (n,((l.map eH).map lT,()))=_
 rw[List.map_map,dF (f:=lT ∘ eH) (l:=l) fun p hp=>CA (h.2.1.2 p hp)]
theorem pc {m:kr.den}(h:kr.wf m):rH (bg m)=m:=by
 obtain ⟨⟨z,s,⟨⟩⟩,a,w,l,⟨⟩⟩:=m
 unfold rH bg
 show ((z,(s,())),(IntKind.i16.wrap a,(IntKind.i32.wrap w,((l.map cv).map jN,()))))=_
 rw[F3 (n:=a) h.2.1,eI (n:=w) h.2.2.1,List.map_map,dF (f:=jN ∘ cv) (l:=l) fun t ht=>BQ (h.2.2.2.1.2 t ht)]
theorem Cy {p:ga.den}(h:ga.wf p):qp (kM p)=p:=by
 obtain ⟨a,b,c,d,e,⟨⟩⟩:=p
 show (IntKind.i32.wrap a,(IntKind.i16.wrap b,_))=_
 rw[eI h.1,F3 h.2.1];rfl
theorem Cz {t:aV.den}(h:aV.wf t):qq (mP t)=t:=by
 obtain ⟨n,l,⟨⟩⟩:=t
 show (n,((l.map kM).map qp,()))=_
 rw[List.map_map,dF (f:=qp ∘ kM) (l:=l) fun p hp=>Cy (h.2.1.2 p hp)]
theorem uS {m:Hh.den}(h:Hh.wf m):Py (eO m)=m:=by
 obtain ⟨l,w,⟨⟩⟩:=m
 unfold Py eO
 show ((l.map mP).map qq,(IntKind.i32.wrap w,()))=_
 rw[eI (n:=w) h.2.1,List.map_map,dF (f:=qq ∘ mP) (l:=l) fun t ht=>Cz (h.1.2 t ht)]
open Classical in
def kg {α:Type}(a b:α):Bool:=if a=b then true else false
theorem kX {α:Type}{a b:α}:kg a b=true↔a=b:=by unfold kg;split <;> simp_all
abbrev ip:Io:=⟨[.dat kr true false],[],[],[.dat kr true false],none⟩
def vG (d:ip.In):Tr ip.Res:=.ite (cF d.1.1.2.2.2.1&&decide (aP (bg d.1.1)≤4294967296)) (.ret (.ret ((d.1.1,()),()))) .no
abbrev Ab:List (Nat×Hc):=[(84,ah f5 qM),(83,ah eY Fi),(71,ah lG Fr)]
def LT:Hd:=bA Ab
def AV:Lp:=bv []
def t4 (a0:Bool)(a1:List Int)(a2 a3:Int)(a4:List ap.den):Option ip.Res:=bif cF a4 then bif decide (aP (Tre.mk (bg ((a0,a1,()),a2,a3,a4,())).1 (bg ((a0,a1,()),a2,a3,a4,())).2)≤4294967296) then bif decide (aP (Tre.mk (bg ((a0,a1,()),a2,a3,a4,())).1 (bg ((a0,a1,()),a2,a3,a4,())).2)≤4294967296) then some (Out.ret ((rH (Tre.mk (bg ((a0,a1,()),a2,a3,a4,())).1 (bg ((a0,a1,()),a2,a3,a4,())).2),()),())) else none else none else none
theorem J3 (a0:Bool)(a1:List Int)(a2 a3:Int)(a4:List ap.den):Io.run tt LT dr AV ip Tryz.f30 ((((a0,a1,()),a2,a3,a4,()),()),())=t4 a0 a1 a2 a3 a4:=by kernel_rfl
theorem Mj:HcOk prog 30 (ah ip vG):=by
 refine aj (n:=400) hm (cs:=Ab) (.cons Ba (.cons GG (.cons VJ .nil))) (lp:=AV) (fn:=Tryz.f30) (by kernel_rfl) (by kernel_rfl) (by kernel_rfl) ip (.done (by kernel_rfl)) vG ?_
 rintro ⟨⟨m,⟨⟩⟩,⟨⟩⟩ out hw ho
 obtain ⟨hg,ho⟩:=Tr.guard ho
 simp only[Bool.and_eq_true,decide_eq_true_eq] at hg
 obtain ⟨h1,h2⟩:=hg
 have h1:cF m.2.2.2.1=true:=h1
 have h2:aP (bg m)≤4294967296:=h2
 cases ho
 have hf:=pc (m:=m) hw.1.1
 obtain ⟨⟨nz,ns,⟨⟩⟩,ak,wt,ts,⟨⟩⟩:=m
 refine (J3 nz ns ak wt ts).trans ?_
 unfold t4
 generalize bg ((nz,(ns,())),(ak,(wt,(ts,()))))=n at h2 hf ⊢
 obtain ⟨nl,nk⟩:=n
 refine (aa h1 _ _).trans ?_
 refine (aa (decide_eq_true h2) _ _).trans ?_
 refine (aa (decide_eq_true h2) _ _).trans ?_
 exact congrArg (fun x=>some (Out.ret ((x,()),()))) hf
@[irreducible] noncomputable def fA (v:Int)(m:kr.den):List Int×Int:=fT 0 false v (bg m)
def aU (a b:List Int×Int):List Int×Int:=if a.2≠0 then ([],a.2) else if b.2≠0 then ([],b.2) else (a.1++b.1,0)
mutual
def tq (f:Fd)(v:Int):Nd→List Int×Int
 |.mk a ks=>if f.lab.2.1=9 then (if 16<ks.length then ([],9) else aU (aB ks.length 4,0) (i9 (f.kids.headD f) v ks)) else if f.lab.2.1=10 then cb v f.kids ks else bY f v (.mk a ks)
termination_by n=>(SizeOf.sizeOf n,0)
def i9 (f:Fd)(v:Int):List Nd→List Int×Int
 |[]=>([],0)
 |k::ks=>aU (tq f v k) (i9 f v ks)
termination_by l=>(SizeOf.sizeOf l,0)
def cb (v:Int):List Fd→List Nd→List Int×Int
 |f::fs,k::ks=>if gM f v=true then aU (tq f v k) (cb v fs ks) else cb v fs ks
 |_,_=>([],0)
termination_by fs l=>(SizeOf.sizeOf l,0)
end
mutual
def fC (f:Fd):Nd→Prop
 |.mk a ks=>(f.lab.2.1=9→lV (f.kids.headD f) ks)∧(f.lab.2.1=10→ks.length=f.kids.length∧dN f.kids ks)
termination_by n=>(SizeOf.sizeOf n,0)
def lV (f:Fd):List Nd→Prop
 |[]=>True
 |k::ks=>fC f k∧lV f ks
termination_by l=>(SizeOf.sizeOf l,0)
def dN:List Fd→List Nd→Prop
 |f::fs,k::ks=>fC f k∧dN fs ks
 |_,_=>True
termination_by fs l=>(SizeOf.sizeOf l,0)
end
theorem dc (v:Int)(l:List Nd):cb v [] l=([],0):=by rw[cb];simp
theorem Sc (v:Int)(l:List Nd):cJ v [] l=([],0):=by rw[cJ];simp
theorem uM (f:Fd)(v:Int):∀ks:List Nd,(bX f v ks).1.length=ks.length
 |[]=>by rw[bX]
 |k::ks=>by rw[bX,List.length_cons,List.length_cons,uM f v ks]
theorem xC (f:Fd)(fs:List Fd)(v:Int):cX (f::fs) v=if gM f v=true then f::cX fs v else cX fs v:=by
 unfold cX;rw[List.filter_cons]
theorem By (v:Int):∀(fs:List Fd) (ks:List Nd),ks.length=fs.length→(bF v fs ks).1.length=(cX fs v).length
 |[],ks,_=>by rw[rC];rfl
 |f::fs,[],h=>by simp at h
 |f::fs,k::ks,h=>by
  have ih:=By v fs ks (by simpa using h)
  rw[bF,xC]
  split
  ·rw[List.length_cons,List.length_cons,ih]
  ·exact ih
theorem uT (k:Int)(l:List Nd)(h:8<k):fS k (Tre.mk (k,(0,(false,(([]:List Int),())))) l)=true:=by
 unfold fS
 simp;omega
theorem ZE (v:Int):∀(N:Nat) (f:Fd) (n:Nd),aP n≤N→fC f n→bY f v (ba f v n).1=tq f v n:=by
 intro N
 induction N with
 |zero=>intro f n h;have:=nH n;omega
 |succ N ih=>
  rintro f ⟨a,ks⟩ h hw
  rw[cC] at h
  have hks:∀k∈ks,aP k≤N:=fun k hk=>by have:=cY hk;simp only at h;omega
  rw[fC] at hw
  rw[ba,tq]
  have hi:∀(f:Fd) (l:List Nd),(∀k∈l,aP k≤N)→lV f l→bI f v (bX f v l).1=i9 f v l:=by
   intro f l
   induction l with
   |nil=>intro _ _;rw[bX,bI,i9]
   |cons k l ihl=>
    intro hk hw
    rw[lV] at hw
    rw[bX,bI,i9,ih f k (hk k (by simp)) hw.1,ihl (fun k' hk'=>hk k' (List.mem_cons_of_mem _ hk')) hw.2]
    rfl
  have hz:∀(l:List Nd) (fs:List Fd),(∀k∈l,aP k≤N)→l.length=fs.length→dN fs l→cJ v (cX fs v) (bF v fs l).1=cb v fs l:=by
   intro l
   induction l with
   |nil=>
    intro fs _ hl _
    cases fs with
    |nil=>rw[rC,dc];exact Sc _ _
    |cons f fs=>simp at hl
   |cons k l ihl=>
    intro fs hk hl hw
    cases fs with
    |nil=>simp at hl
    |cons f fs=>
     rw[dN] at hw
     have ih2:=ihl fs (fun k' hk'=>hk k' (List.mem_cons_of_mem _ hk')) (by simpa using hl) hw.2
     rw[bF,cb,xC]
     by_cases hh:gM f v=true
     ·rw[if_pos hh,if_pos hh,if_pos hh,cJ,ih f k (hk k (by simp)) hw.1,ih2]
      rfl
     ·rw[if_neg hh,if_neg hh,if_neg hh]
      exact ih2
  by_cases h9:f.lab.2.1=9
  ·rw[if_pos h9,if_pos h9,bY,h9,uT 9 _ (by omega)]
   rw[if_neg (by decide),if_neg (by decide),if_pos rfl,uM,hi _ ks hks (hw.1 h9)]
   split
   ·rfl
   ·unfold aU;simp
  ·rw[if_neg h9,if_neg h9]
   by_cases h10:f.lab.2.1=10
   ·rw[if_pos h10,if_pos h10,bY,h10,uT 10 _ (by omega)]
    rw[if_neg (by decide),if_neg (by decide),if_neg (by decide),if_pos rfl,bC,By v _ _ (hw.2 h10).1,if_neg (by simp),hz ks _ hks (hw.2 h10).1 (hw.2 h10).2]
   ·rw[if_neg h10,if_neg h10]
theorem yO {k:Int}{r:Bool}{v:Int}{t:List Fd}{ks:List Nd}(ht:eQ k r=(t,0))(hc:nF t=0)(hl:ks.length=t.length)(hw:dN t ks):
  fT k r v (bn ks)=if v<0∨3<v then ([],8) else if (bF v t ks).2=false then ([],7) else if (cb v t ks).2≠0 then ([],(cb v t ks).2) else if 130048<(cb v t ks).1.length then ([],4) else ((cb v t ks).1,0):=by
 have hd:fC (Tre.mk (([]:List Int),((10:Int),((0:Int),((0:Int),())))) t) (bn ks):=by
  rw[fC]
  exact ⟨fun h=>absurd (show (10:Int)=9 from h) (by decide),fun _=>⟨hl,hw⟩⟩
 have hcut:=ZE v _ _ _ (Nat.le_refl _) hd
 have ecut:ba (Tre.mk (([]:List Int),((10:Int),((0:Int),((0:Int),())))) t) v (bn ks)=(bn (bF v t ks).1,(bF v t ks).2):=by
  rw[ba];exact (if_neg (show ¬((10:Int)=9) by decide)).trans (if_pos rfl)
 have eW:tq (Tre.mk (([]:List Int),((10:Int),((0:Int),((0:Int),())))) t) v (bn ks)=cb v t ks:=by
  rw[tq];exact (if_neg (show ¬((10:Int)=9) by decide)).trans (if_pos rfl)
 have eV:∀l,bY (Tre.mk (([]:List Int),((10:Int),((0:Int),((0:Int),())))) t) v (bn l)=bC t v (bn l):=fun l=>by
  rw[bY]
  refine (if_neg ?_).trans ((if_neg (show ¬(10:Int)≤4 by decide)).trans ((if_neg (show ¬(10:Int)=9 by decide)).trans (if_pos rfl)))
  show ¬ fS 10 (bn l)=false
  rw[uT 10 _ (by omega)];decide
 rw[eW,ecut,eV] at hcut
 unfold fT
 rw[ht]
 simp only
 rw[if_neg (by simp)]
 by_cases hv:v<0∨3<v
 ·rw[if_pos hv,if_pos hv]
 rw[if_neg hv,if_neg hv,ecut]
 by_cases h7:(bF v t ks).2=false
 ·rw[if_pos h7,if_pos h7]
 rw[if_neg h7,if_neg h7]
 unfold rX
 have hb:py t v=0:=by unfold py;rw[if_neg hv,hc]
 rw[hb,uT 10 _ (by omega),if_neg (by simp),if_neg (by decide),hcut]
def Wri (r:List Int×Int)(f:bc→bc):Prop:=∀s:bc,s.2.2.length≤130048→
 (s.1≠0→(f s).1=s.1)∧(s.1=0→(f s).1=r.2)∧((f s).1=0→(((f s).2.1=false↔s.2.1=false∧s.2.2.length+r.1.length≤130048)∧((f s).2.1=false→(f s).2.2=s.2.2++r.1)))∧(f s).2.2.length≤130048
theorem Wri.seq {r1 r2:List Int×Int}{f g:bc→bc}(hf:Wri r1 f)(hg:Wri r2 g):Wri (aU r1 r2) fun s=>g (f s):=by
 intro s hs
 obtain ⟨f1,f2,f3,f4⟩:=hf s hs
 obtain ⟨g1,g2,g3,g4⟩:=hg (f s) f4
 unfold aU
 refine ⟨fun h=>?_,fun h=>?_,fun h=>?_,g4⟩
 ·have:=f1 h
  rw[g1 (by rw[this];exact h),this]
 ·have:=f2 h
  by_cases h1:r1.2=0
  ·rw[g2 (by rw[this];exact h1)]
   by_cases h2:r2.2=0
   ·simp[h1,h2]
   ·simp[h1,h2]
  ·rw[g1 (by rw[this];exact h1),this]
   simp[h1]
 ·by_cases h0:(f s).1=0
  ·have hs0:s.1=0:=by
    rcases Classical.em (s.1=0) with h' | h'
    ·exact h'
    ·rw[f1 h'] at h0;exact absurd h0 h'
   have h1:r1.2=0:=by rw[← f2 hs0];exact h0
   have h2:r2.2=0:=by rw[← g2 h0];exact h
   obtain ⟨a1,a2⟩:=f3 h0
   obtain ⟨b1,b2⟩:=g3 h
   simp only[h1,h2,ne_eq,not_true_eq_false,if_false,List.length_append]
   constructor
   ·constructor
    ·intro hx
     obtain ⟨c1,c2⟩:=b1.1 hx
     obtain ⟨c3,c4⟩:=a1.1 c1
     rw[a2 c1,List.length_append] at c2
     exact ⟨c3,by omega⟩
    ·rintro ⟨c1,c2⟩
     have c3:=a1.2 ⟨c1,by omega⟩
     exact b1.2 ⟨c3,by rw[a2 c3,List.length_append];omega⟩
   ·intro hx
    have c1:=(b1.1 hx).1
    rw[b2 hx,a2 c1,List.append_assoc]
  ·rw[g1 h0] at h;exact absurd h h0
theorem Wri.fail {e:Int}(he:e≠0):Wri ([],e) (bt e):=by
 intro s hs
 unfold bt
 refine ⟨fun h=>by rw[if_neg h],fun h=>by rw[if_pos h],fun h=>?_,by split <;> exact hs⟩
 split at h
 ·exact absurd h he
 ·rename_i h';exact absurd h h'
theorem Wri.put (x:Int)(n:Nat):Wri (aB x n,0) (ac x n):=by
 intro s hs
 refine ⟨fun h=>by unfold ac;split <;> rfl,fun h=>by unfold ac;split <;> exact h,fun h=>?_,aE _ _ hs⟩
 unfold ac
 rw[bN]
 split
 ·constructor
  ·constructor
   ·intro h';cases h'
   ·rintro ⟨_,h'⟩;omega
  ·intro h';cases h'
 ·constructor
  ·constructor
   ·intro h';exact ⟨h',by omega⟩
   ·rintro ⟨h',_⟩;exact h'
  ·intro _;rfl
theorem Wri.raw (p:List Int):Wri (p,0) (jM p):=by
 intro s hs
 refine ⟨fun h=>by unfold jM;split <;> rfl,fun h=>by unfold jM;split <;> exact h,fun h=>?_,wE _ hs⟩
 have hp:(p,(0:Int)).1.length=p.length:=rfl
 rw[hp]
 unfold jM
 split
 ·constructor
  ·constructor
   ·intro h';cases h'
   ·rintro ⟨_,h'⟩;omega
  ·intro h';cases h'
 ·constructor
  ·constructor
   ·intro h';exact ⟨h',by omega⟩
   ·rintro ⟨h',_⟩;exact h'
  ·intro _;rfl
theorem Wri.ofEq {r r':List Int×Int}{f:bc→bc}(h:Wri r f)(e:r=r'):Wri r' f:=e▸h
theorem Wri.nop:Wri ([],0) fun s=>s:=by
 intro s hs
 exact ⟨fun _=>rfl,fun h=>h,fun _=>⟨⟨fun h=>⟨h,by simpa using hs⟩,fun h=>h.1⟩,fun _=>by simp⟩,hs⟩
def pB (t:List Int):List Int×Int:=if (bM t).2=false then ([],6) else if 255<t.length then ([],4) else (aB t.length 2++t,0)
theorem Wri.str (t:List Int):Wri (pB t) (bH t):=by
 unfold pB
 by_cases h1:(bM t).2=false
 ·rw[if_pos h1]
  have:bH t=bt 6:=funext fun s=>by unfold bH;rw[if_pos h1]
  rw[this];exact Wri.fail (by decide)
 ·rw[if_neg h1]
  by_cases h2:255<t.length
  ·rw[if_pos h2]
   have:bH t=bt 4:=funext fun s=>by unfold bH;rw[if_neg h1,if_pos (by omega)]
   rw[this];exact Wri.fail (by decide)
  ·rw[if_neg h2]
   have:bH t=fun s=>jM t (ac t.length 2 s):=funext fun s=>by unfold bH;rw[if_neg h1,if_neg (by omega)]
   rw[this]
   exact ((Wri.put _ _).seq (Wri.raw _)).ofEq (by unfold aU;simp)
def KB (n:Bool×(List Int×Unit)):List Int×Int:=if n.1=true then (if n.2.1.length=0 then (aB (-1) 2,0) else ([],70)) else pB n.2.1
theorem Wri.name (n:Bool×(List Int×Unit)):Wri (KB n) (db n):=by
 unfold KB
 by_cases h1:n.1=true
 ·rw[if_pos h1]
  by_cases h2:n.2.1=[]
  ·rw[if_pos (by rw[h2];rfl)]
   have:db n=ac (-1) 2:=funext fun s=>by unfold db;rw[if_neg (fun h=>h.2 h2),if_pos h1]
   rw[this];exact Wri.put _ _
  ·rw[if_neg (fun h=>h2 (List.eq_nil_of_length_eq_zero h))]
   have:db n=bt 70:=funext fun s=>by unfold db;rw[if_pos ⟨h1,h2⟩]
   rw[this];exact Wri.fail (by decide)
 ·rw[if_neg h1]
  have:db n=bH n.2.1:=funext fun s=>by unfold db;rw[if_neg (fun h=>h1 h.1),if_neg h1]
  rw[this];exact Wri.str _
def Ev (n:Bool×(List Int×Unit)):List Int×Int:=if n.1=true then (if n.2.1.length=0 then (aB (-1) 4,0) else ([],70)) else (aB n.2.1.length 4++n.2.1,0)
theorem Wri.blob (n:Bool×(List Int×Unit))(hn:n.2.1.length≤2147483647):Wri (Ev n) (eG n):=by
 unfold Ev
 by_cases h1:n.1=true
 ·rw[if_pos h1]
  by_cases h2:n.2.1.length=0
  ·rw[if_pos h2]
   have:eG n=ac (-1) 4:=funext fun s=>by unfold eG;rw[if_neg (fun h=>by omega),if_pos h1]
   rw[this];exact Wri.put _ _
  ·rw[if_neg h2]
   have:eG n=bt 70:=funext fun s=>by unfold eG;rw[if_pos ⟨h1,by omega⟩]
   rw[this];exact Wri.fail (by decide)
 ·rw[if_neg h1]
  have hwr:IntKind.i32.wrap (n.2.1.length:Int)=n.2.1.length:=dd (by simp[ey,IntKind.min,IntKind.max,IntKind.signed,IntKind.bits];omega)
  have:eG n=fun s=>jM n.2.1 (ac n.2.1.length 4 s):=funext fun s=>by unfold eG;rw[if_neg (fun h=>h1 h.1),if_neg h1,hwr]
  rw[this]
  exact ((Wri.put _ _).seq (Wri.raw _)).ofEq (by unfold aU;simp)
def rW {α:Type}(one:α→List Int×Int):List α→List Int×Int
 |[]=>([],0)
 |x::xs=>aU (one x) (rW one xs)
theorem Wri.fold {α:Type}{one:α→List Int×Int}{f:α→bc→bc}:∀{xs:List α},(∀x∈xs,Wri (one x) (f x))→Wri (rW one xs) fun s=>xs.foldl (fun s x=>f x s) s
 |[],_=>Wri.nop
 |x::xs,h=>(h x (by simp)).seq (Wri.fold fun y hy=>h y (List.mem_cons_of_mem _ hy))
def eN {α:Type}(one:α→List Int×Int)(xs:List α):List Int×Int:=if 16<xs.length then ([],9) else aU (aB xs.length 4,0) (rW one xs)
theorem Wri.items {α:Type}{one:α→List Int×Int}{f:α→bc→bc}{xs:List α}(h:∀x∈xs,Wri (one x) (f x)):Wri (eN one xs) (br f xs):=by
 unfold eN
 by_cases h1:16<xs.length
 ·rw[if_pos h1]
  have:br f xs=bt 9:=funext fun s=>by unfold br;rw[if_pos (by omega)]
  rw[this];exact Wri.fail (by decide)
 ·rw[if_neg h1]
  have:br f xs=fun s=>xs.foldl (fun s x=>f x s) (ac xs.length 4 s):=funext fun s=>by unfold br;rw[if_neg (by omega)]
  rw[this]
  exact (Wri.put _ _).seq (Wri.fold h)
theorem Wri.hasE (v lo hi x:Int)(n:Nat):Wri (if lo≤v∧v≤hi then (aB x n,0) else ([],0)) (cV v lo hi x n):=by
 by_cases h:lo≤v∧v≤hi
 ·rw[if_pos h]
  have:cV v lo hi x n=ac x n:=funext fun s=>by unfold cV;rw[if_pos h]
  rw[this];exact Wri.put _ _
 ·rw[if_neg h]
  have:cV v lo hi x n=fun s=>s:=funext fun s=>by unfold cV;rw[if_neg h]
  rw[this];exact Wri.nop
theorem Wri.done {r:List Int×Int}{f:bc→bc}(h:Wri r f)(e:Int):(bP (f (e,(false,[]))),bz (f (e,(false,[]))))=if e≠0 then ([],e) else if r.2≠0 then ([],r.2) else if 130048<r.1.length then ([],4) else (r.1,0):=by
 obtain ⟨h1,h2,h3,_⟩:=h (e,(false,[])) (by simp)
 by_cases he:e=0
 ·subst he
  have h2:=h2 rfl
  by_cases hr:r.2=0
  ·have h0:(f (0,(false,[]))).1=0:=by rw[h2];exact hr
   obtain ⟨h4,h5⟩:=h3 h0
   have h4:(f (0,(false,[]))).2.1=false↔r.1.length≤130048:=
    ⟨fun hx=>by have:=(h4.1 hx).2;simpa using this,fun hx=>h4.2 ⟨rfl,by simpa using hx⟩⟩
   by_cases hl:130048<r.1.length
   ·have hf:(f (0,(false,[]))).2.1=true:=by
     cases hx:(f (0,(false,[]))).2.1 with
     |true=>rfl
     |false=>have:=h4.1 hx;omega
    simp[bP,bz,h0,hf,hr,hl]
   ·have hf:=h4.2 (by omega)
    have h6:=h5 hf
    simp[bP,bz,h0,hf,hr,hl,h6]
  ·have h0:¬(f (0,(false,[]))).1=0:=by rw[h2];exact hr
   simp[bP,bz,h2,hr]
 ·have h1:=h1 he
  simp[bP,bz,h1,he]
theorem Ew {n:Int}(h:ey .i8 n):fP n 1=true:=by
 simp only[ey,IntKind.min,IntKind.max,IntKind.signed,IntKind.bits] at h
 simp at h
 unfold fP
 rw[if_neg (by decide),if_pos]
 simp;omega
theorem BH {n:Int}(h:ey .i16 n):fP n 2=true:=by
 simp only[ey,IntKind.min,IntKind.max,IntKind.signed,IntKind.bits] at h
 simp at h
 unfold fP
 rw[if_neg (by decide),if_pos]
 simp;omega
theorem b8 {n:Int}(h:ey .i32 n):fP n 4=true:=by
 simp only[ey,IntKind.min,IntKind.max,IntKind.signed,IntKind.bits] at h
 simp at h
 unfold fP
 rw[if_neg (by decide),if_pos]
 simp;omega
theorem lO (n:Int):fP n 8=true:=by unfold fP;rw[if_pos (by decide)]
theorem uZ {nm:List Int}{k lo hi:Int}{e:List Fd}{v:Int}{n:Nd}(h9:k≠9)(h10:k≠10):tq (cp nm k lo hi e) v n=bY (cp nm k lo hi e) v n:=by
 obtain ⟨a,ks⟩:=n
 rw[tq]
 exact (if_neg h9).trans (if_neg h10)
theorem aT {nm:List Int}{k lo hi:Int}{e:List Fd}{v:Int}{n:Nd}(h9:k≠9)(h10:k≠10):(ba (cp nm k lo hi e) v n).2=true:=by
 obtain ⟨a,ks⟩:=n
 rw[ba]
 exact congrArg Prod.snd ((if_neg h9).trans (if_neg h10))
theorem aK {nm:List Int}{k lo hi:Int}{e:List Fd}{n:Nd}(h9:k≠9)(h10:k≠10):fC (cp nm k lo hi e) n:=by
 obtain ⟨a,ks⟩:=n
 rw[fC]
 exact ⟨fun h=>absurd h h9,fun h=>absurd h h10⟩
theorem WX {k n:Int}(h:k<5):fS k (ay k n)=true:=by
 unfold fS
 simp;omega
theorem ce {nm:List Int}{k lo hi n w:Int}{e:List Fd}{v:Int}(hk:k≤4)(hw:bu k=w)(hf:fP n w=true):tq (cp nm k lo hi e) v (ay k n)=(aB n w.toNat,0):=by
 rw[uZ (by omega) (by omega),bY]
 refine (if_neg ?_).trans ((if_pos hk).trans ?_)
 ·show ¬ fS k (ay k n)=false
  rw[WX (by omega)];decide
 ·show (if fP n (bu k)=true then _ else _)=_
  rw[hw,if_pos hf]
theorem u9 {nm:List Int}{lo hi:Int}{e:List Fd}{v:Int}(s:List Int):tq (cp nm 5 lo hi e) v (fN s)=pB s:=by
 rw[uZ (by decide) (by decide),bY]
 refine (if_neg ?_).trans ((if_neg (show ¬(5:Int)≤4 by decide)).trans ((if_neg (show ¬(5:Int)=9 by decide)).trans ((if_neg (show ¬(5:Int)=10 by decide)).trans ((if_neg (show ¬(false=true) by decide)).trans ?_))))
 ·show ¬ fS 5 (fN s)=false
  unfold fS;simp
 ·unfold pB
  by_cases h1:(bM s).2=false
  ·rw[if_pos h1];exact if_pos ⟨(show (5:Int)≤6 by decide),h1⟩
  ·rw[if_neg h1]
   refine (if_neg (fun h=>h1 h.2)).trans ?_
   by_cases h2:255<s.length
   ·rw[if_pos h2];exact if_pos ⟨(show (5:Int)≤6 by decide),h2⟩
   ·rw[if_neg h2];exact if_neg (fun h=>h2 h.2)
theorem Sd {nm:List Int}{lo hi:Int}{e:List Fd}{v:Int}(n:gP.den):tq (cp nm 6 lo hi e) v (i4 n)=KB n:=by
 obtain ⟨z,s,⟨⟩⟩:=n
 rw[uZ (by decide) (by decide),bY]
 refine (if_neg ?_).trans ((if_neg (show ¬(6:Int)≤4 by decide)).trans ((if_neg (show ¬(6:Int)=9 by decide)).trans ((if_neg (show ¬(6:Int)=10 by decide)).trans ?_)))
 ·show ¬ fS 6 (i4 (z,(s,())))=false
  unfold fS;simp
 ·unfold KB
  by_cases hz:z=true
  ·refine (if_pos hz).trans ?_
   rw[if_pos hz];rfl
  ·refine (if_neg hz).trans ?_
   rw[if_neg hz]
   unfold pB
   by_cases h1:(bM s).2=false
   ·rw[if_pos h1];exact if_pos ⟨(show (6:Int)≤6 by decide),h1⟩
   ·rw[if_neg h1]
    refine (if_neg (fun h=>h1 h.2)).trans ?_
    by_cases h2:255<List.length s
    ·rw[if_pos h2];exact if_pos ⟨(show (6:Int)≤6 by decide),h2⟩
    ·rw[if_neg h2];exact if_neg (fun h=>h2 h.2)
theorem Ng {nm:List Int}{lo hi:Int}{e:List Fd}{v:Int}(n:pm.den):tq (cp nm 8 lo hi e) v (gU n)=Ev n:=by
 obtain ⟨z,s,⟨⟩⟩:=n
 rw[uZ (by decide) (by decide),bY]
 refine (if_neg ?_).trans ((if_neg (show ¬(8:Int)≤4 by decide)).trans ((if_neg (show ¬(8:Int)=9 by decide)).trans ((if_neg (show ¬(8:Int)=10 by decide)).trans ?_)))
 ·show ¬ fS 8 (gU (z,(s,())))=false
  unfold fS;simp
 ·unfold Ev
  by_cases hz:z=true
  ·refine (if_pos hz).trans ?_
   rw[if_pos hz];rfl
  ·refine (if_neg hz).trans ?_
   rw[if_neg hz]
   exact (if_neg (fun h=>absurd (show (8:Int)≤6 from h.1) (by decide))).trans (if_neg (fun h=>absurd (show (8:Int)≤6 from h.1) (by decide)))
theorem ja {α:Type}{nm:List Int}{lo hi:Int}{g:Fd}{v:Int}(F:α→Nd)(l:List α):tq (cp nm 9 lo hi [g]) v (bb (l.map F))=eN (fun x=>tq g v (F x)) l:=by
 rw[tq]
 refine (if_pos rfl).trans ?_
 unfold eN
 have:∀l:List α,i9 g v (l.map F)=rW (fun x=>tq g v (F x)) l:=by
  intro l
  induction l with
  |nil=>rw[List.map_nil,i9];rfl
  |cons x l ih=>rw[List.map_cons,i9,ih];rfl
 rw[List.length_map]
 show (if 16<l.length then _ else aU _ (i9 g v (l.map F)))=_
 rw[this]
theorem mQ {nm:List Int}{lo hi:Int}{fs:List Fd}{v:Int}(ks:List Nd):tq (cp nm 10 lo hi fs) v (bn ks)=cb v fs ks:=by
 rw[tq];exact (if_neg (show ¬((10:Int)=9) by decide)).trans (if_pos rfl)
theorem fz {α:Type}{nm:List Int}{lo hi:Int}{g:Fd}{v:Int}(F:α→Nd)(l:List α):(ba (cp nm 9 lo hi [g]) v (bb (l.map F))).2=l.all fun x=>(ba g v (F x)).2:=by
 rw[ba]
 refine (congrArg Prod.snd (if_pos rfl)).trans ?_
 show (bX g v (l.map F)).2=_
 induction l with
 |nil=>rw[List.map_nil,bX];rfl
 |cons x l ih=>rw[List.map_cons,bX,List.all_cons,ih]
theorem iH {nm:List Int}{lo hi:Int}{fs:List Fd}{v:Int}(ks:List Nd):(ba (cp nm 10 lo hi fs) v (bn ks)).2=(bF v fs ks).2:=by
 rw[ba];exact congrArg Prod.snd ((if_neg (show ¬((10:Int)=9) by decide)).trans (if_pos rfl))
theorem dD {α:Type}{nm:List Int}{lo hi:Int}{g:Fd}(F:α→Nd)(l:List α)(h:∀x,fC g (F x)):fC (cp nm 9 lo hi [g]) (bb (l.map F)):=by
 rw[fC]
 refine ⟨fun _=>?_,fun h=>absurd (show (9:Int)=10 from h) (by decide)⟩
 show lV g (l.map F)
 induction l with
 |nil=>rw[List.map_nil,lV];trivial
 |cons x l ih=>rw[List.map_cons,lV];exact ⟨h x,ih⟩
theorem eU {nm:List Int}{lo hi:Int}{fs:List Fd}{ks:List Nd}(hl:ks.length=fs.length)(h:dN fs ks):fC (cp nm 10 lo hi fs) (bn ks):=by
 rw[fC]
 exact ⟨fun h=>absurd (show (10:Int)=9 from h) (by decide),fun _=>⟨hl,h⟩⟩
theorem cI:dN [] []:=by rw[dN];trivial;simp
theorem aF {f:Fd}{fs:List Fd}{k:Nd}{ks:List Nd}(h1:fC f k)(h2:dN fs ks):dN (f::fs) (k::ks):=by rw[dN];exact ⟨h1,h2⟩
theorem bw {f:Fd}{fs:List Fd}{k:Nd}{ks:List Nd}{v:Int}(h:gM f v=true):cb v (f::fs) (k::ks)=aU (tq f v k) (cb v fs ks):=by rw[cb,if_pos h]
theorem KJ {f:Fd}{fs:List Fd}{k:Nd}{ks:List Nd}{v:Int}(h:gM f v=false):cb v (f::fs) (k::ks)=cb v fs ks:=by rw[cb,if_neg (by rw[h];decide)]
theorem bB {f:Fd}{fs:List Fd}{k:Nd}{ks:List Nd}{v:Int}(h:gM f v=true):(bF v (f::fs) (k::ks)).2=((ba f v k).2&&(bF v fs ks).2):=by rw[bF,if_pos h]
theorem WI {f:Fd}{fs:List Fd}{k:Nd}{ks:List Nd}{v:Int}(h:gM f v=false):(bF v (f::fs) (k::ks)).2=(bW k&&(bF v fs ks).2):=by rw[bF,if_neg (by rw[h];decide)]
theorem aJ {nm:List Int}{k lo hi v:Int}{e:List Fd}(h1:lo≤v)(h2:v≤hi):gM (cp nm k lo hi e) v=true:=if_pos ⟨h1,h2⟩
theorem wD {nm:List Int}{k lo hi v:Int}{e:List Fd}(h:v<lo∨hi<v):gM (cp nm k lo hi e) v=false:=if_neg (by show ¬(lo≤v∧v≤hi);omega)
theorem W1 {nm:List Int}{k lo hi:Int}{e fs:List Fd}{n:Nd}{ks:List Nd}{v:Int}:cb v (cp nm k lo hi e::fs) (n::ks)=if lo≤v∧v≤hi then aU (tq (cp nm k lo hi e) v n) (cb v fs ks) else cb v fs ks:=by
 by_cases h:lo≤v∧v≤hi
 ·rw[if_pos h,bw (aJ h.1 h.2)]
 ·rw[if_neg h,KJ (wD (by omega))]
theorem fK {nm:List Int}{k lo hi:Int}{e fs:List Fd}{n:Nd}{ks:List Nd}{v:Int}:(bF v (cp nm k lo hi e::fs) (n::ks)).2=((if lo≤v∧v≤hi then (ba (cp nm k lo hi e) v n).2 else bW n)&&(bF v fs ks).2):=by
 by_cases h:lo≤v∧v≤hi
 ·rw[if_pos h,bB (aJ h.1 h.2)]
 ·rw[if_neg h,WI (wD (by omega))]
theorem fJ {v:Int}:(bF v [] []).2=true:=by rw[rC]
theorem bK {k n:Int}:bW (ay k n)=(n == 0):=by unfold bW;by_cases h:n=0 <;> simp[h]
theorem va {n:gP.den}:bW (i4 n)=(n.1 == false&&decide (n.2.1=[])):=by
 obtain ⟨z,s,⟨⟩⟩:=n
 unfold bW
 cases z <;> simp
def okF:Nat→Int→Fd→Bool
 |0,_,_=>false
 |n+1,d,.mk a ks=>!(decide (a.1.length=0))&&(!(decide (a.2.2.1<0))&&(!(decide (3<a.2.2.2.1))&&(!(decide (a.2.2.2.1<a.2.2.1))&&(!(decide (a.2.1<1))&&(!(decide (10<a.2.1)) &&
   (if a.2.1<9 then decide (ks.length=0) else
    (!(decide (ks.length<1))&&(!(decide (16<ks.length))&&(!(decide (8<d+1))&&(lL ks 0 ks&&ks.all fun k=>okF n (d+1) k))))&&(pg ks 5 a.2.2.1 a.2.2.2.1&&(decide (a.2.1=10) || decide (ks.length=1)))))))))
theorem lN {d:Int}:∀{l:List Fd},(∀k∈l,dH d k=true)→cw d l=true
 |[],_=>by rw[cw]
 |k::l,h=>by rw[cw,h k (by simp),lN (l:=l) fun k' hk'=>h k' (List.mem_cons_of_mem _ hk')];rfl
theorem En:∀(n:Nat) (d:Int) (f:Fd),okF n d f=true→dH d f=true
 |0,_,_,h=>by cases h
 |n+1,d,.mk a ks,h=>by
  rw[okF] at h
  simp only[Bool.and_eq_true,Bool.not_eq_true',decide_eq_false_iff_not] at h
  obtain ⟨h1,h2,h3,h4,h5,h6,h7⟩:=h
  rw[dH,if_neg h1,if_neg h2,if_neg h3,if_neg h4,if_neg h5,if_neg h6]
  by_cases h9:a.2.1<9
  ·rw[if_pos h9] at h7 ⊢
   rw[if_pos (of_decide_eq_true h7)]
  ·rw[if_neg h9] at h7 ⊢
   simp only[Bool.and_eq_true,Bool.not_eq_true',decide_eq_false_iff_not,Bool.or_eq_true,decide_eq_true_eq,List.all_eq_true] at h7
   obtain ⟨⟨g1,g2,g3,g4,g5⟩,g6,g7⟩:=h7
   have hl:cx (d+1) ks=true:=by
    rw[cx,if_neg g1,if_neg g2,if_neg g3,g4,lN fun k hk=>En n _ k (g5 k hk)];rfl
   rw[hl,if_neg (by decide),g6,if_neg (by decide)]
   split
   ·rfl
   ·rename_i h10
    rw[if_pos (g7.resolve_left h10)]
theorem uN {t:List Fd}(h:(!(decide (t.length<1))&&(!(decide (16<t.length))&&(lL t 0 t&&t.all fun k=>okF 9 1 k)))=true):nF t=0:=by
 simp only[Bool.and_eq_true,Bool.not_eq_true',decide_eq_false_iff_not,List.all_eq_true] at h
 obtain ⟨g1,g2,g4,g5⟩:=h
 unfold nF
 rw[if_pos]
 rw[cx,if_neg g1,if_neg g2,if_neg (by decide),g4,lN fun k hk=>En 9 _ k (g5 k hk)];rfl
theorem WK:nF uU=0:=uN rfl
theorem WL:nF uV=0:=uN rfl
theorem WN:nF uX=0:=uN rfl
theorem WM:nF uW=0:=uN rfl
theorem lM (k:Int)(r:Bool)(v:Int)(n:Nd):(fT k r v n).1.length≤130048:=by
 unfold fT rX
 repeat' split
 all_goals first | (simp;done) | (dsimp only;omega)
theorem rY {e v lo hi:Int}{z:Bool}:ar v z lo hi (e,(false,([]:List Int)))=((if e≠0 then e else if z=false∧(v<lo∨hi<v) then 7 else 0),(false,[])):=by
 unfold ar bt
 by_cases h:z=false∧(v<lo∨hi<v)
 ·rw[if_pos h]
  by_cases he:e=0
  ·simp[he,h]
  ·simp[he]
 ·rw[if_neg h]
  by_cases he:e=0
  ·simp[he,h]
  ·simp[he]
def K0 (p:bZ.den):List Int×Int:=aU (aB p.1 4,0) (aU (Ev p.2.1) ([],0))
def tl (t:ap.den):List Int×Int:=aU (pB t.1) (aU (eN K0 t.2.1) ([],0))
theorem Wri.part (p:bZ.den)(h:GK p=true):Wri (K0 p) (jZ p):=(Wri.put _ _).seq ((Wri.blob _ (of_decide_eq_true h)).seq Wri.nop)
theorem Wri.topic (t:ap.den)(h:vr t=true):Wri (tl t) (ew t):=(Wri.str _).seq ((Wri.items fun p hp=>Wri.part p (List.all_eq_true.1 h p hp)).seq Wri.nop)
theorem W3 {v:Int}{p:bZ.den}(hv:0≤v∧v≤3)(h:bZ.wf p):tq (cp [112,97,114,116] 10 0 3 [cp [105,110,100,101,120] 3 0 3 [],cp [114,101,99,115] 8 0 3 []]) v (eH p)=K0 p:=by
 unfold eH K0
 rw[mQ,bw (aJ hv.1 hv.2),bw (aJ hv.1 hv.2),dc,ce (by decide) (w:=4) rfl (b8 h.1),Ng]
 rfl
theorem dA {α:Type}{f g:α→List Int×Int}{l:List α}(h:∀x∈l,f x=g x):eN f l=eN g l:=by
 have:rW f l=rW g l:=by
  induction l with
  |nil=>rfl
  |cons x l ih=>
   rw[rW,rW,h x (by simp),ih fun y hy=>h y (List.mem_cons_of_mem _ hy)]
 unfold eN
 rw[this]
theorem Se {v:Int}{t:ap.den}(hv:0≤v∧v≤3)(h:ap.wf t):tq (cp [116,111,112,105,99] 10 0 3 [cp [110,97,109,101] 5 0 3 [],cp [112,97,114,116,115] 9 0 3 [cp [112,97,114,116] 10 0 3 [cp [105,110,100,101,120] 3 0 3 [],cp [114,101,99,115] 8 0 3 []]]]) v (cv t)=tl t:=by
 unfold cv tl
 rw[mQ,bw (aJ hv.1 hv.2),bw (aJ hv.1 hv.2),dc,u9,ja,dA fun p hp=>W3 hv (h.2.1.2 p hp)]
theorem MZ {v:Int}{p:bZ.den}(hv:0≤v∧v≤3):(ba (cp [112,97,114,116] 10 0 3 [cp [105,110,100,101,120] 3 0 3 [],cp [114,101,99,115] 8 0 3 []]) v (eH p)).2=true:=by
 unfold eH
 rw[iH,bB (aJ hv.1 hv.2),bB (aJ hv.1 hv.2),fJ,aT (by decide) (by decide),aT (by decide) (by decide)];rfl
theorem Kn {v:Int}{t:ap.den}(hv:0≤v∧v≤3):(ba (cp [116,111,112,105,99] 10 0 3 [cp [110,97,109,101] 5 0 3 [],cp [112,97,114,116,115] 9 0 3 [cp [112,97,114,116] 10 0 3 [cp [105,110,100,101,120] 3 0 3 [],cp [114,101,99,115] 8 0 3 []]]]) v (cv t)).2=true:=by
 unfold cv
 rw[iH,bB (aJ hv.1 hv.2),bB (aJ hv.1 hv.2),fJ,aT (by decide) (by decide),fz]
 rw[List.all_eq_true.2 fun p _=>MZ hv];rfl
theorem KK (m:kr.den):dN uU [i4 m.1,ay 2 m.2.1,ay 3 m.2.2.1,bb (m.2.2.2.1.map cv)]:=by
 unfold uU cy
 refine aF (aK (by decide) (by decide)) (aF (aK (by decide) (by decide)) (aF (aK (by decide) (by decide)) (aF ?_ cI)))
 refine dD _ _ fun t=>eU rfl (aF (aK (by decide) (by decide)) (aF ?_ cI))
 exact dD _ _ fun p=>eU rfl (aF (aK (by decide) (by decide)) (aF (aK (by decide) (by decide)) cI))
theorem YQ {v:Int}{m:kr.den}(hm:kr.wf m)(hok:cB m.2.2.2.1=true):(bP (pb v m),bz (pb v m))=fA v m:=by
 unfold fA bg
 rw[yO (t:=uU) rfl WK rfl (KK m)]
 unfold pb
 rw[rY]
 have hitems:Wri (eN tl m.2.2.2.1) (br ew m.2.2.2.1):=Wri.items fun t ht=>Wri.topic t (List.all_eq_true.1 hok t ht)
 unfold aX
 by_cases hv:v<0∨3<v
 ·rw[if_pos hv,if_pos hv]
  have hr:=(Wri.put m.2.1 2).seq ((Wri.put m.2.2.1 4).seq hitems)
  have ht:∀s,pe v m.1 s=s:=fun s=>by unfold pe;rw[if_neg (by omega)]
  rw[ht]
  exact (hr.done _).trans (if_pos (by simp))
 rw[if_neg hv,if_neg hv]
 have hv':0≤v∧v≤3:=by omega
 have hcz:(bF v uU [i4 m.1,ay 2 m.2.1,ay 3 m.2.2.1,bb (m.2.2.2.1.map cv)]).2=(if 3≤v∧v≤3 then true else (m.1.1 == false&&decide (m.1.2.1=[]))):=by
  unfold uU cy
  rw[fK,bB (aJ hv'.1 hv'.2),bB (aJ hv'.1 hv'.2),bB (aJ hv'.1 hv'.2),fJ,aT (by decide) (by decide),aT (by decide) (by decide),aT (by decide) (by decide),fz,va]
  rw[List.all_eq_true.2 fun p _=>Kn hv']
  simp
 have hwz:cb v uU [i4 m.1,ay 2 m.2.1,ay 3 m.2.2.1,bb (m.2.2.2.1.map cv)]=if 3≤v∧v≤3 then aU (KB m.1) (aU (aB m.2.1 2,0) (aU (aB m.2.2.1 4,0) (aU (eN tl m.2.2.2.1) ([],0)))) else aU (aB m.2.1 2,0) (aU (aB m.2.2.1 4,0) (aU (eN tl m.2.2.2.1) ([],0))):=by
  unfold uU cy
  rw[W1,bw (aJ hv'.1 hv'.2),bw (aJ hv'.1 hv'.2),bw (aJ hv'.1 hv'.2),dc,Sd,ce (by decide) (w:=2) rfl (BH hm.2.1),ce (by decide) (w:=4) rfl (b8 hm.2.2.1),ja,dA fun t ht=>Se hv' (hm.2.2.2.1.2 t ht)]
  rfl
 rw[hcz,hwz]
 by_cases h3:v=3
 ·have e:3≤v∧v≤3:=by omega
  rw[if_pos e,if_pos e]
  have hr:=(Wri.name m.1).seq ((Wri.put m.2.1 2).seq ((Wri.put m.2.2.1 4).seq (hitems.seq Wri.nop)))
  have ht:∀s,pe v m.1 s=db m.1 s:=fun s=>by unfold pe;rw[if_pos h3]
  rw[ht]
  refine (hr.done _).trans ?_
  have e0:(if (0:Int)≠0 then (0:Int) else if (m.1.1 == false&&decide (m.1.2.1=[]))=false∧(v<3∨3<v) then 7 else 0)=0:=by
   rw[if_neg (by simp),if_neg (by omega)]
  rw[e0]
  exact (if_neg (by decide)).trans (if_neg (by decide)).symm
 ·have e:¬(3≤v∧v≤3):=by omega
  rw[if_neg e,if_neg e]
  have hr:=(Wri.put m.2.1 2).seq ((Wri.put m.2.2.1 4).seq (hitems.seq Wri.nop))
  have ht:∀s,pe v m.1 s=s:=fun s=>by unfold pe;rw[if_neg h3]
  rw[ht]
  refine (hr.done _).trans ?_
  by_cases hz:(m.1.1 == false&&decide (m.1.2.1=[]))=false
  ·have e0:(if (0:Int)≠0 then (0:Int) else if (m.1.1 == false&&decide (m.1.2.1=[]))=false∧(v<3∨3<v) then 7 else 0)=7:=by
    rw[if_neg (by simp),if_pos ⟨hz,by omega⟩]
   rw[e0,if_pos (by simp),if_pos hz]
  ·have e0:(if (0:Int)≠0 then (0:Int) else if (m.1.1 == false&&decide (m.1.2.1=[]))=false∧(v<3∨3<v) then 7 else 0)=0:=by
    rw[if_neg (by simp),if_neg (fun h=>hz h.1)]
   rw[e0,if_neg (by simp),if_neg hz]
theorem Wri.opt {r:List Int×Int}{g:bc→bc}(v lo hi x:Int)(n:Nat)(hg:Wri r g):Wri (if lo≤v∧v≤hi then aU (aB x n,0) r else r) (fun s=>g (cV v lo hi x n s)):=by
 by_cases h:lo≤v∧v≤hi
 ·rw[if_pos h]
  have:(fun s=>g (cV v lo hi x n s))=fun s=>g (ac x n s):=funext fun s=>by unfold cV;rw[if_pos h]
  rw[this];exact (Wri.put x n).seq hg
 ·rw[if_neg h]
  have:(fun s=>g (cV v lo hi x n s))=g:=funext fun s=>by unfold cV;rw[if_neg h]
  rw[this];exact hg
def acQ (v:Int)(p:ga.den):List Int×Int:=aU (aB p.1 4,0) (aU (aB p.2.1 2,0) (aU (aB p.2.2.1 8,0)
 (if 2≤v∧v≤3 then aU (aB p.2.2.2.1 8,0) (if 3≤v∧v≤3 then aU (aB p.2.2.2.2.1 8,0) ([],0) else ([],0)) else (if 3≤v∧v≤3 then aU (aB p.2.2.2.2.1 8,0) ([],0) else ([],0)))))
def L9 (v:Int)(p:ga.den):Bool:=(if 2≤v∧v≤3 then true else (p.2.2.2.1 == 0))&&(if 3≤v∧v≤3 then true else (p.2.2.2.2.1 == 0))
def ki (e:Int)(ok:Bool):Int:=if e≠0 then e else if ok=false then 7 else 0
theorem eP (e:Int)(a b:Bool):ki (ki e a) b=ki e (a&&b):=by
 unfold ki
 by_cases he:e=0
 ·subst he;cases a <;> cases b <;> simp
 ·simp[he]
theorem k5 (e:Int):ki e true=e:=by unfold ki;by_cases h:e=0 <;> simp[h]
theorem eC {e v lo hi:Int}{z:Bool}:ar v z lo hi (e,(false,([]:List Int)))=(ki e (if lo≤v∧v≤hi then true else z),(false,[])):=by
 rw[rY]
 unfold ki
 by_cases he:e=0
 ·subst he
  by_cases h:lo≤v∧v≤hi
  ·rw[if_pos h]
   have:¬(z=false∧(v<lo∨hi<v)):=by rintro ⟨_,h'⟩;omega
   simp[this]
  ·rw[if_neg h]
   have:v<lo∨hi<v:=by omega
   simp[this]
 ·simp[he]
theorem HcOk.weakW {f:Nat}{io:Io}{Fn Fn':io.In→Tr io.Res}(h:HcOk prog f (ah io Fn))(hF:∀d y,io.wf d→(Fn' d).val=some y→(Fn d).val=some y):HcOk prog f (ah io Fn'):=by
 intro R args id A K r F G ts cst w vals hid hc Rl hv
 unfold ah at hc
 cases h1:xw io.args args (List.replicate io.obs.length Option.none) with
 |none=>rw[h1] at hc;cases hc
 |some p=>
  obtain ⟨a,β1⟩:=p
  rw[h1] at hc
  simp only at hc
  cases h2:Qq A.ob io.obs 0 β1 with
  |none=>rw[h2] at hc;cases hc
  |some q=>
   obtain ⟨o,β⟩:=q
   rw[h2] at hc
   simp only at hc
   have hn:=fun y=>hF (a,o) y ⟨Gp h1 hv,L6 Rl.ob h2⟩
   refine h R args id A K r F G ts cst w vals hid ?_ Rl hv
   unfold ah
   rw[h1]
   simp only[h2]
   revert hc
   cases bR ((ke (dV 0) io.args args 0++m8 A.ob β (n4 io.obs.length 0) io.obs 0).map (·.2))&&(bR ((ke (dV 0) io.args args 0++m8 A.ob β (n4 io.obs.length 0) io.obs 0).map (·.1))&&io.ok) with
   |false=>intro hc;cases hc
   |true=>
    intro hc
    obtain ⟨out,ho,hk⟩:=Tr.run_val hc
    exact (Tr.val_run (hn out ho)).trans hk
abbrev yz:Io:=sI
def SI (d:yz.In):Tr yz.Res:=.ite (cB d.1.2.1.2.2.2.1) (.ret (.ret (((fA d.1.1 d.1.2.1).1,((fA d.1.1 d.1.2.1).2,())),()))) .no
theorem YD:HcOk prog 43 (ah yz SI):=by
 refine HcOk.weakW abj ?_
 rintro ⟨⟨(v:Int),m,⟨⟩⟩,⟨⟩⟩ y hw hy
 obtain ⟨hg,hy⟩:=Tr.guard hy
 refine (aa hg _ _).trans ?_
 rw[← hy]
 have h:=YQ (v:=v) (m:=m) hw.1.2.1 hg
 show some (Out.ret ((bP (pb v m),(bz (pb v m),())),()))=some (Out.ret (((fA v m).1,((fA v m).2,())),()))
 rw[← h]
def G7 (m:kr.den):Bool:=cB m.2.2.2.1&&(cF m.2.2.2.1&&decide (8*aP (bg m)≤4294967296))
theorem KX {k:IntKind}:∀b:List Int,(List.map (jR (.int k)) b).sum=b.length
 |[]=>rfl
 |c::b=>by
  have:=KX (k:=k) b
  rw[List.map_cons,List.sum_cons,this,List.length_cons]
  show 1+_=_
  omega
theorem aaF (b:List Int):jR bs b=b.length+1:=by
 show (List.map (jR (.int .u8)) b).sum+1=_
 rw[KX]
theorem pp {T:Ty}{F:T.den→Nd}{c:Nat}:∀{l:List T.den},(∀x∈l,aP (F x)≤c*jR T x)→aI (l.map F)≤c*(l.map (jR T)).sum
 |[],_=>by rw[List.map_nil,cG];exact Nat.zero_le _
 |x::l,h=>by
  have h1:=h x (by simp)
  have h2:=pp (l:=l) fun y hy=>h y (List.mem_cons_of_mem _ hy)
  rw[List.map_cons,aM,List.map_cons,List.sum_cons,Nat.mul_add]
  omega
theorem vq {T:Ty}{x:T.den}:∀{l:List T.den},x∈l→jR T x≤(l.map (jR T)).sum
 |y::l,h=>by
  rw[List.map_cons,List.sum_cons]
  rcases List.mem_cons.1 h with rfl | h
  ·omega
  ·have:=vq (l:=l) h;omega
theorem pl {T:Ty}(hT:∀x:T.den,1≤jR T x):∀l:List T.den,l.length≤(l.map (jR T)).sum
 |[]=>Nat.zero_le _
 |x::l=>by
  have:=pl hT l
  have:=hT x
  rw[List.map_cons,List.sum_cons,List.length_cons];omega
theorem Ag (p:bZ.den):jR bZ p=p.2.1.2.1.length+3:=by
 show 1+((1+(jR bs p.2.1.2.1+0))+0)=_
 rw[aaF];omega
theorem vP (t:ap.den):jR ap t=(t.1.length+1)+(((t.2.1.map (jR bZ)).sum+1)+0):=rfl
theorem XF (m:kr.den):jR kr m=(1+((m.1.2.1.length+1)+0))+(1+(1+(((m.2.2.2.1.map (jR ap)).sum+1)+0))):=rfl
theorem cL (k n:Int):aP (ay k n)=1:=by rw[cC];show 1+0+aI []=1;rw[cG]
theorem wF (x:List Int):aP (fN x)=1+x.length:=by rw[cC];show 1+x.length+aI []=_;rw[cG];rfl
theorem Nk (x:gP.den):aP (i4 x)=1+x.2.1.length:=by rw[cC];show 1+x.2.1.length+aI []=_;rw[cG];rfl
theorem KN (x:pm.den):aP (gU x)=1+x.2.1.length:=by rw[cC];show 1+x.2.1.length+aI []=_;rw[cG];rfl
theorem jb (l:List Nd):aP (bn l)=1+aI l:=by rw[cC];show 1+0+aI l=_;omega
theorem k7 (l:List Nd):aP (bb l)=1+aI l:=by rw[cC];show 1+0+aI l=_;omega
theorem ZQ (p:bZ.den):aP (eH p)≤3*jR bZ p:=by
 rw[Ag]
 show aP (bn [ay 3 p.1,gU p.2.1])≤_
 rw[jb,aM,aM,cG,cL,KN]
 omega
theorem Xq (t:ap.den):aP (cv t)≤3*jR ap t:=by
 have h:=pp (T:=bZ) (F:=eH) (c:=3) (l:=t.2.1) fun p _=>ZQ p
 rw[vP]
 show aP (bn [fN t.1,bb (t.2.1.map eH)])≤_
 rw[jb,aM,aM,cG,wF,k7]
 omega
theorem VQ {m:kr.den}(h:jR kr m≤1048576):G7 m=true:=by
 have h1:=pp (T:=ap) (F:=cv) (c:=3) (l:=m.2.2.2.1) fun t _=>Xq t
 have h2:=pl (T:=ap) (fun t=>by rw[vP];omega) m.2.2.2.1
 rw[XF] at h
 have ht:∀t∈m.2.2.2.1,jR ap t≤1048576:=fun t ht=>by have:=vq (T:=ap) ht;omega
 have hp:∀t∈m.2.2.2.1,t.2.1.length≤1048576∧∀p∈t.2.1,p.2.1.2.1.length≤1048576:=fun t htm=>by
  have a1:=ht t htm
  rw[vP] at a1
  have a2:=pl (T:=bZ) (fun p=>by rw[Ag];omega) t.2.1
  refine ⟨by omega,fun p hp=>?_⟩
  have a3:=vq (T:=bZ) hp
  rw[Ag] at a3
  omega
 unfold G7
 simp only[Bool.and_eq_true,decide_eq_true_eq]
 refine ⟨?_,?_,?_⟩
 ·refine List.all_eq_true.2 fun t htm=>List.all_eq_true.2 fun p hpm=>decide_eq_true ?_
  have:=(hp t htm).2 p hpm
  omega
 ·unfold cF
  simp only[Bool.and_eq_true,decide_eq_true_eq]
  refine ⟨by omega,List.all_eq_true.2 fun t htm=>decide_eq_true ?_⟩
  have:=(hp t htm).1
  omega
 ·unfold bg
  show 8*aP (bn [i4 m.1,ay 2 m.2.1,ay 3 m.2.2.1,bb (m.2.2.2.1.map cv)])≤_
  rw[jb,aM,aM,aM,aM,cG,Nk,cL,cL,k7]
  omega
abbrev d8:Sh:=.dat (.int .i8) false false
abbrev Ax:Io:=⟨[.ptr 0 0,d8],[Yo],[],[dI],none⟩
def aaz (d:Ax.In):Tr Ax.Res:=
 .ite (bf d.2.1.1 d.2.1.2.1) (.ret (.ret (((ax d.2.1.1 d.2.1.2.1 d.1.2.1 1).1,()),(((ax d.2.1.1 d.2.1.2.1 d.1.2.1 1).2,(d.2.1.2.1,())),())))) .no
abbrev Z4:List (Nat×Hc):=[(116,ah fM nq)]
def acz:Hd:=bA Z4
def aah:Lp:=bv []
def NU (a0:Int)(a1:List Int)(a2:Int):Option Ax.Res:=bif bf a1 a2&&(decide (0≤1)&&decide (1≤8)) then some (Out.ret (((ax a1 a2 (IntKind.u64.wrap a0) (Int.toNat 1)).1,()),((ax a1 a2 (IntKind.u64.wrap a0) (Int.toNat 1)).2,a2,()),())) else none
theorem abx (a0:Int)(a1:List Int)(a2:Int):Io.run tt acz dr aah Ax Tryz.f196 (((),a0,()),(a1,a2,()),())=NU a0 a1 a2:=by kernel_rfl
theorem acK:HcOk prog 196 (ah Ax aaz):=by
 refine aj (n:=400) hm (cs:=Z4) (.cons rA .nil) (lp:=aah) (fn:=Tryz.f196) (by kernel_rfl) (by kernel_rfl) (by kernel_rfl) Ax (.done (by kernel_rfl)) aaz ?_
 rintro ⟨⟨⟨⟩,(v:Int),⟨⟩⟩,⟨⟨(b:List Int),(m:Int),⟨⟩⟩,⟨⟩⟩⟩ out hw ho
 obtain ⟨hg,ho⟩:=Tr.guard ho
 have hg:bf b m=true:=hg
 cases ho
 refine (abx v b m).trans ?_
 unfold NU
 have e:ax b m (IntKind.u64.wrap v) 1=ax b m v 1:=by unfold ax;rw[uL v (by decide)]
 simp[hg,e]
abbrev xr:Io:=⟨[.ptr 0 0,d8],rP,[],[],none⟩
def Xu (d:xr.In):Tr xr.Res:=.ite (fQ d.2) (.ret (.ret ((),ca d.2.1.2.1 (ac d.1.2.1 1 (fR d.2))))) .no
abbrev Z2:List (Nat×Hc):=[(196,ah Ax aaz),(195,ah fI ma)]
def acx:Hd:=bA Z2
def aaf:Lp:=bv []
def Xy (a0 a1 a2:Int)(a3:Bool)(a4:List Int)(a5:Int):Option xr.Res:=bif bf a4 a5 then bif decide (a5=130048)&&decide ((ax a4 a5 a0 1).2.length≤130048) then some (Out.ret ((),((),a1,a2,a3 || decide ((ax a4 a5 a0 1).1≠0),()),((ax a4 a5 a0 1).2,130048,()),())) else none else none
theorem abu (a0 a1 a2:Int)(a3:Bool)(a4:List Int)(a5:Int):Io.run tt acx dr aaf xr Tryz.f106 (((),a0,()),((),a1,a2,a3,()),(a4,a5,()),())=Xy a0 a1 a2 a3 a4 a5:=by kernel_rfl
theorem Ep:HcOk prog 106 (ah xr Xu):=by
 refine aj (n:=400) hm (cs:=Z2) (.cons acK (.cons nB .nil)) (lp:=aaf) (fn:=Tryz.f106) (by kernel_rfl) (by kernel_rfl) (by kernel_rfl) xr (.done (by kernel_rfl)) Xu ?_
 rintro ⟨⟨⟨⟩,(x:Int),⟨⟩⟩,⟨⟨⟨⟩,(v:Int),(e:Int),(f:Bool),⟨⟩⟩,⟨(b:List Int),(m:Int),⟨⟩⟩,⟨⟩⟩⟩ out hw ho
 obtain ⟨hg,ho⟩:=Tr.guard ho
 obtain ⟨rfl,hb⟩:=bx hg
 cases ho
 refine (abu x v e f b 130048).trans ?_
 exact FP 1 x hb
abbrev sJ:Io:=⟨[.ptr 0 0],[Su],[],[d8,dI],none⟩
def SJ (d:sJ.In):Tr sJ.Res:=
 .ite (bo d.2.1.1 d.2.1.2.1) (.ret (.ret ((IntKind.i8.wrap (aq d.2.1.1 d.2.1.2.1 1).1,((aq d.2.1.1 d.2.1.2.1 1).2.2,())),((d.2.1.1,((aq d.2.1.1 d.2.1.2.1 1).2.1,())),())))) .no
abbrev TE:List (Nat×Hc):=[(166,ah eB kR)]
def aa5:Hd:=bA TE
def UY:Lp:=bv []
def HU (a0:List Int)(a1:Int):Option sJ.Res:=bif bo a0 a1&&(decide (0≤1)&&decide (1≤8)) then some (Out.ret ((IntKind.i8.wrap (aq a0 a1 (Int.toNat 1)).1,(aq a0 a1 (Int.toNat 1)).2.2,()),(a0,(aq a0 a1 (Int.toNat 1)).2.1,()),())) else none
theorem Zg (a0:List Int)(a1:Int):Io.run tt aa5 dr UY sJ Tryz.f205 (((),()),(a0,a1,()),())=HU a0 a1:=by kernel_rfl
theorem abk:HcOk prog 205 (ah sJ SJ):=by
 refine aj (n:=400) hm (cs:=TE) (.cons oZ .nil) (lp:=UY) (fn:=Tryz.f205) (by kernel_rfl) (by kernel_rfl) (by kernel_rfl) sJ (.done (by kernel_rfl)) SJ ?_
 rintro ⟨⟨⟨⟩,⟨⟩⟩,⟨⟨(b:List Int),(p:Int),⟨⟩⟩,⟨⟩⟩⟩ out hw ho
 obtain ⟨hg,ho⟩:=Tr.guard ho
 have hg:bo b p=true:=hg
 cases ho
 refine (Zg b p).trans ?_
 unfold HU
 rw[aa (by simp[hg])]
 rfl
abbrev Ar:Io:=⟨[.ptr 0 0,.fnc 205 true [1]],pC,[],[d8],none⟩
def aat (d:Ar.In):Tr Ar.Res:=.ite (pU d.2) (.ret (.ret ((IntKind.i8.wrap (aq d.2.2.1.1 d.2.2.1.2.1 1).1,()),dm d.2.1.2.1 d.2.2.1.1 ((aq d.2.2.1.1 d.2.2.1.2.1 1).2.2,(aq d.2.2.1.1 d.2.2.1.2.1 1).2.1)))) .no
abbrev ZZ:List (Nat×Hc):=[(205,ah sJ SJ)]
def acu:Hd:=bA ZZ
def aac:Lp:=bv []
def NO (a0 a1:Int)(a2:List Int)(a3:Int):Option Ar.Res:=bif bo a2 a3 then some (Out.ret ((IntKind.i8.wrap (aq a2 a3 1).1,()),((),a0,(aq a2 a3 1).2.2,()),(a2,(aq a2 a3 1).2.1,()),())) else none
theorem abq (a0 a1:Int)(a2:List Int)(a3:Int):Io.run tt acu dr aac Ar Tryz.f204 (((),(),()),((),a0,a1,()),(a2,a3,()),())=NO a0 a1 a2 a3:=by kernel_rfl
theorem acF:HcOk prog 204 (ah Ar aat):=by
 refine aj (n:=400) hm (cs:=ZZ) (.cons abk .nil) (lp:=aac) (fn:=Tryz.f204) (by kernel_rfl) (by kernel_rfl) (by kernel_rfl) Ar (.done (by kernel_rfl)) aat ?_
 rintro ⟨⟨⟨⟩,⟨⟩,⟨⟩⟩,⟨⟨⟩,(v:Int),(e:Int),⟨⟩⟩,⟨(b:List Int),(p:Int),⟨⟩⟩,⟨⟩⟩ out hw ho
 obtain ⟨hg,ho⟩:=Tr.guard ho
 have hg:av b p=true:=hg
 cases ho
 refine (abq v e b p).trans ?_
 unfold NO
 exact aa (qs hg) _ _
abbrev Aq:Io:=⟨[.ptr 0 0],pC,[],[d8],none⟩
def aas (d:Aq.In):Tr Aq.Res:=.ite (pU d.2) (.ret (.ret (((ae .i8 1 d.2.2.1.1 (eT d.2)).1,()),dm d.2.1.2.1 d.2.2.1.1 (ae .i8 1 d.2.2.1.1 (eT d.2)).2))) .no
abbrev ZY:List (Nat×Hc):=[(204,ah Ar aat)]
def act:Hd:=bA ZY
def aab:Lp:=bv []
def NN (a0 a1:Int)(a2:List Int)(a3:Int):Option Aq.Res:=bif a1 != 0 then some (Out.ret ((0,()),((),a0,a1,()),(a2,a3,()),())) else bif av a2 a3 then some (Out.ret ((IntKind.i8.wrap (aq a2 a3 1).1,()),((),a0,(aq a2 a3 1).2.2,()),(a2,(aq a2 a3 1).2.1,()),())) else none
theorem abp (a0 a1:Int)(a2:List Int)(a3:Int):Io.run tt act dr aab Aq Tryz.f151 (((),()),((),a0,a1,()),(a2,a3,()),())=NN a0 a1 a2 a3:=by kernel_rfl
theorem acE:HcOk prog 151 (ah Aq aas):=by
 refine aj (n:=400) hm (cs:=ZY) (.cons acF .nil) (lp:=aab) (fn:=Tryz.f151) (by kernel_rfl) (by kernel_rfl) (by kernel_rfl) Aq (.done (by kernel_rfl)) aas ?_
 rintro ⟨⟨⟨⟩,⟨⟩⟩,⟨⟨⟩,(v:Int),(e:Int),⟨⟩⟩,⟨(b:List Int),(p:Int),⟨⟩⟩,⟨⟩⟩ out hw ho
 obtain ⟨hg,ho⟩:=Tr.guard ho
 have hg:av b p=true:=hg
 cases ho
 refine (abp v e b p).trans ?_
 unfold NN
 show _=some (Out.ret (((ae .i8 1 b (e,p)).1,()),dm v b (ae .i8 1 b (e,p)).2))
 unfold ae
 by_cases h:e=0
 ·rw[if_pos h]
  refine (ab (by simpa using h) _ _).trans ?_
  exact aa hg _ _
 ·rw[if_neg h]
  exact aa (by simpa using h) _ _
abbrev sD:Io:=⟨[.ptr 0 0],xz,[],[d8],none⟩
def Sz (d:sD.In):Tr sD.Res:=.ite (decide (d.2.1.2.2.1≠0)) (.ret (.ret ((0,()),d.2))) .no
abbrev Tl:List (Nat×Hc):=[]
def aaR:Hd:=bA Tl
def UK:Lp:=bv []
def HI (a0 a1:Int):Option sD.Res:=bif a1 != 0 then some (Out.ret ((0,()),((),a0,a1,()),())) else none
theorem Y0 (a0 a1:Int):Io.run tt aaR dr UK sD Tryz.f151 (((),()),((),a0,a1,()),())=HI a0 a1:=by kernel_rfl
theorem abf:HcOk prog 151 (ah sD Sz):=by
 refine aj (n:=400) hm (cs:=Tl) HcsOk.nil (lp:=UK) (fn:=Tryz.f151) (by kernel_rfl) (by kernel_rfl) (by kernel_rfl) sD (.done (by kernel_rfl)) Sz ?_
 rintro ⟨⟨⟨⟩,⟨⟩⟩,⟨⟨⟩,(v:Int),(e:Int),⟨⟩⟩,⟨⟩⟩ out hw ho
 obtain ⟨hg,ho⟩:=Tr.guard ho
 have hg:e≠0:=of_decide_eq_true hg
 cases ho
 refine (Y0 v e).trans ?_
 unfold HI
 exact aa (by simpa using hg) _ _
theorem bG {v lo hi x:Int}{n:Nat}{s:bc}(h:lo≤v∧v≤hi):cV v lo hi x n s=ac x n s:=by unfold cV;rw[if_pos h]
theorem bk {v lo hi x:Int}{n:Nat}{s:bc}(h:¬(lo≤v∧v≤hi)):cV v lo hi x n s=s:=by unfold cV;rw[if_neg h]
theorem II (x:Int):∀(n:Nat) (v:Int),(aB x n).foldl (fun v c=>v*256+c) v=v*256 ^ n+x % 256 ^ n
 |0,v=>by simp[aB]
 |n+1,v=>by
  rw[aB,List.foldl_cons,II x n]
  have h1:x % 256 ^ (n+1)=x % 256 ^ n+256 ^ n*((x / 256 ^ n) % 256):=by
   have hq:(0:Int)<256 ^ n:=Int.pow_pos (by decide)
   rw[Int.pow_succ]
   have hx:=Int.emod_add_mul_ediv x (256 ^ n)
   have hy:=Int.emod_add_mul_ediv (x / 256 ^ n) 256
   have h1:=Int.emod_nonneg x (Int.ne_of_gt hq)
   have h2:=Int.emod_lt_of_pos x hq
   have h3:0≤(x / 256 ^ n) % 256:=Int.emod_nonneg _ (by decide)
   have h4:(x / 256 ^ n) % 256<256:=Int.emod_lt_of_pos _ (by decide)
   generalize x % 256 ^ n=r at hx h1 h2 ⊢
   generalize hd:x / 256 ^ n=d at hx hy h3 h4 ⊢
   generalize d % 256=c at hy h3 h4 ⊢
   generalize d / 256=e at hy
   generalize (256:Int) ^ n=q at hq hx h2 ⊢
   refine ((Int.ediv_emod_unique (q:=e) (by omega)).2 ⟨?_,?_,?_⟩).2
   ·rw[← hx,← hy,Int.mul_add,Int.mul_assoc];omega
   ·have:=Int.mul_nonneg (Int.le_of_lt hq) h3;omega
   ·have:q*c≤q*255:=Int.mul_le_mul_of_nonneg_left (by omega) (Int.le_of_lt hq);omega
  rw[h1,Int.pow_succ,Int.add_mul,Int.mul_assoc,Int.mul_comm 256 (256 ^ n),Int.mul_comm ((x / 256 ^ n) % 256)]
  omega
theorem Bw (x:Int)(n:Nat):gV (aB x n)=x % 256 ^ n:=by
 unfold gV
 rw[II];omega
theorem tp {x:Int}(h:ey .i16 x):IntKind.i16.wrap (gV (aB x 2))=x:=by
 rw[Bw]
 simp only[ey,IntKind.min,IntKind.max,IntKind.signed,IntKind.bits] at h
 simp at h
 simp[IntKind.wrap,IntKind.min,IntKind.max,IntKind.signed,IntKind.bits]
 omega
theorem cN {x:Int}(h:ey .i32 x):IntKind.i32.wrap (gV (aB x 4))=x:=by
 rw[Bw]
 simp only[ey,IntKind.min,IntKind.max,IntKind.signed,IntKind.bits] at h
 simp at h
 simp[IntKind.wrap,IntKind.min,IntKind.max,IntKind.signed,IntKind.bits]
 omega
theorem gb {x:Int}(h:ey .i64 x):IntKind.i64.wrap (gV (aB x 8))=x:=by
 rw[Bw]
 simp only[ey,IntKind.min,IntKind.max,IntKind.signed,IntKind.bits] at h
 simp at h
 simp[IntKind.wrap,IntKind.min,IntKind.max,IntKind.signed,IntKind.bits]
 omega
structure Rea {α:Type} (b:List Int) (x:α) (r:List Int) (f:aQ→α×aQ):Prop where
 full:∀(p:Nat) (rest:List Int),p≤b.length→b.drop p=r++rest→f (0,(p:Int))=(x,(0,((p+r.length:Nat):Int)))
 short:∀(p:Nat) (t:List Int),p≤b.length→t≠[]→b.drop p++t=r→(f (0,(p:Int))).2.1=1
 dead:∀s,s.1≠0→(f s).2.1=s.1
theorem nr {b r rest:List Int}{p:Nat}(hp:p≤b.length)(h:b.drop p=r++rest):p+r.length≤b.length∧b.drop (p+r.length)=rest:=by
 have h1:=congrArg List.length h
 simp only[List.length_drop,List.length_append] at h1
 refine ⟨by omega,?_⟩
 rw[← List.drop_drop,h,List.drop_left]
theorem Rea.seq {α β γ:Type}{b r1 r2:List Int}{x:α}{y:β}{f:aQ→α×aQ}{g:aQ→β×aQ}(c:α→β→γ)(hf:Rea b x r1 f)(hg:Rea b y r2 g):
  Rea b (c x y) (r1++r2) fun s=>(c (f s).1 (g (f s).2).1,(g (f s).2).2) where
 full:=fun p rest hp h=>by
  rw[List.append_assoc] at h
  obtain ⟨h1,h2⟩:=nr hp h
  simp only[hf.full p _ hp h,hg.full _ rest h1 h2,List.length_append,Nat.add_assoc]
 short:=fun p t hp ht h=>by
  by_cases hl:r1.length≤(b.drop p).length
  ·have h1:b.drop p=r1++(b.drop p).drop r1.length:=by
    have:(b.drop p).take r1.length=r1:=by
     have:=congrArg (List.take r1.length) h
     rwa [List.take_append_of_le_length hl,List.take_left] at this
    conv=>lhs;rw[← List.take_append_drop r1.length (b.drop p),this]
   obtain ⟨h3,h4⟩:=nr hp h1
   rw[h1,List.append_assoc] at h
   have h5:=List.append_cancel_left h
   simp only[hf.full p _ hp h1]
   exact hg.short _ t h3 ht (by rw[h4];exact h5)
  ·have h1:r1=b.drop p++r1.drop (b.drop p).length:=by
    have:r1.take (b.drop p).length=b.drop p:=by
     have:=congrArg (List.take (b.drop p).length) h
     rw[List.take_left,List.take_append_of_le_length (by omega)] at this
     exact this.symm
    conv=>lhs;rw[← List.take_append_drop (b.drop p).length r1,this]
   have h2:=hf.short p (r1.drop (b.drop p).length) hp (by intro e;have:=congrArg List.length e;simp only[List.length_drop,List.length_nil] at this hl;omega) h1.symm
   have h3:=hg.dead (f (0,(p:Int))).2 (by rw[h2];decide)
   exact h3.trans h2
 dead:=fun s hs=>by
  have h1:=hf.dead s hs
  exact (hg.dead _ (by rw[h1];exact hs)).trans h1
theorem Rea.nop {α:Type}(b:List Int)(x:α){f:aQ→α×aQ}(hf:∀p:Nat,f (0,(p:Int))=(x,(0,(p:Int))))(hd:∀s,s.1≠0→(f s).2.1=s.1):Rea b x [] f where
 full:=fun p rest hp h=>by rw[hf];rfl
 short:=fun p t hp ht h=>absurd (List.append_eq_nil_iff.1 h).2 ht
 dead:=hd
theorem Rea.congr {α:Type}{b r:List Int}{x:α}{f g:aQ→α×aQ}(h:Rea b x r f)(e:∀s,g s=f s):Rea b x r g:=by
 have:g=f:=funext e
 rw[this];exact h
theorem RZ (k:IntKind)(n:Nat)(b:List Int){s:aQ}(h:s.1≠0):ae k n b s=(0,s):=by unfold ae;rw[if_neg h]
theorem Rea.num {b:List Int}{k:IntKind}{n:Nat}{x:Int}(hx:k.wrap (gV (aB x n))=x):Rea b x (aB x n) (ae k n b) where
 full:=fun p rest hp h=>by
  obtain ⟨h1,h2⟩:=nr hp h
  rw[bN] at h1 ⊢
  unfold ae
  rw[if_pos rfl]
  have hr:aq b (p:Int) n=(gV (aB x n),((p:Int)+n,0)):=by
   unfold aq
   rw[if_neg (by omega)]
   have:((b.drop ((p:Int)).toNat).take n)=aB x n:=by
    rw[Int.toNat_natCast,h]
    have:=List.take_left (l₁:=aB x n) (l₂:=rest)
    rw[bN] at this
    exact this
   rw[this]
  simp only[hr,hx]
  simp
 short:=fun p t hp ht h=>by
  have hl:=congrArg List.length h
  rw[List.length_append,List.length_drop,bN] at hl
  have:0<t.length:=List.length_pos_iff.2 ht
  unfold ae
  rw[if_pos rfl]
  unfold aq
  rw[if_pos (by omega)]
 dead:=fun s hs=>by rw[RZ _ _ _ hs]
theorem o9 (b:List Int)(n:Int){s:aQ}(h:s.1≠0):bU b n s=([],s):=by unfold bU;rw[if_neg h]
theorem Rea.take {b:List Int}(t:List Int):Rea b t t (bU b t.length) where
 full:=fun p rest hp h=>by
  obtain ⟨h1,h2⟩:=nr hp h
  unfold bU
  rw[if_pos rfl,if_neg (by omega)]
  have hr:aR b (p:Int) (t.length:Int)=(t,((p:Int)+t.length,0)):=by
   unfold aR
   rw[if_neg (by omega),if_neg (by omega),Int.toNat_natCast,Int.toNat_natCast,h,List.take_left]
  simp only[hr]
  simp
 short:=fun p u hp ht h=>by
  have hl:=congrArg List.length h
  rw[List.length_append,List.length_drop] at hl
  have:0<u.length:=List.length_pos_iff.2 ht
  unfold bU
  rw[if_pos rfl,if_neg (by omega)]
  unfold aR
  rw[if_neg (by omega),if_pos (by omega)]
 dead:=fun s hs=>by rw[o9 _ _ hs]
theorem Rea.bind {α β:Type}{b r1 r2:List Int}{x:α}{y:β}{f:aQ→α×aQ}{g:α→aQ→β×aQ}(hf:Rea b x r1 f)(hg:Rea b y r2 (g x))(a0:α)(hz:∀s,(f s).2.1≠0→(f s).1=a0)(hd:∀s,s.1≠0→(g a0 s).2.1=s.1):
  Rea b y (r1++r2) fun s=>g (f s).1 (f s).2 where
 full:=fun p rest hp h=>by
  rw[List.append_assoc] at h
  obtain ⟨h1,h2⟩:=nr hp h
  simp only[hf.full p _ hp h,hg.full _ rest h1 h2,List.length_append,Nat.add_assoc]
 short:=fun p t hp ht h=>by
  by_cases hl:r1.length≤(b.drop p).length
  ·have h1:b.drop p=r1++(b.drop p).drop r1.length:=by
    have:(b.drop p).take r1.length=r1:=by
     have:=congrArg (List.take r1.length) h
     rwa [List.take_append_of_le_length hl,List.take_left] at this
    conv=>lhs;rw[← List.take_append_drop r1.length (b.drop p),this]
   obtain ⟨h3,h4⟩:=nr hp h1
   rw[h1,List.append_assoc] at h
   have h5:=List.append_cancel_left h
   simp only[hf.full p _ hp h1]
   exact hg.short _ t h3 ht (by rw[h4];exact h5)
  ·have h1:r1=b.drop p++r1.drop (b.drop p).length:=by
    have:r1.take (b.drop p).length=b.drop p:=by
     have:=congrArg (List.take (b.drop p).length) h
     rw[List.take_left,List.take_append_of_le_length (by omega)] at this
     exact this.symm
    conv=>lhs;rw[← List.take_append_drop (b.drop p).length r1,this]
   have h2:=hf.short p (r1.drop (b.drop p).length) hp (by intro e;have:=congrArg List.length e;simp only[List.length_drop,List.length_nil] at this hl;omega) h1.symm
   have h3:=hd (f (0,(p:Int))).2 (by rw[h2];decide)
   rw[← hz (0,(p:Int)) (by rw[h2];decide)] at h3
   exact h3.trans h2
 dead:=fun s hs=>by
  have h1:=hf.dead s hs
  have h3:=hd (f s).2 (by rw[h1];exact hs)
  rw[← hz s (by rw[h1];exact hs)] at h3
  exact h3.trans h1
theorem EB:(bM []).2=true:=by rfl
theorem uO (b:List Int)(n:Int){s:aQ}(h:s.1≠0)(hn:n≤255):en b n s=([],s):=by
 have e:jW n s=s:=by unfold jW;rw[if_neg (by omega)]
 unfold en
 rw[e,o9 b n h,if_pos EB]
theorem Rea.text {b:List Int}(t:List Int)(hl:t.length≤255)(hu:(bM t).2=true):Rea b t t (en b t.length):=by
 have e:∀s,jW (t.length:Int) s=s:=fun s=>by unfold jW;rw[if_neg (by omega)]
 have ht:=Rea.take (b:=b) t
 refine ⟨fun p rest hp h=>?_,fun p u hp hu' h=>?_,fun s hs=>?_⟩
 ·have h1:=ht.full p rest hp h
  unfold en
  rw[e,h1,if_pos hu]
 ·have h1:=ht.short p u hp hu' h
  unfold en
  rw[e]
  have h0:(bU b (t.length:Int) (0,(p:Int))).1=[]:=by
   unfold bU at h1 ⊢
   rw[if_pos rfl,if_neg (by omega)] at h1 ⊢
   simp only at h1 ⊢
   unfold aR at h1 ⊢
   split
   ·rfl
   ·split
    ·rfl
    ·rename_i h2 h3
     rw[if_neg h2,if_neg h3] at h1
     cases h1
  rw[h0,if_pos EB];exact h1
 ·rw[uO b _ hs (by omega)]
theorem acT (k:IntKind):k.wrap 0=0:=by cases k <;> rfl
theorem rF (k:IntKind)(n:Nat)(b:List Int)(s:aQ)(h:(ae k n b s).2.1≠0):(ae k n b s).1=0:=by
 unfold ae at h ⊢
 split
 ·rename_i h0
  rw[if_pos h0] at h
  unfold aq at h ⊢
  split
  ·exact acT k
  ·rename_i h1
   rw[if_neg h1] at h
   exact absurd rfl h
 ·rfl
theorem Rea.str {b:List Int}(t:List Int)(hl:t.length≤255)(hu:(bM t).2=true):Rea b t (aB t.length 2++t) (ct b):=
 Rea.bind (g:=en b) (Rea.num (b:=b) (k:=.i16) (n:=2) (x:=(t.length:Int)) (tp (by simp[ey,IntKind.min,IntKind.max,IntKind.signed,IntKind.bits];omega))) (Rea.text t hl hu) 0 (rF _ _ _) fun s hs=>by
  rw[uO b _ hs (by decide)]
def Rd {α:Type}(b:List Int)(x:α)(w:List Int×Int)(f:aQ→α×aQ):Prop:=w.2=0→Rea b x w.1 f
theorem BO {a b:List Int×Int}(h:(aU a b).2=0):a.2=0∧b.2=0∧(aU a b).1=a.1++b.1:=by
 unfold aU at h ⊢
 by_cases h1:a.2=0
 ·by_cases h2:b.2=0
  ·refine ⟨h1,h2,?_⟩
   simp[h1,h2]
  ·simp[h1,h2] at h
 ·simp[h1] at h
theorem Rd.seq {α β γ:Type}{b:List Int}{w1 w2:List Int×Int}{x:α}{y:β}{f:aQ→α×aQ}{g:aQ→β×aQ}(c:α→β→γ)(hf:Rd b x w1 f)(hg:Rd b y w2 g):
  Rd b (c x y) (aU w1 w2) fun s=>(c (f s).1 (g (f s).2).1,(g (f s).2).2):=by
 intro h
 obtain ⟨h1,h2,h3⟩:=BO h
 rw[h3]
 exact (hf h1).seq c (hg h2)
theorem Rd.num {b:List Int}{k:IntKind}{n:Nat}{x:Int}(hx:k.wrap (gV (aB x n))=x):Rd b x (aB x n,0) (ae k n b):=fun _=>Rea.num hx
theorem Rd.nop {α:Type}(b:List Int)(x:α):Rd b x ([],0) fun s=>(x,s):=fun _=>Rea.nop b x (fun p=>rfl) fun s _=>rfl
theorem Rd.txt {b:List Int}(t:List Int):Rd b t (pB t) (ct b):=by
 intro h
 unfold pB at h ⊢
 split at h
 ·cases h
 ·rename_i h1
  split at h
  ·cases h
  ·rename_i h2
   rw[if_neg h1,if_neg h2]
   exact Rea.str t (by omega) (by simpa using h1)
theorem Rea.map {α β:Type}{b r:List Int}{x:α}{f:aQ→α×aQ}(c:α→β)(h:Rea b x r f):Rea b (c x) r fun s=>(c (f s).1,(f s).2):=
 ⟨fun p rest hp hd=>by simp only[h.full p rest hp hd],fun p t hp ht hd=>h.short p t hp ht hd,fun s hs=>h.dead s hs⟩
def ZW (b:List Int)(a:Int)(s:aQ):pm.den×aQ:=if a = -1 then ((true,(([]:List Int),())),s) else ((false,((bU b a s).1,())),(bU b a s).2)
theorem Rd.blo {b:List Int}(n:pm.den)(hn:n.2.1.length≤2147483647):Rd b n (Ev n) (yN b):=by
 have e:∀s,yN b s=ZW b (ae .i32 4 b s).1 (ae .i32 4 b s).2:=fun s=>rfl
 have hd:∀s:aQ,s.1≠0→(ZW b 0 s).2.1=s.1:=fun s hs=>by
  unfold ZW
  rw[if_neg (by decide),o9 b _ hs]
 obtain ⟨z,t,⟨⟩⟩:=n
 have hn:t.length≤2147483647:=hn
 intro hh
 have h:(if z=true then (if t.length=0 then (aB (-1) 4,0) else ([],70)) else (aB t.length 4++t,0):List Int×Int).2=0:=hh
 clear hh
 show Rea b _ (if z=true then (if t.length=0 then (aB (-1) 4,0) else ([],70)) else (aB t.length 4++t,0):List Int×Int).1 _
 by_cases hz:z=true
 ·rw[if_pos hz] at h ⊢
  by_cases h0:List.length t=0
  ·rw[if_pos h0] at h ⊢
   have ht:t=[]:=List.eq_nil_of_length_eq_zero h0
   subst ht
   subst hz
   have hg:Rea b (true,(([]:List Int),())) [] (ZW b (-1)):=Rea.nop b _ (fun p=>by unfold ZW;rw[if_pos rfl]) fun s hs=>by unfold ZW;rw[if_pos rfl]
   have:=(Rea.bind (Rea.num (b:=b) (k:=.i32) (n:=4) (x:=-1) (cN (by simp[ey,IntKind.min,IntKind.max,IntKind.signed,IntKind.bits]))) hg 0 (rF _ _ _) hd).congr e
   rw[List.append_nil] at this
   exact this
  ·rw[if_neg h0] at h
   cases h
 ·rw[if_neg hz] at h ⊢
  have hz:z=false:=by simpa using hz
  subst hz
  have hg:Rea b (false,(t,())) t (ZW b t.length):=((Rea.take (b:=b) t).map fun x=>(false,(x,()))).congr fun s=>by unfold ZW;rw[if_neg (by omega)]
  exact (Rea.bind (Rea.num (b:=b) (k:=.i32) (n:=4) (x:=(t.length:Int)) (cN (by simp[ey,IntKind.min,IntKind.max,IntKind.signed,IntKind.bits];omega))) hg 0 (rF _ _ _) hd).congr e
theorem Rd.rep {α:Type}{b:List Int}{w:α→List Int×Int}{one:aQ→α×aQ}:∀{xs:List α},(∀x∈xs,Rd b x (w x) one)→Rd b xs (rW w xs) (er one xs.length)
 |[],_=>fun _=>Rea.nop b _ (fun p=>rfl) fun s hs=>rfl
 |x::xs,h=>by
  intro hz
  have hs:=(Rd.seq List.cons (h x (by simp)) (Rd.rep fun y hy=>h y (List.mem_cons_of_mem _ hy))) hz
  refine ⟨fun p rest hp hd=>?_,fun p t hp ht hd=>?_,fun s hs=>?_⟩
  ·rw[List.length_cons,er,if_pos rfl]
   exact hs.full p rest hp hd
  ·rw[List.length_cons,er,if_pos rfl]
   exact hs.short p t hp ht hd
  ·rw[List.length_cons,er,if_neg hs]
theorem Rd.list {α:Type}{b:List Int}{w:α→List Int×Int}{one:aQ→α×aQ}{xs:List α}(h:∀x∈xs,Rd b x (w x) one):Rd b xs (eN w xs) (kp one b):=by
 intro hz
 unfold eN at hz ⊢
 by_cases h1:16<xs.length
 ·rw[if_pos h1] at hz;cases hz
 rw[if_neg h1] at hz ⊢
 obtain ⟨_,h2,h3⟩:=BO hz
 rw[h3]
 have hr:=Rd.rep h h2
 have hg:Rea b xs (rW w xs).1 (fun s=>er one ((xs.length:Int)).toNat (qr xs.length s)):=hr.congr fun s=>by
  rw[Int.toNat_natCast]
  have:qr (xs.length:Int) s=s:=by
   unfold qr
   split
   ·rw[if_neg (by omega),if_neg (by omega)]
   ·rfl
  rw[this]
 exact Rea.bind (g:=fun a s=>er one a.toNat (qr a s)) (Rea.num (b:=b) (k:=.i32) (n:=4) (x:=(xs.length:Int)) (cN (by simp[ey,IntKind.min,IntKind.max,IntKind.signed,IntKind.bits];omega))) hg 0 (rF _ _ _) fun s hs=>by
  show (qr 0 s).1=s.1
  unfold qr
  rw[if_neg hs]
theorem Rd.congr {α:Type}{b:List Int}{x:α}{w:List Int×Int}{f g:aQ→α×aQ}(h:Rd b x w f)(e:∀s,g s=f s):Rd b x w g:=fun hz=>(h hz).congr e
theorem rD {v lo hi:Int}(h:lo≤v∧v≤hi):bi v lo hi 0=true:=if_pos ⟨rfl,h⟩
theorem lK {v lo hi e:Int}(h:¬(lo≤v∧v≤hi)):bi v lo hi e=false:=if_neg fun h'=>h h'.2
theorem BA {v lo hi e:Int}(h:e≠0):bi v lo hi e=false:=if_neg fun h'=>h h'.1
theorem Rd.opt {b:List Int}{k:IntKind}{n:Nat}{x v lo hi:Int}(hx:k.wrap (gV (aB x n))=x)(h0:¬(lo≤v∧v≤hi)→x=0):Rd b x (if lo≤v∧v≤hi then (aB x n,0) else ([],0)) (az k n v lo hi b):=by
 intro _
 by_cases h:lo≤v∧v≤hi
 ·rw[if_pos h]
  have hn:=Rea.num (b:=b) hx
  refine ⟨fun p rest hp hd=>?_,fun p t hp ht hd=>?_,fun s hs=>?_⟩
  ·unfold az
   rw[if_pos (rD h)];exact hn.full p rest hp hd
  ·unfold az
   rw[if_pos (rD h)];exact hn.short p t hp ht hd
  ·unfold az
   rw[if_neg (by rw[BA hs];decide)]
 ·rw[if_neg h]
  have hx0:=h0 h
  subst hx0
  refine Rea.nop b _ (fun p=>?_) fun s hs=>?_
  ·unfold az
   rw[if_neg (by rw[lK h];decide)]
  ·unfold az
   rw[if_neg (by rw[lK h];decide)]
theorem Rd.part {b:List Int}{p:bZ.den}(h:bZ.wf p)(hb:p.2.1.2.1.length≤2147483647):Rd b p (K0 p) (G4 b):=
 (Rd.seq (fun a r=>(a,r)) (Rd.num (cN h.1)) (Rd.seq (fun a r=>(a,r)) (Rd.blo p.2.1 hb) (Rd.nop b ()))).congr fun s=>by unfold G4;rfl
theorem Rd.topic {b:List Int}{t:ap.den}(h:ap.wf t)(hb:vr t=true):Rd b t (tl t) (Kp b):=
 (Rd.seq (fun a r=>(a,r)) (Rd.txt t.1) (Rd.seq (fun a r=>(a,r)) (Rd.list fun p hp=>Rd.part (h.2.1.2 p hp) (of_decide_eq_true (List.all_eq_true.1 hb p hp))) (Rd.nop b ()))).congr fun s=>by unfold Kp BD;rfl
theorem M7 {a b:List Int×Int}(h:(aU a b).2≠0):(aU a b).1=[]:=by
 unfold aU at h ⊢
 split
 ·rfl
 ·split
  ·rfl
  ·rename_i h1 h2
   rw[if_neg h1,if_neg h2] at h
   exact absurd rfl h
theorem Sa (a b:List Int×Int):aU ([],0) (aU a b)=aU a b:=by
 by_cases h:(aU a b).2=0
 ·have e:aU a b=((aU a b).1,0):=by rw[← h]
  rw[e];unfold aU;simp
 ·have:=M7 h
  have e:aU a b=([],(aU a b).2):=by rw[← this]
  generalize aU a b=c at h e ⊢
  rw[e]
  unfold aU
  simp only[List.nil_append]
  rw[if_neg (by simp),if_pos h]
theorem Rd.optSeq {β γ:Type}{b:List Int}{k:IntKind}{n:Nat}{x v lo hi:Int}{R:List Int×Int}{y:β}{g:aQ→β×aQ}(c:Int→β→γ)(hx:k.wrap (gV (aB x n))=x)(h0:¬(lo≤v∧v≤hi)→x=0)(hg:Rd b y R g):
  Rd b (c x y) (if lo≤v∧v≤hi then aU (aB x n,0) R else R) fun s=>(c (az k n v lo hi b s).1 (g (az k n v lo hi b s).2).1,(g (az k n v lo hi b s).2).2):=by
 by_cases h:lo≤v∧v≤hi
 ·rw[if_pos h]
  have:=Rd.seq c (Rd.opt (b:=b) (k:=k) (n:=n) (v:=v) (lo:=lo) (hi:=hi) hx h0) hg
  rw[if_pos h] at this
  exact this
 ·rw[if_neg h]
  have hx0:=h0 h
  subst hx0
  intro hz
  have hr:=hg hz
  exact (hr.map (c 0)).congr fun s=>by
   have:az k n v lo hi b s=(0,s):=by unfold az;rw[if_neg (by rw[lK h];decide)]
   rw[this]
theorem A4 {v:Int}{p:ga.den}(h:L9 v p=true):(¬(2≤v∧v≤3)→p.2.2.2.1=0)∧(¬(3≤v∧v≤3)→p.2.2.2.2.1=0):=by
 unfold L9 at h
 simp only[Bool.and_eq_true] at h
 refine ⟨fun hv=>?_,fun hv=>?_⟩
 ·have:=h.1;rw[if_neg hv] at this;simpa using this
 ·have:=h.2;rw[if_neg hv] at this;simpa using this
theorem Rd.done {b:List Int}{p:ga.den}{v:Int}(h:ga.wf p)(hk:L9 v p=true):Rd b p (acQ v p) (Px v b):=
 (Rd.seq (fun a r=>(a,r)) (Rd.num (cN h.1)) (Rd.seq (fun a r=>(a,r)) (Rd.num (tp h.2.1)) (Rd.seq (fun a r=>(a,r)) (Rd.num (gb h.2.2.1))
  (Rd.optSeq (fun a r=>(a,r)) (gb h.2.2.2.1) (A4 hk).1 (Rd.optSeq (fun a r=>(a,r)) (gb h.2.2.2.2.1) (A4 hk).2 (Rd.nop b ())))))).congr fun s=>by unfold Px Zx;rfl
theorem Ut {n:Int}(h:ey .i8 n):IntKind.i64.wrap n=n:=by
 simp only[ey,IntKind.min,IntKind.max,IntKind.signed,IntKind.bits] at h
 simp at h
 exact aC (by omega) (by omega)
theorem aaa {n:Int}(h:ey .i8 n):IntKind.i8.wrap n=n:=by
 simp only[ey,IntKind.min,IntKind.max,IntKind.signed,IntKind.bits] at h
 exact dd (by simp[ey,IntKind.min,IntKind.max,IntKind.signed,IntKind.bits];simpa using h)
theorem M8 {v:Int}(fs:List Fd)(ks:List Nd):aU ([],0) (cb v fs ks)=cb v fs ks:=by
 induction fs generalizing ks with
 |nil=>rw[dc];rfl
 |cons f fs ih=>
  cases ks with
  |nil=>rw[cb];rfl;all_goals simp
  |cons k ks=>
   rw[cb]
   split
   ·exact Sa _ _
   ·exact ih ks
theorem lU {nm:List Int}{k lo hi:Int}{e fs:List Fd}{n:Nd}{ks:List Nd}{v:Int}:cb v (cp nm k lo hi e::fs) (n::ks)=aU (if lo≤v∧v≤hi then tq (cp nm k lo hi e) v n else ([],0)) (cb v fs ks):=by
 by_cases h:lo≤v∧v≤hi
 ·rw[if_pos h,bw (aJ h.1 h.2)]
 ·rw[if_neg h,KJ (wD (by omega)),M8]
theorem Rd.map {α β:Type}{b:List Int}{x:α}{w:List Int×Int}{f:aQ→α×aQ}(c:α→β)(h:Rd b x w f):Rd b (c x) w fun s=>(c (f s).1,(f s).2):=fun hz=>(h hz).map c
abbrev aO:Ty:=.prod (.int .i32) (.prod (.int .i64) (.prod (.int .i32) (.prod (.int .i32) .unit)))
abbrev ag:Ty:=.prod .str (.prod (.sl 187 aO) .unit)
abbrev cn:Ty:=.prod (.int .i32) (.prod (.int .i32) (.prod (.int .i32) (.prod (.int .i32) (.prod (.int .i8) (.prod (.sl 185 ag) .unit)))))
def qx (v:Int)(p:aO.den)(s:bc):bc:=ac p.2.2.2.1 4 (ac p.2.1 8 (cV v 3 3 p.2.2.1 4 (ac p.1 4 (s))))
theorem EF {s:bc}(v:Int)(p:aO.den)(h:s.2.2.length≤130048):(qx v p s).2.2.length≤130048:=
 aE _ _ (aE _ _ (kZ _ _ _ _ _ (aE _ _ (h))))
abbrev lw:Io:=⟨[.dat aO true false,.ptr 0 0],uB,[],[],none⟩
def E6 (d:lw.In):Tr lw.Res:=.ite (fQ d.2.2) (.ret (.ret ((),iN d.2.2.1.2.1 (qx d.2.2.1.2.1 d.1.1 (fR d.2.2))))) .no
abbrev Ik:List (Nat×Hc):=[(98,ah dn iw),(111,ah m2 CK),(95,ah jp tw)]
def Ua:Hd:=bA Ik
def Jl:Lp:=bv []
def zA (a0 a1 a2 a3 a4 a5:Int)(a6:Bool)(a7:List Int)(a8:Int):Option lw.Res:=bif decide (a8=130048)&&decide (a7.length≤130048) then bif decide (130048=130048)&&decide ((ac a0 4 (a5,a6,a7)).2.2.length≤130048) then bif decide (3≤a4)&&decide (a4≤3) then bif decide (130048=130048)&&decide ((ac a0 4 (a5,a6,a7)).2.2.length≤130048) then bif decide (130048=130048)&&decide ((ac a2 4 (ac a0 4 (a5,a6,a7))).2.2.length≤130048) then bif decide (130048=130048)&&decide ((ac a1 8 (ac a2 4 (ac a0 4 (a5,a6,a7)))).2.2.length≤130048) then some (Out.ret ((),((),()),((),a4,(ac a3 4 (ac a1 8 (ac a2 4 (ac a0 4 (a5,a6,a7))))).1,(ac a3 4 (ac a1 8 (ac a2 4 (ac a0 4 (a5,a6,a7))))).2.1,()),((ac a3 4 (ac a1 8 (ac a2 4 (ac a0 4 (a5,a6,a7))))).2.2,130048,()),())) else none else none else none else bif decide (130048=130048)&&decide ((ac a0 4 (a5,a6,a7)).2.2.length≤130048) then bif decide (130048=130048)&&decide ((ac a1 8 (ac a0 4 (a5,a6,a7))).2.2.length≤130048) then some (Out.ret ((),((),()),((),a4,(ac a3 4 (ac a1 8 (ac a0 4 (a5,a6,a7)))).1,(ac a3 4 (ac a1 8 (ac a0 4 (a5,a6,a7)))).2.1,()),((ac a3 4 (ac a1 8 (ac a0 4 (a5,a6,a7)))).2.2,130048,()),())) else none else none else none else none
theorem Q7 (a0 a1 a2 a3 a4 a5:Int)(a6:Bool)(a7:List Int)(a8:Int):Io.run tt Ua dr Jl lw Tryz.f110 (((a0,a1,a2,a3,()),(),()),((),()),((),a4,a5,a6,()),(a7,a8,()),())=zA a0 a1 a2 a3 a4 a5 a6 a7 a8:=by kernel_rfl
theorem Vr:HcOk prog 110 (ah lw E6):=by
 refine aj (n:=400) hm (cs:=Ik) (.cons dg (.cons A5 (.cons jJ .nil))) (lp:=Jl) (fn:=Tryz.f110) (by kernel_rfl) (by kernel_rfl) (by kernel_rfl) lw (.done (by kernel_rfl)) E6 ?_
 rintro ⟨⟨⟨(ix:Int),(fo:Int),(ep:Int),(mx:Int),⟨⟩⟩,⟨⟩,⟨⟩⟩,⟨⟨⟩,⟨⟩⟩,⟨⟨⟩,(v:Int),(e:Int),(f:Bool),⟨⟩⟩,⟨(b:List Int),(m:Int),⟨⟩⟩,⟨⟩⟩ out hw ho
 obtain ⟨hg,ho⟩:=Tr.guard ho
 obtain ⟨rfl,hb⟩:=bx (v:=v) (e:=e) (f:=f) hg
 cases ho
 refine (Q7 ix fo ep mx v e f b 130048).trans ?_
 unfold zA
 have hg:∀s:bc,s.2.2.length≤130048→(decide ((130048:Int)=130048)&&decide (s.2.2.length≤130048))=true:=fun s h=>by simpa using h
 have hb:(e,(f,b)).2.2.length≤130048:=hb
 show _=some (Out.ret ((),iN v (qx v (ix,(fo,(ep,(mx,())))) (e,f,b))))
 refine (aa (hg _ hb) _ _).trans ?_
 have l0_1:=aE ix 4 hb
 refine (aa (hg _ l0_1) _ _).trans ?_
 by_cases h1_1:3≤v∧v≤3
 ·refine (aa (by simpa using h1_1) _ _).trans ?_
  refine (aa (hg _ l0_1) _ _).trans ?_
  have l1_1:=aE ep 4 l0_1
  refine (aa (hg _ l1_1) _ _).trans ?_
  have l2_2:=aE fo 8 l1_1
  refine (aa (hg _ l2_2) _ _).trans ?_
  have l3_2:=aE mx 4 l2_2
  simp only[qx,bG h1_1]
 ·refine (ab (Bool.eq_false_iff.2 fun h'=>h1_1 (by simpa using h')) _ _).trans ?_
  refine (aa (hg _ l0_1) _ _).trans ?_
  have l2_2:=aE fo 8 l0_1
  refine (aa (hg _ l2_2) _ _).trans ?_
  have l3_2:=aE mx 4 l2_2
  simp only[qx,bk h1_1]
def rJ (v:Int)(xs:List aO.den)(s:bc):bc:=br (qx v) xs s
abbrev q5:Io:=⟨[.ptr 0 0,.dat (.sl 187 aO) false false,.fnc 110 false [2]],pr,[],[],none⟩
def Hp (d:q5.In):Tr q5.Res:=.ite (mW d.2) (.ret (.ret ((),gZ d.2.1.2.1 (rJ d.2.1.2.1 d.1.2.1 (mX d.2))))) .no
abbrev PS:List (Nat×Hc):=[(194,ah cK gN),(98,ah dn iw),(110,ah lw E6)]
theorem Qz:HcOk prog 109 (ah q5 Hp):=
 q9 (one:=qx) (sps:=rJ) (fun _ _ _=>rfl) (fun v _ _ h3=>EF v _ h3) (cs:=PS) (.cons fq (.cons dg (.cons Vr .nil))) (fn:=Tryz.f109) (by kernel_rfl) (by kernel_rfl) (by kernel_rfl) (by kernel_rfl) (by kernel_rfl) (by kernel_rfl) (by intros;kernel_rfl) (by intros;kernel_rfl)
def BW (v:Int)(t:ag.den)(s:bc):bc:=rJ v t.2.1 (bH t.1 s)
abbrev jq:Io:=⟨[.dat ag true false,.ptr 0 0],uB,[],[],none⟩
def yZ (d:jq.In):Tr jq.Res:=.ite (fQ d.2.2) (.ret (.ret ((),iN d.2.2.1.2.1 (BW d.2.2.1.2.1 d.1.1 (fR d.2.2))))) .no
abbrev DC:List (Nat×Hc):=[(101,ah lu yY),(109,ah q5 Hp)]
def P3:Hd:=bA DC
def D5:Lp:=bv []
def wY (a0:List Int)(a1:List aO.den)(a2 a3:Int)(a4:Bool)(a5:List Int)(a6:Int):Option jq.Res:=bif decide (a6=130048)&&decide (a5.length≤130048) then bif decide (130048=130048)&&decide ((bH a0 (a3,a4,a5)).2.2.length≤130048) then some (Out.ret ((),((),()),((),a2,(rJ a2 a1 (bH a0 (a3,a4,a5))).1,(rJ a2 a1 (bH a0 (a3,a4,a5))).2.1,()),((rJ a2 a1 (bH a0 (a3,a4,a5))).2.2,130048,()),())) else none else none
theorem Mt (a0:List Int)(a1:List aO.den)(a2 a3:Int)(a4:Bool)(a5:List Int)(a6:Int):Io.run tt P3 dr D5 jq Tryz.f108 (((a0,a1,()),(),()),((),()),((),a2,a3,a4,()),(a5,a6,()),())=wY a0 a1 a2 a3 a4 a5 a6:=by kernel_rfl
theorem QA:HcOk prog 108 (ah jq yZ):=by
 refine aj (n:=400) hm (cs:=DC) (.cons A6 (.cons Qz .nil)) (lp:=D5) (fn:=Tryz.f108) (by kernel_rfl) (by kernel_rfl) (by kernel_rfl) jq (.done (by kernel_rfl)) yZ ?_
 rintro ⟨⟨⟨(t:List Int),(ps:List aO.den),⟨⟩⟩,⟨⟩,⟨⟩⟩,⟨⟨⟩,⟨⟩⟩,⟨⟨⟩,(v:Int),(e:Int),(f:Bool),⟨⟩⟩,⟨(b:List Int),(m:Int),⟨⟩⟩,⟨⟩⟩ out hw ho
 obtain ⟨hg,ho⟩:=Tr.guard ho
 obtain ⟨rfl,hb⟩:=bx (v:=v) (e:=e) (f:=f) hg
 cases ho
 refine (Mt t ps v e f b 130048).trans ?_
 unfold wY
 refine (aa (by simpa using hb) _ _).trans ?_
 refine (aa (by simpa using gH (s:=(e,f,b)) t hb) _ _).trans ?_
 rfl
theorem nI {s:bc}(v:Int)(t:ag.den)(h:s.2.2.length≤130048):(BW v t s).2.2.length≤130048:=cg (fun x s=>EF v x) _ (gH _ h)
def fE (v:Int)(xs:List ag.den)(s:bc):bc:=br (BW v) xs s
abbrev oB:Io:=⟨[.ptr 0 0,.dat (.sl 185 ag) false false,.fnc 108 false [2]],pr,[],[],none⟩
def CM (d:oB.In):Tr oB.Res:=.ite (mW d.2) (.ret (.ret ((),gZ d.2.1.2.1 (fE d.2.1.2.1 d.1.2.1 (mX d.2))))) .no
abbrev LD:List (Nat×Hc):=[(194,ah cK gN),(98,ah dn iw),(108,ah jq yZ)]
theorem sY:HcOk prog 107 (ah oB CM):=
 q9 (one:=BW) (sps:=fE) (fun _ _ _=>rfl) (fun v _ _ h3=>nI v _ h3) (cs:=LD) (.cons fq (.cons dg (.cons QA .nil))) (fn:=Tryz.f107) (by kernel_rfl) (by kernel_rfl) (by kernel_rfl) (by kernel_rfl) (by kernel_rfl) (by kernel_rfl) (by intros;kernel_rfl) (by intros;kernel_rfl)
def ta (v:Int)(p:aO.den)(s:bc):bc:=ar v (p.2.2.1 == 0) 3 3 (s)
def gJ (v:Int)(ps:List aO.den)(s:bc):bc:=ps.foldl (fun s p=>ta v p s) s
def wG (v:Int)(ts:List ag.den)(s:bc):bc:=ts.foldl (fun s t=>gJ v t.2.1 s) s
def qv (v:Int)(m:cn.den):bc:=fE v m.2.2.2.2.2.1 (cV v 2 3 m.2.2.2.2.1 1 (cV v 1 3 m.2.2.2.1 4 (ac m.2.2.1 4 (ac m.2.1 4 (ac m.1 4 (wG v m.2.2.2.2.2.1 (ar v (m.2.2.2.2.1 == 0) 2 3 (ar v (m.2.2.2.1 == 0) 1 3 (aX v,(false,([]:List Int)))))))))))
abbrev oA:Io:=⟨[dI,.dat cn true false],[],[],[dO,dI],none⟩
def SE (d:oA.In):Tr oA.Res:=.ret (.ret ((bP (qv d.1.1 d.1.2.1),(bz (qv d.1.1 d.1.2.1),())),()))
abbrev yo:List (Nat×Hc):=[(93,ah m3 CL),(94,ah fY nN),(95,ah jp tw),(98,ah dn iw),(106,ah xr Xu),(107,ah oB CM),(105,ah jT vz)]
def FU:Hd:=bA yo
abbrev gl:Lo:=⟨⟨(.any::bh (.one (.ptr 3 0)::bh (.one (.ptr 6 0)::.any::ai (.one (.hol (.sl 185 ag))::.one (.hol (.int IntKind.i64))::.one (.hol (.int IntKind.i64))::bQ (.one (.hol (.sl 187 aO))::.one (.hol (.int IntKind.i64))::.one (.hol (.int IntKind.i64))::.any::ai (ai (dR (bh [])))))))),[none,none,none,some [.hol (.int IntKind.i32),.hol (.int IntKind.i32),.hol (.int IntKind.i32),.hol (.int IntKind.i32),.hol (.int IntKind.i8),.hol (.sl 185 ag)],none,none,some [.ptr 12 0],none,none,none,none,none,some [.ptr 13 0,.hol (.int IntKind.i64),.hol (.int IntKind.i64),.hol .bool],some [.onl 5 (Ty.int IntKind.u8) 6658,.hol (.int IntKind.i64)]]⟩,[(.exit 2,⟨(.any::bh (.one (.ptr 3 0)::bh (.one (.ptr 6 0)::.any::ai (.one (.hol (.sl 185 ag))::.one (.hol (.int IntKind.i64))::.one (.hol (.int IntKind.i64))::ai (ai (ai (bh []))))))),[none,none,none,some [.hol (.int IntKind.i32),.hol (.int IntKind.i32),.hol (.int IntKind.i32),.hol (.int IntKind.i32),.hol (.int IntKind.i8),.hol (.sl 185 ag)],none,none,some [.ptr 12 0],none,none,none,none,none,some [.ptr 13 0,.hol (.int IntKind.i64),.hol (.int IntKind.i64),.hol .bool],some [.onl 5 (Ty.int IntKind.u8) 6658,.hol (.int IntKind.i64)]]⟩)]⟩
abbrev gk:Lo:=⟨⟨(.any::bh (.one (.ptr 3 0)::bh (.one (.ptr 6 0)::.any::ai (.one (.hol (.sl 185 ag))::.one (.hol (.int IntKind.i64))::.one (.hol (.int IntKind.i64))::ai (ai (ai (bh []))))))),[none,none,none,some [.hol (.int IntKind.i32),.hol (.int IntKind.i32),.hol (.int IntKind.i32),.hol (.int IntKind.i32),.hol (.int IntKind.i8),.hol (.sl 185 ag)],none,none,some [.ptr 12 0],none,none,none,none,none,some [.ptr 13 0,.hol (.int IntKind.i64),.hol (.int IntKind.i64),.hol .bool],some [.onl 5 (Ty.int IntKind.u8) 6658,.hol (.int IntKind.i64)]]⟩,[(.exit 0,⟨(.any::bh (.one (.ptr 3 0)::bh (.one (.ptr 6 0)::ai (ai (ai (ai (bQ (bh [])))))))),[none,none,none,some [.hol (.int IntKind.i32),.hol (.int IntKind.i32),.hol (.int IntKind.i32),.hol (.int IntKind.i32),.hol (.int IntKind.i8),.hol (.sl 185 ag)],none,none,some [.ptr 12 0],none,none,none,none,none,some [.ptr 13 0,.hol (.int IntKind.i64),.hol (.int IntKind.i64),.hol .bool],some [.onl 5 (Ty.int IntKind.u8) 6658,.hol (.int IntKind.i64)]]⟩)]⟩
abbrev wr (re' wt' mi' mb' lv':Int)(ts':List ag.den)(v:Int)(s:bc):(Int×(Int×(Int×(Int×(Int×(List ag.den×Unit))))))×(Unit×((Int×(Int×(Bool×Unit)))×((List Int×(Int×Unit))×Unit))):=((re',(wt',(mi',(mb',(lv',(ts',())))))),((),((v,(s.1,(s.2.1,()))),((s.2.2,(130048,())),()))))
def pG (d:gl.st.den):Tr (aD gl.xs):=
 .ite (decide (d.1.2.2.2.2.2.1=0)&&(decide (d.1.2.2.2.2.1=(d.1.2.2.2.1.length:Int))&&(decide (d.2.2.2.2.1.2.1=130048)&&decide (d.2.2.2.2.1.1.length≤130048)))) (.ret (.ret ((),((d.1.1,(d.1.2.1,(d.1.2.2.1,()))),wr d.2.1.1 d.2.1.2.1 d.2.1.2.2.1 d.2.1.2.2.2.1 d.2.1.2.2.2.2.1 d.2.1.2.2.2.2.2.1 d.2.2.2.1.1 (gJ d.2.2.2.1.1 d.1.2.2.2.1 (d.2.2.2.1.2.1,(d.2.2.2.1.2.2.1,d.2.2.2.2.1.1))))))) .no
def pF (d:gk.st.den):Tr (aD gk.xs):=
 .ite (decide (d.1.2.2.1=0)&&(decide (d.1.2.1=(d.1.1.length:Int))&&(decide (d.2.2.2.2.1.2.1=130048)&&decide (d.2.2.2.2.1.1.length≤130048)))) (.ret (.ret ((),((),wr d.2.1.1 d.2.1.2.1 d.2.1.2.2.1 d.2.1.2.2.2.1 d.2.1.2.2.2.2.1 d.2.1.2.2.2.2.2.1 d.2.2.2.1.1 (wG d.2.2.2.1.1 d.1.1 (d.2.2.2.1.2.1,(d.2.2.2.1.2.2.1,d.2.2.2.2.1.1))))))) .no
def ri:Lp:=bv [(6,aN gk pF),(9,aN gl pG)]
def xI {R:Type}(h21:List ag.den)(h22 h23:Int)(h24:List aO.den)(h25 h26 h27 h28 h29 h30 h31:Int)(h32:List ag.den)(h33 h34:Int)(h35:Bool)(h36:List Int)(h37:Int)(next:List ag.den→Int→Int→List aO.den→Int→Int→Int→Int→Int→Int→Int→List ag.den→Int→Int→Bool→List Int→Int→Option R)(out:aD gl.xs→Option R):Option R:=bif decide (h26<h25) then bif decide (0≤h26)&&decide (h26<(↑h24.length:Int)) then bif decide (h37=130048)&&decide (h36.length≤130048) then next (h21) (h22) (h23) (h24) (h25) (IntKind.i64.wrap (h26+1)) (h27) (h28) (h29) (h30) (h31) (h32) (h33) ((ar h33 ((h24.getD h26.toNat (0,0,0,0,())).2.2.1 == 0) 3 3 (h34,h35,h36)).1) ((ar h33 ((h24.getD h26.toNat (0,0,0,0,())).2.2.1 == 0) 3 3 (h34,h35,h36)).2.1) ((ar h33 ((h24.getD h26.toNat (0,0,0,0,())).2.2.1 == 0) 3 3 (h34,h35,h36)).2.2) (130048) else none else none else out (.ret ((),((h21,(h22,(h23,()))),((h27,(h28,(h29,(h30,(h31,(h32,())))))),((),((h33,(h34,(h35,()))),((h36,(h37,())),())))))))
def v7 (n:Nat)(h21:List ag.den)(h22 h23:Int)(h24:List aO.den)(h25 h26 h27 h28 h29 h30 h31:Int)(h32:List ag.den)(h33 h34:Int)(h35:Bool)(h36:List Int)(h37:Int):Option (aD gl.xs):=gd tt FU dr ri 0 Tryz.f44 (wP Tryz.f44 (cE Tryz.f44 0) 0) n (gl.st.mk' ((h21,(h22,(h23,(h24,(h25,(h26,())))))),((h27,(h28,(h29,(h30,(h31,(h32,())))))),((),((h33,(h34,(h35,()))),((h36,(h37,())),())))))) (bL gl.xs)
theorem RD (n:Nat)(h21:List ag.den)(h22 h23:Int)(h24:List aO.den)(h25 h26 h27 h28 h29 h30 h31:Int)(h32:List ag.den)(h33 h34:Int)(h35:Bool)(h36:List Int)(h37:Int):v7 (n+1) h21 h22 h23 h24 h25 h26 h27 h28 h29 h30 h31 h32 h33 h34 h35 h36 h37=xI h21 h22 h23 h24 h25 h26 h27 h28 h29 h30 h31 h32 h33 h34 h35 h36 h37 (v7 n) some:=by kernel_rfl
def xH {R:Type}(h7:List ag.den)(h8 h9 h10 h11 h12 h13 h14:Int)(h15:List ag.den)(h16 h17:Int)(h18:Bool)(h19:List Int)(h20:Int)(next:List ag.den→Int→Int→Int→Int→Int→Int→Int→List ag.den→Int→Int→Bool→List Int→Int→Option R)(out:aD gk.xs→Option R):Option R:=bif decide (h9<h8) then bif decide (0≤h9)&&decide (h9<(↑h7.length:Int)) then (pG ((h7,(h8,(h9,((h7.getD h9.toNat ([],[],())).2.1,((↑(List.length (h7.getD h9.toNat ([],[],())).2.1):Int),(0,())))))),((h10,(h11,(h12,(h13,(h14,(h15,())))))),((),((h16,(h17,(h18,()))),((h19,(h20,())),())))))).run fun y=>match y with | .ret ((),((x69,x70,x71,()),(x72,x73,x74,x75,x76,x77,()),(),(x78,x79,x80,()),(x81,x82,()),()))=>(next (x69) (x70) (IntKind.i64.wrap (x71+1)) (x72) (x73) (x74) (x75) (x76) (x77) (x78) (x79) (x80) (x81) (x82)) else none else out (.ret ((),((),((h10,(h11,(h12,(h13,(h14,(h15,())))))),((),((h16,(h17,(h18,()))),((h19,(h20,())),())))))))
def rc (n:Nat)(h7:List ag.den)(h8 h9 h10 h11 h12 h13 h14:Int)(h15:List ag.den)(h16 h17:Int)(h18:Bool)(h19:List Int)(h20:Int):Option (aD gk.xs):=gd tt FU dr ri 0 Tryz.f44 (cE Tryz.f44 0) n (gk.st.mk' ((h7,(h8,(h9,()))),((h10,(h11,(h12,(h13,(h14,(h15,())))))),((),((h16,(h17,(h18,()))),((h19,(h20,())),())))))) (bL gk.xs)
theorem RC (n:Nat)(h7:List ag.den)(h8 h9 h10 h11 h12 h13 h14:Int)(h15:List ag.den)(h16 h17:Int)(h18:Bool)(h19:List Int)(h20:Int):rc (n+1) h7 h8 h9 h10 h11 h12 h13 h14 h15 h16 h17 h18 h19 h20=xH h7 h8 h9 h10 h11 h12 h13 h14 h15 h16 h17 h18 h19 h20 (rc n) some:=by kernel_rfl
theorem ED {s:bc}(v:Int)(p:aO.den)(h:s.2.2.length≤130048):(ta v p s).2.2.length≤130048:=bV _ _ _ _ h
theorem BT {s:bc}(v:Int)(ps:List aO.den)(h:s.2.2.length≤130048):(gJ v ps s).2.2.length≤130048:=j5 (fun x s=>ED v x) ps s h
theorem Sj {s:bc}(v:Int)(ts:List ag.den)(h:s.2.2.length≤130048):(wG v ts s).2.2.length≤130048:=j5 (one:=fun (t:ag.den) (s:bc)=>gJ v t.2.1 s) (fun x s h=>BT v x.2.1 h) ts s h
theorem IV (us:List ag.den)(n i re' wt' mi' mb' lv':Int)(ts':List ag.den)(v:Int){ps:List aO.den}(hl:ps.length≤maxLen):∀(k j:Nat) (s:bc),ps.length<j+k→j≤ps.length→s.2.2.length≤130048→
  v7 k us n i ps (ps.length:Int) j re' wt' mi' mb' lv' ts' v s.1 s.2.1 s.2.2 130048=some (.ret ((),((us,(n,(i,()))),wr re' wt' mi' mb' lv' ts' v ((ps.drop j).foldl (fun s p=>ta v p s) s)))):=by
 intro k
 have hg:∀s:bc,s.2.2.length≤130048→(decide ((130048:Int)=130048)&&decide (s.2.2.length≤130048))=true:=fun s h=>by simpa using h
 induction k with
 |zero=>intro j s h;omega
 |succ k ih=>
  intro j s h1 h2 q0
  rw[RD]
  unfold xI
  by_cases hi:j<ps.length
  ·refine (aa (decide_eq_true (show (j:Int)<(ps.length:Int) by omega)) _ _).trans ?_
   refine (aa (by simpa using hi) _ _).trans ?_
   simp only[Int.toNat_natCast,aH hi,bp hi hl]
   refine (aa (hg _ q0) _ _).trans ?_
   have q1:=bV (s:=s) v (ps[j].2.2.1 == 0) 3 3 q0
   rw[List.drop_eq_getElem_cons hi]
   exact ih (j+1) (ta v ps[j] s) (by omega) (by omega) (ED _ _ q0)
  ·refine (ab (by simp;omega) _ _).trans ?_
   rw[List.drop_of_length_le (by omega)]
   rfl
theorem IU {us:List ag.den}(re' wt' mi' mb' lv':Int)(ts':List ag.den)(v:Int)(hl:us.length≤maxLen):∀(k j:Nat) (s:bc),us.length<j+k→j≤us.length→s.2.2.length≤130048→
  rc k us (us.length:Int) j re' wt' mi' mb' lv' ts' v s.1 s.2.1 s.2.2 130048=some (.ret ((),((),wr re' wt' mi' mb' lv' ts' v ((us.drop j).foldl (fun s t=>gJ v t.2.1 s) s)))):=by
 intro k
 induction k with
 |zero=>intro j s h;omega
 |succ k ih=>
  intro j s h1 h2 h3
  rw[RC]
  unfold xH
  by_cases hi:j<us.length
  ·refine (aa (decide_eq_true (show (j:Int)<(us.length:Int) by omega)) _ _).trans ?_
   refine (aa (by simpa using hi) _ _).trans ?_
   simp only[Int.toNat_natCast,aH hi]
   have c1:(decide ((0:Int)=0)&&(decide ((us[j].2.1.length:Int)=(us[j].2.1.length:Int))&&(decide ((130048:Int)=130048)&&decide (s.2.2.length≤130048))))=true:=by simpa using h3
   have e1:pG ((us,((us.length:Int),((j:Int),(us[j].2.1,((us[j].2.1.length:Int),(0,())))))),((re',(wt',(mi',(mb',(lv',(ts',())))))),((),((v,(s.1,(s.2.1,()))),((s.2.2,(130048,())),())))))=
     .ite true (.ret (.ret ((),((us,((us.length:Int),((j:Int),()))),wr re' wt' mi' mb' lv' ts' v (gJ v us[j].2.1 s))))) .no:=congrArg (fun c=>Tr.ite c _ _) c1
   rw[e1]
   show rc k us (us.length:Int) (IntKind.i64.wrap ((j:Int)+1)) re' wt' mi' mb' lv' ts' v (gJ v us[j].2.1 s).1 (gJ v us[j].2.1 s).2.1 (gJ v us[j].2.1 s).2.2 130048=_
   rw[bp hi hl,List.drop_eq_getElem_cons hi]
   exact ih (j+1) (gJ v us[j].2.1 s) (by omega) (by omega) (BT _ _ h3)
  ·refine (ab (by simp;omega) _ _).trans ?_
   rw[List.drop_of_length_le (by omega)]
   rfl
def Dc (a0 a1 a2 a3 a4 a5:Int)(a6:List ag.den):Option oA.Res:=bif decide (130048=130048)&&decide ((ar a0 (a4 == 0) 1 3 (aX a0,false,[])).2.2.length≤130048) then (pF ((a6,((↑a6.length:Int),(0,()))),((a1,(a2,(a3,(a4,(a5,(a6,())))))),((),((a0,((ar a0 (a5 == 0) 2 3 (ar a0 (a4 == 0) 1 3 (aX a0,false,[]))).1,((ar a0 (a5 == 0) 2 3 (ar a0 (a4 == 0) 1 3 (aX a0,false,[]))).2.1,()))),(((ar a0 (a5 == 0) 2 3 (ar a0 (a4 == 0) 1 3 (aX a0,false,[]))).2.2,(130048,())),())))))).run fun y=>match y with | .ret ((),((),(x108,x109,x110,x111,x112,x113,()),(),(x114,x115,x116,()),(x117,x118,()),()))=>(bif decide (x118=130048)&&decide (x117.length≤130048) then bif decide (130048=130048)&&decide ((ac x108 4 (x115,x116,x117)).2.2.length≤130048) then bif decide (130048=130048)&&decide ((ac x109 4 (ac x108 4 (x115,x116,x117))).2.2.length≤130048) then bif decide (130048=130048)&&decide ((ac x110 4 (ac x109 4 (ac x108 4 (x115,x116,x117)))).2.2.length≤130048) then bif decide (1≤x114)&&decide (x114≤3) then bif decide (130048=130048)&&decide ((ac x110 4 (ac x109 4 (ac x108 4 (x115,x116,x117)))).2.2.length≤130048) then bif decide (130048=130048)&&decide ((ac x111 4 (ac x110 4 (ac x109 4 (ac x108 4 (x115,x116,x117))))).2.2.length≤130048) then bif decide (2≤x114)&&decide (x114≤3) then bif decide (130048=130048)&&decide ((ac x111 4 (ac x110 4 (ac x109 4 (ac x108 4 (x115,x116,x117))))).2.2.length≤130048) then bif decide (130048=130048)&&decide ((ac x112 1 (ac x111 4 (ac x110 4 (ac x109 4 (ac x108 4 (x115,x116,x117)))))).2.2.length≤130048) then bif decide (130048=130048)&&decide ((fE x114 x113 (ac x112 1 (ac x111 4 (ac x110 4 (ac x109 4 (ac x108 4 (x115,x116,x117))))))).2.2.length≤130048) then some (Out.ret ((bP (fE x114 x113 (ac x112 1 (ac x111 4 (ac x110 4 (ac x109 4 (ac x108 4 (x115,x116,x117))))))),bz (fE x114 x113 (ac x112 1 (ac x111 4 (ac x110 4 (ac x109 4 (ac x108 4 (x115,x116,x117))))))),()),())) else none else none else none else bif decide (130048=130048)&&decide ((ac x111 4 (ac x110 4 (ac x109 4 (ac x108 4 (x115,x116,x117))))).2.2.length≤130048) then bif decide (130048=130048)&&decide ((fE x114 x113 (ac x111 4 (ac x110 4 (ac x109 4 (ac x108 4 (x115,x116,x117)))))).2.2.length≤130048) then some (Out.ret ((bP (fE x114 x113 (ac x111 4 (ac x110 4 (ac x109 4 (ac x108 4 (x115,x116,x117)))))),bz (fE x114 x113 (ac x111 4 (ac x110 4 (ac x109 4 (ac x108 4 (x115,x116,x117)))))),()),())) else none else none else none else none else bif decide (130048=130048)&&decide ((ac x110 4 (ac x109 4 (ac x108 4 (x115,x116,x117)))).2.2.length≤130048) then bif decide (2≤x114)&&decide (x114≤3) then bif decide (130048=130048)&&decide ((ac x110 4 (ac x109 4 (ac x108 4 (x115,x116,x117)))).2.2.length≤130048) then bif decide (130048=130048)&&decide ((ac x112 1 (ac x110 4 (ac x109 4 (ac x108 4 (x115,x116,x117))))).2.2.length≤130048) then bif decide (130048=130048)&&decide ((fE x114 x113 (ac x112 1 (ac x110 4 (ac x109 4 (ac x108 4 (x115,x116,x117)))))).2.2.length≤130048) then some (Out.ret ((bP (fE x114 x113 (ac x112 1 (ac x110 4 (ac x109 4 (ac x108 4 (x115,x116,x117)))))),bz (fE x114 x113 (ac x112 1 (ac x110 4 (ac x109 4 (ac x108 4 (x115,x116,x117)))))),()),())) else none else none else none else bif decide (130048=130048)&&decide ((ac x110 4 (ac x109 4 (ac x108 4 (x115,x116,x117)))).2.2.length≤130048) then bif decide (130048=130048)&&decide ((fE x114 x113 (ac x110 4 (ac x109 4 (ac x108 4 (x115,x116,x117))))).2.2.length≤130048) then some (Out.ret ((bP (fE x114 x113 (ac x110 4 (ac x109 4 (ac x108 4 (x115,x116,x117))))),bz (fE x114 x113 (ac x110 4 (ac x109 4 (ac x108 4 (x115,x116,x117))))),()),())) else none else none else none else none else none else none else none) else none
theorem V8 (a0 a1 a2 a3 a4 a5:Int)(a6:List ag.den):Io.run tt FU dr ri oA Tryz.f44 ((a0,(a1,a2,a3,a4,a5,a6,()),()),())=Dc a0 a1 a2 a3 a4 a5 a6:=by kernel_rfl
theorem Yy:HcOk prog 44 (ah oA SE):=by
 refine aj (n:=400) hm (cs:=yo) (.cons m7 (.cons f6 (.cons jJ (.cons dg (.cons Ep (.cons sY (.cons jV .nil))))))) (lp:=ri) (fn:=Tryz.f44) (by kernel_rfl) (by kernel_rfl) (by kernel_rfl) oA (.step (h0:=aN gk pF) (by kernel_rfl) (aw (n:=400) hm (cs:=yo) (.cons m7 (.cons f6 (.cons jJ (.cons dg (.cons Ep (.cons sY (.cons jV .nil))))))) (lp:=ri) (fn:=Tryz.f44) (.step (h0:=aN gl pG) (by kernel_rfl) (aw (n:=400) hm (cs:=yo) (.cons m7 (.cons f6 (.cons jJ (.cons dg (.cons Ep (.cons sY (.cons jV .nil))))))) (lp:=ri) (fn:=Tryz.f44) (.done (by kernel_rfl)) gl pG ?_) (.done (by kernel_rfl))) gk pF ?_) (.done (by kernel_rfl))) SE ?_
 ·rintro ⟨⟨(us:List ag.den),(n:Int),(i:Int),(ps:List aO.den),(pn:Int),(pj:Int),⟨⟩⟩,⟨⟨(re':Int),(wt':Int),(mi':Int),(mb':Int),(lv':Int),(ts':List ag.den),⟨⟩⟩,⟨⟩,⟨(v:Int),(e:Int),(f:Bool),⟨⟩⟩,⟨(b:List Int),(m:Int),⟨⟩⟩,⟨⟩⟩⟩ y hw hy
  obtain ⟨hg,hy⟩:=Tr.guard hy
  simp only[Bool.and_eq_true,decide_eq_true_eq] at hg
  obtain ⟨rfl,rfl,rfl,h4⟩:=hg
  have h4:b.length≤130048:=h4
  have hl:ps.length≤maxLen:=hw.1.2.2.2.1.1
  refine ⟨ps.length+1,(IV us n i re' wt' mi' mb' lv' ts' v hl (ps.length+1) 0 (e,(f,b)) (by omega) (by omega) h4).trans ?_⟩
  rw[← hy];rfl
 ·rintro ⟨⟨(us:List ag.den),(n:Int),(i:Int),⟨⟩⟩,⟨⟨(re':Int),(wt':Int),(mi':Int),(mb':Int),(lv':Int),(ts':List ag.den),⟨⟩⟩,⟨⟩,⟨(v:Int),(e:Int),(f:Bool),⟨⟩⟩,⟨(b:List Int),(m:Int),⟨⟩⟩,⟨⟩⟩⟩ y hw hy
  obtain ⟨hg,hy⟩:=Tr.guard hy
  simp only[Bool.and_eq_true,decide_eq_true_eq] at hg
  obtain ⟨rfl,rfl,rfl,h4⟩:=hg
  have h4:b.length≤130048:=h4
  have hl:us.length≤maxLen:=hw.1.1.1
  refine ⟨us.length+1,(IU re' wt' mi' mb' lv' ts' v hl (us.length+1) 0 (e,(f,b)) (by omega) (by omega) h4).trans ?_⟩
  rw[← hy];rfl
 ·rintro ⟨⟨(v:Int),⟨(re:Int),(wt:Int),(mi:Int),(mb:Int),(lv:Int),(ts:List ag.den),⟨⟩⟩,⟨⟩⟩,⟨⟩⟩ out hw ho
  cases ho
  refine (V8 v re wt mi mb lv ts).trans ?_
  unfold Dc
  have hg:∀s:bc,s.2.2.length≤130048→(decide ((130048:Int)=130048)&&decide (s.2.2.length≤130048))=true:=fun s h=>by simpa using h
  have q0:(aX v,(false,([]:List Int))).2.2.length≤130048:=by simp
  have q1:=bV (s:=(aX v,(false,([]:List Int)))) v (mb == 0) 1 3 q0
  refine (aa (hg _ q1) _ _).trans ?_
  have q2:=bV (s:=ar v (mb == 0) 1 3 (aX v,(false,([]:List Int)))) v (lv == 0) 2 3 q1
  have c1:(decide ((0:Int)=0)&&(decide ((ts.length:Int)=(ts.length:Int))&&(decide ((130048:Int)=130048)&&decide ((ar v (lv == 0) 2 3 (ar v (mb == 0) 1 3 (aX v,(false,([]:List Int))))).2.2.length≤130048))))=true:=by simpa using q2
  have e1:pF ((ts,((ts.length:Int),(0,()))),((re,(wt,(mi,(mb,(lv,(ts,())))))),((),((v,((ar v (lv == 0) 2 3 (ar v (mb == 0) 1 3 (aX v,(false,([]:List Int))))).1,((ar v (lv == 0) 2 3 (ar v (mb == 0) 1 3 (aX v,(false,([]:List Int))))).2.1,()))),(((ar v (lv == 0) 2 3 (ar v (mb == 0) 1 3 (aX v,(false,([]:List Int))))).2.2,(130048,())),())))))=
    .ite true (.ret (.ret ((),((),wr re wt mi mb lv ts v (wG v ts (ar v (lv == 0) 2 3 (ar v (mb == 0) 1 3 (aX v,(false,([]:List Int)))))))))) .no:=congrArg (fun c=>Tr.ite c _ _) c1
  rw[e1]
  have r0:=Sj v ts q2
  refine (aa (hg _ r0) _ _).trans ?_
  have l0_0:=aE re 4 r0
  refine (aa (hg _ l0_0) _ _).trans ?_
  have l1_0:=aE wt 4 l0_0
  refine (aa (hg _ l1_0) _ _).trans ?_
  have l2_0:=aE mi 4 l1_0
  refine (aa (hg _ l2_0) _ _).trans ?_
  by_cases h3_0:1≤v∧v≤3
  ·refine (aa (by simpa using h3_0) _ _).trans ?_
   refine (aa (hg _ l2_0) _ _).trans ?_
   have l3_0:=aE mb 4 l2_0
   refine (aa (hg _ l3_0) _ _).trans ?_
   by_cases h4_1:2≤v∧v≤3
   ·refine (aa (by simpa using h4_1) _ _).trans ?_
    refine (aa (hg _ l3_0) _ _).trans ?_
    have l4_1:=aE lv 1 l3_0
    refine (aa (hg _ l4_1) _ _).trans ?_
    have l5_2:=cg (fun x s=>nI v x) ts l4_1
    refine (aa (hg _ l5_2) _ _).trans ?_
    simp only[qv,bG h3_0,bG h4_1]
   ·refine (ab (Bool.eq_false_iff.2 fun h'=>h4_1 (by simpa using h')) _ _).trans ?_
    refine (aa (hg _ l3_0) _ _).trans ?_
    have l5_2:=cg (fun x s=>nI v x) ts l3_0
    refine (aa (hg _ l5_2) _ _).trans ?_
    simp only[qv,bG h3_0,bk h4_1]
  ·refine (ab (Bool.eq_false_iff.2 fun h'=>h3_0 (by simpa using h')) _ _).trans ?_
   refine (aa (hg _ l2_0) _ _).trans ?_
   by_cases h4_1:2≤v∧v≤3
   ·refine (aa (by simpa using h4_1) _ _).trans ?_
    refine (aa (hg _ l2_0) _ _).trans ?_
    have l4_1:=aE lv 1 l2_0
    refine (aa (hg _ l4_1) _ _).trans ?_
    have l5_2:=cg (fun x s=>nI v x) ts l4_1
    refine (aa (hg _ l5_2) _ _).trans ?_
    simp only[qv,bk h3_0,bG h4_1]
   ·refine (ab (Bool.eq_false_iff.2 fun h'=>h4_1 (by simpa using h')) _ _).trans ?_
    refine (aa (hg _ l2_0) _ _).trans ?_
    have l5_2:=cg (fun x s=>nI v x) ts l2_0
    refine (aa (hg _ l5_2) _ _).trans ?_
    simp only[qv,bk h3_0,bk h4_1]
@[irreducible] noncomputable def Nm (v:Int)(b:List Int)(s:aQ):aO.den×aQ:=
 (((ae .i32 4 b s).1,((ae .i64 8 b (az .i32 4 v 3 3 b (ae .i32 4 b s).2).2).1,((az .i32 4 v 3 3 b (ae .i32 4 b s).2).1,((ae .i32 4 b (ae .i64 8 b (az .i32 4 v 3 3 b (ae .i32 4 b s).2).2).2).1,())))),(ae .i32 4 b (ae .i64 8 b (az .i32 4 v 3 3 b (ae .i32 4 b s).2).2).2).2)
@[irreducible] noncomputable def G9 (v:Int)(b:List Int)(s:aQ):List aO.den×aQ:=kp (Nm v b) b s
@[irreducible] noncomputable def W5 (v:Int)(b:List Int)(s:aQ):ag.den×aQ:=(((ct b s).1,((G9 v b (ct b s).2).1,())),(G9 v b (ct b s).2).2)
def kt (p:aO.den):Nd:=bn [ay 3 p.1,ay 3 p.2.2.1,ay 4 p.2.1,ay 3 p.2.2.2.1]
theorem W4 {p:aO.den}(h:aO.wf p):bn [ay 3 (IntKind.i64.wrap p.1),ay 3 (IntKind.i64.wrap p.2.2.1),ay 4 p.2.1,ay 3 (IntKind.i64.wrap p.2.2.2.1)]=kt p:=by
 rw[cO (n:=p.1) h.1,cO (n:=p.2.2.1) h.2.2.1,cO (n:=p.2.2.2.1) h.2.2.2.1];rfl
def fD (t:ag.den):Nd:=bn [fN t.1,bb (t.2.1.map kt)]
@[irreducible] def bD (m:cn.den):Nd:=bn [ay 3 m.1,ay 3 m.2.1,ay 3 m.2.2.1,ay 3 m.2.2.2.1,ay 1 m.2.2.2.2.1,bb (m.2.2.2.2.2.1.map fD)]
def BV (x:Nd):aO.den:=(IntKind.i32.wrap (aZ x 0).lab.2.1,((aZ x 2).lab.2.1,(IntKind.i32.wrap (aZ x 1).lab.2.1,(IntKind.i32.wrap (aZ x 3).lab.2.1,()))))
def tc (x:Nd):ag.den:=((aZ x 0).lab.2.2.2.1,((aZ x 1).kids.map BV,()))
@[irreducible] def wH (n:Nd):cn.den:=(IntKind.i32.wrap (aZ n 0).lab.2.1,(IntKind.i32.wrap (aZ n 1).lab.2.1,(IntKind.i32.wrap (aZ n 2).lab.2.1,(IntKind.i32.wrap (aZ n 3).lab.2.1,(IntKind.i8.wrap (aZ n 4).lab.2.1,((aZ n 5).kids.map tc,()))))))
theorem Nl {p:aO.den}(h:aO.wf p):BV (kt p)=p:=by
 obtain ⟨(ix:Int),(fo:Int),(ep:Int),(mx:Int),⟨⟩⟩:=p
 show (IntKind.i32.wrap ix,(fo,(IntKind.i32.wrap ep,(IntKind.i32.wrap mx,()))))=_
 rw[eI (n:=ix) h.1,eI (n:=ep) h.2.2.1,eI (n:=mx) h.2.2.2.1]
 try rfl
theorem KQ {t:ag.den}(h:ag.wf t):tc (fD t)=t:=by
 obtain ⟨n,l,⟨⟩⟩:=t
 show (n,((l.map kt).map BV,()))=_
 rw[List.map_map,dF (f:=BV ∘ kt) (l:=l) fun p hp=>Nl (h.2.1.2 p hp)]
theorem qw {m:cn.den}(h:cn.wf m):wH (bD m)=m:=by
 obtain ⟨(re:Int),(wt:Int),(mi:Int),(mb:Int),(lv:Int),(ts:List ag.den),⟨⟩⟩:=m
 unfold wH bD
 show (IntKind.i32.wrap re,(IntKind.i32.wrap wt,(IntKind.i32.wrap mi,(IntKind.i32.wrap mb,(IntKind.i8.wrap lv,((ts.map fD).map tc,()))))))=_
 rw[eI (n:=re) h.1,eI (n:=wt) h.2.1,eI (n:=mi) h.2.2.1,eI (n:=mb) h.2.2.2.1,aaa (n:=lv) h.2.2.2.2.1,List.map_map,dF (f:=tc ∘ fD) (l:=ts) fun t ht=>KQ (h.2.2.2.2.2.1.2 t ht)]
abbrev iD:Io:=⟨[.dat cn true false],[],[],[cQ],none⟩
def dj (l:List ag.den):Bool:=decide (l.length≤4294967296)&&l.all fun t=>decide (t.2.1.length≤4294967296)
def tK (d:iD.In):Tr iD.Res:=.ite (dj d.1.1.2.2.2.2.2.1) (.ret (.ret ((bD d.1.1,()),()))) .no
abbrev qR:List (Nat×Hc):=[(181,ah jz tD),(180,ah kl wS),(183,ah hJ pP),(184,ah gg nP)]
def vT:Hd:=bA qR
abbrev d9:Lo:=⟨⟨(.any::.one (.ptr 1 0)::.one (.ptr 2 0)::.one (.onl 91 ao 7)::.one (.hol (.int IntKind.i64))::.one (.onl 91 ao 11)::.one (.hol (.int IntKind.i64))::.any::ai (ai (ai (ai (ai (ai (bQ []))))))),[none,some [.hol (.int IntKind.i32),.hol (.int IntKind.i32),.hol (.int IntKind.i32),.hol (.int IntKind.i32),.hol (.int IntKind.i8),.hol (.sl 185 ag)],some [.hol (.int IntKind.i64),.hol (.int IntKind.i64),.hol .bool,.onl 5 (Ty.int IntKind.u8) 1032,.onl 91 ao 1034]]⟩,[(.exit 2,⟨(.any::.one (.ptr 1 0)::.one (.ptr 2 0)::.one (.onl 91 ao 7)::.one (.hol (.int IntKind.i64))::.one (.onl 91 ao 11)::ai (ai (ai (ai (ai (ai (bQ (bh [])))))))),[none,some [.hol (.int IntKind.i32),.hol (.int IntKind.i32),.hol (.int IntKind.i32),.hol (.int IntKind.i32),.hol (.int IntKind.i8),.hol (.sl 185 ag)],some [.hol (.int IntKind.i64),.hol (.int IntKind.i64),.hol .bool,.onl 5 (Ty.int IntKind.u8) 1032,.onl 91 ao 1034]]⟩)]⟩
abbrev d7:Lo:=⟨⟨(.any::.one (.ptr 1 0)::.one (.ptr 2 0)::.one (.onl 91 ao 7)::.one (.hol (.int IntKind.i64))::.any::ai (ai (ai (ai (ai (ai (bQ (bh [])))))))),[none,some [.hol (.int IntKind.i32),.hol (.int IntKind.i32),.hol (.int IntKind.i32),.hol (.int IntKind.i32),.hol (.int IntKind.i8),.hol (.sl 185 ag)],some [.hol (.int IntKind.i64),.hol (.int IntKind.i64),.hol .bool,.onl 5 (Ty.int IntKind.u8) 1032,.onl 91 ao 1034]]⟩,[(.exit 0,⟨(.any::.one (.ptr 1 0)::.one (.ptr 2 0)::.one (.onl 91 ao 7)::ai (ai (ai (ai (ai (ai (dR []))))))),[none,some [.hol (.int IntKind.i32),.hol (.int IntKind.i32),.hol (.int IntKind.i32),.hol (.int IntKind.i32),.hol (.int IntKind.i8),.hol (.sl 185 ag)],some [.hol (.int IntKind.i64),.hol (.int IntKind.i64),.hol .bool,.onl 5 (Ty.int IntKind.u8) 1032,.onl 91 ao 1034]]⟩)]⟩
def nT (d:d9.st.den):Tr (aD d9.xs):=
 .ite ((decide ((0:Int)≤d.1.2.1)&&decide (d.1.2.1<(d.2.1.2.2.2.2.2.1.length:Int)))&&((decide (d.1.2.2.1.length=0)&&decide (d.1.2.2.2.1=0))&&decide ((d.2.1.2.2.2.2.2.1.getD d.1.2.1.toNat ag.zero).2.1.length≤4294967296)))
  (.ret (.ret ((),((d.1.1,(d.1.2.1,((d.2.1.2.2.2.2.2.1.getD d.1.2.1.toNat ag.zero).2.1.map kt,()))),(d.2.1,(d.2.2.1,())))))) .no
def nS (d:d7.st.den):Tr (aD d7.xs):=
 .ite ((decide (d.1.1.length=0)&&decide (d.1.2.1=0))&&dj d.2.1.2.2.2.2.2.1)
  (.ret (.ret ((),((d.2.1.2.2.2.2.2.1.map fD,()),(d.2.1,(d.2.2.1,())))))) .no
def kT:Lp:=bv [(4,aN d7 nS),(8,aN d9 nT)]
def sd {R:Type}(h19:List ao.den)(h20:Int)(h21:List ao.den)(h22 h23 h24 h25 h26 h27:Int)(h28:List ag.den)(h29 h30:Int)(h31:Bool)(h32:List Int)(h33:List ao.den)(next:List ao.den→Int→List ao.den→Int→Int→Int→Int→Int→Int→List ag.den→Int→Int→Bool→List Int→List ao.den→Option R)(out:aD d9.xs→Option R):Option R:=bif decide (0≤h20)&&decide (h20<(↑h28.length:Int)) then bif decide (h22<(↑(List.length (h28.getD h20.toNat ([],[],())).2.1):Int)) then bif decide (0≤h20)&&decide (h20<(↑h28.length:Int)) then bif decide (0≤h22)&&decide (h22<(↑(List.length (h28.getD h20.toNat ([],[],())).2.1):Int)) then bif decide (h21.length+1≤4294967296) then next (h19) (h20) (h21++[Tre.mk (10,0,false,[],()) [Tre.mk (3,IntKind.i64.wrap (List.getD (h28.getD h20.toNat ([],[],())).2.1 h22.toNat (0,0,0,0,())).1,false,[],()) [],Tre.mk (3,IntKind.i64.wrap (List.getD (h28.getD h20.toNat ([],[],())).2.1 h22.toNat (0,0,0,0,())).2.2.1,false,[],()) [],Tre.mk (4,(List.getD (h28.getD h20.toNat ([],[],())).2.1 h22.toNat (0,0,0,0,())).2.1,false,[],()) [],Tre.mk (3,IntKind.i64.wrap (List.getD (h28.getD h20.toNat ([],[],())).2.1 h22.toNat (0,0,0,0,())).2.2.2.1,false,[],()) []]]) (IntKind.i64.wrap (h22+1)) (h23) (h24) (h25) (h26) (h27) (h28) (h29) (h30) (h31) (h32) (h33) else none else none else none else out (.ret ((),((h19,(h20,(h21,()))),((h23,(h24,(h25,(h26,(h27,(h28,())))))),((h29,(h30,(h31,(h32,(h33,()))))),()))))) else none
def mH (n:Nat)(h19:List ao.den)(h20:Int)(h21:List ao.den)(h22 h23 h24 h25 h26 h27:Int)(h28:List ag.den)(h29 h30:Int)(h31:Bool)(h32:List Int)(h33:List ao.den):Option (aD d9.xs):=gd tt vT dr kT 0 Tryz.f85 (wP Tryz.f85 (cE Tryz.f85 0) 0) n (d9.st.mk' ((h19,(h20,(h21,(h22,())))),((h23,(h24,(h25,(h26,(h27,(h28,())))))),((h29,(h30,(h31,(h32,(h33,()))))),())))) (bL d9.xs)
theorem Kc (n:Nat)(h19:List ao.den)(h20:Int)(h21:List ao.den)(h22 h23 h24 h25 h26 h27:Int)(h28:List ag.den)(h29 h30:Int)(h31:Bool)(h32:List Int)(h33:List ao.den):mH (n+1) h19 h20 h21 h22 h23 h24 h25 h26 h27 h28 h29 h30 h31 h32 h33=sd h19 h20 h21 h22 h23 h24 h25 h26 h27 h28 h29 h30 h31 h32 h33 (mH n) some:=by kernel_rfl
def sc {R:Type}(h6:List ao.den)(h7 h8 h9 h10 h11 h12:Int)(h13:List ag.den)(h14 h15:Int)(h16:Bool)(h17:List Int)(h18:List ao.den)(next:List ao.den→Int→Int→Int→Int→Int→Int→List ag.den→Int→Int→Bool→List Int→List ao.den→Option R)(out:aD d7.xs→Option R):Option R:=bif decide (h7<(↑h13.length:Int)) then (nT ((h6,(h7,([],(0,())))),((h8,(h9,(h10,(h11,(h12,(h13,())))))),((h14,(h15,(h16,(h17,(h18,()))))),())))).run fun y=>match y with | .ret ((),((x63,x64,x65,()),(x66,x67,x68,x69,x70,x71,()),(x72,x73,x74,x75,x76,()),()))=>(bif decide (0≤x64)&&decide (x64<(↑x71.length:Int)) then bif decide (x63.length+1≤4294967296) then next (x63++[Tre.mk (10,0,false,[],()) [Tre.mk (5,0,false,(x71.getD x64.toNat ([],[],())).1,()) [],Tre.mk (9,0,false,[],()) x65]]) (IntKind.i64.wrap (x64+1)) (x66) (x67) (x68) (x69) (x70) (x71) (x72) (x73) (x74) (x75) (x76) else none else none) else out (.ret ((),((h6,()),((h8,(h9,(h10,(h11,(h12,(h13,())))))),((h14,(h15,(h16,(h17,(h18,()))))),())))))
def mG (n:Nat)(h6:List ao.den)(h7 h8 h9 h10 h11 h12:Int)(h13:List ag.den)(h14 h15:Int)(h16:Bool)(h17:List Int)(h18:List ao.den):Option (aD d7.xs):=gd tt vT dr kT 0 Tryz.f85 (cE Tryz.f85 0) n (d7.st.mk' ((h6,(h7,())),((h8,(h9,(h10,(h11,(h12,(h13,())))))),((h14,(h15,(h16,(h17,(h18,()))))),())))) (bL d7.xs)
theorem Kb (n:Nat)(h6:List ao.den)(h7 h8 h9 h10 h11 h12:Int)(h13:List ag.den)(h14 h15:Int)(h16:Bool)(h17:List Int)(h18:List ao.den):mG (n+1) h6 h7 h8 h9 h10 h11 h12 h13 h14 h15 h16 h17 h18=sc h6 h7 h8 h9 h10 h11 h12 h13 h14 h15 h16 h17 h18 (mG n) some:=by kernel_rfl
theorem Co {ts:List ag.den}(hw:∀t∈ts,ag.wf t)(hl:ts.length≤maxLen){i:Nat}(hi:i<ts.length)(hp:(ts[i]).2.1.length≤4294967296)(acc:List Nd)(re wt mi mb lv a' b':Int)(z':Bool)(x':List Int)(l':List Nd):∀(k j:Nat) (o:List Nd),(ts[i]).2.1.length<j+k→j≤(ts[i]).2.1.length→o.length≤j→
  mH k acc i o j re wt mi mb lv ts a' b' z' x' l'=some (.ret ((),((acc,((i:Int),(o++((ts[i]).2.1.drop j).map kt,()))),((re,(wt,(mi,(mb,(lv,(ts,())))))),((a',(b',(z',(x',(l',()))))),()))))):=by
 intro k
 induction k with
 |zero=>intro j o h1 h2;omega
 |succ k ih=>
  intro j o h1 h2 h3
  rw[Kc]
  unfold sd
  refine (aa (by simp;omega) _ _).trans ?_
  have hti:=hw _ (List.getElem_mem hi)
  simp only[Int.toNat_natCast,aH hi]
  generalize ts[i]=t at hp h1 h2 ih hti ⊢
  by_cases hj:j<t.2.1.length
  ·refine (aa (decide_eq_true (show (j:Int)<(t.2.1.length:Int) by omega)) _ _).trans ?_
   refine (aa (by simp;omega) _ _).trans ?_
   refine (aa (by simp;omega) _ _).trans ?_
   refine (aa (decide_eq_true (show o.length+1≤4294967296 by omega)) _ _).trans ?_
   have hpw:=hti.2.1.2 _ (List.getElem_mem hj)
   have ih':=ih (j+1) (o++[kt t.2.1[j]]) (by omega) (by omega) (by simp;omega)
   have hd:t.2.1.drop j=t.2.1[j]::t.2.1.drop (j+1):=List.drop_eq_getElem_cons hj
   rw[hd,aC (n:=(j:Int)+1) (by omega) (by omega)]
   have hgp:List.getD t.2.1 ((j:Int)).toNat aO.zero=t.2.1[j]:=by simp only[Int.toNat_natCast];exact aH hj
   refine Eq.trans ?_ (ih'.trans ?_)
   ·refine congrArg (fun x=>mH k acc i (o++[x]) _ re wt mi mb lv ts a' b' z' x' l') ?_
    show bn [ay 3 (IntKind.i64.wrap (List.getD t.2.1 ((j:Int)).toNat aO.zero).1),ay 3 (IntKind.i64.wrap (List.getD t.2.1 ((j:Int)).toNat aO.zero).2.2.1),ay 4 (List.getD t.2.1 ((j:Int)).toNat aO.zero).2.1,ay 3 (IntKind.i64.wrap (List.getD t.2.1 ((j:Int)).toNat aO.zero).2.2.2.1)]=_
    rw[hgp]
    exact W4 hpw
   ·simp only[List.map_cons,List.append_assoc,List.singleton_append]
  ·refine (ab (decide_eq_false (show ¬(j:Int)<(t.2.1.length:Int) by omega)) _ _).trans ?_
   rw[List.drop_of_length_le (by omega)]
   simp
theorem Cn {ts:List ag.den}(hw:∀t∈ts,ag.wf t)(hl:ts.length≤maxLen)(hs:dj ts=true)(re wt mi mb lv a' b':Int)(z':Bool)(x':List Int)(l':List Nd):∀(k j:Nat) (o:List Nd),ts.length<j+k→j≤ts.length→o.length≤j→
  mG k o j re wt mi mb lv ts a' b' z' x' l'=some (.ret ((),((o++(ts.drop j).map fD,()),((re,(wt,(mi,(mb,(lv,(ts,())))))),((a',(b',(z',(x',(l',()))))),()))))):=by
 intro k
 have hs1:=(Bool.and_eq_true _ _▸hs).1
 have hs2:=(Bool.and_eq_true _ _▸hs).2
 have hs1:ts.length≤4294967296:=of_decide_eq_true hs1
 induction k with
 |zero=>intro j o h1 h2;omega
 |succ k ih=>
  intro j o h1 h2 h3
  rw[Kb]
  unfold sc
  by_cases hj:j<ts.length
  ·refine (aa (decide_eq_true (show (j:Int)<(ts.length:Int) by omega)) _ _).trans ?_
   have hgp:ts.getD ((j:Int)).toNat ag.zero=ts[j]:=by simp only[Int.toNat_natCast];exact aH hj
   have hpl:(ts[j]).2.1.length≤4294967296:=of_decide_eq_true (List.all_eq_true.1 hs2 _ (List.getElem_mem hj))
   have c8:((decide ((0:Int)≤(j:Int))&&decide ((j:Int)<(ts.length:Int)))&&((decide (([]:List Nd).length=0)&&decide ((0:Int)=0))&&decide ((ts.getD ((j:Int)).toNat ag.zero).2.1.length≤4294967296)))=true:=by
    rw[hgp];simp;omega
   refine (aa c8 _ _).trans ?_
   refine (aa (by simp;omega) _ _).trans ?_
   refine (aa (decide_eq_true (show o.length+1≤4294967296 by omega)) _ _).trans ?_
   rw[aC (n:=(j:Int)+1) (by omega) (by omega)]
   have ih':=ih (j+1) (o++[fD ts[j]]) (by omega) (by omega) (by simp;omega)
   have hd:ts.drop j=ts[j]::ts.drop (j+1):=List.drop_eq_getElem_cons hj
   rw[hd]
   refine Eq.trans ?_ (ih'.trans ?_)
   ·refine congrArg (fun x=>mG k (o++[x]) _ re wt mi mb lv ts a' b' z' x' l') ?_
    show (bn [fN (ts.getD ((j:Int)).toNat ag.zero).1,bb ((ts.getD ((j:Int)).toNat ag.zero).2.1.map kt)])=_
    rw[hgp];rfl
   ·simp only[List.map_cons,List.append_assoc,List.singleton_append]
  ·refine (ab (decide_eq_false (show ¬(j:Int)<(ts.length:Int) by omega)) _ _).trans ?_
   rw[List.drop_of_length_le (by omega)]
   simp
def xf (a0 a1 a2 a3 a4:Int)(a5:List ag.den):Option iD.Res:=(nS (([],(0,())),((a0,(a1,(a2,(a3,(a4,(a5,())))))),((0,(0,(false,([],([],()))))),())))).run fun y=>match y with | .ret ((),((x102,()),(x103,x104,x105,x106,x107,x108,()),(x109,x110,x111,x112,x113,()),()))=>(some (Out.ret ((Tre.mk (10,0,false,[],()) ([Tre.mk (3,IntKind.i64.wrap x103,false,[],()) [],Tre.mk (3,IntKind.i64.wrap x104,false,[],()) [],Tre.mk (3,IntKind.i64.wrap x105,false,[],()) []]++[Tre.mk (3,IntKind.i64.wrap x106,false,[],()) []]++[Tre.mk (1,IntKind.i64.wrap x107,false,[],()) []]++[Tre.mk (9,0,false,[],()) x102]),()),())))
theorem MH (a0 a1 a2 a3 a4:Int)(a5:List ag.den):Io.run tt vT dr kT iD Tryz.f85 (((a0,a1,a2,a3,a4,a5,()),()),())=xf a0 a1 a2 a3 a4 a5:=by kernel_rfl
theorem Et:HcOk prog 85 (ah iD tK):=by
 refine aj (n:=400) hm (cs:=qR) (.cons eM (.cons fO (.cons dQ (.cons c7 .nil)))) (lp:=kT) (fn:=Tryz.f85) (by kernel_rfl) (by kernel_rfl) (by kernel_rfl) iD (.step (h0:=aN d7 nS) (by kernel_rfl) (aw (n:=400) hm (cs:=qR) (.cons eM (.cons fO (.cons dQ (.cons c7 .nil)))) (lp:=kT) (fn:=Tryz.f85) (.step (h0:=aN d9 nT) (by kernel_rfl) (aw (n:=400) hm (cs:=qR) (.cons eM (.cons fO (.cons dQ (.cons c7 .nil)))) (lp:=kT) (fn:=Tryz.f85) (.done (by kernel_rfl)) d9 nT ?_) (.done (by kernel_rfl))) d7 nS ?_) (.done (by kernel_rfl))) tK ?_
 ·rintro ⟨⟨(acc:List Nd),(i:Int),(o:List Nd),(j:Int),⟨⟩⟩,⟨⟨(re:Int),(wt:Int),(mi:Int),(mb:Int),(lv:Int),(ts:List ag.den),⟨⟩⟩,⟨(a':Int),(b':Int),(z':Bool),(x':List Int),(l':List Nd),⟨⟩⟩,⟨⟩⟩⟩ y hw hy
  obtain ⟨hg,hy⟩:=Tr.guard hy
  simp only[Bool.and_eq_true,decide_eq_true_eq] at hg
  obtain ⟨⟨h1,h2⟩,⟨h3,h4⟩,h5⟩:=hg
  have h1:0≤i:=h1
  have h2:i<(ts.length:Int):=h2
  have h3:o=[]:=List.eq_nil_of_length_eq_zero h3
  have h4:j=0:=h4
  obtain ⟨i,rfl⟩:=cZ h1
  subst h3
  subst h4
  have hi:i<ts.length:=by omega
  have hgp:ts.getD ((i:Int)).toNat ag.zero=ts[i]:=by simp only[Int.toNat_natCast];exact aH hi
  have h5:(ts.getD ((i:Int)).toNat ag.zero).2.1.length≤4294967296:=h5
  rw[hgp] at h5
  have hwt:ts.length≤maxLen∧∀t∈ts,ag.wf t:=by have:=hw.2.1.2.2.2.2.2.1;exact this
  refine ⟨(ts[i]).2.1.length+1,(Co hwt.2 hwt.1 hi h5 acc re wt mi mb lv a' b' z' x' l' ((ts[i]).2.1.length+1) 0 [] (by omega) (by omega) (by simp)).trans ?_⟩
  rw[← hy,← hgp,List.drop_zero]
  rfl
 ·rintro ⟨⟨(o:List Nd),(j:Int),⟨⟩⟩,⟨⟨(re:Int),(wt:Int),(mi:Int),(mb:Int),(lv:Int),(ts:List ag.den),⟨⟩⟩,⟨(a':Int),(b':Int),(z':Bool),(x':List Int),(l':List Nd),⟨⟩⟩,⟨⟩⟩⟩ y hw hy
  obtain ⟨hg,hy⟩:=Tr.guard hy
  simp only[Bool.and_eq_true,decide_eq_true_eq] at hg
  obtain ⟨⟨h3,h4⟩,h5⟩:=hg
  have h3:o=[]:=List.eq_nil_of_length_eq_zero h3
  have h4:j=0:=h4
  have h5:dj ts=true:=h5
  subst h3
  subst h4
  have hwt:ts.length≤maxLen∧∀t∈ts,ag.wf t:=by have:=hw.2.1.2.2.2.2.2.1;exact this
  refine ⟨ts.length+1,(Cn hwt.2 hwt.1 h5 re wt mi mb lv a' b' z' x' l' (ts.length+1) 0 [] (by omega) (by omega) (by simp)).trans ?_⟩
  rw[← hy,List.drop_zero]
  rfl
 ·rintro ⟨⟨⟨(re:Int),(wt:Int),(mi:Int),(mb:Int),(lv:Int),(ts:List ag.den),⟨⟩⟩,⟨⟩⟩,⟨⟩⟩ out hw ho
  obtain ⟨hg,ho⟩:=Tr.guard ho
  have hg:dj ts=true:=hg
  cases ho
  refine (MH re wt mi mb lv ts).trans ?_
  unfold xf
  have c1:((decide (([]:List Nd).length=0)&&decide ((0:Int)=0))&&dj ts)=true:=by rw[hg];rfl
  refine (aa c1 _ _).trans ?_
  show _=some (Out.ret ((bD (re,(wt,(mi,(mb,(lv,(ts,())))))),()),()))
  unfold bD
  have hre:IntKind.i64.wrap re=re:=cO hw.1.1.1
  have hwt:IntKind.i64.wrap wt=wt:=cO hw.1.1.2.1
  have hmi:IntKind.i64.wrap mi=mi:=cO hw.1.1.2.2.1
  have hmb:IntKind.i64.wrap mb=mb:=cO hw.1.1.2.2.2.1
  have hlv:IntKind.i64.wrap lv=lv:=Ut hw.1.1.2.2.2.2.1
  show some (Out.ret ((bn [ay 3 (IntKind.i64.wrap re),ay 3 (IntKind.i64.wrap wt),ay 3 (IntKind.i64.wrap mi),ay 3 (IntKind.i64.wrap mb),ay 1 (IntKind.i64.wrap lv),bb (ts.map fD)],()),()))=_
  rw[hre,hwt,hmi,hmb,hlv]
abbrev oN:Io:=⟨[cQ],[],[],[.dat cn true false],none⟩
def Lg (d:oN.In):Tr oN.Res:=.ite (decide (aP d.1.1≤4294967296)) (.ret (.ret ((wH d.1.1,()),()))) .no
abbrev yt:List (Nat×Hc):=[(164,ah up SK)]
def FY:Hd:=bA yt
abbrev fj:Lo:=⟨⟨(bh (.one (.ptr 2 0)::.one (.ptr 3 0)::.one (.hol (.sl 91 ao))::.one (.hol (.int IntKind.i64))::.one (.ptr 6 0)::.one (.hol (.sl 91 ao))::.one (.hol (.int IntKind.i64))::ai (ai (ai (ai (ai (ai ([])))))))),[none,none,some [.hol (.int IntKind.i32),.hol (.int IntKind.i32),.hol (.int IntKind.i32),.hol (.int IntKind.i32),.hol (.int IntKind.i8),.onl 185 ag 1036],some [.hol (.int IntKind.i32),.hol (.int IntKind.i32),.hol (.int IntKind.i32),.hol (.int IntKind.i32),.hol (.int IntKind.i8),.onl 185 ag 1548],none,none,some [.hol .str,.onl 187 aO 3076]]⟩,[(.exit 2,⟨(bh (.one (.ptr 2 0)::.one (.ptr 3 0)::.one (.hol (.sl 91 ao))::.one (.hol (.int IntKind.i64))::.one (.ptr 6 0)::ai (ai (ai (ai (ai (ai (bh [])))))))),[none,none,some [.hol (.int IntKind.i32),.hol (.int IntKind.i32),.hol (.int IntKind.i32),.hol (.int IntKind.i32),.hol (.int IntKind.i8),.onl 185 ag 1036],some [.hol (.int IntKind.i32),.hol (.int IntKind.i32),.hol (.int IntKind.i32),.hol (.int IntKind.i32),.hol (.int IntKind.i8),.onl 185 ag 1548],none,none,some [.hol .str,.onl 187 aO 3076]]⟩)]⟩
abbrev gB:Lo:=⟨⟨(bh (.one (.ptr 2 0)::.one (.ptr 3 0)::.one (.hol (.sl 91 ao))::.one (.hol (.int IntKind.i64))::.any::ai (ai (ai (ai (ai (ai (bh [])))))))),[none,none,some [.hol (.int IntKind.i32),.hol (.int IntKind.i32),.hol (.int IntKind.i32),.hol (.int IntKind.i32),.hol (.int IntKind.i8),.onl 185 ag 1036],some [.hol (.int IntKind.i32),.hol (.int IntKind.i32),.hol (.int IntKind.i32),.hol (.int IntKind.i32),.hol (.int IntKind.i8),.onl 185 ag 1548]]⟩,[(.exit 0,⟨(bh (.one (.ptr 2 0)::.one (.ptr 3 0)::.any::ai (ai (ai (ai (ai (ai (bQ [])))))))),[none,none,some [.hol (.int IntKind.i32),.hol (.int IntKind.i32),.hol (.int IntKind.i32),.hol (.int IntKind.i32),.hol (.int IntKind.i8),.onl 185 ag 1036],some [.hol (.int IntKind.i32),.hol (.int IntKind.i32),.hol (.int IntKind.i32),.hol (.int IntKind.i32),.hol (.int IntKind.i8),.onl 185 ag 1548]]⟩)]⟩
def qO (d:fj.st.den):Tr (aD fj.xs):=
 .ite ((decide (d.1.2.2.2.1=0)&&decide (d.2.2.2.1.2.1.length=0))&&decide (aI d.1.2.2.1≤4294967296))
  (.ret (.ret ((),((d.1.1,(d.1.2.1,())),(d.2.1,(d.2.2.1,((d.2.2.2.1.1,(d.1.2.2.1.map BV,())),()))))))) .no
def tL (d:gB.st.den):Tr (aD gB.xs):=
 .ite ((decide (d.1.2.1=0)&&decide (d.2.2.1.2.2.2.2.2.1.length=0))&&decide (aI d.1.1≤4294967296))
  (.ret (.ret ((),((),(d.2.1,((d.2.2.1.1,(d.2.2.1.2.1,(d.2.2.1.2.2.1,(d.2.2.1.2.2.2.1,(d.2.2.1.2.2.2.2.1,(d.1.1.map tc,())))))),())))))) .no
def rs:Lp:=bv [(7,aN gB tL),(12,aN fj qO)]
def vo {R:Type}(h15:List (Nd))(h16:Int)(h17:List (Nd))(h18 h19 h20 h21 h22 h23:Int)(h24:List ag.den)(h25 h26 h27 h28 h29:Int)(h30:List ag.den)(h31:List Int)(h32:List aO.den)(next:List (Nd)→Int→List (Nd)→Int→Int→Int→Int→Int→Int→List ag.den→Int→Int→Int→Int→Int→List ag.den→List Int→List aO.den→Option R)(out:aD fj.xs→Option R):Option R:=bif decide (h18<(↑h17.length:Int)) then bif decide (0≤h18)&&decide (h18<(↑h17.length:Int)) then bif decide (0≤h18)&&decide (h18<(↑h17.length:Int)) then bif decide (0≤h18)&&decide (h18<(↑h17.length:Int)) then bif decide (0≤h18)&&decide (h18<(↑h17.length:Int)) then bif decide (h32.length+1≤4294967296) then next (h15) (h16) (h17) (IntKind.i64.wrap (h18+1)) (h19) (h20) (h21) (h22) (h23) (h24) (h25) (h26) (h27) (h28) (h29) (h30) (h31) (h32++[(IntKind.i32.wrap (aZ (Tre.mk (h17.getD h18.toNat (Tre.mk (0,0,false,[],()) [])).1 (h17.getD h18.toNat (Tre.mk (0,0,false,[],()) [])).2) 0).1.2.1,(aZ (Tre.mk (h17.getD h18.toNat (Tre.mk (0,0,false,[],()) [])).1 (h17.getD h18.toNat (Tre.mk (0,0,false,[],()) [])).2) 2).1.2.1,IntKind.i32.wrap (aZ (Tre.mk (h17.getD h18.toNat (Tre.mk (0,0,false,[],()) [])).1 (h17.getD h18.toNat (Tre.mk (0,0,false,[],()) [])).2) 1).1.2.1,IntKind.i32.wrap (aZ (Tre.mk (h17.getD h18.toNat (Tre.mk (0,0,false,[],()) [])).1 (h17.getD h18.toNat (Tre.mk (0,0,false,[],()) [])).2) 3).1.2.1,())]) else none else none else none else none else none else out (.ret ((),((h15,(h16,())),((h19,(h20,(h21,(h22,(h23,(h24,())))))),((h25,(h26,(h27,(h28,(h29,(h30,())))))),((h31,(h32,())),()))))))
def sT (n:Nat)(h15:List (Nd))(h16:Int)(h17:List (Nd))(h18 h19 h20 h21 h22 h23:Int)(h24:List ag.den)(h25 h26 h27 h28 h29:Int)(h30:List ag.den)(h31:List Int)(h32:List aO.den):Option (aD fj.xs):=gd tt FY dr rs 0 Tryz.f72 (wP Tryz.f72 (cE Tryz.f72 0) 0) n (fj.st.mk' ((h15,(h16,(h17,(h18,())))),((h19,(h20,(h21,(h22,(h23,(h24,())))))),((h25,(h26,(h27,(h28,(h29,(h30,())))))),((h31,(h32,())),()))))) (bL fj.xs)
theorem MV (n:Nat)(h15:List (Nd))(h16:Int)(h17:List (Nd))(h18 h19 h20 h21 h22 h23:Int)(h24:List ag.den)(h25 h26 h27 h28 h29:Int)(h30:List ag.den)(h31:List Int)(h32:List aO.den):sT (n+1) h15 h16 h17 h18 h19 h20 h21 h22 h23 h24 h25 h26 h27 h28 h29 h30 h31 h32=vo h15 h16 h17 h18 h19 h20 h21 h22 h23 h24 h25 h26 h27 h28 h29 h30 h31 h32 (sT n) some:=by kernel_rfl
def xV {R:Type}(h1:List (Nd))(h2 h3 h4 h5 h6 h7:Int)(h8:List ag.den)(h9 h10 h11 h12 h13:Int)(h14:List ag.den)(next:List (Nd)→Int→Int→Int→Int→Int→Int→List ag.den→Int→Int→Int→Int→Int→List ag.den→Option R)(out:aD gB.xs→Option R):Option R:=bif decide (h2<(↑h1.length:Int)) then bif decide (0≤h2)&&decide (h2<(↑h1.length:Int)) then bif decide (0≤h2)&&decide (h2<(↑h1.length:Int)) then (qO ((h1,(h2,((aZ (Tre.mk (h1.getD h2.toNat (Tre.mk (0,0,false,[],()) [])).1 (h1.getD h2.toNat (Tre.mk (0,0,false,[],()) [])).2) 1).2,(0,())))),((h3,(h4,(h5,(h6,(h7,(h8,())))))),((h9,(h10,(h11,(h12,(h13,(h14,())))))),(((aZ (Tre.mk (h1.getD h2.toNat (Tre.mk (0,0,false,[],()) [])).1 (h1.getD h2.toNat (Tre.mk (0,0,false,[],()) [])).2) 0).1.2.2.2.1,([],())),()))))).run fun y=>match y with | .ret ((),((x67,x68,()),(x69,x70,x71,x72,x73,x74,()),(x75,x76,x77,x78,x79,x80,()),(x81,x82,()),()))=>(bif decide (x80.length+1≤4294967296) then next (x67) (IntKind.i64.wrap (x68+1)) (x69) (x70) (x71) (x72) (x73) (x74) (x75) (x76) (x77) (x78) (x79) (x80++[(x81,x82,())]) else none) else none else none else out (.ret ((),((),((h3,(h4,(h5,(h6,(h7,(h8,())))))),((h9,(h10,(h11,(h12,(h13,(h14,())))))),())))))
def wh (n:Nat)(h1:List (Nd))(h2 h3 h4 h5 h6 h7:Int)(h8:List ag.den)(h9 h10 h11 h12 h13:Int)(h14:List ag.den):Option (aD gB.xs):=gd tt FY dr rs 0 Tryz.f72 (cE Tryz.f72 0) n (gB.st.mk' ((h1,(h2,())),((h3,(h4,(h5,(h6,(h7,(h8,())))))),((h9,(h10,(h11,(h12,(h13,(h14,())))))),())))) (bL gB.xs)
theorem RP (n:Nat)(h1:List (Nd))(h2 h3 h4 h5 h6 h7:Int)(h8:List ag.den)(h9 h10 h11 h12 h13:Int)(h14:List ag.den):wh (n+1) h1 h2 h3 h4 h5 h6 h7 h8 h9 h10 h11 h12 h13 h14=xV h1 h2 h3 h4 h5 h6 h7 h8 h9 h10 h11 h12 h13 h14 (wh n) some:=by kernel_rfl
theorem Gf {ps:List Nd}(hb:aI ps≤4294967296)(dT:List Nd)(i re0 wt0 mi0 mb0 lv0:Int)(ts0:List ag.den)(re wt mi mb lv:Int)(ts:List ag.den)(tn:List Int):∀(k j:Nat) (o:List aO.den),ps.length<j+k→j≤ps.length→o.length≤j→
  sT k dT i ps j re0 wt0 mi0 mb0 lv0 ts0 re wt mi mb lv ts tn o=some (.ret ((),((dT,(i,())),((re0,(wt0,(mi0,(mb0,(lv0,(ts0,())))))),((re,(wt,(mi,(mb,(lv,(ts,())))))),((tn,(o++(ps.drop j).map BV,())),())))))):=by
 intro k
 have hlen:=gI ps
 induction k with
 |zero=>intro j o h1 h2;omega
 |succ k ih=>
  intro j o h1 h2 h3
  rw[MV]
  unfold vo
  by_cases hj:j<ps.length
  ·refine (aa (decide_eq_true (show (j:Int)<(ps.length:Int) by omega)) _ _).trans ?_
   have hmem:=cY (List.getElem_mem hj)
   have ih':=ih (j+1) (o++[BV ps[j]]) (by omega) (by omega) (by simp;omega)
   have hd:ps.drop j=ps[j]::ps.drop (j+1):=List.drop_eq_getElem_cons hj
   rw[hd,aC (n:=(j:Int)+1) (by omega) (by omega)]
   simp only[Int.toNat_natCast,aH hj]
   generalize ps[j]=u at hmem ih' ⊢
   obtain ⟨ul,uk⟩:=u
   refine (aa (by simp;omega) _ _).trans ?_
   refine (aa (by simp;omega) _ _).trans ?_
   refine (aa (by simp;omega) _ _).trans ?_
   refine (aa (by simp;omega) _ _).trans ?_
   refine (aa (decide_eq_true (show o.length+1≤4294967296 by omega)) _ _).trans ?_
   refine ih'.trans ?_
   simp only[List.map_cons,List.append_assoc,List.singleton_append]
  ·refine (ab (decide_eq_false (show ¬(j:Int)<(ps.length:Int) by omega)) _ _).trans ?_
   rw[List.drop_of_length_le (by omega)]
   simp
theorem I6 {nds:List Nd}(hb:aI nds≤4294967296)(re0 wt0 mi0 mb0 lv0:Int)(ts0:List ag.den)(re wt mi mb lv:Int):∀(k j:Nat) (ts:List ag.den),nds.length<j+k→j≤nds.length→ts.length≤j→
  wh k nds j re0 wt0 mi0 mb0 lv0 ts0 re wt mi mb lv ts=some (.ret ((),((),((re0,(wt0,(mi0,(mb0,(lv0,(ts0,())))))),((re,(wt,(mi,(mb,(lv,(ts++(nds.drop j).map tc,())))))),()))))):=by
 intro k
 have hlen:=gI nds
 induction k with
 |zero=>intro j o h1 h2;omega
 |succ k ih=>
  intro j ts h1 h2 h3
  rw[RP]
  unfold xV
  by_cases hj:j<nds.length
  ·refine (aa (decide_eq_true (show (j:Int)<(nds.length:Int) by omega)) _ _).trans ?_
   have hmem:=cY (List.getElem_mem hj)
   have ih':=ih (j+1) (ts++[tc nds[j]]) (by omega) (by omega) (by simp;omega)
   have hd:nds.drop j=nds[j]::nds.drop (j+1):=List.drop_eq_getElem_cons hj
   rw[hd]
   simp only[Int.toNat_natCast,aH hj]
   generalize nds[j]=u at hmem ih' ⊢
   obtain ⟨ul,uk⟩:=u
   refine (aa (by simp;omega) _ _).trans ?_
   refine (aa (by simp;omega) _ _).trans ?_
   have hw1:=o6 (Tre.mk ul uk) 1
   have hw2:=iu (aZ (Tre.mk ul uk) 1)
   have cA:((decide ((0:Int)=0)&&decide (([]:List aO.den).length=0))&&decide (aI (aZ (Tre.mk ul uk) 1).kids≤4294967296))=true:=by simp;omega
   refine (aa cA _ _).trans ?_
   refine (aa (decide_eq_true (show ts.length+1≤4294967296 by omega)) _ _).trans ?_
   rw[aC (n:=(j:Int)+1) (by omega) (by omega)]
   refine ih'.trans ?_
   simp only[List.map_cons,List.append_assoc,List.singleton_append]
  ·refine (ab (decide_eq_false (show ¬(j:Int)<(nds.length:Int) by omega)) _ _).trans ?_
   rw[List.drop_of_length_le (by omega)]
   simp
def Du (a0:Nd):Option oN.Res:=(tL (((aZ (Tre.mk a0.1 a0.2) 5).2,(0,())),((0,(0,(0,(0,(0,([],())))))),((IntKind.i32.wrap (aZ (Tre.mk a0.1 a0.2) 0).1.2.1,(IntKind.i32.wrap (aZ (Tre.mk a0.1 a0.2) 1).1.2.1,(IntKind.i32.wrap (aZ (Tre.mk a0.1 a0.2) 2).1.2.1,(IntKind.i32.wrap (aZ (Tre.mk a0.1 a0.2) 3).1.2.1,(IntKind.i8.wrap (aZ (Tre.mk a0.1 a0.2) 4).1.2.1,([],())))))),())))).run fun y=>match y with | .ret ((),((),(x109,x110,x111,x112,x113,x114,()),(x115,x116,x117,x118,x119,x120,()),()))=>(some (Out.ret (((x115,x116,x117,x118,x119,x120,()),()),())))
theorem Wu (a0:Nd):Io.run tt FY dr rs oN Tryz.f72 ((a0,()),())=Du a0:=by kernel_rfl
theorem YL:HcOk prog 72 (ah oN Lg):=by
 refine aj (n:=400) hm (cs:=yt) (.cons uF .nil) (lp:=rs) (fn:=Tryz.f72) (by kernel_rfl) (by kernel_rfl) (by kernel_rfl) oN (.step (h0:=aN gB tL) (by kernel_rfl) (aw (n:=400) hm (cs:=yt) (.cons uF .nil) (lp:=rs) (fn:=Tryz.f72) (.step (h0:=aN fj qO) (by kernel_rfl) (aw (n:=400) hm (cs:=yt) (.cons uF .nil) (lp:=rs) (fn:=Tryz.f72) (.done (by kernel_rfl)) fj qO ?_) (.done (by kernel_rfl))) gB tL ?_) (.done (by kernel_rfl))) Lg ?_
 ·rintro ⟨⟨(dT:List Nd),(i:Int),(ps:List Nd),(j:Int),⟨⟩⟩,⟨⟨(re0:Int),(wt0:Int),(mi0:Int),(mb0:Int),(lv0:Int),(ts0:List ag.den),⟨⟩⟩,⟨(re:Int),(wt:Int),(mi:Int),(mb:Int),(lv:Int),(ts:List ag.den),⟨⟩⟩,⟨(tn:List Int),(o:List aO.den),⟨⟩⟩,⟨⟩⟩⟩ y hw hy
  obtain ⟨hg,hy⟩:=Tr.guard hy
  simp only[Bool.and_eq_true,decide_eq_true_eq] at hg
  obtain ⟨⟨h1,h2⟩,h3⟩:=hg
  have h1:j=0:=h1
  have h2:o=[]:=List.eq_nil_of_length_eq_zero h2
  have h3:aI ps≤4294967296:=h3
  subst h1
  subst h2
  refine ⟨ps.length+1,(Gf h3 dT i re0 wt0 mi0 mb0 lv0 ts0 re wt mi mb lv ts tn (ps.length+1) 0 [] (by omega) (by omega) (by simp)).trans ?_⟩
  rw[← hy,List.drop_zero]
  rfl
 ·rintro ⟨⟨(nds:List Nd),(j:Int),⟨⟩⟩,⟨⟨(re0:Int),(wt0:Int),(mi0:Int),(mb0:Int),(lv0:Int),(ts0:List ag.den),⟨⟩⟩,⟨(re:Int),(wt:Int),(mi:Int),(mb:Int),(lv:Int),(ts:List ag.den),⟨⟩⟩,⟨⟩⟩⟩ y hw hy
  obtain ⟨hg,hy⟩:=Tr.guard hy
  simp only[Bool.and_eq_true,decide_eq_true_eq] at hg
  obtain ⟨⟨h1,h2⟩,h3⟩:=hg
  have h1:j=0:=h1
  have h2:ts=[]:=List.eq_nil_of_length_eq_zero h2
  have h3:aI nds≤4294967296:=h3
  subst h1
  subst h2
  refine ⟨nds.length+1,(I6 h3 re0 wt0 mi0 mb0 lv0 ts0 re wt mi mb lv (nds.length+1) 0 [] (by omega) (by omega) (by simp)).trans ?_⟩
  rw[← hy,List.drop_zero]
  rfl
 ·rintro ⟨⟨(n:Nd),⟨⟩⟩,⟨⟩⟩ out hw ho
  obtain ⟨hg,ho⟩:=Tr.guard ho
  have hg:aP n≤4294967296:=of_decide_eq_true hg
  cases ho
  refine (Wu n).trans ?_
  unfold Du
  obtain ⟨nl,nk⟩:=n
  have hw1:=o6 (Tre.mk nl nk) 5
  have hw2:=iu (aZ (Tre.mk nl nk) 5)
  have c1:((decide ((0:Int)=0)&&decide (([]:List ag.den).length=0))&&decide (aI (aZ (Tre.mk nl nk) 5).kids≤4294967296))=true:=by simp;omega
  refine (aa c1 _ _).trans ?_
  show _=some (Out.ret ((wH (Tre.mk nl nk),()),()))
  unfold wH
  rfl
abbrev jD:Io:=⟨[.dat cn true false],[],[],[.dat cn true false],none⟩
def zh (d:jD.In):Tr jD.Res:=.ite (dj d.1.1.2.2.2.2.2.1&&decide (aP (bD d.1.1)≤4294967296)) (.ret (.ret ((d.1.1,()),()))) .no
abbrev DN:List (Nat×Hc):=[(85,ah iD tK),(83,ah eY Fi),(72,ah oN Lg)]
def Qe:Hd:=bA DN
def Eg:Lp:=bv []
def xg (a0 a1 a2 a3 a4:Int)(a5:List ag.den):Option jD.Res:=bif dj a5 then bif decide (aP (Tre.mk (bD (a0,a1,a2,a3,a4,a5,())).1 (bD (a0,a1,a2,a3,a4,a5,())).2)≤4294967296) then bif decide (aP (Tre.mk (bD (a0,a1,a2,a3,a4,a5,())).1 (bD (a0,a1,a2,a3,a4,a5,())).2)≤4294967296) then some (Out.ret ((wH (Tre.mk (bD (a0,a1,a2,a3,a4,a5,())).1 (bD (a0,a1,a2,a3,a4,a5,())).2),()),())) else none else none else none
theorem MI (a0 a1 a2 a3 a4:Int)(a5:List ag.den):Io.run tt Qe dr Eg jD Tryz.f31 (((a0,a1,a2,a3,a4,a5,()),()),())=xg a0 a1 a2 a3 a4 a5:=by kernel_rfl
theorem QP:HcOk prog 31 (ah jD zh):=by
 refine aj (n:=400) hm (cs:=DN) (.cons Et (.cons GG (.cons YL .nil))) (lp:=Eg) (fn:=Tryz.f31) (by kernel_rfl) (by kernel_rfl) (by kernel_rfl) jD (.done (by kernel_rfl)) zh ?_
 rintro ⟨⟨m,⟨⟩⟩,⟨⟩⟩ out hw ho
 obtain ⟨hg,ho⟩:=Tr.guard ho
 simp only[Bool.and_eq_true,decide_eq_true_eq] at hg
 obtain ⟨h1,h2⟩:=hg
 have h1:dj m.2.2.2.2.2.1=true:=h1
 have h2:aP (bD m)≤4294967296:=h2
 cases ho
 have hf:=qw (m:=m) hw.1.1
 obtain ⟨re,wt,mi,mb,lv,ts,⟨⟩⟩:=m
 refine (MI re wt mi mb lv ts).trans ?_
 unfold xg
 generalize bD (re,(wt,(mi,(mb,(lv,(ts,()))))))=n at h2 hf ⊢
 obtain ⟨nl,nk⟩:=n
 refine (aa h1 _ _).trans ?_
 refine (aa (decide_eq_true h2) _ _).trans ?_
 refine (aa (decide_eq_true h2) _ _).trans ?_
 exact congrArg (fun x=>some (Out.ret ((x,()),()))) hf
@[irreducible] noncomputable def jc (v:Int)(m:cn.den):List Int×Int:=fT 1 false v (bD m)
def Xk (v:Int)(p:aO.den):List Int×Int:=aU (aB p.1 4,0) (aU (if 3≤v∧v≤3 then (aB p.2.2.1 4,0) else ([],0)) (aU (aB p.2.1 8,0) (aU (aB p.2.2.2.1 4,0) ([],0))))
def Xl (v:Int)(t:ag.den):List Int×Int:=aU (pB t.1) (aU (eN (Xk v) t.2.1) ([],0))
def abK (v:Int)(m:cn.den):List Int×Int:=aU (aB m.1 4,0) (aU (aB m.2.1 4,0) (aU (aB m.2.2.1 4,0) (aU (if 1≤v∧v≤3 then (aB m.2.2.2.1 4,0) else ([],0)) (aU (if 2≤v∧v≤3 then (aB m.2.2.2.2.1 1,0) else ([],0)) (aU (eN (Xl v) m.2.2.2.2.2.1) (([],0)))))))
theorem Wri.fqP (v:Int)(p:aO.den):Wri (Xk v p) (qx v p):=(Wri.put p.1 4).seq ((Wri.hasE v 3 3 p.2.2.1 4).seq ((Wri.put p.2.1 8).seq ((Wri.put p.2.2.2.1 4).seq (Wri.nop))))
theorem Wri.fqT (v:Int)(t:ag.den):Wri (Xl v t) (BW v t):=(Wri.str _).seq ((Wri.items fun p hp=>Wri.fqP v p).seq Wri.nop)
abbrev aaH:Fd:=cp [112,97,114,116] 10 0 3 [cp [105,110,100,101,120] 3 0 3 [],cp [101,112,111,99,104] 3 3 3 [],cp [111,102,102,115,101,116] 4 0 3 [],cp [109,97,120] 3 0 3 []]
abbrev acp:Fd:=cp [116,111,112,105,99] 10 0 3 [cp [110,97,109,101] 5 0 3 [],cp [112,97,114,116,115] 9 0 3 [aaH]]
theorem ZF {v:Int}{p:aO.den}(hv:0≤v∧v≤3)(h:aO.wf p):tq aaH v (kt p)=Xk v p:=by
 unfold kt Xk
 rw[mQ,bw (aJ hv.1 hv.2),lU,bw (aJ hv.1 hv.2),bw (aJ hv.1 hv.2),dc,ce (by decide) (w:=4) rfl (b8 h.1),ce (by decide) (w:=4) rfl (b8 h.2.2.1),ce (by decide) (w:=4) rfl (b8 h.2.2.2.1),ce (by decide) (w:=8) rfl (lO p.2.1)]
 try rfl
theorem ZG {v:Int}{t:ag.den}(hv:0≤v∧v≤3)(h:ag.wf t):tq acp v (fD t)=Xl v t:=by
 unfold fD Xl
 rw[mQ,bw (aJ hv.1 hv.2),bw (aJ hv.1 hv.2),dc,u9,ja,dA fun p hp=>ZF hv (h.2.1.2 p hp)]
def pu (v:Int)(p:aO.den):Bool:=(if 3≤v∧v≤3 then true else (p.2.2.1 == 0))
theorem RT {v:Int}{p:aO.den}(hv:0≤v∧v≤3):(ba aaH v (kt p)).2=pu v p:=by
 unfold kt pu
 rw[iH,bB (aJ hv.1 hv.2),fK,bB (aJ hv.1 hv.2),bB (aJ hv.1 hv.2),fJ,aT (by decide) (by decide),aT (by decide) (by decide),aT (by decide) (by decide),aT (by decide) (by decide),bK]
 simp only[Bool.true_and,Bool.and_true]
theorem RU {v:Int}{t:ag.den}(hv:0≤v∧v≤3):(ba acp v (fD t)).2=t.2.1.all (pu v):=by
 unfold fD
 rw[iH,bB (aJ hv.1 hv.2),bB (aJ hv.1 hv.2),fJ,aT (by decide) (by decide),fz]
 simp only[RT hv,Bool.true_and,Bool.and_true]
theorem Nh (m:cn.den):dN uV [ay 3 m.1,ay 3 m.2.1,ay 3 m.2.2.1,ay 3 m.2.2.2.1,ay 1 m.2.2.2.2.1,bb (m.2.2.2.2.2.1.map fD)]:=by
 unfold uV cy
 refine aF (aK (by decide) (by decide)) (aF (aK (by decide) (by decide)) (aF (aK (by decide) (by decide)) (aF (aK (by decide) (by decide)) (aF (aK (by decide) (by decide)) (aF ?_ cI)))))
 refine dD _ _ fun t=>eU rfl (aF (aK (by decide) (by decide)) (aF ?_ cI))
 exact dD _ _ fun p=>eU rfl (aF (aK (by decide) (by decide)) (aF (aK (by decide) (by decide)) (aF (aK (by decide) (by decide)) (aF (aK (by decide) (by decide)) cI))))
def JK (v:Int)(m:cn.den):Bool:=(if 1≤v∧v≤3 then true else (m.2.2.2.1 == 0))&&((if 2≤v∧v≤3 then true else (m.2.2.2.2.1 == 0))&&((m.2.2.2.2.2.1.all fun t=>t.2.1.all (pu v))))
theorem Si {e v:Int}{p:aO.den}:ta v p (e,(false,([]:List Int)))=(ki e (pu v p),(false,[])):=by
 unfold ta pu
 rw[eC]
theorem BU {v:Int}:∀{ps:List aO.den} {e:Int},gJ v ps (e,(false,([]:List Int)))=(ki e (ps.all (pu v)),(false,[]))
 |[],e=>by rw[List.all_nil,k5];rfl
 |p::ps,e=>by
  show gJ v ps (ta v p (e,(false,[])))=_
  rw[Si,BU,eP,List.all_cons]
theorem EE {v:Int}:∀{ts:List ag.den} {e:Int},wG v ts (e,(false,([]:List Int)))=(ki e (ts.all fun t=>t.2.1.all (pu v)),(false,[]))
 |[],e=>by rw[List.all_nil,k5];rfl
 |t::ts,e=>by
  show wG v ts (gJ v t.2.1 (e,(false,[])))=_
  rw[BU,EE,eP,List.all_cons]
theorem acj {v:Int}{m:cn.den}(hv:0≤v∧v≤3):(bF v uV [ay 3 m.1,ay 3 m.2.1,ay 3 m.2.2.1,ay 3 m.2.2.2.1,ay 1 m.2.2.2.2.1,bb (m.2.2.2.2.2.1.map fD)]).2=JK v m:=by
 unfold uV cy JK
 rw[bB (aJ hv.1 hv.2),bB (aJ hv.1 hv.2),bB (aJ hv.1 hv.2),fK,fK,bB (aJ hv.1 hv.2),fJ,aT (by decide) (by decide),aT (by decide) (by decide),aT (by decide) (by decide),aT (by decide) (by decide),aT (by decide) (by decide),fz,bK,bK]
 simp only[RU hv,Bool.true_and,Bool.and_true,Bool.and_assoc]
theorem acU {v:Int}{m:cn.den}(hv:0≤v∧v≤3)(hm:cn.wf m):cb v uV [ay 3 m.1,ay 3 m.2.1,ay 3 m.2.2.1,ay 3 m.2.2.2.1,ay 1 m.2.2.2.2.1,bb (m.2.2.2.2.2.1.map fD)]=abK v m:=by
 unfold uV cy abK
 rw[bw (aJ hv.1 hv.2),bw (aJ hv.1 hv.2),bw (aJ hv.1 hv.2),lU,lU,bw (aJ hv.1 hv.2),dc,ce (by decide) (w:=4) rfl (b8 hm.1),ce (by decide) (w:=4) rfl (b8 hm.2.1),ce (by decide) (w:=4) rfl (b8 hm.2.2.1),ce (by decide) (w:=4) rfl (b8 hm.2.2.2.1),ce (by decide) (w:=1) rfl (Ew hm.2.2.2.2.1),ja,dA fun t ht=>ZG hv (hm.2.2.2.2.2.1.2 t ht)]
 try rfl
theorem aaK {v:Int}{m:cn.den}(hm:cn.wf m):(bP (qv v m),bz (qv v m))=jc v m:=by
 unfold jc bD
 rw[yO (t:=uV) rfl WL rfl (Nh m)]
 unfold qv
 rw[eC,eC,EE,eP,eP]
 have hr:Wri (abK v m) _:=(Wri.put m.1 4).seq ((Wri.put m.2.1 4).seq ((Wri.put m.2.2.1 4).seq ((Wri.hasE v 1 3 m.2.2.2.1 4).seq ((Wri.hasE v 2 3 m.2.2.2.2.1 1).seq ((Wri.items fun t ht=>Wri.fqT v t).seq (Wri.nop))))))
 refine (hr.done _).trans ?_
 unfold aX
 by_cases hv:v<0∨3<v
 ·rw[if_pos hv,if_pos hv]
  exact if_pos (by simp[ki])
 rw[if_neg hv,if_neg hv]
 have hv':0≤v∧v≤3:=by omega
 rw[acj hv',acU hv' hm]
 show (if ki 0 (JK v m)≠0 then _ else _)=_
 cases hz:JK v m
 ·exact (if_pos (by decide)).trans (show ([],ki 0 (JK v m))=_ by rw[hz];rfl)
 ·exact (if_neg (by decide)).trans (if_neg (by decide)).symm
abbrev uj:Io:=oA
def NE (d:uj.In):Tr uj.Res:=.ret (.ret (((jc d.1.1 d.1.2.1).1,((jc d.1.1 d.1.2.1).2,())),()))
theorem Vo:HcOk prog 44 (ah uj NE):=by
 refine HcOk.weakW Yy ?_
 rintro ⟨⟨(v:Int),m,⟨⟩⟩,⟨⟩⟩ y hw hy
 rw[← hy]
 have h:=aaK (v:=v) (m:=m) hw.1.2.1
 show some (Out.ret ((bP (qv v m),(bz (qv v m),())),()))=some (Out.ret (((jc v m).1,((jc v m).2,())),()))
 rw[← h]
theorem Qy {v:Int}{p:aO.den}(h:pu v p=true):(¬(3≤v∧v≤3)→p.2.2.1=0):=by
 unfold pu at h
 exact fun hv=>by have h1:=h;rw[if_neg hv] at h1;simpa using h1
theorem Rd.fqP {b:List Int}{p:aO.den}{v:Int}(h:aO.wf p)(hk:pu v p=true):Rd b p (Xk v p) (Nm v b):=
 (Rd.map (fun a=>(a.1,(a.2.2.1,(a.2.1,(a.2.2.2.1,()))))) (Rd.seq (fun a r=>(a,r)) (Rd.num (cN h.1)) (Rd.seq (fun a r=>(a,r)) (Rd.opt (cN h.2.2.1) (Qy hk)) (Rd.seq (fun a r=>(a,r)) (Rd.num (gb h.2.1)) (Rd.seq (fun a r=>(a,r)) (Rd.num (cN h.2.2.2.1)) (Rd.nop b ())))))).congr fun s=>by unfold Nm;rfl
theorem Rd.fqT {b:List Int}{t:ag.den}{v:Int}(h:ag.wf t)(hk:t.2.1.all (pu v)=true):Rd b t (Xl v t) (W5 v b):=
 (Rd.seq (fun a r=>(a,r)) (Rd.txt t.1) (Rd.seq (fun a r=>(a,r)) (Rd.list fun p hp=>Rd.fqP (h.2.1.2 p hp) (List.all_eq_true.1 hk p hp)) (Rd.nop b ()))).congr fun s=>by unfold W5 G9;rfl
abbrev dE:Ty:=.prod (.int .i32) (.prod (.int .i16) (.prod (.int .i64) (.prod (.int .i64) (.prod (.int .i64) (.prod pm .unit)))))
abbrev au:Ty:=.prod .str (.prod (.sl 223 dE) .unit)
abbrev po:Ty:=.prod (.int .i32) (.prod (.sl 221 au) .unit)
def abD (v:Int)(p:dE.den)(s:bc):bc:=ar v (p.2.2.2.2.1 == 0) 3 3 (ar v (p.2.2.2.1 == 0) 2 3 (s))
def PB (v:Int)(ps:List dE.den)(s:bc):bc:=ps.foldl (fun s p=>abD v p s) s
def abE (v:Int)(ts:List au.den)(s:bc):bc:=ts.foldl (fun s t=>PB v t.2.1 s) s
abbrev DX:Lo:=⟨⟨(.any::bh (.one (.ptr 3 0)::bh (.one (.ptr 6 0)::dR (bQ (.one (.hol (.sl 221 au))::.one (.hol (.int IntKind.i64))::.one (.hol (.int IntKind.i64))::bQ (.one (.hol (.sl 223 dE))::.one (.hol (.int IntKind.i64))::.one (.hol (.int IntKind.i64))::ai (dR (bQ (bh []))))))))),[none,none,none,some [.hol (.int IntKind.i32),.hol (.sl 221 au)],none,none,some [.ptr 12 0],none,none,none,none,none,some [.ptr 13 0,.hol (.int IntKind.i64),.hol (.int IntKind.i64),.hol .bool],some [.onl 5 (Ty.int IntKind.u8) 6658,.hol (.int IntKind.i64)]]⟩,[(.exit 2,⟨(.any::bh (.one (.ptr 3 0)::bh (.one (.ptr 6 0)::dR (bQ (.one (.hol (.sl 221 au))::.one (.hol (.int IntKind.i64))::.one (.hol (.int IntKind.i64))::.any::ai (ai (bQ []))))))),[none,none,none,some [.hol (.int IntKind.i32),.hol (.sl 221 au)],none,none,some [.ptr 12 0],none,none,none,none,none,some [.ptr 13 0,.hol (.int IntKind.i64),.hol (.int IntKind.i64),.hol .bool],some [.onl 5 (Ty.int IntKind.u8) 6658,.hol (.int IntKind.i64)]]⟩)]⟩
abbrev DW:Lo:=⟨⟨(.any::bh (.one (.ptr 3 0)::bh (.one (.ptr 6 0)::dR (bQ (.one (.hol (.sl 221 au))::.one (.hol (.int IntKind.i64))::.one (.hol (.int IntKind.i64))::.any::ai (ai (bQ []))))))),[none,none,none,some [.hol (.int IntKind.i32),.hol (.sl 221 au)],none,none,some [.ptr 12 0],none,none,none,none,none,some [.ptr 13 0,.hol (.int IntKind.i64),.hol (.int IntKind.i64),.hol .bool],some [.onl 5 (Ty.int IntKind.u8) 6658,.hol (.int IntKind.i64)]]⟩,[(.exit 0,⟨(.any::bh (.one (.ptr 3 0)::bh (.one (.ptr 6 0)::ai (ai (ai (bQ [])))))),[none,none,none,some [.hol (.int IntKind.i32),.hol (.sl 221 au)],none,none,some [.ptr 12 0],none,none,none,none,none,some [.ptr 13 0,.hol (.int IntKind.i64),.hol (.int IntKind.i64),.hol .bool],some [.onl 5 (Ty.int IntKind.u8) 6658,.hol (.int IntKind.i64)]]⟩)]⟩
abbrev VM (th':Int)(ts':List au.den)(v:Int)(s:bc):(Int×(List au.den×Unit))×(Unit×((Int×(Int×(Bool×Unit)))×((List Int×(Int×Unit))×Unit))):=((th',(ts',())),((),((v,(s.1,(s.2.1,()))),((s.2.2,(130048,())),()))))
def ab7 (d:DX.st.den):Tr (aD DX.xs):=
 .ite (decide (d.1.2.2.2.2.2.1=0)&&(decide (d.1.2.2.2.2.1=(d.1.2.2.2.1.length:Int))&&(decide (d.2.2.2.2.1.2.1=130048)&&decide (d.2.2.2.2.1.1.length≤130048)))) (.ret (.ret ((),((d.1.1,(d.1.2.1,(d.1.2.2.1,()))),VM d.2.1.1 d.2.1.2.1 d.2.2.2.1.1 (PB d.2.2.2.1.1 d.1.2.2.2.1 (d.2.2.2.1.2.1,(d.2.2.2.1.2.2.1,d.2.2.2.2.1.1))))))) .no
def ab6 (d:DW.st.den):Tr (aD DW.xs):=
 .ite (decide (d.1.2.2.1=0)&&(decide (d.1.2.1=(d.1.1.length:Int))&&(decide (d.2.2.2.2.1.2.1=130048)&&decide (d.2.2.2.2.1.1.length≤130048)))) (.ret (.ret ((),((),VM d.2.1.1 d.2.1.2.1 d.2.2.2.1.1 (abE d.2.2.2.1.1 d.1.1 (d.2.2.2.1.2.1,(d.2.2.2.1.2.2.1,d.2.2.2.2.1.1))))))) .no
def vb (p:dE.den):Nd:=bn [ay 3 p.1,ay 2 p.2.1,ay 4 p.2.2.1,ay 4 p.2.2.2.1,ay 4 p.2.2.2.2.1,gU p.2.2.2.2.2.1]
theorem W6 {p:dE.den}(h:dE.wf p):bn [ay 3 (IntKind.i64.wrap p.1),ay 2 (IntKind.i64.wrap p.2.1),ay 4 p.2.2.1,ay 4 p.2.2.2.1,ay 4 p.2.2.2.2.1,gU p.2.2.2.2.2.1]=vb p:=by
 rw[cO (n:=p.1) h.1,ge (n:=p.2.1) h.2.1];rfl
def qy (t:au.den):Nd:=bn [fN t.1,bb (t.2.1.map vb)]
@[irreducible] def f7 (m:po.den):Nd:=bn [ay 3 m.1,bb (m.2.1.map qy)]
def KR (x:Nd):dE.den:=(IntKind.i32.wrap (aZ x 0).lab.2.1,(IntKind.i16.wrap (aZ x 1).lab.2.1,((aZ x 2).lab.2.1,((aZ x 3).lab.2.1,((aZ x 4).lab.2.1,((aZ x 5).lab.2.2,()))))))
def BX (x:Nd):au.den:=((aZ x 0).lab.2.2.2.1,((aZ x 1).kids.map KR,()))
@[irreducible] def W7 (n:Nd):po.den:=(IntKind.i32.wrap (aZ n 0).lab.2.1,((aZ n 1).kids.map BX,()))
theorem Nn {p:dE.den}(h:dE.wf p):KR (vb p)=p:=by
 obtain ⟨(ix:Int),(cd:Int),(hi:Int),(st:Int),(sa:Int),⟨(rcz:Bool),(rcx:List Int),⟨⟩⟩,⟨⟩⟩:=p
 show (IntKind.i32.wrap ix,(IntKind.i16.wrap cd,(hi,(st,(sa,((rcz,(rcx,())),()))))))=_
 rw[eI (n:=ix) h.1,F3 (n:=cd) h.2.1]
 try rfl
theorem KS {t:au.den}(h:au.wf t):BX (qy t)=t:=by
 obtain ⟨n,l,⟨⟩⟩:=t
 show (n,((l.map vb).map KR,()))=_
 rw[List.map_map,dF (f:=KR ∘ vb) (l:=l) fun p hp=>Nn (h.2.1.2 p hp)]
theorem xE {m:po.den}(h:po.wf m):W7 (f7 m)=m:=by
 obtain ⟨(th:Int),(ts:List au.den),⟨⟩⟩:=m
 unfold W7 f7
 show (IntKind.i32.wrap th,((ts.map qy).map BX,()))=_
 rw[eI (n:=th) h.1,List.map_map,dF (f:=BX ∘ qy) (l:=ts) fun t ht=>KS (h.2.1.2 t ht)]
abbrev jE:Io:=⟨[.dat po true false],[],[],[cQ],none⟩
def jd (l:List au.den):Bool:=decide (l.length≤4294967296)&&l.all fun t=>decide (t.2.1.length≤4294967296)
def zi (d:jE.In):Tr jE.Res:=.ite (jd d.1.1.2.1) (.ret (.ret ((f7 d.1.1,()),()))) .no
abbrev qS:List (Nat×Hc):=[(181,ah jz tD),(180,ah kl wS),(183,ah hJ pP),(184,ah gg nP),(182,ah gf pO)]
def vU:Hd:=bA qS
abbrev ee:Lo:=⟨⟨(.any::.one (.ptr 1 0)::.one (.ptr 2 0)::.one (.onl 91 ao 7)::.one (.hol (.int IntKind.i64))::.one (.onl 91 ao 11)::.one (.hol (.int IntKind.i64))::.any::ai (ai (ai (ai (dR (bQ (bh []))))))),[none,some [.hol (.int IntKind.i32),.hol (.sl 221 au)],some [.hol (.int IntKind.i64),.hol (.int IntKind.i64),.hol .bool,.onl 5 (Ty.int IntKind.u8) 1032,.onl 91 ao 1034]]⟩,[(.exit 2,⟨(.any::.one (.ptr 1 0)::.one (.ptr 2 0)::.one (.onl 91 ao 7)::.one (.hol (.int IntKind.i64))::.one (.onl 91 ao 11)::ai (ai (ai (ai (ai []))))),[none,some [.hol (.int IntKind.i32),.hol (.sl 221 au)],some [.hol (.int IntKind.i64),.hol (.int IntKind.i64),.hol .bool,.onl 5 (Ty.int IntKind.u8) 1032,.onl 91 ao 1034]]⟩)]⟩
abbrev eb:Lo:=⟨⟨(.any::.one (.ptr 1 0)::.one (.ptr 2 0)::.one (.onl 91 ao 7)::.one (.hol (.int IntKind.i64))::.any::ai (ai (ai (ai (ai []))))),[none,some [.hol (.int IntKind.i32),.hol (.sl 221 au)],some [.hol (.int IntKind.i64),.hol (.int IntKind.i64),.hol .bool,.onl 5 (Ty.int IntKind.u8) 1032,.onl 91 ao 1034]]⟩,[(.exit 0,⟨(.any::.one (.ptr 1 0)::.one (.ptr 2 0)::.one (.onl 91 ao 7)::ai (ai (ai (ai (ai (bh [])))))),[none,some [.hol (.int IntKind.i32),.hol (.sl 221 au)],some [.hol (.int IntKind.i64),.hol (.int IntKind.i64),.hol .bool,.onl 5 (Ty.int IntKind.u8) 1032,.onl 91 ao 1034]]⟩)]⟩
def nV (d:ee.st.den):Tr (aD ee.xs):=
 .ite ((decide ((0:Int)≤d.1.2.1)&&decide (d.1.2.1<(d.2.1.2.1.length:Int)))&&((decide (d.1.2.2.1.length=0)&&decide (d.1.2.2.2.1=0))&&decide ((d.2.1.2.1.getD d.1.2.1.toNat au.zero).2.1.length≤4294967296)))
  (.ret (.ret ((),((d.1.1,(d.1.2.1,((d.2.1.2.1.getD d.1.2.1.toNat au.zero).2.1.map vb,()))),(d.2.1,(d.2.2.1,())))))) .no
def nU (d:eb.st.den):Tr (aD eb.xs):=
 .ite ((decide (d.1.1.length=0)&&decide (d.1.2.1=0))&&jd d.2.1.2.1)
  (.ret (.ret ((),((d.2.1.2.1.map qy,()),(d.2.1,(d.2.2.1,())))))) .no
def kU:Lp:=bv [(4,aN eb nU),(8,aN ee nV)]
def sf {R:Type}(h11:List ao.den)(h12:Int)(h13:List ao.den)(h14 h15:Int)(h16:List au.den)(h17 h18:Int)(h19:Bool)(h20:List Int)(h21:List ao.den)(next:List ao.den→Int→List ao.den→Int→Int→List au.den→Int→Int→Bool→List Int→List ao.den→Option R)(out:aD ee.xs→Option R):Option R:=bif decide (0≤h12)&&decide (h12<(↑h16.length:Int)) then bif decide (h14<(↑(List.length (h16.getD h12.toNat ([],[],())).2.1):Int)) then bif decide (0≤h12)&&decide (h12<(↑h16.length:Int)) then bif decide (0≤h14)&&decide (h14<(↑(List.length (h16.getD h12.toNat ([],[],())).2.1):Int)) then bif decide (h13.length+1≤4294967296) then next (h11) (h12) (h13++[Tre.mk (10,0,false,[],()) [Tre.mk (3,IntKind.i64.wrap (List.getD (h16.getD h12.toNat ([],[],())).2.1 h14.toNat (0,0,0,0,0,(false,[],()),())).1,false,[],()) [],Tre.mk (2,IntKind.i64.wrap (List.getD (h16.getD h12.toNat ([],[],())).2.1 h14.toNat (0,0,0,0,0,(false,[],()),())).2.1,false,[],()) [],Tre.mk (4,(List.getD (h16.getD h12.toNat ([],[],())).2.1 h14.toNat (0,0,0,0,0,(false,[],()),())).2.2.1,false,[],()) [],Tre.mk (4,(List.getD (h16.getD h12.toNat ([],[],())).2.1 h14.toNat (0,0,0,0,0,(false,[],()),())).2.2.2.1,false,[],()) [],Tre.mk (4,(List.getD (h16.getD h12.toNat ([],[],())).2.1 h14.toNat (0,0,0,0,0,(false,[],()),())).2.2.2.2.1,false,[],()) [],Tre.mk (8,0,(List.getD (h16.getD h12.toNat ([],[],())).2.1 h14.toNat (0,0,0,0,0,(false,[],()),())).2.2.2.2.2.1) []]]) (IntKind.i64.wrap (h14+1)) (h15) (h16) (h17) (h18) (h19) (h20) (h21) else none else none else none else out (.ret ((),((h11,(h12,(h13,()))),((h15,(h16,())),((h17,(h18,(h19,(h20,(h21,()))))),()))))) else none
def mJ (n:Nat)(h11:List ao.den)(h12:Int)(h13:List ao.den)(h14 h15:Int)(h16:List au.den)(h17 h18:Int)(h19:Bool)(h20:List Int)(h21:List ao.den):Option (aD ee.xs):=gd tt vU dr kU 0 Tryz.f120 (wP Tryz.f120 (cE Tryz.f120 0) 0) n (ee.st.mk' ((h11,(h12,(h13,(h14,())))),((h15,(h16,())),((h17,(h18,(h19,(h20,(h21,()))))),())))) (bL ee.xs)
theorem Ke (n:Nat)(h11:List ao.den)(h12:Int)(h13:List ao.den)(h14 h15:Int)(h16:List au.den)(h17 h18:Int)(h19:Bool)(h20:List Int)(h21:List ao.den):mJ (n+1) h11 h12 h13 h14 h15 h16 h17 h18 h19 h20 h21=sf h11 h12 h13 h14 h15 h16 h17 h18 h19 h20 h21 (mJ n) some:=by kernel_rfl
def se {R:Type}(h2:List ao.den)(h3 h4:Int)(h5:List au.den)(h6 h7:Int)(h8:Bool)(h9:List Int)(h10:List ao.den)(next:List ao.den→Int→Int→List au.den→Int→Int→Bool→List Int→List ao.den→Option R)(out:aD eb.xs→Option R):Option R:=bif decide (h3<(↑h5.length:Int)) then (nV ((h2,(h3,([],(0,())))),((h4,(h5,())),((h6,(h7,(h8,(h9,(h10,()))))),())))).run fun y=>match y with | .ret ((),((x43,x44,x45,()),(x46,x47,()),(x48,x49,x50,x51,x52,()),()))=>(bif decide (0≤x44)&&decide (x44<(↑x47.length:Int)) then bif decide (x43.length+1≤4294967296) then next (x43++[Tre.mk (10,0,false,[],()) [Tre.mk (5,0,false,(x47.getD x44.toNat ([],[],())).1,()) [],Tre.mk (9,0,false,[],()) x45]]) (IntKind.i64.wrap (x44+1)) (x46) (x47) (x48) (x49) (x50) (x51) (x52) else none else none) else out (.ret ((),((h2,()),((h4,(h5,())),((h6,(h7,(h8,(h9,(h10,()))))),())))))
def mI (n:Nat)(h2:List ao.den)(h3 h4:Int)(h5:List au.den)(h6 h7:Int)(h8:Bool)(h9:List Int)(h10:List ao.den):Option (aD eb.xs):=gd tt vU dr kU 0 Tryz.f120 (cE Tryz.f120 0) n (eb.st.mk' ((h2,(h3,())),((h4,(h5,())),((h6,(h7,(h8,(h9,(h10,()))))),())))) (bL eb.xs)
theorem Kd (n:Nat)(h2:List ao.den)(h3 h4:Int)(h5:List au.den)(h6 h7:Int)(h8:Bool)(h9:List Int)(h10:List ao.den):mI (n+1) h2 h3 h4 h5 h6 h7 h8 h9 h10=se h2 h3 h4 h5 h6 h7 h8 h9 h10 (mI n) some:=by kernel_rfl
theorem Cr {ts:List au.den}(hw:∀t∈ts,au.wf t)(hl:ts.length≤maxLen){i:Nat}(hi:i<ts.length)(hp:(ts[i]).2.1.length≤4294967296)(acc:List Nd)(th a' b':Int)(z':Bool)(x':List Int)(l':List Nd):∀(k j:Nat) (o:List Nd),(ts[i]).2.1.length<j+k→j≤(ts[i]).2.1.length→o.length≤j→
  mJ k acc i o j th ts a' b' z' x' l'=some (.ret ((),((acc,((i:Int),(o++((ts[i]).2.1.drop j).map vb,()))),((th,(ts,())),((a',(b',(z',(x',(l',()))))),()))))):=by
 intro k
 induction k with
 |zero=>intro j o h1 h2;omega
 |succ k ih=>
  intro j o h1 h2 h3
  rw[Ke]
  unfold sf
  refine (aa (by simp;omega) _ _).trans ?_
  have hti:=hw _ (List.getElem_mem hi)
  simp only[Int.toNat_natCast,aH hi]
  generalize ts[i]=t at hp h1 h2 ih hti ⊢
  by_cases hj:j<t.2.1.length
  ·refine (aa (decide_eq_true (show (j:Int)<(t.2.1.length:Int) by omega)) _ _).trans ?_
   refine (aa (by simp;omega) _ _).trans ?_
   refine (aa (by simp;omega) _ _).trans ?_
   refine (aa (decide_eq_true (show o.length+1≤4294967296 by omega)) _ _).trans ?_
   have hpw:=hti.2.1.2 _ (List.getElem_mem hj)
   have ih':=ih (j+1) (o++[vb t.2.1[j]]) (by omega) (by omega) (by simp;omega)
   have hd:t.2.1.drop j=t.2.1[j]::t.2.1.drop (j+1):=List.drop_eq_getElem_cons hj
   rw[hd,aC (n:=(j:Int)+1) (by omega) (by omega)]
   have hgp:List.getD t.2.1 ((j:Int)).toNat dE.zero=t.2.1[j]:=by simp only[Int.toNat_natCast];exact aH hj
   refine Eq.trans ?_ (ih'.trans ?_)
   ·refine congrArg (fun x=>mJ k acc i (o++[x]) _ th ts a' b' z' x' l') ?_
    show bn [ay 3 (IntKind.i64.wrap (List.getD t.2.1 ((j:Int)).toNat dE.zero).1),ay 2 (IntKind.i64.wrap (List.getD t.2.1 ((j:Int)).toNat dE.zero).2.1),ay 4 (List.getD t.2.1 ((j:Int)).toNat dE.zero).2.2.1,ay 4 (List.getD t.2.1 ((j:Int)).toNat dE.zero).2.2.2.1,ay 4 (List.getD t.2.1 ((j:Int)).toNat dE.zero).2.2.2.2.1,gU (List.getD t.2.1 ((j:Int)).toNat dE.zero).2.2.2.2.2.1]=_
    rw[hgp]
    exact W6 hpw
   ·simp only[List.map_cons,List.append_assoc,List.singleton_append]
  ·refine (ab (decide_eq_false (show ¬(j:Int)<(t.2.1.length:Int) by omega)) _ _).trans ?_
   rw[List.drop_of_length_le (by omega)]
   simp
theorem Cq {ts:List au.den}(hw:∀t∈ts,au.wf t)(hl:ts.length≤maxLen)(hs:jd ts=true)(th a' b':Int)(z':Bool)(x':List Int)(l':List Nd):∀(k j:Nat) (o:List Nd),ts.length<j+k→j≤ts.length→o.length≤j→
  mI k o j th ts a' b' z' x' l'=some (.ret ((),((o++(ts.drop j).map qy,()),((th,(ts,())),((a',(b',(z',(x',(l',()))))),()))))):=by
 intro k
 have hs1:=(Bool.and_eq_true _ _▸hs).1
 have hs2:=(Bool.and_eq_true _ _▸hs).2
 have hs1:ts.length≤4294967296:=of_decide_eq_true hs1
 induction k with
 |zero=>intro j o h1 h2;omega
 |succ k ih=>
  intro j o h1 h2 h3
  rw[Kd]
  unfold se
  by_cases hj:j<ts.length
  ·refine (aa (decide_eq_true (show (j:Int)<(ts.length:Int) by omega)) _ _).trans ?_
   have hgp:ts.getD ((j:Int)).toNat au.zero=ts[j]:=by simp only[Int.toNat_natCast];exact aH hj
   have hpl:(ts[j]).2.1.length≤4294967296:=of_decide_eq_true (List.all_eq_true.1 hs2 _ (List.getElem_mem hj))
   have c8:((decide ((0:Int)≤(j:Int))&&decide ((j:Int)<(ts.length:Int)))&&((decide (([]:List Nd).length=0)&&decide ((0:Int)=0))&&decide ((ts.getD ((j:Int)).toNat au.zero).2.1.length≤4294967296)))=true:=by
    rw[hgp];simp;omega
   refine (aa c8 _ _).trans ?_
   refine (aa (by simp;omega) _ _).trans ?_
   refine (aa (decide_eq_true (show o.length+1≤4294967296 by omega)) _ _).trans ?_
   rw[aC (n:=(j:Int)+1) (by omega) (by omega)]
   have ih':=ih (j+1) (o++[qy ts[j]]) (by omega) (by omega) (by simp;omega)
   have hd:ts.drop j=ts[j]::ts.drop (j+1):=List.drop_eq_getElem_cons hj
   rw[hd]
   refine Eq.trans ?_ (ih'.trans ?_)
   ·refine congrArg (fun x=>mI k (o++[x]) _ th ts a' b' z' x' l') ?_
    show (bn [fN (ts.getD ((j:Int)).toNat au.zero).1,bb ((ts.getD ((j:Int)).toNat au.zero).2.1.map vb)])=_
    rw[hgp];rfl
   ·simp only[List.map_cons,List.append_assoc,List.singleton_append]
  ·refine (ab (decide_eq_false (show ¬(j:Int)<(ts.length:Int) by omega)) _ _).trans ?_
   rw[List.drop_of_length_le (by omega)]
   simp
def xh (a0:Int)(a1:List au.den):Option jE.Res:=(nU (([],(0,())),((a0,(a1,())),((0,(0,(false,([],([],()))))),())))).run fun y=>match y with | .ret ((),((x70,()),(x71,x72,()),(x73,x74,x75,x76,x77,()),()))=>(some (Out.ret ((Tre.mk (10,0,false,[],()) [Tre.mk (3,IntKind.i64.wrap x71,false,[],()) [],Tre.mk (9,0,false,[],()) x70],()),())))
theorem MJ (a0:Int)(a1:List au.den):Io.run tt vU dr kU jE Tryz.f120 (((a0,a1,()),()),())=xh a0 a1:=by kernel_rfl
theorem QQ:HcOk prog 120 (ah jE zi):=by
 refine aj (n:=400) hm (cs:=qS) (.cons eM (.cons fO (.cons dQ (.cons c7 (.cons gD .nil))))) (lp:=kU) (fn:=Tryz.f120) (by kernel_rfl) (by kernel_rfl) (by kernel_rfl) jE (.step (h0:=aN eb nU) (by kernel_rfl) (aw (n:=400) hm (cs:=qS) (.cons eM (.cons fO (.cons dQ (.cons c7 (.cons gD .nil))))) (lp:=kU) (fn:=Tryz.f120) (.step (h0:=aN ee nV) (by kernel_rfl) (aw (n:=400) hm (cs:=qS) (.cons eM (.cons fO (.cons dQ (.cons c7 (.cons gD .nil))))) (lp:=kU) (fn:=Tryz.f120) (.done (by kernel_rfl)) ee nV ?_) (.done (by kernel_rfl))) eb nU ?_) (.done (by kernel_rfl))) zi ?_
 ·rintro ⟨⟨(acc:List Nd),(i:Int),(o:List Nd),(j:Int),⟨⟩⟩,⟨⟨(th:Int),(ts:List au.den),⟨⟩⟩,⟨(a':Int),(b':Int),(z':Bool),(x':List Int),(l':List Nd),⟨⟩⟩,⟨⟩⟩⟩ y hw hy
  obtain ⟨hg,hy⟩:=Tr.guard hy
  simp only[Bool.and_eq_true,decide_eq_true_eq] at hg
  obtain ⟨⟨h1,h2⟩,⟨h3,h4⟩,h5⟩:=hg
  have h1:0≤i:=h1
  have h2:i<(ts.length:Int):=h2
  have h3:o=[]:=List.eq_nil_of_length_eq_zero h3
  have h4:j=0:=h4
  obtain ⟨i,rfl⟩:=cZ h1
  subst h3
  subst h4
  have hi:i<ts.length:=by omega
  have hgp:ts.getD ((i:Int)).toNat au.zero=ts[i]:=by simp only[Int.toNat_natCast];exact aH hi
  have h5:(ts.getD ((i:Int)).toNat au.zero).2.1.length≤4294967296:=h5
  rw[hgp] at h5
  have hwt:ts.length≤maxLen∧∀t∈ts,au.wf t:=by have:=hw.2.1.2.1;exact this
  refine ⟨(ts[i]).2.1.length+1,(Cr hwt.2 hwt.1 hi h5 acc th a' b' z' x' l' ((ts[i]).2.1.length+1) 0 [] (by omega) (by omega) (by simp)).trans ?_⟩
  rw[← hy,← hgp,List.drop_zero]
  rfl
 ·rintro ⟨⟨(o:List Nd),(j:Int),⟨⟩⟩,⟨⟨(th:Int),(ts:List au.den),⟨⟩⟩,⟨(a':Int),(b':Int),(z':Bool),(x':List Int),(l':List Nd),⟨⟩⟩,⟨⟩⟩⟩ y hw hy
  obtain ⟨hg,hy⟩:=Tr.guard hy
  simp only[Bool.and_eq_true,decide_eq_true_eq] at hg
  obtain ⟨⟨h3,h4⟩,h5⟩:=hg
  have h3:o=[]:=List.eq_nil_of_length_eq_zero h3
  have h4:j=0:=h4
  have h5:jd ts=true:=h5
  subst h3
  subst h4
  have hwt:ts.length≤maxLen∧∀t∈ts,au.wf t:=by have:=hw.2.1.2.1;exact this
  refine ⟨ts.length+1,(Cq hwt.2 hwt.1 h5 th a' b' z' x' l' (ts.length+1) 0 [] (by omega) (by omega) (by simp)).trans ?_⟩
  rw[← hy,List.drop_zero]
  rfl
 ·rintro ⟨⟨⟨(th:Int),(ts:List au.den),⟨⟩⟩,⟨⟩⟩,⟨⟩⟩ out hw ho
  obtain ⟨hg,ho⟩:=Tr.guard ho
  have hg:jd ts=true:=hg
  cases ho
  refine (MJ th ts).trans ?_
  unfold xh
  have c1:((decide (([]:List Nd).length=0)&&decide ((0:Int)=0))&&jd ts)=true:=by rw[hg];rfl
  refine (aa c1 _ _).trans ?_
  show _=some (Out.ret ((f7 (th,(ts,())),()),()))
  unfold f7
  have hth:IntKind.i64.wrap th=th:=cO hw.1.1.1
  show some (Out.ret ((bn [ay 3 (IntKind.i64.wrap th),bb (ts.map qy)],()),()))=_
  rw[hth]
abbrev AO:Lo:=⟨⟨(bh (.one (.ptr 2 0)::.one (.ptr 3 0)::.one (.hol (.sl 91 ao))::.one (.hol (.int IntKind.i64))::.one (.ptr 6 0)::.one (.hol (.sl 91 ao))::.one (.hol (.int IntKind.i64))::.any::ai (ai (ai (ai (dR (bQ []))))))),[none,none,some [.hol (.int IntKind.i32),.onl 221 au 1028],some [.hol (.int IntKind.i32),.onl 221 au 1540],none,none,some [.hol .str,.onl 223 dE 3076]]⟩,[(.exit 2,⟨(bh (.one (.ptr 2 0)::.one (.ptr 3 0)::.one (.hol (.sl 91 ao))::.one (.hol (.int IntKind.i64))::.one (.ptr 6 0)::.any::ai (ai (ai (ai (dR (bQ (bh [])))))))),[none,none,some [.hol (.int IntKind.i32),.onl 221 au 1028],some [.hol (.int IntKind.i32),.onl 221 au 1540],none,none,some [.hol .str,.onl 223 dE 3076]]⟩)]⟩
abbrev DZ:Lo:=⟨⟨(bh (.one (.ptr 2 0)::.one (.ptr 3 0)::.one (.hol (.sl 91 ao))::.one (.hol (.int IntKind.i64))::ai (ai (ai (ai (ai [])))))),[none,none,some [.hol (.int IntKind.i32),.onl 221 au 1028],some [.hol (.int IntKind.i32),.onl 221 au 1540]]⟩,[(.exit 0,⟨(bh (.one (.ptr 2 0)::.one (.ptr 3 0)::ai (ai (ai (ai (ai (bh []))))))),[none,none,some [.hol (.int IntKind.i32),.onl 221 au 1028],some [.hol (.int IntKind.i32),.onl 221 au 1540]]⟩)]⟩
def abU (d:AO.st.den):Tr (aD AO.xs):=
 .ite ((decide (d.1.2.2.2.1=0)&&decide (d.2.2.2.1.2.1.length=0))&&decide (aI d.1.2.2.1≤4294967296))
  (.ret (.ret ((),((d.1.1,(d.1.2.1,())),(d.2.1,(d.2.2.1,((d.2.2.2.1.1,(d.1.2.2.1.map KR,())),()))))))) .no
def ab9 (d:DZ.st.den):Tr (aD DZ.xs):=
 .ite ((decide (d.1.2.1=0)&&decide (d.2.2.1.2.1.length=0))&&decide (aI d.1.1≤4294967296))
  (.ret (.ret ((),((),(d.2.1,((d.2.2.1.1,(d.1.1.map BX,())),())))))) .no
def M9 (m:cn.den):Bool:=dj m.2.2.2.2.2.1&&decide (8*aP (bD m)≤4294967296)
end
end Go.Proofs.YtomeplopmndbgaaGreat.Sym
