/- leatref13: Rep as a tree, as new memory, compared, written. -/
import Derived.Test.YtomeplopmndbgaaGreatQ7

set_option linter.unusedVariables false
set_option linter.unusedSimpArgs false
namespace Go.Proofs.YtomeplopmndbgaaGreat.Sym
open Go
open Go.IntKind (i8 i16 i32 i64 u8 u16 u32 u64)
noncomputable section
def mq (p:aR.den):Nd:=bq [av 3 p.1,av 2 p.2.1,jt p.2.2.1,av 4 p.2.2.2.1,av 4 p.2.2.2.2.1,av 3 p.2.2.2.2.2.1]
theorem ad9 {p:aR.den}(h:aR.wf p):bq [av 3 (i64.wrap p.1),av 2 (i64.wrap p.2.1),jt p.2.2.1,av 4 p.2.2.2.1,av 4 p.2.2.2.2.1,av 3 (i64.wrap p.2.2.2.2.2.1)]=mq p:=by
 rw[dQ (n:=p.1) h.1,gJ (n:=p.2.1) h.2.1,dQ (n:=p.2.2.2.2.2.1) h.2.2.2.2.2.1];rfl
def ii (t:ag.den):Nd:=bq [gd t.1,ba (t.2.1.map mq)]
@[irreducible] def cc (m:bY.den):Nd:=bq [av 3 m.1,ba (m.2.1.map ii)]
def BM (x:Nd):aR.den:=(i32.wrap (aY x 0).lab.2.1,(i16.wrap (aY x 1).lab.2.1,((aY x 2).kids.map FB,((aY x 3).lab.2.1,((aY x 4).lab.2.1,(i32.wrap (aY x 5).lab.2.1,()))))))
def wx (x:Nd):ag.den:=((aY x 0).lab.2.2.2.1,((aY x 1).kids.map BM,()))
@[irreducible] def Az (n:Nd):bY.den:=(i32.wrap (aY n 0).lab.2.1,((aY n 1).kids.map wx,()))
theorem To {p:aR.den}(h:aR.wf p):BM (mq p)=p:=by
 obtain ⟨(ix:Int),(cd:Int),(of:LI),(ti:Int),(fo:Int),(ep:Int),⟨⟩⟩:=p
 show (i32.wrap ix,(i16.wrap cd,((jt of).kids.map FB,(ti,(fo,(i32.wrap ep,()))))))=_
 rw[P2,gr (n:=ix) h.1,K2 (n:=cd) h.2.1,gr (n:=ep) h.2.2.2.2.2.1]
 try rfl
theorem Qe {t:ag.den}(h:ag.wf t):wx (ii t)=t:=by
 obtain ⟨n,l,⟨⟩⟩:=t
 show (n,((l.map mq).map BM,()))=_
 rw[List.map_map,e9 (f:=BM ∘ mq) (l:=l) fun p hp=>To (h.2.1.2 p hp)]
theorem s8 {m:bY.den}(h:bY.wf m):Az (cc m)=m:=by
 obtain ⟨(th:Int),(ts:List ag.den),⟨⟩⟩:=m
 unfold Az cc
 show (i32.wrap th,((ts.map ii).map wx,()))=_
 rw[gr (n:=th) h.1,List.map_map,e9 (f:=wx ∘ ii) (l:=ts) fun t ht=>Qe (h.2.1.2 t ht)]
abbrev j9:Io:=⟨[.dat bY true false],[],[],[dH],none⟩
def n8 (t:ag.den):Bool:=decide (t.2.1.length≤4294967296)&&t.2.1.all fun p=>decide (p.2.2.1.length≤4294967296)
def eJ (l:List ag.den):Bool:=decide (l.length≤4294967296)&&l.all n8
def w5 (d:j9.In):Tr j9.Res:=.ite (eJ d.1.1.2.1) (.ret (.ret ((cc d.1.1,()),()))) .no
abbrev Ik:List (Nat×Hc):=[(181,ae kZ wO),(180,ae ma AO),(183,ae jG r5),(184,ae iS pX),(198,ae EA ain)]
def zi:Hd:=bM Ik
abbrev fY:Lo:=⟨⟨(.any::.one (.ptr 1 0)::.one (.ptr 2 0)::.one (.onl 91 ap 7)::.one hI::.one (.onl 91 ap 11)::.one hI::am (am (am (am (am []))))),[none,some [hJ,.hol (.sl 230 ag)],some [hI,hI,hL,.onl 5 (Ty.int u8) 1032,.onl 91 ap 1034]]⟩,[(.exit 2,⟨(.any::.one (.ptr 1 0)::.one (.ptr 2 0)::.one (.onl 91 ap 7)::.one hI::.one (.onl 91 ap 11)::.any::am (am (am (am (am []))))),[none,some [hJ,.hol (.sl 230 ag)],some [hI,hI,hL,.onl 5 (Ty.int u8) 1032,.onl 91 ap 1034]]⟩)]⟩
abbrev fX:Lo:=⟨⟨(.any::.one (.ptr 1 0)::.one (.ptr 2 0)::.one (.onl 91 ap 7)::.one hI::am (am (am (am (am (ce [])))))),[none,some [hJ,.hol (.sl 230 ag)],some [hI,hI,hL,.onl 5 (Ty.int u8) 1032,.onl 91 ap 1034]]⟩,[(.exit 0,⟨(.any::.one (.ptr 1 0)::.one (.ptr 2 0)::.one (.onl 91 ap 7)::.any::am (am (am (am (am (ce [])))))),[none,some [hJ,.hol (.sl 230 ag)],some [hI,hI,hL,.onl 5 (Ty.int u8) 1032,.onl 91 ap 1034]]⟩)]⟩
def qc (d:fY.st.den):Tr (aH fY.xs):=
 .ite ((decide ((0:Int)≤d.1.2.1)&&decide (d.1.2.1<(d.2.1.2.1.length:Int)))&&((decide (d.1.2.2.1.length=0)&&decide (d.1.2.2.2.1=0))&&n8 (d.2.1.2.1.getD d.1.2.1.toNat ag.zero)))
  (.ret (.ret ((),((d.1.1,(d.1.2.1,((d.2.1.2.1.getD d.1.2.1.toNat ag.zero).2.1.map mq,()))),(d.2.1,(d.2.2.1,())))))) .no
def qb (d:fX.st.den):Tr (aH fX.xs):=
 .ite ((decide (d.1.1.length=0)&&decide (d.1.2.1=0))&&eJ d.2.1.2.1)
  (.ret (.ret ((),((d.2.1.2.1.map ii,()),(d.2.1,(d.2.2.1,())))))) .no
def m1:Lp:=bB [(4,aS fX qb),(8,aS fY qc)]
def vw {R:Type}(h11:List ap.den)(h12:Int)(h13:List ap.den)(h14 h15:Int)(h16:List ag.den)(h17 h18:Int)(h19:Bool)(h20:LI)(h21:List ap.den)(next:List ap.den→Int→List ap.den→Int→Int→List ag.den→Int→Int→Bool→LI→List ap.den→Option R)(out:aH fY.xs→Option R):Option R:=bif decide (0≤h12)&&decide (h12<(↑h16.length:Int)) then bif decide (h14<(↑(List.length (h16.getD h12.toNat ([],[],())).2.1):Int)) then bif decide (0≤h12)&&decide (h12<(↑h16.length:Int)) then bif decide (0≤h14)&&decide (h14<(↑(List.length (h16.getD h12.toNat ([],[],())).2.1):Int)) then bif decide (List.length (List.getD (h16.getD h12.toNat ([],[],())).2.1 h14.toNat (0,0,[],0,0,0,())).2.2.1≤4294967296) then bif decide (h13.length+1≤4294967296) then next (h11) (h12) (h13++[Tre.mk (10,0,false,[],()) [Tre.mk (3,i64.wrap (List.getD (h16.getD h12.toNat ([],[],())).2.1 h14.toNat (0,0,[],0,0,0,())).1,false,[],()) [],Tre.mk (2,i64.wrap (List.getD (h16.getD h12.toNat ([],[],())).2.1 h14.toNat (0,0,[],0,0,0,())).2.1,false,[],()) [],Tre.mk (jt (List.getD (h16.getD h12.toNat ([],[],())).2.1 h14.toNat (0,0,[],0,0,0,())).2.2.1).1 (jt (List.getD (h16.getD h12.toNat ([],[],())).2.1 h14.toNat (0,0,[],0,0,0,())).2.2.1).2,Tre.mk (4,(List.getD (h16.getD h12.toNat ([],[],())).2.1 h14.toNat (0,0,[],0,0,0,())).2.2.2.1,false,[],()) [],Tre.mk (4,(List.getD (h16.getD h12.toNat ([],[],())).2.1 h14.toNat (0,0,[],0,0,0,())).2.2.2.2.1,false,[],()) [],Tre.mk (3,i64.wrap (List.getD (h16.getD h12.toNat ([],[],())).2.1 h14.toNat (0,0,[],0,0,0,())).2.2.2.2.2.1,false,[],()) []]]) (i64.wrap (h14+1)) (h15) (h16) (h17) (h18) (h19) (h20) (h21) else none else none else none else none else out (.ret ((),((h11,(h12,(h13,()))),((h15,(h16,())),((h17,(h18,(h19,(h20,(h21,()))))),()))))) else none
def oY (n:Nat)(h11:List ap.den)(h12:Int)(h13:List ap.den)(h14 h15:Int)(h16:List ag.den)(h17 h18:Int)(h19:Bool)(h20:LI)(h21:List ap.den):Option (aH fY.xs):=il tt zi dr m1 0 Tryz.f121 (pV Tryz.f121 (db Tryz.f121 0) 0) n (fY.st.mk' ((h11,(h12,(h13,(h14,())))),((h15,(h16,())),((h17,(h18,(h19,(h20,(h21,()))))),())))) (ci fY.xs)
theorem PF (n:Nat)(h11:List ap.den)(h12:Int)(h13:List ap.den)(h14 h15:Int)(h16:List ag.den)(h17 h18:Int)(h19:Bool)(h20:LI)(h21:List ap.den):oY (n+1) h11 h12 h13 h14 h15 h16 h17 h18 h19 h20 h21=vw h11 h12 h13 h14 h15 h16 h17 h18 h19 h20 h21 (oY n) some:=by kernel_rfl
def vv {R:Type}(h2:List ap.den)(h3 h4:Int)(h5:List ag.den)(h6 h7:Int)(h8:Bool)(h9:LI)(h10:List ap.den)(next:List ap.den→Int→Int→List ag.den→Int→Int→Bool→LI→List ap.den→Option R)(out:aH fX.xs→Option R):Option R:=bif decide (h3<(↑h5.length:Int)) then (qc ((h2,(h3,([],(0,())))),((h4,(h5,())),((h6,(h7,(h8,(h9,(h10,()))))),())))).run fun y=>match y with | .ret ((),((x43,x44,x45,()),(x46,x47,()),(x48,x49,x50,x51,x52,()),()))=>(bif decide (0≤x44)&&decide (x44<(↑x47.length:Int)) then bif decide (x43.length+1≤4294967296) then next (x43++[Tre.mk (10,0,false,[],()) [Tre.mk (5,0,false,(x47.getD x44.toNat ([],[],())).1,()) [],Tre.mk (9,0,false,[],()) x45]]) (i64.wrap (x44+1)) (x46) (x47) (x48) (x49) (x50) (x51) (x52) else none else none) else out (.ret ((),((h2,()),((h4,(h5,())),((h6,(h7,(h8,(h9,(h10,()))))),())))))
def oX (n:Nat)(h2:List ap.den)(h3 h4:Int)(h5:List ag.den)(h6 h7:Int)(h8:Bool)(h9:LI)(h10:List ap.den):Option (aH fX.xs):=il tt zi dr m1 0 Tryz.f121 (db Tryz.f121 0) n (fX.st.mk' ((h2,(h3,())),((h4,(h5,())),((h6,(h7,(h8,(h9,(h10,()))))),())))) (ci fX.xs)
theorem PE (n:Nat)(h2:List ap.den)(h3 h4:Int)(h5:List ag.den)(h6 h7:Int)(h8:Bool)(h9:LI)(h10:List ap.den):oX (n+1) h2 h3 h4 h5 h6 h7 h8 h9 h10=vv h2 h3 h4 h5 h6 h7 h8 h9 h10 (oX n) some:=by kernel_rfl
theorem GD {ts:List ag.den}(hw:∀t∈ts,ag.wf t)(hl:ts.length≤maxLen){i:Nat}(hi:i<ts.length)(hp:(ts[i]).2.1.length≤4294967296)(hq:∀p∈(ts[i]).2.1,p.2.2.1.length≤4294967296)(acc:List Nd)(th a' b':Int)(z':Bool)(x':LI)(l':List Nd):∀(k j:Nat) (o:List Nd),(ts[i]).2.1.length<j+k→j≤(ts[i]).2.1.length→o.length≤j→
  oY k acc i o j th ts a' b' z' x' l'=some (.ret ((),((acc,((i:Int),(o++((ts[i]).2.1.drop j).map mq,()))),((th,(ts,())),((a',(b',(z',(x',(l',()))))),()))))):=by
 intro k
 induction k with
 |zero=>intro j o h1 h2;omega
 |succ k ih=>
  intro j o h1 h2 h3
  rw[PF]
  unfold vw
  refine bT (by simp;omega) ?_
  have hti:=hw _ (List.getElem_mem hi)
  simp only[zG,aJ hi]
  generalize ts[i]=t at hp hq h1 h2 ih hti ⊢
  by_cases hj:j<t.2.1.length
  ·refine bT (decide_eq_true (show (j:Int)<(t.2.1.length:Int) by omega)) ?_
   refine bT (by simp;omega) ?_
   refine bT (by simp;omega) ?_
   refine bT (decide_eq_true (show (List.getD t.2.1 j aR.zero).2.2.1.length≤4294967296 by rw[aJ hj];exact hq _ (List.getElem_mem hj))) ?_
   refine bT (decide_eq_true (show o.length+1≤4294967296 by omega)) ?_
   have hpw:=hti.2.1.2 _ (List.getElem_mem hj)
   have ih':=ih (j+1) (o++[mq t.2.1[j]]) (by omega) (by omega) (by simp;omega)
   have hd:t.2.1.drop j=t.2.1[j]::t.2.1.drop (j+1):=zE hj
   rw[hd,aI (n:=(j:Int)+1) (by omega) (by omega)]
   have hgp:List.getD t.2.1 ((j:Int)).toNat aR.zero=t.2.1[j]:=by simp only[zG];exact aJ hj
   refine Eq.trans ?_ (ih'.trans ?_)
   ·refine congrArg (fun x=>oY k acc i (o++[x]) _ th ts a' b' z' x' l') ?_
    have eta:∀q:Nd,Tre.mk q.lab q.kids=q:=fun q=>by cases q;rfl
    simp only[aJ hj,eta]
    exact ad9 hpw
   ·simp only[zL,zK,zM]
  ·refine bF (decide_eq_false (show ¬(j:Int)<(t.2.1.length:Int) by omega)) ?_
   rw[zI (by omega)]
   simp
theorem GC {ts:List ag.den}(hw:∀t∈ts,ag.wf t)(hl:ts.length≤maxLen)(hs:eJ ts=true)(th a' b':Int)(z':Bool)(x':LI)(l':List Nd):∀(k j:Nat) (o:List Nd),ts.length<j+k→j≤ts.length→o.length≤j→
  oX k o j th ts a' b' z' x' l'=some (.ret ((),((o++(ts.drop j).map ii,()),((th,(ts,())),((a',(b',(z',(x',(l',()))))),()))))):=by
 intro k
 have hs1:=(zA _ _▸hs).1
 have hs2:=(zA _ _▸hs).2
 have hs1:ts.length≤4294967296:=of_decide_eq_true hs1
 induction k with
 |zero=>intro j o h1 h2;omega
 |succ k ih=>
  intro j o h1 h2 h3
  rw[PE]
  unfold vv
  by_cases hj:j<ts.length
  ·refine bT (decide_eq_true (show (j:Int)<(ts.length:Int) by omega)) ?_
   have hgp:ts.getD ((j:Int)).toNat ag.zero=ts[j]:=by simp only[zG];exact aJ hj
   have hpl:n8 ts[j]=true:=List.all_eq_true.1 hs2 _ (List.getElem_mem hj)
   have c8:((decide ((0:Int)≤(j:Int))&&decide ((j:Int)<(ts.length:Int)))&&((decide (([]:List Nd).length=0)&&decide ((0:Int)=0))&&n8 (ts.getD ((j:Int)).toNat ag.zero)))=true:=by
    rw[hgp,hpl];simp;omega
   refine (aa c8 _ _).trans ?_
   refine bT (by simp;omega) ?_
   refine bT (decide_eq_true (show o.length+1≤4294967296 by omega)) ?_
   rw[aI (n:=(j:Int)+1) (by omega) (by omega)]
   have ih':=ih (j+1) (o++[ii ts[j]]) (by omega) (by omega) (by simp;omega)
   have hd:ts.drop j=ts[j]::ts.drop (j+1):=zE hj
   rw[hd]
   refine Eq.trans ?_ (ih'.trans ?_)
   ·refine congrArg (fun x=>oX k (o++[x]) _ th ts a' b' z' x' l') ?_
    show (bq [gd (ts.getD ((j:Int)).toNat ag.zero).1,ba ((ts.getD ((j:Int)).toNat ag.zero).2.1.map mq)])=_
    rw[hgp];rfl
   ·simp only[zL,zK,zM]
  ·refine bF (decide_eq_false (show ¬(j:Int)<(ts.length:Int) by omega)) ?_
   rw[zI (by omega)]
   simp
def Bl (a0:Int)(a1:List ag.den):Option j9.Res:=(qb (([],(0,())),((a0,(a1,())),((0,(0,(false,([],([],()))))),())))).run fun y=>match y with | .ret ((),((x70,()),(x71,x72,()),(x73,x74,x75,x76,x77,()),()))=>(oR ((Tre.mk (10,0,false,[],()) [Tre.mk (3,i64.wrap x71,false,[],()) [],Tre.mk (9,0,false,[],()) x70],()),()))
theorem SE (a0:Int)(a1:List ag.den):Io.run tt zi dr m1 j9 Tryz.f121 (((a0,a1,()),()),())=Bl a0 a1:=by kernel_rfl
theorem sj:HcsOk prog Ik:=.cons we (.cons Ac (.cons uu (.cons q4 (.cons akl .nil))))
theorem Ja:HcOk prog 121 (ae j9 w5):=by
 refine cg sj (lp:=m1) (fn:=Tryz.f121) j9 (.step (h0:=aS fX qb) (by kernel_rfl) (jh sj (lp:=m1) (fn:=Tryz.f121) (.step (h0:=aS fY qc) (by kernel_rfl) (jh sj (lp:=m1) (fn:=Tryz.f121) (.done (by kernel_rfl)) fY qc ?_) (.done (by kernel_rfl))) fX qb ?_) (.done (by kernel_rfl))) w5 ?_
 ·rintro ⟨⟨(acc:List Nd),(i:Int),(o:List Nd),(j:Int),⟨⟩⟩,⟨⟨(th:Int),(ts:List ag.den),⟨⟩⟩,⟨(a':Int),(b':Int),(z':Bool),(x':LI),(l':List Nd),⟨⟩⟩,⟨⟩⟩⟩ y hw hy
  obtain ⟨hg,hy⟩:=Tr.guard hy
  simp only[zA,zB] at hg
  obtain ⟨⟨h1,h2⟩,⟨h3,h4⟩,h5⟩:=hg
  have h1:0≤i:=h1
  have h2:i<(ts.length:Int):=h2
  have h3:o=[]:=zF h3
  have h4:j=0:=h4
  obtain ⟨i,rfl⟩:=eK h1
  subst h3
  subst h4
  have hi:i<ts.length:=by omega
  have hgp:ts.getD ((i:Int)).toNat ag.zero=ts[i]:=by simp only[zG];exact aJ hi
  have h5:n8 (ts.getD ((i:Int)).toNat ag.zero)=true:=h5
  rw[hgp] at h5
  unfold n8 at h5
  simp only[zA,zB] at h5
  obtain ⟨h5,h6⟩:=h5
  have h6:∀p∈(ts[i]).2.1,p.2.2.1.length≤4294967296:=fun p hp=>of_decide_eq_true (List.all_eq_true.1 h6 p hp)
  have hwt:ts.length≤maxLen∧∀t∈ts,ag.wf t:=by have:=hw.2.1.2.1;exact this
  refine ⟨(ts[i]).2.1.length+1,(GD hwt.2 hwt.1 hi h5 h6 acc th a' b' z' x' l' ((ts[i]).2.1.length+1) 0 [] (by omega) (by omega) (by simp)).trans ?_⟩
  rw[← hy,← hgp,List.drop_zero]
  rfl
 ·rintro ⟨⟨(o:List Nd),(j:Int),⟨⟩⟩,⟨⟨(th:Int),(ts:List ag.den),⟨⟩⟩,⟨(a':Int),(b':Int),(z':Bool),(x':LI),(l':List Nd),⟨⟩⟩,⟨⟩⟩⟩ y hw hy
  obtain ⟨hg,hy⟩:=Tr.guard hy
  simp only[zA,zB] at hg
  obtain ⟨⟨h3,h4⟩,h5⟩:=hg
  have h3:o=[]:=zF h3
  have h4:j=0:=h4
  have h5:eJ ts=true:=h5
  subst h3
  subst h4
  have hwt:ts.length≤maxLen∧∀t∈ts,ag.wf t:=by have:=hw.2.1.2.1;exact this
  refine ⟨ts.length+1,(GC hwt.2 hwt.1 h5 th a' b' z' x' l' (ts.length+1) 0 [] (by omega) (by omega) (by simp)).trans ?_⟩
  rw[← hy,List.drop_zero]
  rfl
 ·rintro ⟨⟨⟨(th:Int),(ts:List ag.den),⟨⟩⟩,⟨⟩⟩,⟨⟩⟩ out hw ho
  obtain ⟨hg,ho⟩:=Tr.guard ho
  have hg:eJ ts=true:=hg
  cases ho
  refine (SE th ts).trans ?_
  unfold Bl
  have c1:((decide (([]:List Nd).length=0)&&decide ((0:Int)=0))&&eJ ts)=true:=by rw[hg];rfl
  refine (aa c1 _ _).trans ?_
  show _=oR ((cc (th,(ts,())),()),())
  unfold cc
  have hth:i64.wrap th=th:=dQ hw.1.1.1
  show oR ((bq [av 3 (i64.wrap th),ba (ts.map ii)],()),())=_
  rw[hth]
abbrev qQ:Io:=⟨[dH],[],[],[.dat bY true false],none⟩
def QE (d:qQ.In):Tr qQ.Res:=.ite (decide (aM d.1.1≤4294967296)) (.ret (.ret ((Az d.1.1,()),()))) .no
abbrev UQ:List (Nat×Hc):=[(164,ae rD Mj)]
def Cy:Hd:=bM UQ
abbrev gW:Lo:=⟨⟨(ce (.one (.ptr 2 0)::.one (.ptr 3 0)::.one (.hol (.sl 91 ap))::.one hI::.one (.ptr 6 0)::.one (.hol (.sl 91 ap))::.one hI::.one (.ptr 9 0)::.one (.ptr 10 0)::.one (.hol (.sl 91 ap))::.one hI::am (am (am (am (am (gE (dq [])))))))),[none,none,some [hJ,.onl 230 ag 1028],some [hJ,.onl 230 ag 1540],none,none,some [.hol .str,.onl 233 aR 3076],none,none,some [hI,hI,hL,.hol (.sl 5 (Ty.int u8)),.hol (.sl 91 ap)],some [hJ,hK,.onl 2 (Ty.int i64) 5126,hI,hI,hJ]]⟩,[(.exit 4,⟨(ce (.one (.ptr 2 0)::.one (.ptr 3 0)::.one (.hol (.sl 91 ap))::.one hI::.one (.ptr 6 0)::.one (.hol (.sl 91 ap))::.one hI::.one (.ptr 9 0)::.one (.ptr 10 0)::am (am (am (am (am (gE (dq (ce []))))))))),[none,none,some [hJ,.onl 230 ag 1028],some [hJ,.onl 230 ag 1540],none,none,some [.hol .str,.onl 233 aR 3076],none,none,some [hI,hI,hL,.hol (.sl 5 (Ty.int u8)),.hol (.sl 91 ap)],some [hJ,hK,.onl 2 (Ty.int i64) 5126,hI,hI,hJ]]⟩)]⟩
abbrev gV:Lo:=⟨⟨(ce (.one (.ptr 2 0)::.one (.ptr 3 0)::.one (.hol (.sl 91 ap))::.one hI::.one (.ptr 6 0)::.one (.hol (.sl 91 ap))::.one hI::am (am (am (am (am (am ([])))))))),[none,none,some [hJ,.onl 230 ag 1028],some [hJ,.onl 230 ag 1540],none,none,some [.hol .str,.onl 233 aR 3076]]⟩,[(.exit 2,⟨(ce (.one (.ptr 2 0)::.one (.ptr 3 0)::.one (.hol (.sl 91 ap))::.one hI::.one (.ptr 6 0)::am (am (am (am (am (am (ce [])))))))),[none,none,some [hJ,.onl 230 ag 1028],some [hJ,.onl 230 ag 1540],none,none,some [.hol .str,.onl 233 aR 3076]]⟩)]⟩
abbrev jg:Lo:=⟨⟨(ce (.one (.ptr 2 0)::.one (.ptr 3 0)::.one (.hol (.sl 91 ap))::.one hI::.any::am (am (am (am (am (am (ce [])))))))),[none,none,some [hJ,.onl 230 ag 1028],some [hJ,.onl 230 ag 1540]]⟩,[(.exit 0,⟨(ce (.one (.ptr 2 0)::.one (.ptr 3 0)::.any::am (am (am (am (am (am (dq [])))))))),[none,none,some [hJ,.onl 230 ag 1028],some [hJ,.onl 230 ag 1540]]⟩)]⟩
def tG (d:gW.st.den):Tr (aH gW.xs):=
 .ite ((decide (d.1.2.2.2.2.2.1=0)&&decide (d.2.2.2.2.2.1.2.2.1.length=0))&&decide (d.1.2.2.2.2.1.length≤4294967296))
  (.ret (.ret ((),((d.1.1,(d.1.2.1,(d.1.2.2.1,(d.1.2.2.2.1,())))),(d.2.1,(d.2.2.1,(d.2.2.2.1,(d.2.2.2.2.1,((d.2.2.2.2.2.1.1,(d.2.2.2.2.2.1.2.1,(d.1.2.2.2.2.1.map FB,d.2.2.2.2.2.1.2.2.2))),()))))))))) .no
def tF (d:gV.st.den):Tr (aH gV.xs):=
 .ite ((decide (d.1.2.2.2.1=0)&&decide (d.2.2.2.1.2.1.length=0))&&decide (aK d.1.2.2.1≤4294967296))
  (.ret (.ret ((),((d.1.1,(d.1.2.1,())),(d.2.1,(d.2.2.1,((d.2.2.2.1.1,(d.1.2.2.1.map BM,())),()))))))) .no
def w6 (d:jg.st.den):Tr (aH jg.xs):=
 .ite ((decide (d.1.2.1=0)&&decide (d.2.2.1.2.1.length=0))&&decide (aK d.1.1≤4294967296))
  (.ret (.ret ((),((),(d.2.1,((d.2.2.1.1,(d.1.1.map wx,())),())))))) .no
def oZ:Lp:=bB [(5,aS jg w6),(10,aS gV tF),(16,aS gW tG)]
def yC {R:Type}(h17:List (Nd))(h18:Int)(h19:List (Nd))(h20:Int)(h21:List (Nd))(h22 h23:Int)(h24:List ag.den)(h25:Int)(h26:List ag.den)(h27:LI)(h28:List aR.den)(h29 h30:Int)(h31:Bool)(h32:LI)(h33:List (Nd))(h34 h35:Int)(h36:LI)(h37 h38 h39:Int)(next:List (Nd)→Int→List (Nd)→Int→List (Nd)→Int→Int→List ag.den→Int→List ag.den→LI→List aR.den→Int→Int→Bool→LI→List (Nd)→Int→Int→LI→Int→Int→Int→Option R)(out:aH gW.xs→Option R):Option R:=bif decide (h22<(↑h21.length:Int)) then bif decide (0≤h22)&&decide (h22<(↑h21.length:Int)) then bif decide (h36.length+1≤4294967296) then next (h17) (h18) (h19) (h20) (h21) (i64.wrap (h22+1)) (h23) (h24) (h25) (h26) (h27) (h28) (h29) (h30) (h31) (h32) (h33) (h34) (h35) (h36++[(h21.getD h22.toNat (Tre.mk (0,0,false,[],()) [])).1.2.1]) (h37) (h38) (h39) else none else none else out (.ret ((),((h17,(h18,(h19,(h20,())))),((h23,(h24,())),((h25,(h26,())),((h27,(h28,())),((h29,(h30,(h31,(h32,(h33,()))))),((h34,(h35,(h36,(h37,(h38,(h39,())))))),()))))))))
def wa (n:Nat)(h17:List (Nd))(h18:Int)(h19:List (Nd))(h20:Int)(h21:List (Nd))(h22 h23:Int)(h24:List ag.den)(h25:Int)(h26:List ag.den)(h27:LI)(h28:List aR.den)(h29 h30:Int)(h31:Bool)(h32:LI)(h33:List (Nd))(h34 h35:Int)(h36:LI)(h37 h38 h39:Int):Option (aH gW.xs):=il tt Cy dr oZ 0 Tryz.f80 (pV Tryz.f80 (pV Tryz.f80 (db Tryz.f80 0) 0) 0) n (gW.st.mk' ((h17,(h18,(h19,(h20,(h21,(h22,())))))),((h23,(h24,())),((h25,(h26,())),((h27,(h28,())),((h29,(h30,(h31,(h32,(h33,()))))),((h34,(h35,(h36,(h37,(h38,(h39,())))))),()))))))) (ci gW.xs)
theorem SR (n:Nat)(h17:List (Nd))(h18:Int)(h19:List (Nd))(h20:Int)(h21:List (Nd))(h22 h23:Int)(h24:List ag.den)(h25:Int)(h26:List ag.den)(h27:LI)(h28:List aR.den)(h29 h30:Int)(h31:Bool)(h32:LI)(h33:List (Nd))(h34 h35:Int)(h36:LI)(h37 h38 h39:Int):wa (n+1) h17 h18 h19 h20 h21 h22 h23 h24 h25 h26 h27 h28 h29 h30 h31 h32 h33 h34 h35 h36 h37 h38 h39=yC h17 h18 h19 h20 h21 h22 h23 h24 h25 h26 h27 h28 h29 h30 h31 h32 h33 h34 h35 h36 h37 h38 h39 (wa n) some:=by kernel_rfl
def yB {R:Type}(h7:List (Nd))(h8:Int)(h9:List (Nd))(h10 h11:Int)(h12:List ag.den)(h13:Int)(h14:List ag.den)(h15:LI)(h16:List aR.den)(next:List (Nd)→Int→List (Nd)→Int→Int→List ag.den→Int→List ag.den→LI→List aR.den→Option R)(out:aH gV.xs→Option R):Option R:=bif decide (h10<(↑h9.length:Int)) then bif decide (0≤h10)&&decide (h10<(↑h9.length:Int)) then (tG ((h7,(h8,(h9,(h10,((aY (Tre.mk (h9.getD h10.toNat (Tre.mk (0,0,false,[],()) [])).1 (h9.getD h10.toNat (Tre.mk (0,0,false,[],()) [])).2) 2).2,(0,())))))),((h11,(h12,())),((h13,(h14,())),((h15,(h16,())),(((h9.getD h10.toNat (Tre.mk (0,0,false,[],()) [])).1.1,((h9.getD h10.toNat (Tre.mk (0,0,false,[],()) [])).1.2.1,((h9.getD h10.toNat (Tre.mk (0,0,false,[],()) [])).1.2.2.1,((h9.getD h10.toNat (Tre.mk (0,0,false,[],()) [])).1.2.2.2.1,((h9.getD h10.toNat (Tre.mk (0,0,false,[],()) [])).2,()))))),((i32.wrap (aY (Tre.mk (h9.getD h10.toNat (Tre.mk (0,0,false,[],()) [])).1 (h9.getD h10.toNat (Tre.mk (0,0,false,[],()) [])).2) 0).1.2.1,(i16.wrap (aY (Tre.mk (h9.getD h10.toNat (Tre.mk (0,0,false,[],()) [])).1 (h9.getD h10.toNat (Tre.mk (0,0,false,[],()) [])).2) 1).1.2.1,([],(0,(0,(0,())))))),()))))))).run fun y=>match y with | .ret ((),((x84,x85,x86,x87,()),(x88,x89,()),(x90,x91,()),(x92,x93,()),(x94,x95,x96,x97,x98,()),(x99,x100,x101,x102,x103,x104,()),()))=>(bif decide (x93.length+1≤4294967296) then next (x84) (x85) (x86) (i64.wrap (x87+1)) (x88) (x89) (x90) (x91) (x92) (x93++[(x99,x100,x101,(aY (Tre.mk (x94,x95,x96,x97,()) x98) 3).1.2.1,(aY (Tre.mk (x94,x95,x96,x97,()) x98) 4).1.2.1,i32.wrap (aY (Tre.mk (x94,x95,x96,x97,()) x98) 5).1.2.1,())]) else none) else none else out (.ret ((),((h7,(h8,())),((h11,(h12,())),((h13,(h14,())),((h15,(h16,())),()))))))
def qU (n:Nat)(h7:List (Nd))(h8:Int)(h9:List (Nd))(h10 h11:Int)(h12:List ag.den)(h13:Int)(h14:List ag.den)(h15:LI)(h16:List aR.den):Option (aH gV.xs):=il tt Cy dr oZ 0 Tryz.f80 (pV Tryz.f80 (db Tryz.f80 0) 0) n (gV.st.mk' ((h7,(h8,(h9,(h10,())))),((h11,(h12,())),((h13,(h14,())),((h15,(h16,())),()))))) (ci gV.xs)
theorem SQ (n:Nat)(h7:List (Nd))(h8:Int)(h9:List (Nd))(h10 h11:Int)(h12:List ag.den)(h13:Int)(h14:List ag.den)(h15:LI)(h16:List aR.den):qU (n+1) h7 h8 h9 h10 h11 h12 h13 h14 h15 h16=yB h7 h8 h9 h10 h11 h12 h13 h14 h15 h16 (qU n) some:=by kernel_rfl
def B5 {R:Type}(h1:List (Nd))(h2 h3:Int)(h4:List ag.den)(h5:Int)(h6:List ag.den)(next:List (Nd)→Int→Int→List ag.den→Int→List ag.den→Option R)(out:aH jg.xs→Option R):Option R:=bif decide (h2<(↑h1.length:Int)) then bif decide (0≤h2)&&decide (h2<(↑h1.length:Int)) then bif decide (0≤h2)&&decide (h2<(↑h1.length:Int)) then (tF ((h1,(h2,((aY (Tre.mk (h1.getD h2.toNat (Tre.mk (0,0,false,[],()) [])).1 (h1.getD h2.toNat (Tre.mk (0,0,false,[],()) [])).2) 1).2,(0,())))),((h3,(h4,())),((h5,(h6,())),(((aY (Tre.mk (h1.getD h2.toNat (Tre.mk (0,0,false,[],()) [])).1 (h1.getD h2.toNat (Tre.mk (0,0,false,[],()) [])).2) 0).1.2.2.2.1,([],())),()))))).run fun y=>match y with | .ret ((),((x123,x124,()),(x125,x126,()),(x127,x128,()),(x129,x130,()),()))=>(bif decide (x128.length+1≤4294967296) then next (x123) (i64.wrap (x124+1)) (x125) (x126) (x127) (x128++[(x129,x130,())]) else none) else none else none else out (.ret ((),((),((h3,(h4,())),((h5,(h6,())),())))))
def zQ (n:Nat)(h1:List (Nd))(h2 h3:Int)(h4:List ag.den)(h5:Int)(h6:List ag.den):Option (aH jg.xs):=il tt Cy dr oZ 0 Tryz.f80 (db Tryz.f80 0) n (jg.st.mk' ((h1,(h2,())),((h3,(h4,())),((h5,(h6,())),())))) (ci jg.xs)
theorem YJ (n:Nat)(h1:List (Nd))(h2 h3:Int)(h4:List ag.den)(h5:Int)(h6:List ag.den):zQ (n+1) h1 h2 h3 h4 h5 h6=B5 h1 h2 h3 h4 h5 h6 (zQ n) some:=by kernel_rfl
theorem Lg {os:List Nd}(hb:os.length≤4294967296)(dc:List Nd)(i:Int)(ps:List Nd)(j th0:Int)(ts0:List ag.den)(th:Int)(ts:List ag.den)(tn:LI)(po:List aR.den)(x1 x2:Int)(x3:Bool)(x4:LI)(x5:List Nd)(d1 d2 d4 d5 d6:Int):∀(k q:Nat) (o:LI),os.length<q+k→q≤os.length→o.length≤q→
  wa k dc i ps j os q th0 ts0 th ts tn po x1 x2 x3 x4 x5 d1 d2 o d4 d5 d6=some (.ret ((),((dc,(i,(ps,(j,())))),((th0,(ts0,())),((th,(ts,())),((tn,(po,())),((x1,(x2,(x3,(x4,(x5,()))))),((d1,(d2,(o++(os.drop q).map FB,(d4,(d5,(d6,())))))),())))))))):=by
 intro k
 induction k with
 |zero=>intro q o h1 h2;omega
 |succ k ih=>
  intro q o h1 h2 h3
  rw[SR]
  unfold yC
  by_cases hq:q<os.length
  ·refine bT (decide_eq_true (show (q:Int)<(os.length:Int) by omega)) ?_
   refine bT (by simp;omega) ?_
   refine bT (decide_eq_true (show o.length+1≤4294967296 by omega)) ?_
   rw[aI (n:=(q:Int)+1) (by omega) (by omega),zE hq]
   simp only[zG,aJ hq]
   refine (ih (q+1) (o++[FB os[q]]) (by omega) (by omega) (by simp;omega)).trans ?_
   simp only[zL,zK,zM]
  ·refine bF (decide_eq_false (show ¬(q:Int)<(os.length:Int) by omega)) ?_
   rw[zI (by omega)]
   simp
theorem Lf {ps:List Nd}(hb:aK ps≤4294967296)(dc:List Nd)(i th0:Int)(ts0:List ag.den)(th:Int)(ts:List ag.den)(tn:LI):∀(k j:Nat) (o:List aR.den),ps.length<j+k→j≤ps.length→o.length≤j→
  qU k dc i ps j th0 ts0 th ts tn o=some (.ret ((),((dc,(i,())),((th0,(ts0,())),((th,(ts,())),((tn,(o++(ps.drop j).map BM,())),())))))):=by
 intro k
 have hlen:=dG ps
 induction k with
 |zero=>intro j o h1 h2;omega
 |succ k ih=>
  intro j o h1 h2 h3
  rw[SQ]
  unfold yB
  by_cases hj:j<ps.length
  ·refine bT (decide_eq_true (show (j:Int)<(ps.length:Int) by omega)) ?_
   have hmem:=cI (List.getElem_mem hj)
   have ih':=ih (j+1) (o++[BM ps[j]]) (by omega) (by omega) (by simp;omega)
   have hd:ps.drop j=ps[j]::ps.drop (j+1):=zE hj
   rw[hd]
   simp only[zG,aJ hj]
   generalize ps[j]=u at hmem ih' ⊢
   obtain ⟨ul,uk⟩:=u
   refine bT (by simp;omega) ?_
   have hw1:=gY (Tre.mk ul uk) 2
   have hw2:=dC (aY (Tre.mk ul uk) 2)
   have hw3:=dG (aY (Tre.mk ul uk) 2).kids
   have cA:((decide ((0:Int)=0)&&decide (([]:LI).length=0))&&decide ((aY (Tre.mk ul uk) 2).kids.length≤4294967296))=true:=by simp;omega
   refine (aa cA _ _).trans ?_
   refine bT (decide_eq_true (show o.length+1≤4294967296 by omega)) ?_
   show qU k dc i ps (i64.wrap ((j:Int)+1)) th0 ts0 th ts tn (o++[BM (Tre.mk ul uk)])=_
   rw[aI (n:=(j:Int)+1) (by omega) (by omega)]
   refine ih'.trans ?_
   simp only[zL,zK,zM]
  ·refine bF (decide_eq_false (show ¬(j:Int)<(ps.length:Int) by omega)) ?_
   rw[zI (by omega)]
   simp
theorem Oi {nds:List Nd}(hb:aK nds≤4294967296)(th0:Int)(ts0:List ag.den)(th:Int):∀(k j:Nat) (ts:List ag.den),nds.length<j+k→j≤nds.length→ts.length≤j→
  zQ k nds j th0 ts0 th ts=some (.ret ((),((),((th0,(ts0,())),((th,(ts++(nds.drop j).map wx,())),()))))):=by
 intro k
 have hlen:=dG nds
 induction k with
 |zero=>intro j o h1 h2;omega
 |succ k ih=>
  intro j ts h1 h2 h3
  rw[YJ]
  unfold B5
  by_cases hj:j<nds.length
  ·refine bT (decide_eq_true (show (j:Int)<(nds.length:Int) by omega)) ?_
   have hmem:=cI (List.getElem_mem hj)
   have ih':=ih (j+1) (ts++[wx nds[j]]) (by omega) (by omega) (by simp;omega)
   have hd:nds.drop j=nds[j]::nds.drop (j+1):=zE hj
   rw[hd]
   simp only[zG,aJ hj]
   generalize nds[j]=u at hmem ih' ⊢
   obtain ⟨ul,uk⟩:=u
   refine bT (by simp;omega) ?_
   refine bT (by simp;omega) ?_
   have hw1:=gY (Tre.mk ul uk) 1
   have hw2:=dC (aY (Tre.mk ul uk) 1)
   have cA:((decide ((0:Int)=0)&&decide (([]:List aR.den).length=0))&&decide (aK (aY (Tre.mk ul uk) 1).kids≤4294967296))=true:=by simp;omega
   refine (aa cA _ _).trans ?_
   refine bT (decide_eq_true (show ts.length+1≤4294967296 by omega)) ?_
   rw[aI (n:=(j:Int)+1) (by omega) (by omega)]
   refine ih'.trans ?_
   simp only[zL,zK,zM]
  ·refine bF (decide_eq_false (show ¬(j:Int)<(nds.length:Int) by omega)) ?_
   rw[zI (by omega)]
   simp
def HR (a0:Nd):Option qQ.Res:=(w6 (((aY (Tre.mk a0.1 a0.2) 1).2,(0,())),((0,([],())),((i32.wrap (aY (Tre.mk a0.1 a0.2) 0).1.2.1,([],())),())))).run fun y=>match y with | .ret ((),((),(x141,x142,()),(x143,x144,()),()))=>(oR (((x143,x144,()),()),()))
theorem adC (a0:Nd):Io.run tt Cy dr oZ qQ Tryz.f80 ((a0,()),())=HR a0:=by kernel_rfl
theorem tM:HcsOk prog UQ:=.cons I5 .nil
theorem af7:HcOk prog 80 (ae qQ QE):=by
 refine cg tM (lp:=oZ) (fn:=Tryz.f80) qQ (.step (h0:=aS jg w6) (by kernel_rfl) (jh tM (lp:=oZ) (fn:=Tryz.f80) (.step (h0:=aS gV tF) (by kernel_rfl) (jh tM (lp:=oZ) (fn:=Tryz.f80) (.step (h0:=aS gW tG) (by kernel_rfl) (jh tM (lp:=oZ) (fn:=Tryz.f80) (.done (by kernel_rfl)) gW tG ?_) (.done (by kernel_rfl))) gV tF ?_) (.done (by kernel_rfl))) jg w6 ?_) (.done (by kernel_rfl))) QE ?_
 ·rintro ⟨⟨(dc:List Nd),(i:Int),(ps:List Nd),(j:Int),(os:List Nd),(q:Int),⟨⟩⟩,⟨⟨(th0:Int),(ts0:List ag.den),⟨⟩⟩,⟨(th:Int),(ts:List ag.den),⟨⟩⟩,⟨(tn:LI),(po:List aR.den),⟨⟩⟩,⟨(x1:Int),(x2:Int),(x3:Bool),(x4:LI),(x5:List Nd),⟨⟩⟩,⟨(d1:Int),(d2:Int),(o:LI),(d4:Int),(d5:Int),(d6:Int),⟨⟩⟩,⟨⟩⟩⟩ y hw hy
  obtain ⟨hg,hy⟩:=Tr.guard hy
  simp only[zA,zB] at hg
  obtain ⟨⟨h1,h2⟩,h3⟩:=hg
  have h1:q=0:=h1
  have h2:o=[]:=zF h2
  have h3:os.length≤4294967296:=h3
  subst h1
  subst h2
  refine ⟨os.length+1,(Lg h3 dc i ps j th0 ts0 th ts tn po x1 x2 x3 x4 x5 d1 d2 d4 d5 d6 (os.length+1) 0 [] (by omega) (by omega) (by simp)).trans ?_⟩
  rw[← hy,List.drop_zero]
  rfl
 ·rintro ⟨⟨(dc:List Nd),(i:Int),(ps:List Nd),(j:Int),⟨⟩⟩,⟨⟨(th0:Int),(ts0:List ag.den),⟨⟩⟩,⟨(th:Int),(ts:List ag.den),⟨⟩⟩,⟨(tn:LI),(o:List aR.den),⟨⟩⟩,⟨⟩⟩⟩ y hw hy
  obtain ⟨hg,hy⟩:=Tr.guard hy
  simp only[zA,zB] at hg
  obtain ⟨⟨h1,h2⟩,h3⟩:=hg
  have h1:j=0:=h1
  have h2:o=[]:=zF h2
  have h3:aK ps≤4294967296:=h3
  subst h1
  subst h2
  refine ⟨ps.length+1,(Lf h3 dc i th0 ts0 th ts tn (ps.length+1) 0 [] (by omega) (by omega) (by simp)).trans ?_⟩
  rw[← hy,List.drop_zero]
  rfl
 ·rintro ⟨⟨(nds:List Nd),(j:Int),⟨⟩⟩,⟨⟨(th0:Int),(ts0:List ag.den),⟨⟩⟩,⟨(th:Int),(ts:List ag.den),⟨⟩⟩,⟨⟩⟩⟩ y hw hy
  obtain ⟨hg,hy⟩:=Tr.guard hy
  simp only[zA,zB] at hg
  obtain ⟨⟨h1,h2⟩,h3⟩:=hg
  have h1:j=0:=h1
  have h2:ts=[]:=zF h2
  have h3:aK nds≤4294967296:=h3
  subst h1
  subst h2
  refine ⟨nds.length+1,(Oi h3 th0 ts0 th (nds.length+1) 0 [] (by omega) (by omega) (by simp)).trans ?_⟩
  rw[← hy,List.drop_zero]
  rfl
 ·rintro ⟨⟨(n:Nd),⟨⟩⟩,⟨⟩⟩ out hw ho
  obtain ⟨hg,ho⟩:=Tr.guard ho
  have hg:aM n≤4294967296:=of_decide_eq_true hg
  cases ho
  refine (adC n).trans ?_
  unfold HR
  obtain ⟨nl,nk⟩:=n
  have hw1:=gY (Tre.mk nl nk) 1
  have hw2:=dC (aY (Tre.mk nl nk) 1)
  have c1:((decide ((0:Int)=0)&&decide (([]:List ag.den).length=0))&&decide (aK (aY (Tre.mk nl nk) 1).kids≤4294967296))=true:=by simp;omega
  refine (aa c1 _ _).trans ?_
  show _=oR ((Az (Tre.mk nl nk),()),())
  unfold Az
  rfl
abbrev lb:Io:=⟨[.dat bY true false],[],[],[.dat bY true false],none⟩
def Dj (d:lb.In):Tr lb.Res:=.ite (eJ d.1.1.2.1&&decide (aM (cc d.1.1)≤4294967296)) (.ret (.ret ((d.1.1,()),()))) .no
abbrev Il:List (Nat×Hc):=[(121,ae j9 w5),(83,ae fC vx),(80,ae qQ QE)]
def WZ:Hd:=bM Il
def IR:Lp:=bB []
def Bm (a0:Int)(a1:List ag.den):Option lb.Res:=bif eJ a1 then bif decide (aM (Tre.mk (cc (a0,a1,())).1 (cc (a0,a1,())).2)≤4294967296) then bif decide (aM (Tre.mk (cc (a0,a1,())).1 (cc (a0,a1,())).2)≤4294967296) then oR ((Az (Tre.mk (cc (a0,a1,())).1 (cc (a0,a1,())).2),()),()) else none else none else none
theorem SF (a0:Int)(a1:List ag.den):Io.run tt WZ dr IR lb Tryz.f57 (((a0,a1,()),()),())=Bm a0 a1:=by kernel_rfl
theorem XJ:HcOk prog 57 (ae lb Dj):=by
 refine cg (cs:=Il) (.cons Ja (.cons uv (.cons af7 .nil))) (lp:=IR) (fn:=Tryz.f57) lb (.done (by kernel_rfl)) Dj ?_
 rintro ⟨⟨m,⟨⟩⟩,⟨⟩⟩ out hw ho
 obtain ⟨hg,ho⟩:=Tr.guard ho
 simp only[zA,zB] at hg
 obtain ⟨h1,h2⟩:=hg
 have h1:eJ m.2.1=true:=h1
 have h2:aM (cc m)≤4294967296:=h2
 cases ho
 have hf:=s8 (m:=m) hw.1.1
 obtain ⟨th,ts,⟨⟩⟩:=m
 refine (SF th ts).trans ?_
 unfold Bm
 generalize cc (th,(ts,()))=n at h2 hf ⊢
 obtain ⟨nl,nk⟩:=n
 refine (aa h1 _ _).trans ?_
 refine bT (decide_eq_true h2) ?_
 refine bT (decide_eq_true h2) ?_
 exact congrArg (fun x=>oR ((x,()),())) hf
@[irreducible] noncomputable def fF (v:Int)(m:bY.den):LI×Int:=eE 2 true v (cc m)
end
end Go.Proofs.YtomeplopmndbgaaGreat.Sym
namespace Go.Proofs.YtomeplopmndbgaaGreat.Sym
open Go
noncomputable section
def aeo (v:Int)(p:aR.den):LI×Int:=aZ (aB p.1 4,0) (aZ (aB p.2.1 2,0) (aZ (if 0≤v∧v≤0 then wNs p.2.2.1 else ([],0)) (aZ (if 1≤v∧v≤3 then (aB p.2.2.2.1 8,0) else ([],0)) (aZ (if 1≤v∧v≤3 then (aB p.2.2.2.2.1 8,0) else ([],0)) (aZ (if 3≤v∧v≤3 then (aB p.2.2.2.2.2.1 4,0) else ([],0)) ([],0))))))
def aep (v:Int)(t:ag.den):LI×Int:=aZ (lP t.1) (aZ (du (aeo v) t.2.1) ([],0))
def Ci (v:Int)(m:bY.den):LI×Int:=aZ (if 2≤v∧v≤3 then (aB m.1 4,0) else ([],0)) (aZ (du (aep v) m.2.1) (([],0)))
theorem Wri.orP (v:Int)(p:aR.den):Wri (aeo v p) (kG v p):=(Wri.put p.1 4).seq ((Wri.put p.2.1 2).seq ((Wri.hasNs v 0 0 p.2.2.1).seq ((Wri.hasE v 1 3 p.2.2.2.1 8).seq ((Wri.hasE v 1 3 p.2.2.2.2.1 8).seq ((Wri.hasE v 3 3 p.2.2.2.2.2.1 4).seq (Wri.nop))))))
theorem Wri.orT (v:Int)(t:ag.den):Wri (aep v t) (F6 v t):=(Wri.str _).seq ((Wri.items fun p hp=>Wri.orP v p).seq Wri.nop)
abbrev aiw:Fd:=cO [112,97,114,116] 10 0 3 [cO [105,110,100,101,120] 3 0 3 [],cO [99,111,100,101] 2 0 3 [],cO [111,102,102,115,101,116,115] 9 0 0 [cO [111,102,102,115,101,116] 4 0 0 []],cO [116,105,109,101] 4 1 3 [],cO [111,102,102,115,101,116] 4 1 3 [],cO [101,112,111,99,104] 3 3 3 []]
abbrev aj3:Fd:=cO [116,111,112,105,99] 10 0 3 [cO [110,97,109,101] 5 0 3 [],cO [112,97,114,116,115] 9 0 3 [aiw]]
theorem ahd {v:Int}{p:aR.den}(hv:0≤v∧v≤3)(h:aR.wf p):uE aiw v (mq p)=aeo v p:=by
 unfold mq aeo
 rw[jJ,bc (ax hv.1 hv.2),bc (ax hv.1 hv.2),kF,kF,kF,kF,cv,ad2,bG (by decide) (w:=4) rfl (bV h.1),bG (by decide) (w:=2) rfl (nR h.2.1),bG (by decide) (w:=4) rfl (bV h.2.2.2.2.2.1),bG (by decide) (w:=8) rfl (fq p.2.2.2.1),bG (by decide) (w:=8) rfl (fq p.2.2.2.2.1)]
 try rfl
theorem ahe {v:Int}{t:ag.den}(hv:0≤v∧v≤3)(h:ag.wf t):uE aj3 v (ii t)=aep v t:=by
 unfold ii aep
 rw[jJ,bc (ax hv.1 hv.2),bc (ax hv.1 hv.2),cv,pS,fu,cw fun p hp=>ahd hv (h.2.1.2 p hp)]
def pL (v:Int)(p:aR.den):Bool:=(if 0≤v∧v≤0 then true else ((p.2.2.1.length:Int) == 0))&&((if 1≤v∧v≤3 then true else (p.2.2.2.1 == 0))&&((if 1≤v∧v≤3 then true else (p.2.2.2.2.1 == 0))&&((if 3≤v∧v≤3 then true else (p.2.2.2.2.2.1 == 0)))))
theorem YS {v:Int}{p:aR.den}(hv:0≤v∧v≤3):(bn aiw v (mq p)).2=pL v p:=by
 unfold mq pL
 rw[fG,bd (ax hv.1 hv.2),bd (ax hv.1 hv.2),dl,dl,dl,dl,dk,ST,aL (by decide) (by decide),aL (by decide) (by decide),aL (by decide) (by decide),aL (by decide) (by decide),aL (by decide) (by decide),Qa,bh,bh,bh]
 simp only[Bool.true_and,Bool.and_true]
theorem YT {v:Int}{t:ag.den}(hv:0≤v∧v≤3):(bn aj3 v (ii t)).2=t.2.1.all (pL v):=by
 unfold ii
 rw[fG,bd (ax hv.1 hv.2),bd (ax hv.1 hv.2),dk,aL (by decide) (by decide),dh]
 simp only[YS hv,Bool.true_and,Bool.and_true]
theorem FN (m:bY.den):er vf [av 3 m.1,ba (m.2.1.map ii)]:=by
 unfold vf b8
 refine au (aF (by decide) (by decide)) (au ?_ cj)
 refine cN _ _ fun t=>dK rfl (au (aF (by decide) (by decide)) (au ?_ cj))
 exact cN _ _ fun p=>dK rfl (au (aF (by decide) (by decide)) (au (aF (by decide) (by decide)) (au (L6 _) (au (aF (by decide) (by decide)) (au (aF (by decide) (by decide)) (au (aF (by decide) (by decide)) cj))))))
def uV (v:Int)(m:bY.den):Bool:=(if 2≤v∧v≤3 then true else (m.1 == 0))&&((m.2.1.all fun t=>t.2.1.all (pL v)))
theorem Y7 {e v:Int}{p:aR.den}:ls v p (e,(false,([]:LI)))=(iF e (pL v p),(false,[])):=by
 unfold ls pL
 rw[cS,cS,cS,abj,c7,c7,Bool.and_assoc]
theorem F5 {v:Int}:∀{ps:List aR.den} {e:Int},jo v ps (e,(false,([]:LI)))=(iF e (ps.all (pL v)),(false,[]))
 |[],e=>by rw[List.all_nil,iA];rfl
 |p::ps,e=>by
  show jo v ps (ls v p (e,(false,[])))=_
  rw[Y7,F5,c7,List.all_cons]
theorem JF {v:Int}:∀{ts:List ag.den} {e:Int},Ay v ts (e,(false,([]:LI)))=(iF e (ts.all fun t=>t.2.1.all (pL v)),(false,[]))
 |[],e=>by rw[List.all_nil,iA];rfl
 |t::ts,e=>by
  show Ay v ts (jo v t.2.1 (e,(false,[])))=_
  rw[F5,JF,c7,List.all_cons]
theorem ahI {v:Int}{m:bY.den}(hv:0≤v∧v≤3):(bS v vf [av 3 m.1,ba (m.2.1.map ii)]).2=uV v m:=by
 unfold vf b8 uV
 rw[dl,bd (ax hv.1 hv.2),dk,aL (by decide) (by decide),dh,bh]
 simp only[YT hv,Bool.true_and,Bool.and_true,Bool.and_assoc]
theorem aif {v:Int}{m:bY.den}(hv:0≤v∧v≤3)(hm:bY.wf m):cG v vf [av 3 m.1,ba (m.2.1.map ii)]=Ci v m:=by
 unfold vf b8 Ci
 rw[kF,bc (ax hv.1 hv.2),cv,bG (by decide) (w:=4) rfl (bV hm.1),fu,cw fun t ht=>ahe hv (hm.2.1.2 t ht)]
 try rfl
theorem acH {v:Int}{m:bY.den}(hm:bY.wf m):(bD (yp v m),bm (yp v m))=fF v m:=by
 unfold fF cc
 rw[jI (t:=vf) rfl PO rfl (FN m)]
 unfold yp
 rw[cS,JF,c7]
 have hr:Wri (Ci v m) _:=(Wri.hasE v 2 3 m.1 4).seq ((Wri.items fun t ht=>Wri.orT v t).seq (Wri.nop))
 refine (hr.done _).trans ?_
 unfold aV
 by_cases hv:v<0∨3<v
 ·rw[if_pos hv,if_pos hv]
  exact if_pos (by simp[iF])
 rw[if_neg hv,if_neg hv]
 have hv':0≤v∧v≤3:=by omega
 rw[ahI hv',aif hv' hm]
 show (if iF 0 (uV v m)≠0 then _ else _)=_
 cases hz:uV v m
 ·exact (if_pos (by decide)).trans (show ([],iF 0 (uV v m))=_ by rw[hz];rfl)
 ·exact (if_neg (by decide)).trans (if_neg (by decide)).symm
abbrev xD:Io:=qz
def TH (d:xD.In):Tr xD.Res:=.ret (.ret (((fF d.1.1 d.1.2.1).1,((fF d.1.1 d.1.2.1).2,())),()))
theorem acd:HcOk prog 60 (ae xD TH):=by
 refine HcOk.weakW afN ?_
 rintro ⟨⟨(v:Int),m,⟨⟩⟩,⟨⟩⟩ y hw hy
 rw[← hy]
 have h:=acH (v:=v) (m:=m) hw.1.2.1
 show oR ((bD (yp v m),(bm (yp v m),())),())=oR (((fF v m).1,((fF v m).2,())),())
 rw[← h]
theorem ut {v:Int}{p:aR.den}(h:pL v p=true):(¬(0≤v∧v≤0)→p.2.2.1=[])∧(¬(1≤v∧v≤3)→p.2.2.2.1=0)∧(¬(1≤v∧v≤3)→p.2.2.2.2.1=0)∧(¬(3≤v∧v≤3)→p.2.2.2.2.2.1=0):=by
 unfold pL at h
 simp only[zA] at h
 exact ⟨fun hv=>by have h1:=h.1;rw[if_neg hv] at h1;simpa using h1,fun hv=>by have h1:=h.2.1;rw[if_neg hv] at h1;simpa using h1,fun hv=>by have h1:=h.2.2.1;rw[if_neg hv] at h1;simpa using h1,fun hv=>by have h1:=h.2.2.2;rw[if_neg hv] at h1;simpa using h1⟩
theorem I3 {v:Int}{m:bY.den}(h:uV v m=true):(¬(2≤v∧v≤3)→m.1=0)∧(m.2.1.all fun t=>t.2.1.all (pL v))=true:=by
 unfold uV at h
 simp only[zA] at h
 exact ⟨fun hv=>by have h1:=h.1;rw[if_neg hv] at h1;simpa using h1,h.2⟩
theorem Rd.orP {b:LI}{p:aR.den}{v:Int}(h:aR.wf p)(hk:pL v p=true):Rd b p (aeo v p) (n9 v b):=
 (Rd.seq (fun a r=>(a,r)) (Rd.num (bA h.1)) (Rd.seq (fun a r=>(a,r)) (Rd.num (fz h.2.1)) (Rd.seq (fun a r=>(a,r)) (Rd.optNs h.2.2.1.2 (ut hk).1) (Rd.seq (fun a r=>(a,r)) (Rd.opt (fA h.2.2.2.1) (ut hk).2.1) (Rd.seq (fun a r=>(a,r)) (Rd.opt (fA h.2.2.2.2.1) (ut hk).2.2.1) (Rd.seq (fun a r=>(a,r)) (Rd.opt (bA h.2.2.2.2.2.1) (ut hk).2.2.2) (Rd.nop b ()))))))).congr fun s=>by unfold n9;rfl
theorem Rd.orT {b:LI}{t:ag.den}{v:Int}(h:ag.wf t)(hk:t.2.1.all (pL v)=true):Rd b t (aep v t) (oa v b):=
 (Rd.seq (fun a r=>(a,r)) (Rd.txt t.1) (Rd.seq (fun a r=>(a,r)) (Rd.list fun p hp=>Rd.orP (h.2.1.2 p hp) (List.all_eq_true.1 hk p hp)) (Rd.nop b ()))).congr fun s=>by unfold oa jN;rfl
theorem Rd.orM {b:LI}{m:bY.den}{v:Int}(h:bY.wf m)(hk0:uV v m=true):Rd b m (Ci v m) (ry v b):=
 have hk:=(I3 hk0).2
 (Rd.seq (fun a r=>(a,r)) (Rd.opt (bA h.1) (I3 hk0).1) (Rd.seq (fun a r=>(a,r)) (Rd.list fun t ht=>Rd.orT (h.2.1.2 t ht) (List.all_eq_true.1 hk t ht)) (Rd.nop b ()))).congr fun s=>by unfold ry dg;rfl
theorem acI {v:Int}{m:bY.den}(hm:bY.wf m)(h:(fF v m).2=0):0≤v∧v≤3∧uV v m=true∧(Ci v m).2=0∧(fF v m).1=(Ci v m).1∧(fF v m).1.length≤130048:=by
 have hlen:(fF v m).1.length≤130048:=by unfold fF;exact ej _ _ _ _
 unfold fF cc at h hlen ⊢
 rw[jI (t:=vf) rfl PO rfl (FN m)] at h hlen ⊢
 by_cases hv:v<0∨3<v
 ·rw[if_pos hv] at h;cases h
 rw[if_neg hv] at h hlen ⊢
 have hv':0≤v∧v≤3:=by omega
 rw[ahI hv',aif hv' hm] at h hlen ⊢
 generalize hz:uV v m=z at h hlen ⊢
 cases z with
 |false=>rw[if_pos rfl] at h;cases h
 |true=>
  rw[if_neg (by decide)] at h hlen ⊢
  by_cases h1:(Ci v m).2=0
  ·rw[if_neg (by simpa using h1)] at h hlen ⊢
   by_cases h2:130048<(Ci v m).1.length
   ·rw[if_pos h2] at h;cases h
   ·rw[if_neg h2] at h hlen ⊢
    exact ⟨hv'.1,hv'.2,rfl,h1,rfl,hlen⟩
  ·rw[if_pos h1] at h
   exact absurd h h1
theorem aga {v:Int}{m:bY.den}(hm:bY.wf m)(h:(fF v m).2=0):
  lU v (fF v m).1=(m,0)∧(lU v ((fF v m).1.take ((fF v m).1.length - 1))).2=1:=by
 obtain ⟨h1,h2,h3,h4,h5,h6⟩:=acI hm h
 rw[h5] at h6 ⊢
 generalize hr:(Ci v m).1=r at h6 ⊢
 have hne:r≠[]:=by
  intro e
  have h4c:=h4
  have hl':(Ci v m).1.length=0:=by rw[hr,e];rfl
  unfold Ci at h4c hl'
  have s0:=cy h4c
  have l0:=congrArg List.length s0.2.2
  rw[zH] at l0
  have s1:=cy s0.2.1
  have l1:=congrArg List.length s1.2.2
  rw[zH] at l1
  have h8:=nL s1.1
  omega
 refine ⟨?_,?_⟩
 ·have key:=(Rd.orM (b:=r) hm h3 h4).full 0 [] (Nat.zero_le _) (by rw[hr];simp)
  have key:ry v r (0,0)=(m,(0,((0+(Ci v m).1.length:Nat):Int))):=key
  rw[hr] at key
  unfold lU
  rw[if_pos ⟨h1,h2,by omega⟩,key]
  have he:aE r (0,((0+r.length:Nat):Int))=0:=by
   unfold aE sQ
   rw[if_pos rfl,if_neg (by omega)]
  rw[if_pos he]
 ·obtain ⟨t,ht,htr⟩:=m6 hne
  have key:=(Rd.orM (b:=r.take (r.length - 1)) hm h3 h4).short 0 t (Nat.zero_le _) ht (by rw[hr];exact htr)
  have key:(ry v (r.take (r.length - 1)) (0,0)).2.1=1:=key
  unfold lU
  rw[if_pos ⟨h1,h2,by rw[List.length_take];omega⟩]
  have he:aE (r.take (r.length - 1)) (ry v (r.take (r.length - 1)) (0,0)).2=1:=by
   unfold aE
   rw[if_neg (by rw[key];decide)];exact key
  rw[he,if_neg (by decide)]
def Tc (m:bX.den):Bool:=eH m.2.2.1&&decide (8*aM (cb m)≤4294967296)
def Td (m:bY.den):Bool:=eJ m.2.1&&decide (8*aM (cc m)≤4294967296)
end
end Go.Proofs.YtomeplopmndbgaaGreat.Sym
namespace Go.Proofs.YtomeplopmndbgaaGreat.Sym
open Go
open Go.IntKind (i8 i16 i32 i64 u8 u16 u32 u64)
noncomputable section
theorem US (p:aX.den):ga aX p=4:=rfl
theorem KH (t:ah.den):ga ah t=(t.1.length+1)+(((t.2.1.map (ga aX)).sum+1)+0):=rfl
theorem aeD (m:bX.den):ga bX m=1+(1+(((m.2.2.1.map (ga ah)).sum+1)+(0))):=rfl
theorem ajE (p:aX.den):aM (mp p)≤3*ga aX p:=by
 rw[US]
 show aM (bq [av 3 p.1,av 3 p.2.1,av 4 p.2.2.1,av 3 p.2.2.2.1])≤_
 rw[dV,ay,ay,ay,ay,bQ,bo,bo,bo,bo]
 omega
theorem ajF (t:ah.den):aM (ig t)≤3*ga ah t:=by
 have h:=jq (T:=aX) (F:=mp) (c:=3) (l:=t.2.1) fun p _=>ajE p
 rw[KH]
 show aM (bq [gd t.1,ba (t.2.1.map mp)])≤_
 rw[dV,ay,ay,bQ,m5,fe]
 omega
theorem af9 {m:bX.den}(h:ga bX m≤1048576):Tc m=true:=by
 have h1:=jq (T:=ah) (F:=ig) (c:=3) (l:=m.2.2.1) fun t _=>ajF t
 have h2:=jp (T:=ah) (fun t=>by rw[KH];omega) m.2.2.1
 rw[aeD] at h
 have hp:∀t∈m.2.2.1,t.2.1.length≤1048576:=fun t htm=>by
  have a1:=lD (T:=ah) htm
  rw[KH] at a1
  have a2:=jp (T:=aX) (fun p=>by rw[US];omega) t.2.1
  omega
 unfold Tc
 simp only[zA,zB]
 refine ⟨?_,?_⟩
 ·unfold eH
  simp only[zA,zB]
  refine ⟨by omega,List.all_eq_true.2 fun t htm=>decide_eq_true ?_⟩
  have:=hp t htm
  omega
 ·unfold cb
  show 8*aM (bq [av 3 m.1,av 1 m.2.1,ba (m.2.2.1.map ig)])≤_
  rw[dV,ay,ay,ay,bQ,bo,bo,fe]
  omega
theorem air (b:LI):ga (.sl 2 (.int .i64)) b=b.length+1:=by
 show (List.map (ga (.int .i64)) b).sum+1=_
 rw[Gg]
theorem FO:∀xs:LI,aK (xs.map (av 4))=xs.length
 |[]=>by rw[List.map_nil,bQ];rfl
 |x::xs=>by rw[zL,ay,bo,FO xs,zN];omega
theorem Y0 (xs:LI):aM (jt xs)=1+xs.length:=by rw[lk,fe,FO]
theorem KI (p:aR.den):ga aR p=List.length (α:=Int) p.2.2.1+6:=by
 show 1+(1+((ga (.sl 2 (.int .i64)) p.2.2.1)+(1+(1+(1+(0))))))=_
 rw[air];omega
theorem KJ (t:ag.den):ga ag t=(t.1.length+1)+(((t.2.1.map (ga aR)).sum+1)+0):=rfl
theorem aeE (m:bY.den):ga bY m=1+(((m.2.1.map (ga ag)).sum+1)+(0)):=rfl
theorem ajG (p:aR.den):aM (mq p)≤3*ga aR p:=by
 rw[KI]
 show aM (bq [av 3 p.1,av 2 p.2.1,jt p.2.2.1,av 4 p.2.2.2.1,av 4 p.2.2.2.2.1,av 3 p.2.2.2.2.2.1])≤_
 rw[dV,ay,ay,ay,ay,ay,ay,bQ,Y0,bo,bo,bo,bo,bo]
 omega
theorem ajH (t:ag.den):aM (ii t)≤3*ga ag t:=by
 have h:=jq (T:=aR) (F:=mq) (c:=3) (l:=t.2.1) fun p _=>ajG p
 rw[KJ]
 show aM (bq [gd t.1,ba (t.2.1.map mq)])≤_
 rw[dV,ay,ay,bQ,m5,fe]
 omega
theorem agb {m:bY.den}(h:ga bY m≤1048576):Td m=true:=by
 have h1:=jq (T:=ag) (F:=ii) (c:=3) (l:=m.2.1) fun t _=>ajH t
 have h2:=jp (T:=ag) (fun t=>by rw[KJ];omega) m.2.1
 rw[aeE] at h
 have hp:∀t∈m.2.1,t.2.1.length≤1048576∧∀p∈t.2.1,List.length (α:=Int) p.2.2.1≤1048576:=fun t htm=>by
  have a1:=lD (T:=ag) htm
  rw[KJ] at a1
  have a2:=jp (T:=aR) (fun p=>by rw[KI];omega) t.2.1
  refine ⟨by omega,fun p hp=>?_⟩
  have a3:=lD (T:=aR) hp
  rw[KI] at a3
  omega
 unfold Td
 simp only[zA,zB]
 refine ⟨?_,?_⟩
 ·unfold eJ
  simp only[zA,zB]
  refine ⟨by omega,List.all_eq_true.2 fun t htm=>?_⟩
  unfold n8
  simp only[zA,zB]
  have h3:=hp t htm
  refine ⟨by omega,List.all_eq_true.2 fun p hpm=>decide_eq_true ?_⟩
  have:=h3.2 p hpm
  omega
 ·unfold cc
  show 8*aM (bq [av 3 m.1,ba (m.2.1.map ii)])≤_
  rw[dV,ay,ay,bQ,bo,fe]
  omega
abbrev da:Ty:=.prod (.int .i16) (.prod (.int .i16) (.prod (.int .i32) (.prod fv (.prod ik (.prod bO (.prod bX .unit))))))
abbrev dn:Ty:=.prod (.int .i16) (.prod (.int .i16) (.prod (.int .i32) (.prod ij (.prod bW (.prod bY .unit)))))
def fE (k v:Int):Int:=if k≠0∧k≠1∧k≠2 then 160 else if v<0∨3<v then 8 else 0
abbrev ki:Io:=⟨[Ql,Ql],[],[],[dI],none⟩
def yH (d:ki.In):Tr ki.Res:=.ret (.ret ((fE d.1.1 d.1.2.1,()),()))
abbrev Ua:List (Nat×Hc):=[]
def aeU:Hd:=bM Ua
def U9:Lp:=bB []
def Hb (a0 a1:Int):Option ki.Res:=bif a0 != 0 then bif a0 != 1 then bif a0 != 2 then oR ((160,()),()) else bif decide (a1<0) then oR ((8,()),()) else bif decide (3<a1) then oR ((8,()),()) else oR ((0,()),()) else bif decide (a1<0) then oR ((8,()),()) else bif decide (3<a1) then oR ((8,()),()) else oR ((0,()),()) else bif decide (a1<0) then oR ((8,()),()) else bif decide (3<a1) then oR ((8,()),()) else oR ((0,()),())
theorem acS (a0 a1:Int):Io.run tt aeU dr U9 ki Tryz.f40 ((a0,a1,()),())=Hb a0 a1:=by kernel_rfl
theorem CG:HcOk prog 40 (ae ki yH):=by
 refine cg (cs:=Ua) HcsOk.nil (lp:=U9) (fn:=Tryz.f40) ki (.done (by kernel_rfl)) yH ?_
 rintro ⟨⟨(k:Int),(v:Int),⟨⟩⟩,⟨⟩⟩ out hw ho
 cases ho
 refine (acS k v).trans ?_
 unfold Hb
 show _=oR ((fE k v,()),())
 unfold fE
 have key:(bif decide (v<0) then oR ((8,()),()) else bif decide (3<v) then oR ((8,()),()) else oR ((0,()),()):Option ki.Res)=oR ((if v<0∨3<v then 8 else 0,()),()):=by
  by_cases h3:v<0
  ·rw[aa (by simpa using h3),if_pos (.inl h3)]
  ·rw[af (by simpa using h3)]
   by_cases h4:3<v
   ·rw[aa (by simpa using h4),if_pos (.inr h4)]
   ·rw[af (by simpa using h4),if_neg (by omega)]
 rw[key]
 by_cases h0:k=0
 ·rw[af (by simpa using h0),if_neg (c:=k≠0∧k≠1∧k≠2) (fun h=>h.1 h0)]
 rw[aa (by simpa using h0)]
 by_cases h1:k=1
 ·rw[af (by simpa using h1),if_neg (c:=k≠0∧k≠1∧k≠2) (fun h=>h.2.1 h1)]
 rw[aa (by simpa using h1)]
 by_cases h2:k=2
 ·rw[af (by simpa using h2),if_neg (c:=k≠0∧k≠1∧k≠2) (fun h=>h.2.2 h2)]
 rw[aa (by simpa using h2),if_pos ⟨h0,h1,h2⟩]
def lN (n:fv.den):Int:=if n.1=true∧n.2.1≠[] then 70 else if (cC n.2.1).2=false then 6 else if 255<n.2.1.length then 4 else 0
abbrev j1:Io:=⟨[yW],[],[],[dI],none⟩
def wE (d:j1.In):Tr j1.Res:=.ret (.ret ((lN d.1.1,()),()))
abbrev HT:List (Nat×Hc):=[(92,ae pc GV)]
def WD:Hd:=bM HT
def Iv:Lp:=bB []
def AR (a0:Bool)(a1:LI):Option j1.Res:=bif a0 then bif !decide (a1=[]) then oR ((70,()),()) else bif !(cC a1).2 then oR ((6,()),()) else bif decide (255<(↑a1.length:Int)) then oR ((4,()),()) else oR ((0,()),()) else bif !(cC a1).2 then oR ((6,()),()) else bif decide (255<(↑a1.length:Int)) then oR ((4,()),()) else oR ((0,()),())
theorem Sa (a0:Bool)(a1:LI):Io.run tt WD dr Iv j1 Tryz.f41 (((a0,a1,()),()),())=AR a0 a1:=by kernel_rfl
theorem IY:HcOk prog 41 (ae j1 wE):=by
 refine cg (cs:=HT) (.cons LG .nil) (lp:=Iv) (fn:=Tryz.f41) j1 (.done (by kernel_rfl)) wE ?_
 rintro ⟨⟨⟨(z:Bool),(s:LI),⟨⟩⟩,⟨⟩⟩,⟨⟩⟩ out hw ho
 cases ho
 refine (Sa z s).trans ?_
 unfold AR
 show _=oR ((lN (z,(s,())),()),())
 unfold lN
 have h4:decide ((255:Int)<(s.length:Int))=decide (255<s.length):=by rw[Bool.eq_iff_iff];simp;omega
 rw[h4]
 cases z <;> by_cases h1:s=[] <;> cases h2:(cC s).2 <;> by_cases h3:255<s.length <;> simp[h1,h2,h3]
def GJ (m:ik.den):Bool:=((m.1.1 == false)&&(decide (m.1.2.1=[])&&true))&&((m.2.1 == 0)&&((m.2.2.1 == 0)&&((m.2.2.2.1.length:Int) == 0)))
def Fv (m:bO.den):Bool:=(m.1 == 0)&&((m.2.1 == 0)&&((m.2.2.1 == 0)&&((m.2.2.2.1 == 0)&&((m.2.2.2.2.1 == 0)&&((m.2.2.2.2.2.1.length:Int) == 0)))))
def An (m:bX.den):Bool:=(m.1 == 0)&&((m.2.1 == 0)&&((m.2.2.1.length:Int) == 0))
def rH (c:da.den):Bool:=(GJ c.2.2.2.2.1 || (c.1 == 0))&&((Fv c.2.2.2.2.2.1 || (c.1 == 1))&&(An c.2.2.2.2.2.2.1 || (c.1 == 2)))
abbrev kM:Io:=⟨[.dat da true false],[],[],[dB],none⟩
def CR (d:kM.In):Tr kM.Res:=.ret (.ret ((rH d.1.1,()),()))
abbrev HU:List (Nat×Hc):=[]
def WE:Hd:=bM HU
def Iw:Lp:=bB []
def AT (a0 a1 a2:Int)(a3:Bool)(a4:LI)(a5:Bool)(a6:LI)(a7 a8:Int)(a9:List ar.den)(a10 a11 a12 a13 a14:Int)(a15:List ai.den)(a16 a17:Int)(a18:List ah.den):Option kM.Res:=oR ((bif !(a5 == false&&(decide (a6=[])&&true)&&(a7 == 0&&(a8 == 0&&Decidable.rec (fun (h:¬(↑(List.length (((a0,a1,a2,(a3,a4,()),((a5,a6,()),a7,a8,a9,()),(a10,a11,a12,a13,a14,a15,()),(a16,a17,a18,()),()),()),()).1.1.2.2.2.2.1.2.2.2.1):Int)=0)=>false) (fun (h:(↑(List.length (((a0,a1,a2,(a3,a4,()),((a5,a6,()),a7,a8,a9,()),(a10,a11,a12,a13,a14,a15,()),(a16,a17,a18,()),()),()),()).1.1.2.2.2.2.1.2.2.2.1):Int)=0)=>true) ((↑(List.length (((a0,a1,a2,(a3,a4,()),((a5,a6,()),a7,a8,a9,()),(a10,a11,a12,a13,a14,a15,()),(a16,a17,a18,()),()),()),()).1.1.2.2.2.2.1.2.2.2.1):Int).instDecidableEq 0)))) then a0 == 0&&bif !(a10 == 0&&(a11 == 0&&(a12 == 0&&(a13 == 0&&(a14 == 0&&Decidable.rec (fun (h:¬(↑(List.length (((a0,a1,a2,(a3,a4,()),((a5,a6,()),a7,a8,a9,()),(a10,a11,a12,a13,a14,a15,()),(a16,a17,a18,()),()),()),()).1.1.2.2.2.2.2.1.2.2.2.2.2.1):Int)=0)=>false) (fun (h:(↑(List.length (((a0,a1,a2,(a3,a4,()),((a5,a6,()),a7,a8,a9,()),(a10,a11,a12,a13,a14,a15,()),(a16,a17,a18,()),()),()),()).1.1.2.2.2.2.2.1.2.2.2.2.2.1):Int)=0)=>true) ((↑(List.length (((a0,a1,a2,(a3,a4,()),((a5,a6,()),a7,a8,a9,()),(a10,a11,a12,a13,a14,a15,()),(a16,a17,a18,()),()),()),()).1.1.2.2.2.2.2.1.2.2.2.2.2.1):Int).instDecidableEq 0)))))) then a0 == 1&&bif !(a16 == 0&&(a17 == 0&&Decidable.rec (fun (h:¬(↑(List.length (((a0,a1,a2,(a3,a4,()),((a5,a6,()),a7,a8,a9,()),(a10,a11,a12,a13,a14,a15,()),(a16,a17,a18,()),()),()),()).1.1.2.2.2.2.2.2.1.2.2.1):Int)=0)=>false) (fun (h:(↑(List.length (((a0,a1,a2,(a3,a4,()),((a5,a6,()),a7,a8,a9,()),(a10,a11,a12,a13,a14,a15,()),(a16,a17,a18,()),()),()),()).1.1.2.2.2.2.2.2.1.2.2.1):Int)=0)=>true) ((↑(List.length (((a0,a1,a2,(a3,a4,()),((a5,a6,()),a7,a8,a9,()),(a10,a11,a12,a13,a14,a15,()),(a16,a17,a18,()),()),()),()).1.1.2.2.2.2.2.2.1.2.2.1):Int).instDecidableEq 0))) then Decidable.rec (fun (h:¬(((a0,a1,a2,(a3,a4,()),((a5,a6,()),a7,a8,a9,()),(a10,a11,a12,a13,a14,a15,()),(a16,a17,a18,()),()),()),()).1.1.1=2)=>false) (fun (h:(((a0,a1,a2,(a3,a4,()),((a5,a6,()),a7,a8,a9,()),(a10,a11,a12,a13,a14,a15,()),(a16,a17,a18,()),()),()),()).1.1.1=2)=>true) (Int.instDecidableEq (((a0,a1,a2,(a3,a4,()),((a5,a6,()),a7,a8,a9,()),(a10,a11,a12,a13,a14,a15,()),(a16,a17,a18,()),()),()),()).1.1.1 2) else true else bif !(a16 == 0&&(a17 == 0&&Decidable.rec (fun (h:¬(↑(List.length (((a0,a1,a2,(a3,a4,()),((a5,a6,()),a7,a8,a9,()),(a10,a11,a12,a13,a14,a15,()),(a16,a17,a18,()),()),()),()).1.1.2.2.2.2.2.2.1.2.2.1):Int)=0)=>false) (fun (h:(↑(List.length (((a0,a1,a2,(a3,a4,()),((a5,a6,()),a7,a8,a9,()),(a10,a11,a12,a13,a14,a15,()),(a16,a17,a18,()),()),()),()).1.1.2.2.2.2.2.2.1.2.2.1):Int)=0)=>true) ((↑(List.length (((a0,a1,a2,(a3,a4,()),((a5,a6,()),a7,a8,a9,()),(a10,a11,a12,a13,a14,a15,()),(a16,a17,a18,()),()),()),()).1.1.2.2.2.2.2.2.1.2.2.1):Int).instDecidableEq 0))) then Decidable.rec (fun (h:¬(((a0,a1,a2,(a3,a4,()),((a5,a6,()),a7,a8,a9,()),(a10,a11,a12,a13,a14,a15,()),(a16,a17,a18,()),()),()),()).1.1.1=2)=>false) (fun (h:(((a0,a1,a2,(a3,a4,()),((a5,a6,()),a7,a8,a9,()),(a10,a11,a12,a13,a14,a15,()),(a16,a17,a18,()),()),()),()).1.1.1=2)=>true) (Int.instDecidableEq (((a0,a1,a2,(a3,a4,()),((a5,a6,()),a7,a8,a9,()),(a10,a11,a12,a13,a14,a15,()),(a16,a17,a18,()),()),()),()).1.1.1 2) else true else bif !(a10 == 0&&(a11 == 0&&(a12 == 0&&(a13 == 0&&(a14 == 0&&Decidable.rec (fun (h:¬(↑(List.length (((a0,a1,a2,(a3,a4,()),((a5,a6,()),a7,a8,a9,()),(a10,a11,a12,a13,a14,a15,()),(a16,a17,a18,()),()),()),()).1.1.2.2.2.2.2.1.2.2.2.2.2.1):Int)=0)=>false) (fun (h:(↑(List.length (((a0,a1,a2,(a3,a4,()),((a5,a6,()),a7,a8,a9,()),(a10,a11,a12,a13,a14,a15,()),(a16,a17,a18,()),()),()),()).1.1.2.2.2.2.2.1.2.2.2.2.2.1):Int)=0)=>true) ((↑(List.length (((a0,a1,a2,(a3,a4,()),((a5,a6,()),a7,a8,a9,()),(a10,a11,a12,a13,a14,a15,()),(a16,a17,a18,()),()),()),()).1.1.2.2.2.2.2.1.2.2.2.2.2.1):Int).instDecidableEq 0)))))) then a0 == 1&&bif !(a16 == 0&&(a17 == 0&&Decidable.rec (fun (h:¬(↑(List.length (((a0,a1,a2,(a3,a4,()),((a5,a6,()),a7,a8,a9,()),(a10,a11,a12,a13,a14,a15,()),(a16,a17,a18,()),()),()),()).1.1.2.2.2.2.2.2.1.2.2.1):Int)=0)=>false) (fun (h:(↑(List.length (((a0,a1,a2,(a3,a4,()),((a5,a6,()),a7,a8,a9,()),(a10,a11,a12,a13,a14,a15,()),(a16,a17,a18,()),()),()),()).1.1.2.2.2.2.2.2.1.2.2.1):Int)=0)=>true) ((↑(List.length (((a0,a1,a2,(a3,a4,()),((a5,a6,()),a7,a8,a9,()),(a10,a11,a12,a13,a14,a15,()),(a16,a17,a18,()),()),()),()).1.1.2.2.2.2.2.2.1.2.2.1):Int).instDecidableEq 0))) then Decidable.rec (fun (h:¬(((a0,a1,a2,(a3,a4,()),((a5,a6,()),a7,a8,a9,()),(a10,a11,a12,a13,a14,a15,()),(a16,a17,a18,()),()),()),()).1.1.1=2)=>false) (fun (h:(((a0,a1,a2,(a3,a4,()),((a5,a6,()),a7,a8,a9,()),(a10,a11,a12,a13,a14,a15,()),(a16,a17,a18,()),()),()),()).1.1.1=2)=>true) (Int.instDecidableEq (((a0,a1,a2,(a3,a4,()),((a5,a6,()),a7,a8,a9,()),(a10,a11,a12,a13,a14,a15,()),(a16,a17,a18,()),()),()),()).1.1.1 2) else true else bif !(a16 == 0&&(a17 == 0&&Decidable.rec (fun (h:¬(↑(List.length (((a0,a1,a2,(a3,a4,()),((a5,a6,()),a7,a8,a9,()),(a10,a11,a12,a13,a14,a15,()),(a16,a17,a18,()),()),()),()).1.1.2.2.2.2.2.2.1.2.2.1):Int)=0)=>false) (fun (h:(↑(List.length (((a0,a1,a2,(a3,a4,()),((a5,a6,()),a7,a8,a9,()),(a10,a11,a12,a13,a14,a15,()),(a16,a17,a18,()),()),()),()).1.1.2.2.2.2.2.2.1.2.2.1):Int)=0)=>true) ((↑(List.length (((a0,a1,a2,(a3,a4,()),((a5,a6,()),a7,a8,a9,()),(a10,a11,a12,a13,a14,a15,()),(a16,a17,a18,()),()),()),()).1.1.2.2.2.2.2.2.1.2.2.1):Int).instDecidableEq 0))) then Decidable.rec (fun (h:¬(((a0,a1,a2,(a3,a4,()),((a5,a6,()),a7,a8,a9,()),(a10,a11,a12,a13,a14,a15,()),(a16,a17,a18,()),()),()),()).1.1.1=2)=>false) (fun (h:(((a0,a1,a2,(a3,a4,()),((a5,a6,()),a7,a8,a9,()),(a10,a11,a12,a13,a14,a15,()),(a16,a17,a18,()),()),()),()).1.1.1=2)=>true) (Int.instDecidableEq (((a0,a1,a2,(a3,a4,()),((a5,a6,()),a7,a8,a9,()),(a10,a11,a12,a13,a14,a15,()),(a16,a17,a18,()),()),()),()).1.1.1 2) else true,()),())
theorem Sb (a0 a1 a2:Int)(a3:Bool)(a4:LI)(a5:Bool)(a6:LI)(a7 a8:Int)(a9:List ar.den)(a10 a11 a12 a13 a14:Int)(a15:List ai.den)(a16 a17:Int)(a18:List ah.den):Io.run tt WE drG Iw kM Tryz.f42 (((a0,a1,a2,(a3,a4,()),((a5,a6,()),a7,a8,a9,()),(a10,a11,a12,a13,a14,a15,()),(a16,a17,a18,()),()),()),())=AT a0 a1 a2 a3 a4 a5 a6 a7 a8 a9 a10 a11 a12 a13 a14 a15 a16 a17 a18:=by kernel_rfl
theorem Xe:HcOk prog 42 (ae kM CR):=by
 refine Ip (n:=400) hm (cs:=HU) HcsOk.nil (lp:=Iw) (fn:=Tryz.f42) (by kernel_rfl) (by kernel_rfl) (by kernel_rfl) kM (.done (by kernel_rfl)) CR ?_
 rintro ⟨⟨⟨(k:Int),(v:Int),(co:Int),⟨(cz:Bool),(cs:LI),⟨⟩⟩,⟨⟨(nz:Bool),(ns:LI),⟨⟩⟩,(ak:Int),(wt:Int),(ts:List ar.den),⟨⟩⟩,⟨(fr:Int),(fw:Int),(fm:Int),(fx:Int),(fl:Int),(ft:List ai.den),⟨⟩⟩,⟨(lr:Int),(ll:Int),(lt:List ah.den),⟨⟩⟩,⟨⟩⟩,⟨⟩⟩,⟨⟩⟩ out hw ho
 cases ho
 refine (Sb k v co cz cs nz ns ak wt ts fr fw fm fx fl ft lr ll lt).trans ?_
 have e:AT k v co cz cs nz ns ak wt ts fr fw fm fx fl ft lr ll lt=oR ((bif !(GJ ((nz,(ns,())),(ak,(wt,(ts,()))))) then ((k == 0)&&(bif !(Fv (fr,(fw,(fm,(fx,(fl,(ft,()))))))) then ((k == 1)&&(bif !(An (lr,(ll,(lt,())))) then (k == 2) else true)) else (bif !(An (lr,(ll,(lt,())))) then (k == 2) else true)))
   else (bif !(Fv (fr,(fw,(fm,(fx,(fl,(ft,()))))))) then ((k == 1)&&(bif !(An (lr,(ll,(lt,())))) then (k == 2) else true)) else (bif !(An (lr,(ll,(lt,())))) then (k == 2) else true)),()),()):=by kernel_rfl
 rw[e]
 show _=oR ((rH (k,(v,(co,((cz,(cs,())),(((nz,(ns,())),(ak,(wt,(ts,())))),((fr,(fw,(fm,(fx,(fl,(ft,())))))),((lr,(ll,(lt,()))),()))))))),()),())
 unfold rH
 show _=oR (((GJ ((nz,(ns,())),(ak,(wt,(ts,())))) || (k == 0))&&((Fv (fr,(fw,(fm,(fx,(fl,(ft,())))))) || (k == 1))&&(An (lr,(ll,(lt,()))) || (k == 2))),()),())
 cases GJ ((nz,(ns,())),(ak,(wt,(ts,())))) <;> cases Fv (fr,(fw,(fm,(fx,(fl,(ft,())))))) <;> cases An (lr,(ll,(lt,()))) <;> simp
def ag0 (c:da.den):dn.den:=(c.1,(c.2.1,(c.2.2.1,((([]:List az.den),(0,())),((0,(([]:List aj.den),())),((0,(([]:List ag.den),())),()))))))
abbrev nc:Io:=⟨[.dat da true false],[],[],[.dat dn true false],none⟩
def JQ (d:nc.In):Tr nc.Res:=.ret (.ret ((ag0 d.1.1,()),()))
abbrev M3:List (Nat×Hc):=[]
def aaK:Hd:=bM M3
def Ok:Lp:=bB []
def QK (a0 a1 a2:Int)(a3:Bool)(a4:LI)(a5:Bool)(a6:LI)(a7 a8:Int)(a9:List ar.den)(a10 a11 a12 a13 a14:Int)(a15:List ai.den)(a16 a17:Int)(a18:List ah.den):Option nc.Res:=oR (((a0,a1,a2,([],0,()),(0,[],()),(0,[],()),()),()),())
theorem XO (a0 a1 a2:Int)(a3:Bool)(a4:LI)(a5:Bool)(a6:LI)(a7 a8:Int)(a9:List ar.den)(a10 a11 a12 a13 a14:Int)(a15:List ai.den)(a16 a17:Int)(a18:List ah.den):Io.run tt aaK dr Ok nc Tryz.f13 (((a0,a1,a2,(a3,a4,()),((a5,a6,()),a7,a8,a9,()),(a10,a11,a12,a13,a14,a15,()),(a16,a17,a18,()),()),()),())=QK a0 a1 a2 a3 a4 a5 a6 a7 a8 a9 a10 a11 a12 a13 a14 a15 a16 a17 a18:=by kernel_rfl
theorem ab0:HcOk prog 13 (ae nc JQ):=by
 refine cg (cs:=M3) HcsOk.nil (lp:=Ok) (fn:=Tryz.f13) nc (.done (by kernel_rfl)) JQ ?_
 rintro ⟨⟨⟨(k:Int),(v:Int),(co:Int),⟨(cz:Bool),(cs:LI),⟨⟩⟩,⟨⟨(nz:Bool),(ns:LI),⟨⟩⟩,(ak:Int),(wt:Int),(ts:List ar.den),⟨⟩⟩,⟨(fr:Int),(fw:Int),(fm:Int),(fx:Int),(fl:Int),(ft:List ai.den),⟨⟩⟩,⟨(lr:Int),(ll:Int),(lt:List ah.den),⟨⟩⟩,⟨⟩⟩,⟨⟩⟩,⟨⟩⟩ out hw ho
 cases ho
 exact XO k v co cz cs nz ns ak wt ts fr fw fm fx fl ft lr ll lt
theorem uF {b:LI}{v:Int}{n:Nat}(h:b.length+n≤131072):aC b 131072 v n=(0,b++aB v n):=by unfold aC;rw[if_neg (by omega)]
theorem yi {b y:LI}(h:b.length+y.length≤131072):bI b 131072 [y]=(0,b++y):=by
 unfold bI
 rw[if_neg (by simp only[be];omega)]
 simp[nV]
theorem lQ {b:LI}(h:b.length≤131072):bx b 131072=true:=by
 unfold bx
 simp;omega
def eY (n:fv.den):LI:=if n.1=true then aB (-1) 2 else aB n.2.1.length 2++n.2.1
def o3 (k v co:Int)(n:fv.den):LI:=aB k 2++(aB v 2++(aB co 4++eY n))
theorem QO (k v co:Int)(z:Bool)(cs y:LI)(hy:y.length≤130048)(hc:cs.length≤255):
  (bif bx (aC [] aw k 2).2 aw then (bif bx (aC (aC [] aw k 2).2 aw v 2).2 aw then (bif z then (bif bx (aC (aC (aC [] aw k 2).2 aw v 2).2 aw co 4).2 aw then (bif bx (aC (aC (aC (aC [] aw k 2).2 aw v 2).2 aw co 4).2 aw (-1) 2).2 aw&&decide (be [y]≤4294960000) then (bif decide ((bI (aC (aC (aC (aC [] aw k 2).2 aw v 2).2 aw co 4).2 aw (-1) 2).2 aw [y]).2.length≤4294967296) then oR (((bI (aC (aC (aC (aC [] aw k 2).2 aw v 2).2 aw co 4).2 aw (-1) 2).2 aw [y]).2,(0,())),()) else none) else none) else none) else (bif bx (aC (aC (aC [] aw k 2).2 aw v 2).2 aw co 4).2 aw then (bif bx (aC (aC (aC (aC [] aw k 2).2 aw v 2).2 aw co 4).2 aw (i16.wrap (cs.length:Int)) 2).2 aw&&decide (be [cs]≤4294960000) then (bif bx (bI (aC (aC (aC (aC [] aw k 2).2 aw v 2).2 aw co 4).2 aw (i16.wrap (cs.length:Int)) 2).2 aw [cs]).2 aw&&decide (be [y]≤4294960000) then (bif decide ((bI (bI (aC (aC (aC (aC [] aw k 2).2 aw v 2).2 aw co 4).2 aw (i16.wrap (cs.length:Int)) 2).2 aw [cs]).2 aw [y]).2.length≤4294967296) then oR (((bI (bI (aC (aC (aC (aC [] aw k 2).2 aw v 2).2 aw co 4).2 aw (i16.wrap (cs.length:Int)) 2).2 aw [cs]).2 aw [y]).2,(0,())),()) else none) else none) else none) else none)) else none) else none:Option (Out ((LI×(Int×Unit))×Unit) Empty))=oR ((o3 k v co (z,(cs,()))++y,(0,())),()):=by
 have hM:aw=131072:=by decide
 rw[hM]
 have e1:=uF (b:=[]) (v:=k) (n:=2) (by simp)
 have l1:(([]:LI)++aB k 2).length=2:=by simp[bj]
 have e2:=uF (b:=[]++aB k 2) (v:=v) (n:=2) (by omega)
 have l2:(([]++aB k 2)++aB v 2).length=4:=by rw[zH,l1,bj]
 have e3:=uF (b:=([]++aB k 2)++aB v 2) (v:=co) (n:=4) (by omega)
 have l3:((([]++aB k 2)++aB v 2)++aB co 4).length=8:=by rw[zH,l2,bj]
 simp only[e1,e2,e3]
 rw[aa (lQ (by omega)),aa (lQ (by omega))]
 unfold o3 eY
 cases z with
 |true=>
  have e4:=uF (b:=(([]++aB k 2)++aB v 2)++aB co 4) (v:=-1) (n:=2) (by omega)
  have l4:(((([]++aB k 2)++aB v 2)++aB co 4)++aB (-1) 2).length=10:=by rw[zH,l3,bj]
  have e5:=yi (b:=((([]++aB k 2)++aB v 2)++aB co 4)++aB (-1) 2) (y:=y) (by omega)
  simp only[e4,e5,cond_true]
  refine (aa (lQ (by omega)) _ _).trans ?_
  refine (aa (Bool.and_eq_true_iff.2 ⟨lQ (by omega),decide_eq_true (show y.length+0≤4294960000 by omega)⟩) _ _).trans ?_
  refine bT (decide_eq_true (by rw[zH,l4];omega)) ?_
  simp
 |false=>
  have hw:i16.wrap (cs.length:Int)=cs.length:=dY (by simp[eD,IntKind.min,IntKind.max,IntKind.signed,IntKind.bits];omega)
  rw[hw]
  have e4:=uF (b:=(([]++aB k 2)++aB v 2)++aB co 4) (v:=cs.length) (n:=2) (by omega)
  have l4:(((([]++aB k 2)++aB v 2)++aB co 4)++aB cs.length 2).length=10:=by rw[zH,l3,bj]
  have e5:=yi (b:=((([]++aB k 2)++aB v 2)++aB co 4)++aB cs.length 2) (y:=cs) (by omega)
  have l5:((((([]++aB k 2)++aB v 2)++aB co 4)++aB cs.length 2)++cs).length=10+cs.length:=by rw[zH,l4]
  have e6:=yi (b:=(((([]++aB k 2)++aB v 2)++aB co 4)++aB cs.length 2)++cs) (y:=y) (by omega)
  simp only[e4,e5,e6,cond_false]
  refine (aa (lQ (by omega)) _ _).trans ?_
  refine (aa (Bool.and_eq_true_iff.2 ⟨lQ (by omega),decide_eq_true (show cs.length+0≤4294960000 by omega)⟩) _ _).trans ?_
  refine (aa (Bool.and_eq_true_iff.2 ⟨lQ (by omega),decide_eq_true (show y.length+0≤4294960000 by omega)⟩) _ _).trans ?_
  refine bT (decide_eq_true (by rw[zH,l5];omega)) ?_
  simp
def o1 (c:da.den):LI×Int:=if c.1=0 then cZ c.2.1 c.2.2.2.2.1 else if c.1=1 then e7 c.2.1 c.2.2.2.2.2.1 else eI c.2.1 c.2.2.2.2.2.2.1
def dN (c:da.den):LI×Int:=if fE c.1 c.2.1≠0 then ([],fE c.1 c.2.1) else if lN c.2.2.2.1≠0 then ([],lN c.2.2.2.1) else if rH c=false then ([],7) else
 if (o1 c).2≠0 then ([],(o1 c).2) else (o3 c.1 c.2.1 c.2.2.1 c.2.2.2.1++(o1 c).1,0)
abbrev sn:Io:=⟨[.dat da true false],[],[],[dO,dI],none⟩
def TC (d:sn.In):Tr sn.Res:=.ite (cH d.1.1.2.2.2.2.1.2.2.2.1) (.ret (.ret (((dN d.1.1).1,((dN d.1.1).2,())),()))) .no
abbrev ZT:List (Nat×Hc):=[(40,ae ki yH),(41,ae j1 wE),(42,ae kM CR),(43,ae Cz Zp),(44,ae xA TE),(45,ae xC TG),(46,ae qM Mn),(47,ae su TS),(48,ae qL Mm),(49,ae pd GX),(50,ae ko wT)]
def aiA:Hd:=bM ZT
def abq:Lp:=bB []
def Mu (a0 a1 a2:Int)(a3:Bool)(a4:LI)(a5:Bool)(a6:LI)(a7 a8:Int)(a9:List ar.den)(a10 a11 a12 a13 a14:Int)(a15:List ai.den)(a16 a17:Int)(a18:List ah.den):Option sn.Res:=bif fE a0 a1 != 0 then oR (([],fE a0 a1,()),()) else bif lN (a3,a4,()) != 0 then oR (([],lN (a3,a4,()),()),()) else bif !rH (a0,a1,a2,(a3,a4,()),((a5,a6,()),a7,a8,a9,()),(a10,a11,a12,a13,a14,a15,()),(a16,a17,a18,()),()) then oR (([],7,()),()) else bif a0 == 0 then bif cH a9 then bif (cZ (i64.wrap a1) ((a5,a6,()),a7,a8,a9,())).2 != 0 then oR (([],(cZ (i64.wrap a1) ((a5,a6,()),a7,a8,a9,())).2,()),()) else bif bx (aC [] aw a0 2).2 aw then bif bx (aC (aC [] aw a0 2).2 aw a1 2).2 aw then bif a3 then bif bx (aC (aC (aC [] aw a0 2).2 aw a1 2).2 aw a2 4).2 aw then bif bx (aC (aC (aC (aC [] aw a0 2).2 aw a1 2).2 aw a2 4).2 aw (-1) 2).2 aw&&decide (be [(cZ (i64.wrap a1) ((a5,a6,()),a7,a8,a9,())).1]≤4294960000) then bif decide ((bI (aC (aC (aC (aC [] aw a0 2).2 aw a1 2).2 aw a2 4).2 aw (-1) 2).2 aw [(cZ (i64.wrap a1) ((a5,a6,()),a7,a8,a9,())).1]).2.length≤4294967296) then oR (((bI (aC (aC (aC (aC [] aw a0 2).2 aw a1 2).2 aw a2 4).2 aw (-1) 2).2 aw [(cZ (i64.wrap a1) ((a5,a6,()),a7,a8,a9,())).1]).2,0,()),()) else none else none else none else bif bx (aC (aC (aC [] aw a0 2).2 aw a1 2).2 aw a2 4).2 aw then bif bx (aC (aC (aC (aC [] aw a0 2).2 aw a1 2).2 aw a2 4).2 aw (i16.wrap (↑a4.length:Int)) 2).2 aw&&decide (be [a4]≤4294960000) then bif bx (bI (aC (aC (aC (aC [] aw a0 2).2 aw a1 2).2 aw a2 4).2 aw (i16.wrap (↑a4.length:Int)) 2).2 aw [a4]).2 aw&&decide (be [(cZ (i64.wrap a1) ((a5,a6,()),a7,a8,a9,())).1]≤4294960000) then bif decide ((bI (bI (aC (aC (aC (aC [] aw a0 2).2 aw a1 2).2 aw a2 4).2 aw (i16.wrap (↑a4.length:Int)) 2).2 aw [a4]).2 aw [(cZ (i64.wrap a1) ((a5,a6,()),a7,a8,a9,())).1]).2.length≤4294967296) then oR (((bI (bI (aC (aC (aC (aC [] aw a0 2).2 aw a1 2).2 aw a2 4).2 aw (i16.wrap (↑a4.length:Int)) 2).2 aw [a4]).2 aw [(cZ (i64.wrap a1) ((a5,a6,()),a7,a8,a9,())).1]).2,0,()),()) else none else none else none else none else none else none else none else bif a0 == 1 then bif (e7 (i64.wrap a1) (a10,a11,a12,a13,a14,a15,())).2 != 0 then oR (([],(e7 (i64.wrap a1) (a10,a11,a12,a13,a14,a15,())).2,()),()) else bif bx (aC [] aw a0 2).2 aw then bif bx (aC (aC [] aw a0 2).2 aw a1 2).2 aw then bif a3 then bif bx (aC (aC (aC [] aw a0 2).2 aw a1 2).2 aw a2 4).2 aw then bif bx (aC (aC (aC (aC [] aw a0 2).2 aw a1 2).2 aw a2 4).2 aw (-1) 2).2 aw&&decide (be [(e7 (i64.wrap a1) (a10,a11,a12,a13,a14,a15,())).1]≤4294960000) then bif decide ((bI (aC (aC (aC (aC [] aw a0 2).2 aw a1 2).2 aw a2 4).2 aw (-1) 2).2 aw [(e7 (i64.wrap a1) (a10,a11,a12,a13,a14,a15,())).1]).2.length≤4294967296) then oR (((bI (aC (aC (aC (aC [] aw a0 2).2 aw a1 2).2 aw a2 4).2 aw (-1) 2).2 aw [(e7 (i64.wrap a1) (a10,a11,a12,a13,a14,a15,())).1]).2,0,()),()) else none else none else none else bif bx (aC (aC (aC [] aw a0 2).2 aw a1 2).2 aw a2 4).2 aw then bif bx (aC (aC (aC (aC [] aw a0 2).2 aw a1 2).2 aw a2 4).2 aw (i16.wrap (↑a4.length:Int)) 2).2 aw&&decide (be [a4]≤4294960000) then bif bx (bI (aC (aC (aC (aC [] aw a0 2).2 aw a1 2).2 aw a2 4).2 aw (i16.wrap (↑a4.length:Int)) 2).2 aw [a4]).2 aw&&decide (be [(e7 (i64.wrap a1) (a10,a11,a12,a13,a14,a15,())).1]≤4294960000) then bif decide ((bI (bI (aC (aC (aC (aC [] aw a0 2).2 aw a1 2).2 aw a2 4).2 aw (i16.wrap (↑a4.length:Int)) 2).2 aw [a4]).2 aw [(e7 (i64.wrap a1) (a10,a11,a12,a13,a14,a15,())).1]).2.length≤4294967296) then oR (((bI (bI (aC (aC (aC (aC [] aw a0 2).2 aw a1 2).2 aw a2 4).2 aw (i16.wrap (↑a4.length:Int)) 2).2 aw [a4]).2 aw [(e7 (i64.wrap a1) (a10,a11,a12,a13,a14,a15,())).1]).2,0,()),()) else none else none else none else none else none else none else bif a0 == 2 then bif (eI (i64.wrap a1) (a16,a17,a18,())).2 != 0 then oR (([],(eI (i64.wrap a1) (a16,a17,a18,())).2,()),()) else bif bx (aC [] aw a0 2).2 aw then bif bx (aC (aC [] aw a0 2).2 aw a1 2).2 aw then bif a3 then bif bx (aC (aC (aC [] aw a0 2).2 aw a1 2).2 aw a2 4).2 aw then bif bx (aC (aC (aC (aC [] aw a0 2).2 aw a1 2).2 aw a2 4).2 aw (-1) 2).2 aw&&decide (be [(eI (i64.wrap a1) (a16,a17,a18,())).1]≤4294960000) then bif decide ((bI (aC (aC (aC (aC [] aw a0 2).2 aw a1 2).2 aw a2 4).2 aw (-1) 2).2 aw [(eI (i64.wrap a1) (a16,a17,a18,())).1]).2.length≤4294967296) then oR (((bI (aC (aC (aC (aC [] aw a0 2).2 aw a1 2).2 aw a2 4).2 aw (-1) 2).2 aw [(eI (i64.wrap a1) (a16,a17,a18,())).1]).2,0,()),()) else none else none else none else bif bx (aC (aC (aC [] aw a0 2).2 aw a1 2).2 aw a2 4).2 aw then bif bx (aC (aC (aC (aC [] aw a0 2).2 aw a1 2).2 aw a2 4).2 aw (i16.wrap (↑a4.length:Int)) 2).2 aw&&decide (be [a4]≤4294960000) then bif bx (bI (aC (aC (aC (aC [] aw a0 2).2 aw a1 2).2 aw a2 4).2 aw (i16.wrap (↑a4.length:Int)) 2).2 aw [a4]).2 aw&&decide (be [(eI (i64.wrap a1) (a16,a17,a18,())).1]≤4294960000) then bif decide ((bI (bI (aC (aC (aC (aC [] aw a0 2).2 aw a1 2).2 aw a2 4).2 aw (i16.wrap (↑a4.length:Int)) 2).2 aw [a4]).2 aw [(eI (i64.wrap a1) (a16,a17,a18,())).1]).2.length≤4294967296) then oR (((bI (bI (aC (aC (aC (aC [] aw a0 2).2 aw a1 2).2 aw a2 4).2 aw (i16.wrap (↑a4.length:Int)) 2).2 aw [a4]).2 aw [(eI (i64.wrap a1) (a16,a17,a18,())).1]).2,0,()),()) else none else none else none else none else none else none else bif bx (aC [] aw a0 2).2 aw then bif bx (aC (aC [] aw a0 2).2 aw a1 2).2 aw then bif a3 then bif bx (aC (aC (aC [] aw a0 2).2 aw a1 2).2 aw a2 4).2 aw then bif bx (aC (aC (aC (aC [] aw a0 2).2 aw a1 2).2 aw a2 4).2 aw (-1) 2).2 aw&&decide (be [[]]≤4294960000) then bif decide ((bI (aC (aC (aC (aC [] aw a0 2).2 aw a1 2).2 aw a2 4).2 aw (-1) 2).2 aw [[]]).2.length≤4294967296) then oR (((bI (aC (aC (aC (aC [] aw a0 2).2 aw a1 2).2 aw a2 4).2 aw (-1) 2).2 aw [[]]).2,0,()),()) else none else none else none else bif bx (aC (aC (aC [] aw a0 2).2 aw a1 2).2 aw a2 4).2 aw then bif bx (aC (aC (aC (aC [] aw a0 2).2 aw a1 2).2 aw a2 4).2 aw (i16.wrap (↑a4.length:Int)) 2).2 aw&&decide (be [a4]≤4294960000) then bif bx (bI (aC (aC (aC (aC [] aw a0 2).2 aw a1 2).2 aw a2 4).2 aw (i16.wrap (↑a4.length:Int)) 2).2 aw [a4]).2 aw&&decide (be [[]]≤4294960000) then bif decide ((bI (bI (aC (aC (aC (aC [] aw a0 2).2 aw a1 2).2 aw a2 4).2 aw (i16.wrap (↑a4.length:Int)) 2).2 aw [a4]).2 aw [[]]).2.length≤4294967296) then oR (((bI (bI (aC (aC (aC (aC [] aw a0 2).2 aw a1 2).2 aw a2 4).2 aw (i16.wrap (↑a4.length:Int)) 2).2 aw [a4]).2 aw [[]]).2,0,()),()) else none else none else none else none else none else none
theorem agj (a0 a1 a2:Int)(a3:Bool)(a4:LI)(a5:Bool)(a6:LI)(a7 a8:Int)(a9:List ar.den)(a10 a11 a12 a13 a14:Int)(a15:List ai.den)(a16 a17:Int)(a18:List ah.den):Io.run tt aiA dr abq sn Tryz.f11 (((a0,a1,a2,(a3,a4,()),((a5,a6,()),a7,a8,a9,()),(a10,a11,a12,a13,a14,a15,()),(a16,a17,a18,()),()),()),())=Mu a0 a1 a2 a3 a4 a5 a6 a7 a8 a9 a10 a11 a12 a13 a14 a15 a16 a17 a18:=by kernel_rfl
theorem ab2:HcOk prog 11 (ae sn TC):=by
 refine cg (cs:=ZT) (.cons CG (.cons IY (.cons Xe (.cons afQ (.cons ab9 (.cons acb (.cons RU (.cons acB (.cons RT (.cons LK (.cons E0 .nil))))))))))) (lp:=abq) (fn:=Tryz.f11) sn (.done (by kernel_rfl)) TC ?_
 rintro ⟨⟨⟨(k:Int),(v:Int),(co:Int),⟨(cz:Bool),(cs:LI),⟨⟩⟩,⟨⟨(nz:Bool),(ns:LI),⟨⟩⟩,(ak:Int),(wt:Int),(ts:List ar.den),⟨⟩⟩,⟨(fr:Int),(fw:Int),(fm:Int),(fx:Int),(fl:Int),(ft:List ai.den),⟨⟩⟩,⟨(lr:Int),(ll:Int),(lt:List ah.den),⟨⟩⟩,⟨⟩⟩,⟨⟩⟩,⟨⟩⟩ out hw ho
 obtain ⟨hg,ho⟩:=Tr.guard ho
 have hg:cH ts=true:=hg
 cases ho
 refine (agj k v co cz cs nz ns ak wt ts fr fw fm fx fl ft lr ll lt).trans ?_
 unfold Mu
 have hv:i64.wrap v=v:=gJ hw.1.1.2.1
 rw[hv]
 show _=oR (((dN (k,(v,(co,((cz,(cs,())),(((nz,(ns,())),(ak,(wt,(ts,())))),((fr,(fw,(fm,(fx,(fl,(ft,())))))),((lr,(ll,(lt,()))),())))))))).1,((dN (k,(v,(co,((cz,(cs,())),(((nz,(ns,())),(ak,(wt,(ts,())))),((fr,(fw,(fm,(fx,(fl,(ft,())))))),((lr,(ll,(lt,()))),())))))))).2,())),())
 unfold dN o1
 dsimp only
 generalize rH (k,(v,(co,((cz,(cs,())),(((nz,(ns,())),(ak,(wt,(ts,())))),((fr,(fw,(fm,(fx,(fl,(ft,())))))),((lr,(ll,(lt,()))),())))))))=ot
 by_cases h1:fE k v=0
 ·rw[af (by simpa using h1),if_neg (not_not_intro h1)]
  by_cases h2:lN (cz,(cs,()))=0
  ·rw[af (by simpa using h2),if_neg (not_not_intro h2)]
   cases ot with
   |false=>rw[Bool.not_false,cond_true,if_pos rfl]
   |true=>
    rw[Bool.not_true,cond_false,if_neg (by decide)]
    have hcs:cs.length≤255:=by
     unfold lN at h2
     split at h2
     ·cases h2
     ·split at h2
      ·cases h2
      ·split at h2
       ·cases h2
       ·rename_i h;exact Nat.le_of_not_lt h
    have hk:k=0∨k=1∨k=2:=by
     unfold fE at h1
     split at h1
     ·cases h1
     ·omega
    have lq:(cZ v ((nz,(ns,())),(ak,(wt,(ts,()))))).1.length≤130048:=by unfold cZ;exact ej _ _ _ _
    have lf:(e7 v (fr,(fw,(fm,(fx,(fl,(ft,()))))))).1.length≤130048:=by unfold e7;exact ej _ _ _ _
    have lo:(eI v (lr,(ll,(lt,())))).1.length≤130048:=by unfold eI;exact ej _ _ _ _
    by_cases k0:k=0
    ·rw[aa (by simpa using k0),if_pos k0,aa hg]
     by_cases h4:(cZ v ((nz,(ns,())),(ak,(wt,(ts,()))))).2=0
     ·rw[af (by simpa using h4),if_neg (not_not_intro h4)]
      exact QO k v co cz cs _ lq hcs
     ·rw[aa (by simpa using h4),if_pos h4]
    rw[af (by simpa using k0),if_neg k0]
    by_cases k1:k=1
    ·rw[aa (by simpa using k1),if_pos k1]
     by_cases h4:(e7 v (fr,(fw,(fm,(fx,(fl,(ft,()))))))).2=0
     ·rw[af (by simpa using h4),if_neg (not_not_intro h4)]
      exact QO k v co cz cs _ lf hcs
     ·rw[aa (by simpa using h4),if_pos h4]
    rw[af (by simpa using k1),if_neg k1]
    have k2:k=2:=by omega
    rw[aa (by simpa using k2)]
    by_cases h4:(eI v (lr,(ll,(lt,())))).2=0
    ·rw[af (by simpa using h4),if_neg (not_not_intro h4)]
     exact QO k v co cz cs _ lo hcs
    ·rw[aa (by simpa using h4),if_pos h4]
  ·rw[aa (by simpa using h2),if_pos h2]
 ·rw[aa (by simpa using h1),if_pos h1]
def sU (m:ij.den):Bool:=(m.2.1 == 0)&&((m.1.length:Int) == 0)
def sR (m:bW.den):Bool:=(m.1 == 0)&&((m.2.1.length:Int) == 0)
def sT (m:bY.den):Bool:=(m.1 == 0)&&((m.2.1.length:Int) == 0)
def pi (c:dn.den):Bool:=((c.1 == 0) || sU c.2.2.2.1)&&(((c.1 == 1) || sR c.2.2.2.2.1)&&((c.1 == 2) || sT c.2.2.2.2.2.1))
theorem Kr (co:Int)(y:LI)(hy:y.length≤130048):
  (bif bx (aC [] aw co 4).2 aw&&decide (be [y]≤4294960000) then (bif decide ((bI (aC [] aw co 4).2 aw [y]).2.length≤4294967296) then oR (((bI (aC [] aw co 4).2 aw [y]).2,(0,())),()) else none) else none:Option (Out ((LI×(Int×Unit))×Unit) Empty))=oR ((aB co 4++y,(0,())),()):=by
 have hM:aw=131072:=by decide
 rw[hM]
 have e1:=uF (b:=[]) (v:=co) (n:=4) (by simp)
 have l1:(([]:LI)++aB co 4).length=4:=by simp[bj]
 have e2:=yi (b:=[]++aB co 4) (y:=y) (by omega)
 simp only[e1,e2]
 refine (aa (Bool.and_eq_true_iff.2 ⟨lQ (by omega),decide_eq_true (show y.length+0≤4294960000 by omega)⟩) _ _).trans ?_
 refine bT (decide_eq_true (by rw[zH,l1];omega)) ?_
 rfl
theorem ZK (k v co:Int)(pt:List az.den)(ph fh lh:Int)(ft:List aj.den)(lt:List ag.den):(bif !!(bif !(k == 0) then sU (pt,(ph,())) else true) then (bif !!(bif !(k == 1) then sR (fh,(ft,())) else true) then !(bif !(k == 2) then sT (lh,(lt,())) else true) else true) else true) = !(pi (k,(v,(co,((pt,(ph,())),((fh,(ft,())),((lh,(lt,())),()))))))):=by
 unfold pi
 show _ = !(((k == 0) || sU (pt,(ph,())))&&(((k == 1) || sR (fh,(ft,())))&&((k == 2) || sT (lh,(lt,())))))
 cases sU (pt,(ph,())) <;> cases sR (fh,(ft,())) <;> cases sT (lh,(lt,())) <;> cases (k == 0) <;> cases (k == 1) <;> cases (k == 2) <;> rfl
def o4 (c:dn.den):LI×Int:=if c.1=0 then dx c.2.1 c.2.2.2.1 else if c.1=1 then f7 c.2.1 c.2.2.2.2.1 else fF c.2.1 c.2.2.2.2.2.1
def cp (c:dn.den):LI×Int:=if fE c.1 c.2.1≠0 then ([],fE c.1 c.2.1) else if pi c=false then ([],7) else
 if (o4 c).2≠0 then ([],(o4 c).2) else (aB c.2.2.1 4++(o4 c).1,0)
abbrev oA:Io:=⟨[.dat dn true false],[],[],[dO,dI],none⟩
def JS (d:oA.In):Tr oA.Res:=.ite (dD d.1.1.2.2.2.2.1.2.1) (.ret (.ret (((cp d.1.1).1,((cp d.1.1).2,())),()))) .no
abbrev T9:List (Nat×Hc):=[(40,ae ki yH),(58,ae CA Zq),(59,ae xB TF),(60,ae xD TH),(46,ae qM Mn),(48,ae qL Mm),(49,ae pd GX),(50,ae ko wT)]
def aeT:Hd:=bM T9
def U8:Lp:=bB []
def Ha (a0 a1 a2:Int)(a3:List az.den)(a4 a5:Int)(a6:List aj.den)(a7:Int)(a8:List ag.den):Option oA.Res:=bif fE a0 a1 != 0 then oR (([],fE a0 a1,()),()) else bif bif !!bif !a0 == 0 then a4 == 0&&Decidable.rec (fun (h:¬(↑(List.length (((a0,a1,a2,(a3,a4,()),(a5,a6,()),(a7,a8,()),()),()),()).1.1.2.2.2.1.1):Int)=0)=>false) (fun (h:(↑(List.length (((a0,a1,a2,(a3,a4,()),(a5,a6,()),(a7,a8,()),()),()),()).1.1.2.2.2.1.1):Int)=0)=>true) ((↑(List.length (((a0,a1,a2,(a3,a4,()),(a5,a6,()),(a7,a8,()),()),()),()).1.1.2.2.2.1.1):Int).instDecidableEq 0) else true then bif !!bif !a0 == 1 then a5 == 0&&Decidable.rec (fun (h:¬(↑(List.length (((a0,a1,a2,(a3,a4,()),(a5,a6,()),(a7,a8,()),()),()),()).1.1.2.2.2.2.1.2.1):Int)=0)=>false) (fun (h:(↑(List.length (((a0,a1,a2,(a3,a4,()),(a5,a6,()),(a7,a8,()),()),()),()).1.1.2.2.2.2.1.2.1):Int)=0)=>true) ((↑(List.length (((a0,a1,a2,(a3,a4,()),(a5,a6,()),(a7,a8,()),()),()),()).1.1.2.2.2.2.1.2.1):Int).instDecidableEq 0) else true then !bif !a0 == 2 then a7 == 0&&Decidable.rec (fun (h:¬(↑(List.length (((a0,a1,a2,(a3,a4,()),(a5,a6,()),(a7,a8,()),()),()),()).1.1.2.2.2.2.2.1.2.1):Int)=0)=>false) (fun (h:(↑(List.length (((a0,a1,a2,(a3,a4,()),(a5,a6,()),(a7,a8,()),()),()),()).1.1.2.2.2.2.2.1.2.1):Int)=0)=>true) ((↑(List.length (((a0,a1,a2,(a3,a4,()),(a5,a6,()),(a7,a8,()),()),()),()).1.1.2.2.2.2.2.1.2.1):Int).instDecidableEq 0) else true else true else true then oR (([],7,()),()) else bif a0 == 0 then bif (dx (i64.wrap a1) (a3,a4,())).2 != 0 then oR (([],(dx (i64.wrap a1) (a3,a4,())).2,()),()) else bif bx (aC [] aw a2 4).2 aw&&decide (be [(dx (i64.wrap a1) (a3,a4,())).1]≤4294960000) then bif decide ((bI (aC [] aw a2 4).2 aw [(dx (i64.wrap a1) (a3,a4,())).1]).2.length≤4294967296) then oR (((bI (aC [] aw a2 4).2 aw [(dx (i64.wrap a1) (a3,a4,())).1]).2,0,()),()) else none else none else bif a0 == 1 then bif dD a6 then bif (f7 (i64.wrap a1) (a5,a6,())).2 != 0 then oR (([],(f7 (i64.wrap a1) (a5,a6,())).2,()),()) else bif bx (aC [] aw a2 4).2 aw&&decide (be [(f7 (i64.wrap a1) (a5,a6,())).1]≤4294960000) then bif decide ((bI (aC [] aw a2 4).2 aw [(f7 (i64.wrap a1) (a5,a6,())).1]).2.length≤4294967296) then oR (((bI (aC [] aw a2 4).2 aw [(f7 (i64.wrap a1) (a5,a6,())).1]).2,0,()),()) else none else none else none else bif a0 == 2 then bif (fF (i64.wrap a1) (a7,a8,())).2 != 0 then oR (([],(fF (i64.wrap a1) (a7,a8,())).2,()),()) else bif bx (aC [] aw a2 4).2 aw&&decide (be [(fF (i64.wrap a1) (a7,a8,())).1]≤4294960000) then bif decide ((bI (aC [] aw a2 4).2 aw [(fF (i64.wrap a1) (a7,a8,())).1]).2.length≤4294967296) then oR (((bI (aC [] aw a2 4).2 aw [(fF (i64.wrap a1) (a7,a8,())).1]).2,0,()),()) else none else none else bif bx (aC [] aw a2 4).2 aw&&decide (be [[]]≤4294960000) then bif decide ((bI (aC [] aw a2 4).2 aw [[]]).2.length≤4294967296) then oR (((bI (aC [] aw a2 4).2 aw [[]]).2,0,()),()) else none else none
theorem acR (a0 a1 a2:Int)(a3:List az.den)(a4 a5:Int)(a6:List aj.den)(a7:Int)(a8:List ag.den):Io.run tt aeT drG U8 oA Tryz.f18 (((a0,a1,a2,(a3,a4,()),(a5,a6,()),(a7,a8,()),()),()),())=Ha a0 a1 a2 a3 a4 a5 a6 a7 a8:=by kernel_rfl
theorem VO:HcOk prog 18 (ae oA JS):=by
 refine Ip (n:=400) hm (cs:=T9) (.cons CG (.cons afU (.cons aca (.cons acd (.cons RU (.cons RT (.cons LK (.cons E0 .nil)))))))) (lp:=U8) (fn:=Tryz.f18) (by kernel_rfl) (by kernel_rfl) (by kernel_rfl) oA (.done (by kernel_rfl)) JS ?_
 rintro ⟨⟨⟨(k:Int),(v:Int),(co:Int),⟨(pt:List az.den),(ph:Int),⟨⟩⟩,⟨(fh:Int),(ft:List aj.den),⟨⟩⟩,⟨(lh:Int),(lt:List ag.den),⟨⟩⟩,⟨⟩⟩,⟨⟩⟩,⟨⟩⟩ out hw ho
 obtain ⟨hg,ho⟩:=Tr.guard ho
 have hg:dD ft=true:=hg
 cases ho
 refine (acR k v co pt ph fh ft lh lt).trans ?_
 unfold Ha
 have hv:i64.wrap v=v:=gJ hw.1.1.2.1
 rw[hv]
 show _=oR (((cp (k,(v,(co,((pt,(ph,())),((fh,(ft,())),((lh,(lt,())),()))))))).1,((cp (k,(v,(co,((pt,(ph,())),((fh,(ft,())),((lh,(lt,())),()))))))).2,())),())
 unfold cp o4
 dsimp only
 by_cases h1:fE k v=0
 ·rw[af (by simpa using h1),if_neg (not_not_intro h1)]
  show (bif (bif !!(bif !(k == 0) then sU (pt,(ph,())) else true) then (bif !!(bif !(k == 1) then sR (fh,(ft,())) else true) then !(bif !(k == 2) then sT (lh,(lt,())) else true) else true) else true) then _ else _)=_
  rw[ZK k v co pt ph fh lh ft lt]
  generalize pi (k,(v,(co,((pt,(ph,())),((fh,(ft,())),((lh,(lt,())),()))))))=ot
  cases ot with
  |false=>rw[Bool.not_false,cond_true,if_pos rfl]
  |true=>
   rw[Bool.not_true,cond_false,if_neg (by decide)]
   have hk:k=0∨k=1∨k=2:=by
    unfold fE at h1
    split at h1
    ·cases h1
    ·omega
   have lq:(dx v (pt,(ph,()))).1.length≤130048:=by unfold dx;exact ej _ _ _ _
   have lf:(f7 v (fh,(ft,()))).1.length≤130048:=by unfold f7;exact ej _ _ _ _
   have lo:(fF v (lh,(lt,()))).1.length≤130048:=by unfold fF;exact ej _ _ _ _
   by_cases k0:k=0
   ·rw[aa (by simpa using k0),if_pos k0]
    by_cases h4:(dx v (pt,(ph,()))).2=0
    ·rw[af (by simpa using h4),if_neg (not_not_intro h4)]
     exact Kr co _ lq
    ·rw[aa (by simpa using h4),if_pos h4]
   rw[af (by simpa using k0),if_neg k0]
   by_cases k1:k=1
   ·rw[aa (by simpa using k1),if_pos k1,aa hg]
    by_cases h4:(f7 v (fh,(ft,()))).2=0
    ·rw[af (by simpa using h4),if_neg (not_not_intro h4)]
     exact Kr co _ lf
    ·rw[aa (by simpa using h4),if_pos h4]
   rw[af (by simpa using k1),if_neg k1]
   have k2:k=2:=by omega
   rw[aa (by simpa using k2)]
   by_cases h4:(fF v (lh,(lt,()))).2=0
   ·rw[af (by simpa using h4),if_neg (not_not_intro h4)]
    exact Kr co _ lo
   ·rw[aa (by simpa using h4),if_pos h4]
 ·rw[aa (by simpa using h1),if_pos h1]
abbrev Lv:fv.den:=(false,([],()))
def gG (b:LI)(p:Int):fv.den×(Int×Int):=
 if (an b p 2).2.2≠0 then (Lv,((an b p 2).2.1,(an b p 2).2.2)) else if i16.wrap (an b p 2).1 = -1 then ((true,([],())),((an b p 2).2.1,0)) else
 if i16.wrap (an b p 2).1<0 then (Lv,((an b p 2).2.1,5)) else if 255<i16.wrap (an b p 2).1 then (Lv,((an b p 2).2.1,4)) else
 if (aT b (an b p 2).2.1 (i16.wrap (an b p 2).1)).2.2≠0 then (Lv,(aT b (an b p 2).2.1 (i16.wrap (an b p 2).1)).2) else
 ((false,((aT b (an b p 2).2.1 (i16.wrap (an b p 2).1)).1,())),((aT b (an b p 2).2.1 (i16.wrap (an b p 2).1)).2.1,lN (false,((aT b (an b p 2).2.1 (i16.wrap (an b p 2).1)).1,()))))
theorem yj {b:LI}{p:Int}(n:Nat)(h:bP b p=true):bP b (an b p n).2.1=true:=by
 unfold bP at h ⊢
 simp only[zA,zB] at h
 unfold an
 split
 ·simpa using h
 ·simp;omega
theorem ag5 {b:LI}{p:Int}(n:Int)(h:bP b p=true):bP b (aT b p n).2.1=true:=by
 unfold bP at h ⊢
 simp only[zA,zB] at h
 unfold aT
 split
 ·simpa using h
 ·split
  ·simpa using h
  ·simp;omega
theorem adR {b:LI}{p:Int}(h:bP b p=true):bP b (gG b p).2.1=true:=by
 unfold gG
 have h1:=yj 2 h
 have h2:=ag5 (i16.wrap (an b p 2).1) h1
 repeat' split
 all_goals first | exact h1 | exact h2
abbrev ql:Io:=⟨[.ptr 0 0],[Zd],[],[yW,dI],none⟩
def Qn (d:ql.In):Tr ql.Res:=.ite (bP d.2.1.1 d.2.1.2.1) (.ret (.ret (((gG d.2.1.1 d.2.1.2.1).1,((gG d.2.1.1 d.2.1.2.1).2.2,())),((d.2.1.1,((gG d.2.1.1 d.2.1.2.1).2.1,())),())))) .no
abbrev Ub:List (Nat×Hc):=[(136,ae mG Da),(63,ae jx tr),(41,ae j1 wE)]
def aeV:Hd:=bM Ub
def Va:Lp:=bB []
def He (a0:LI)(a1:Int):Option ql.Res:=bif bP a0 a1 then bif (an a0 a1 2).2.2 != 0 then oR (((false,[],()),(an a0 a1 2).2.2,()),(a0,(an a0 a1 2).2.1,()),()) else bif i16.wrap (an a0 a1 2).1 == -1 then oR (((true,[],()),0,()),(a0,(an a0 a1 2).2.1,()),()) else bif decide (i16.wrap (an a0 a1 2).1<0) then oR (((false,[],()),5,()),(a0,(an a0 a1 2).2.1,()),()) else bif decide (255<i16.wrap (an a0 a1 2).1) then oR (((false,[],()),4,()),(a0,(an a0 a1 2).2.1,()),()) else bif bP a0 (an a0 a1 2).2.1 then bif (aT a0 (an a0 a1 2).2.1 (i64.wrap (i16.wrap (an a0 a1 2).1))).2.2 != 0 then oR (((false,[],()),(aT a0 (an a0 a1 2).2.1 (i64.wrap (i16.wrap (an a0 a1 2).1))).2.2,()),(a0,(aT a0 (an a0 a1 2).2.1 (i64.wrap (i16.wrap (an a0 a1 2).1))).2.1,()),()) else oR (((false,(aT a0 (an a0 a1 2).2.1 (i64.wrap (i16.wrap (an a0 a1 2).1))).1,()),lN (false,(aT a0 (an a0 a1 2).2.1 (i64.wrap (i16.wrap (an a0 a1 2).1))).1,()),()),(a0,(aT a0 (an a0 a1 2).2.1 (i64.wrap (i16.wrap (an a0 a1 2).1))).2.1,()),()) else none else none
theorem acT (a0:LI)(a1:Int):Io.run tt aeV dr Va ql Tryz.f137 (((),()),(a0,a1,()),())=He a0 a1:=by kernel_rfl
theorem afH:HcOk prog 137 (ae ql Qn):=by
 refine cg (cs:=Ub) (.cons LH (.cons xZ (.cons IY .nil))) (lp:=Va) (fn:=Tryz.f137) ql (.done (by kernel_rfl)) Qn ?_
 rintro ⟨⟨⟨⟩,⟨⟩⟩,⟨⟨(b:LI),(p:Int),⟨⟩⟩,⟨⟩⟩⟩ out hw ho
 obtain ⟨hg,ho⟩:=Tr.guard ho
 have hg:bP b p=true:=hg
 cases ho
 refine (acT b p).trans ?_
 unfold He
 show _=oR (((gG b p).1,((gG b p).2.2,())),((b,((gG b p).2.1,())),()))
 have hw64:i64.wrap (i16.wrap (an b p 2).1)=i16.wrap (an b p 2).1:=gJ (fJ _ _)
 rw[hw64]
 unfold gG
 have hr:=yj 2 hg
 generalize an b p 2=r at hr ⊢
 obtain ⟨n,q,e⟩:=r
 have hr:bP b q=true:=hr
 refine (aa hg _ _).trans ?_
 dsimp only
 generalize i16.wrap n=m
 by_cases h1:e=0
 ·rw[af (by simpa using h1),if_neg (not_not_intro h1)]
  by_cases h2:m = -1
  ·rw[aa (by simpa using h2),if_pos h2]
  rw[af (by simpa using h2),if_neg h2]
  by_cases h3:m<0
  ·rw[aa (by simpa using h3),if_pos h3]
  rw[af (by simpa using h3),if_neg h3]
  by_cases h4:255<m
  ·rw[aa (by simpa using h4),if_pos h4]
  rw[af (by simpa using h4),if_neg h4,aa hr]
  generalize aT b q m=t
  obtain ⟨x,q2,e2⟩:=t
  dsimp only
  by_cases h5:e2=0
  ·rw[af (by simpa using h5),if_neg (not_not_intro h5)]
  ·rw[aa (by simpa using h5),if_pos h5]
 ·rw[aa (by simpa using h1),if_pos h1]
def bN (b:LI)(p:Int):(Int×(Int×(Int×fv.den)))×(Int×Int):=
 if (an b p 2).2.2≠0 then ((i16.wrap (an b p 2).1,(0,(0,Lv))),(an b p 2).2) else
 if (an b (an b p 2).2.1 2).2.2≠0 then ((i16.wrap (an b p 2).1,(i16.wrap (an b (an b p 2).2.1 2).1,(0,Lv))),(an b (an b p 2).2.1 2).2) else
 if (an b (an b (an b p 2).2.1 2).2.1 4).2.2≠0 then ((i16.wrap (an b p 2).1,(i16.wrap (an b (an b p 2).2.1 2).1,(i32.wrap (an b (an b (an b p 2).2.1 2).2.1 4).1,Lv))),(an b (an b (an b p 2).2.1 2).2.1 4).2) else
 ((i16.wrap (an b p 2).1,(i16.wrap (an b (an b p 2).2.1 2).1,(i32.wrap (an b (an b (an b p 2).2.1 2).2.1 4).1,(gG b (an b (an b (an b p 2).2.1 2).2.1 4).2.1).1))),
  ((gG b (an b (an b (an b p 2).2.1 2).2.1 4).2.1).2.1,if (gG b (an b (an b (an b p 2).2.1 2).2.1 4).2.1).2.2≠0 then (gG b (an b (an b (an b p 2).2.1 2).2.1 4).2.1).2.2 else fE (i16.wrap (an b p 2).1) (i16.wrap (an b (an b p 2).2.1 2).1)))
abbrev XL:ik.den:=(Lv,(0,(0,(([]:List ar.den),()))))
abbrev fq0:bO.den:=(0,(0,(0,(0,(0,(([]:List ai.den),()))))))
abbrev oq0:bX.den:=(0,(0,(([]:List ah.den),())))
abbrev WC (h:Int×(Int×(Int×fv.den)))(q:ik.den)(f:bO.den)(l:bX.den):da.den:=(h.1,(h.2.1,(h.2.2.1,(h.2.2.2,(q,(f,(l,())))))))
abbrev nb:Io:=⟨[.ptr 0 0],[Zd],[],[.dat da true false,dI],none⟩
def JP (d:nb.In):Tr nb.Res:=.ite (bP d.2.1.1 d.2.1.2.1) (.ret (.ret ((WC (bN d.2.1.1 d.2.1.2.1).1 XL fq0 oq0,((bN d.2.1.1 d.2.1.2.1).2.2,())),((d.2.1.1,((bN d.2.1.1 d.2.1.2.1).2.1,())),())))) .no
abbrev M2:List (Nat×Hc):=[(136,ae mG Da),(74,ae mH Db),(137,ae ql Qn),(40,ae ki yH)]
def aaJ:Hd:=bM M2
def Oj:Lp:=bB []
def Dm (a0:LI)(a1:Int):Option nb.Res:=bif bP a0 a1 then bif (an a0 a1 2).2.2 != 0 then oR (((i16.wrap (an a0 a1 2).1,0,0,(false,[],()),((false,[],()),0,0,[],()),(0,0,0,0,0,[],()),(0,0,[],()),()),(an a0 a1 2).2.2,()),(a0,(an a0 a1 2).2.1,()),()) else bif bP a0 (an a0 a1 2).2.1 then bif (an a0 (an a0 a1 2).2.1 2).2.2 != 0 then oR (((i16.wrap (an a0 a1 2).1,i16.wrap (an a0 (an a0 a1 2).2.1 2).1,0,(false,[],()),((false,[],()),0,0,[],()),(0,0,0,0,0,[],()),(0,0,[],()),()),(an a0 (an a0 a1 2).2.1 2).2.2,()),(a0,(an a0 (an a0 a1 2).2.1 2).2.1,()),()) else bif bP a0 (an a0 (an a0 a1 2).2.1 2).2.1 then bif (an a0 (an a0 (an a0 a1 2).2.1 2).2.1 4).2.2 != 0 then oR (((i16.wrap (an a0 a1 2).1,i16.wrap (an a0 (an a0 a1 2).2.1 2).1,i32.wrap (an a0 (an a0 (an a0 a1 2).2.1 2).2.1 4).1,(false,[],()),((false,[],()),0,0,[],()),(0,0,0,0,0,[],()),(0,0,[],()),()),(an a0 (an a0 (an a0 a1 2).2.1 2).2.1 4).2.2,()),(a0,(an a0 (an a0 (an a0 a1 2).2.1 2).2.1 4).2.1,()),()) else bif bP a0 (an a0 (an a0 (an a0 a1 2).2.1 2).2.1 4).2.1 then bif (gG a0 (an a0 (an a0 (an a0 a1 2).2.1 2).2.1 4).2.1).2.2 != 0 then oR (((i16.wrap (an a0 a1 2).1,i16.wrap (an a0 (an a0 a1 2).2.1 2).1,i32.wrap (an a0 (an a0 (an a0 a1 2).2.1 2).2.1 4).1,(gG a0 (an a0 (an a0 (an a0 a1 2).2.1 2).2.1 4).2.1).1,((false,[],()),0,0,[],()),(0,0,0,0,0,[],()),(0,0,[],()),()),(gG a0 (an a0 (an a0 (an a0 a1 2).2.1 2).2.1 4).2.1).2.2,()),(a0,(gG a0 (an a0 (an a0 (an a0 a1 2).2.1 2).2.1 4).2.1).2.1,()),()) else oR (((i16.wrap (an a0 a1 2).1,i16.wrap (an a0 (an a0 a1 2).2.1 2).1,i32.wrap (an a0 (an a0 (an a0 a1 2).2.1 2).2.1 4).1,(gG a0 (an a0 (an a0 (an a0 a1 2).2.1 2).2.1 4).2.1).1,((false,[],()),0,0,[],()),(0,0,0,0,0,[],()),(0,0,[],()),()),fE (i16.wrap (an a0 a1 2).1) (i16.wrap (an a0 (an a0 a1 2).2.1 2).1),()),(a0,(gG a0 (an a0 (an a0 (an a0 a1 2).2.1 2).2.1 4).2.1).2.1,()),()) else none else none else none else none
theorem XN (a0:LI)(a1:Int):Io.run tt aaJ dr Oj nb Tryz.f62 (((),()),(a0,a1,()),())=Dm a0 a1:=by kernel_rfl
theorem abZ:HcOk prog 62 (ae nb JP):=by
 refine cg (cs:=M2) (.cons LH (.cons LJ (.cons afH (.cons CG .nil)))) (lp:=Oj) (fn:=Tryz.f62) nb (.done (by kernel_rfl)) JP ?_
 rintro ⟨⟨⟨⟩,⟨⟩⟩,⟨⟨(b:LI),(p:Int),⟨⟩⟩,⟨⟩⟩⟩ out hw ho
 obtain ⟨hg,ho⟩:=Tr.guard ho
 have hg:bP b p=true:=hg
 cases ho
 refine (XN b p).trans ?_
 unfold Dm
 show _=oR ((WC (bN b p).1 XL fq0 oq0,((bN b p).2.2,())),((b,((bN b p).2.1,())),()))
 unfold bN
 have g1:=yj 2 hg
 have g2:=yj 2 g1
 have g3:=yj 4 g2
 refine (aa hg _ _).trans ?_
 by_cases h1:(an b p 2).2.2=0
 ·rw[af (by simpa using h1),if_neg (not_not_intro h1),aa g1]
  by_cases h2:(an b (an b p 2).2.1 2).2.2=0
  ·rw[af (by simpa using h2),if_neg (not_not_intro h2),aa g2]
   by_cases h3:(an b (an b (an b p 2).2.1 2).2.1 4).2.2=0
   ·rw[af (by simpa using h3),if_neg (not_not_intro h3),aa g3]
    dsimp only
    by_cases h4:(gG b (an b (an b (an b p 2).2.1 2).2.1 4).2.1).2.2=0
    ·rw[af (by simpa using h4),if_neg (not_not_intro h4)]
    ·rw[aa (by simpa using h4),if_pos h4]
   ·rw[aa (by simpa using h3),if_pos h3]
  ·rw[aa (by simpa using h2),if_pos h2]
 ·rw[aa (by simpa using h1),if_pos h1]
theorem agZ {b:LI}{p:Int}(h:bP b p=true):bP b (bN b p).2.1=true:=by
 have g1:=yj 2 h
 have g2:=yj 2 g1
 have g3:=yj 4 g2
 have g4:=adR g3
 unfold bN
 split
 ·exact g1
 ·split
  ·exact g2
  ·split
   ·exact g3
   ·exact g4
theorem Ji {b:LI}{p:Int}(h:bP b p=true):aT b p ((b.length:Int) - p)=(b.drop p.toNat,((b.length:Int),0)):=by
 unfold bP at h
 simp only[zA,zB] at h
 unfold aT
 rw[if_neg (by omega),if_neg (by omega)]
 rw[List.take_of_length_le (by rw[List.length_drop];omega),show p+((b.length:Int) - p)=b.length by omega]
theorem pO {k v:Int}(h:fE k v=0):k=0∨k=1∨k=2:=by
 unfold fE at h
 split at h
 ·cases h
 ·omega
theorem adN {b:LI}{p:Int}:(bN b p).2.2=0→(bN b p).1.1=0∨(bN b p).1.1=1∨(bN b p).1.1=2:=by
 unfold bN
 split
 ·rename_i h;exact fun h'=>absurd h' h
 ·split
  ·rename_i h;exact fun h'=>absurd h' h
  ·split
   ·rename_i h;exact fun h'=>absurd h' h
   ·intro h
    dsimp only at h ⊢
    split at h
    ·rename_i h';exact absurd h h'
    ·exact pO h
theorem Zc:i64.wrap 0=0:=aI (by decide) (by decide)
theorem adO {b:LI}{p:Int}:i64.wrap (bN b p).1.2.1=(bN b p).1.2.1:=by
 unfold bN
 split
 ·exact Zc
 ·split
  ·exact gJ (fJ _ _)
  ·split
   ·exact gJ (fJ _ _)
   ·exact gJ (fJ _ _)
abbrev T5:da.den:=WC (0,(0,(0,Lv))) XL fq0 oq0
def gy (b:LI):da.den×Int:=
 if (bN b 0).2.2≠0 then (T5,(bN b 0).2.2) else
 if (bN b 0).1.1=0 then (if (ei (bN b 0).1.2.1 (b.drop (bN b 0).2.1.toNat)).2≠0 then (T5,(ei (bN b 0).1.2.1 (b.drop (bN b 0).2.1.toNat)).2) else (WC (bN b 0).1 (ei (bN b 0).1.2.1 (b.drop (bN b 0).2.1.toNat)).1 fq0 oq0,0)) else
 if (bN b 0).1.1=1 then (if (lR (bN b 0).1.2.1 (b.drop (bN b 0).2.1.toNat)).2≠0 then (T5,(lR (bN b 0).1.2.1 (b.drop (bN b 0).2.1.toNat)).2) else (WC (bN b 0).1 XL (lR (bN b 0).1.2.1 (b.drop (bN b 0).2.1.toNat)).1 oq0,0)) else
 (if (lT (bN b 0).1.2.1 (b.drop (bN b 0).2.1.toNat)).2≠0 then (T5,(lT (bN b 0).1.2.1 (b.drop (bN b 0).2.1.toNat)).2) else (WC (bN b 0).1 XL fq0 (lT (bN b 0).1.2.1 (b.drop (bN b 0).2.1.toNat)).1,0))
abbrev sm:Io:=⟨[dL],[],[],[.dat da true false,dI],none⟩
def TB (d:sm.In):Tr sm.Res:=.ite (decide (d.1.1.length≤4294960000)) (.ret (.ret (((gy d.1.1).1,((gy d.1.1).2,())),()))) .no
abbrev ZS:List (Nat×Hc):=[(61,ae ly yN),(62,ae nb JP),(64,ae jw tq),(63,ae jx tr),(65,ae vT Zs),(66,ae nf JW),(67,ae nh JY)]
def aiz:Hd:=bM ZS
def abp:Lp:=bB []
def Mt (a0:LI):Option sm.Res:=bif decide (a0.length≤4294967296) then bif bP a0 0 then bif (bN a0 0).2.2 != 0 then oR (((0,0,0,(false,[],()),((false,[],()),0,0,[],()),(0,0,0,0,0,[],()),(0,0,[],()),()),(bN a0 0).2.2,()),()) else bif bP a0 (bN a0 0).2.1 then bif (bN a0 0).1.1 == 0 then bif (ei (i64.wrap (bN a0 0).1.2.1) (aT a0 (bN a0 0).2.1 (i64.wrap ((↑a0.length:Int) - (bN a0 0).2.1))).1).2 != 0 then oR (((0,0,0,(false,[],()),((false,[],()),0,0,[],()),(0,0,0,0,0,[],()),(0,0,[],()),()),(ei (i64.wrap (bN a0 0).1.2.1) (aT a0 (bN a0 0).2.1 (i64.wrap ((↑a0.length:Int) - (bN a0 0).2.1))).1).2,()),()) else oR ((((bN a0 0).1.1,(bN a0 0).1.2.1,(bN a0 0).1.2.2.1,(bN a0 0).1.2.2.2,(ei (i64.wrap (bN a0 0).1.2.1) (aT a0 (bN a0 0).2.1 (i64.wrap ((↑a0.length:Int) - (bN a0 0).2.1))).1).1,(0,0,0,0,0,[],()),(0,0,[],()),()),0,()),()) else bif (bN a0 0).1.1 == 1 then bif (lR (i64.wrap (bN a0 0).1.2.1) (aT a0 (bN a0 0).2.1 (i64.wrap ((↑a0.length:Int) - (bN a0 0).2.1))).1).2 != 0 then oR (((0,0,0,(false,[],()),((false,[],()),0,0,[],()),(0,0,0,0,0,[],()),(0,0,[],()),()),(lR (i64.wrap (bN a0 0).1.2.1) (aT a0 (bN a0 0).2.1 (i64.wrap ((↑a0.length:Int) - (bN a0 0).2.1))).1).2,()),()) else oR ((((bN a0 0).1.1,(bN a0 0).1.2.1,(bN a0 0).1.2.2.1,(bN a0 0).1.2.2.2,((false,[],()),0,0,[],()),(lR (i64.wrap (bN a0 0).1.2.1) (aT a0 (bN a0 0).2.1 (i64.wrap ((↑a0.length:Int) - (bN a0 0).2.1))).1).1,(0,0,[],()),()),0,()),()) else bif (bN a0 0).1.1 == 2 then bif (lT (i64.wrap (bN a0 0).1.2.1) (aT a0 (bN a0 0).2.1 (i64.wrap ((↑a0.length:Int) - (bN a0 0).2.1))).1).2 != 0 then oR (((0,0,0,(false,[],()),((false,[],()),0,0,[],()),(0,0,0,0,0,[],()),(0,0,[],()),()),(lT (i64.wrap (bN a0 0).1.2.1) (aT a0 (bN a0 0).2.1 (i64.wrap ((↑a0.length:Int) - (bN a0 0).2.1))).1).2,()),()) else oR ((((bN a0 0).1.1,(bN a0 0).1.2.1,(bN a0 0).1.2.2.1,(bN a0 0).1.2.2.2,((false,[],()),0,0,[],()),(0,0,0,0,0,[],()),(lT (i64.wrap (bN a0 0).1.2.1) (aT a0 (bN a0 0).2.1 (i64.wrap ((↑a0.length:Int) - (bN a0 0).2.1))).1).1,()),0,()),()) else bif (bN a0 0).2.2 != 0 then oR (((0,0,0,(false,[],()),((false,[],()),0,0,[],()),(0,0,0,0,0,[],()),(0,0,[],()),()),(bN a0 0).2.2,()),()) else oR ((((bN a0 0).1.1,(bN a0 0).1.2.1,(bN a0 0).1.2.2.1,(bN a0 0).1.2.2.2,((false,[],()),0,0,[],()),(0,0,0,0,0,[],()),(0,0,[],()),()),0,()),()) else none else none else none
theorem agi (a0:LI):Io.run tt aiz dr abp sm Tryz.f20 ((a0,()),())=Mt a0:=by kernel_rfl
theorem ab1:HcOk prog 20 (ae sm TB):=by
 refine cg (cs:=ZS) (.cons CH (.cons abZ (.cons xY (.cons xZ (.cons ajd (.cons ab5 (.cons ab7 .nil))))))) (lp:=abp) (fn:=Tryz.f20) sm (.done (by kernel_rfl)) TB ?_
 rintro ⟨⟨(b:LI),⟨⟩⟩,⟨⟩⟩ out hw ho
 obtain ⟨hg,ho⟩:=Tr.guard ho
 have hg:b.length≤4294960000:=of_decide_eq_true hg
 cases ho
 refine (agi b).trans ?_
 unfold Mt
 show _=oR (((gy b).1,((gy b).2,())),())
 have g0:bP b 0=true:=by simp[bP];omega
 have g1:=agZ g0
 have hl:i64.wrap ((b.length:Int) - (bN b 0).2.1)=(b.length:Int) - (bN b 0).2.1:=by
  unfold bP at g1
  simp only[zA,zB] at g1
  exact aI (by omega) (by omega)
 rw[hl,Ji g1,adO]
 refine bT (decide_eq_true (show b.length≤4294967296 by omega)) ?_
 refine (aa g0 _ _).trans ?_
 unfold gy
 have hk:=adN (b:=b) (p:=0)
 generalize bN b 0=r at g1 hk ⊢
 obtain ⟨⟨k,v,co,n⟩,q,e⟩:=r
 have g1:bP b q=true:=g1
 have hk:e=0→k=0∨k=1∨k=2:=hk
 dsimp only
 generalize b.drop q.toNat=rest
 by_cases h1:e=0
 ·have hk:=hk h1
  rw[af (by simpa using h1),if_neg (not_not_intro h1),aa g1]
  by_cases k0:k=0
  ·rw[aa (by simpa using k0),if_pos k0]
   by_cases hd:(ei v rest).2=0
   ·rw[af (by simpa using hd),if_neg (not_not_intro hd)]
   ·rw[aa (by simpa using hd),if_pos hd]
  rw[af (by simpa using k0),if_neg k0]
  by_cases k1:k=1
  ·rw[aa (by simpa using k1),if_pos k1]
   by_cases hd:(lR v rest).2=0
   ·rw[af (by simpa using hd),if_neg (not_not_intro hd)]
   ·rw[aa (by simpa using hd),if_pos hd]
  rw[af (by simpa using k1),if_neg k1]
  have k2:k=2:=by omega
  rw[aa (by simpa using k2)]
  by_cases hd:(lT v rest).2=0
  ·rw[af (by simpa using hd),if_neg (not_not_intro hd)]
  ·rw[aa (by simpa using hd),if_pos hd]
 ·rw[aa (by simpa using h1),if_pos h1]
abbrev LS:ij.den:=(([]:List az.den),(0,()))
abbrev fr0:bW.den:=(0,(([]:List aj.den),()))
abbrev or0:bY.den:=(0,(([]:List ag.den),()))
abbrev aeQ (k v co:Int)(q:ij.den)(f:bW.den)(l:bY.den):dn.den:=(k,(v,(co,(q,(f,(l,()))))))
abbrev Pd:dn.den:=aeQ 0 0 0 LS fr0 or0
def gf (k v:Int)(b:LI):dn.den×Int:=
 if fE k v≠0 then (Pd,fE k v) else if (an b 0 4).2.2≠0 then (Pd,(an b 0 4).2.2) else
 if k=0 then (if (eh v (b.drop (an b 0 4).2.1.toNat)).2≠0 then (Pd,(eh v (b.drop (an b 0 4).2.1.toNat)).2) else (aeQ k v (i32.wrap (an b 0 4).1) (eh v (b.drop (an b 0 4).2.1.toNat)).1 fr0 or0,0)) else
 if k=1 then (if (lS v (b.drop (an b 0 4).2.1.toNat)).2≠0 then (Pd,(lS v (b.drop (an b 0 4).2.1.toNat)).2) else (aeQ k v (i32.wrap (an b 0 4).1) LS (lS v (b.drop (an b 0 4).2.1.toNat)).1 or0,0)) else
 (if (lU v (b.drop (an b 0 4).2.1.toNat)).2≠0 then (Pd,(lU v (b.drop (an b 0 4).2.1.toNat)).2) else (aeQ k v (i32.wrap (an b 0 4).1) LS fr0 (lU v (b.drop (an b 0 4).2.1.toNat)).1,0))
abbrev oz:Io:=⟨[Ql,Ql,dL],[],[],[.dat dn true false,dI],none⟩
def JR (d:oz.In):Tr oz.Res:=.ite (decide (d.1.2.2.1.length≤4294960000)) (.ret (.ret (((gf d.1.1 d.1.2.1 d.1.2.2.1).1,((gf d.1.1 d.1.2.1 d.1.2.2.1).2,())),()))) .no
abbrev T8:List (Nat×Hc):=[(40,ae ki yH),(61,ae ly yN),(74,ae mH Db),(64,ae jw tq),(63,ae jx tr),(75,ae vV Zv),(76,ae ng JX),(77,ae ni JZ)]
def aeS:Hd:=bM T8
def U7:Lp:=bB []
def G9 (a0 a1:Int)(a2:LI):Option oz.Res:=bif fE a0 a1 != 0 then oR (((0,0,0,([],0,()),(0,[],()),(0,[],()),()),fE a0 a1,()),()) else bif decide (a2.length≤4294967296) then bif bP a2 0 then bif (an a2 0 4).2.2 != 0 then oR (((0,0,0,([],0,()),(0,[],()),(0,[],()),()),(an a2 0 4).2.2,()),()) else bif bP a2 (an a2 0 4).2.1 then bif a0 == 0 then bif (eh (i64.wrap a1) (aT a2 (an a2 0 4).2.1 (i64.wrap ((↑a2.length:Int) - (an a2 0 4).2.1))).1).2 != 0 then oR (((0,0,0,([],0,()),(0,[],()),(0,[],()),()),(eh (i64.wrap a1) (aT a2 (an a2 0 4).2.1 (i64.wrap ((↑a2.length:Int) - (an a2 0 4).2.1))).1).2,()),()) else oR (((a0,a1,i32.wrap (an a2 0 4).1,(eh (i64.wrap a1) (aT a2 (an a2 0 4).2.1 (i64.wrap ((↑a2.length:Int) - (an a2 0 4).2.1))).1).1,(0,[],()),(0,[],()),()),0,()),()) else bif a0 == 1 then bif (lS (i64.wrap a1) (aT a2 (an a2 0 4).2.1 (i64.wrap ((↑a2.length:Int) - (an a2 0 4).2.1))).1).2 != 0 then oR (((0,0,0,([],0,()),(0,[],()),(0,[],()),()),(lS (i64.wrap a1) (aT a2 (an a2 0 4).2.1 (i64.wrap ((↑a2.length:Int) - (an a2 0 4).2.1))).1).2,()),()) else oR (((a0,a1,i32.wrap (an a2 0 4).1,([],0,()),(lS (i64.wrap a1) (aT a2 (an a2 0 4).2.1 (i64.wrap ((↑a2.length:Int) - (an a2 0 4).2.1))).1).1,(0,[],()),()),0,()),()) else bif a0 == 2 then bif (lU (i64.wrap a1) (aT a2 (an a2 0 4).2.1 (i64.wrap ((↑a2.length:Int) - (an a2 0 4).2.1))).1).2 != 0 then oR (((0,0,0,([],0,()),(0,[],()),(0,[],()),()),(lU (i64.wrap a1) (aT a2 (an a2 0 4).2.1 (i64.wrap ((↑a2.length:Int) - (an a2 0 4).2.1))).1).2,()),()) else oR (((a0,a1,i32.wrap (an a2 0 4).1,([],0,()),(0,[],()),(lU (i64.wrap a1) (aT a2 (an a2 0 4).2.1 (i64.wrap ((↑a2.length:Int) - (an a2 0 4).2.1))).1).1,()),0,()),()) else bif (an a2 0 4).2.2 != 0 then oR (((0,0,0,([],0,()),(0,[],()),(0,[],()),()),(an a2 0 4).2.2,()),()) else oR (((a0,a1,i32.wrap (an a2 0 4).1,([],0,()),(0,[],()),(0,[],()),()),0,()),()) else none else none else none
theorem acQ (a0 a1:Int)(a2:LI):Io.run tt aeS dr U7 oz Tryz.f22 ((a0,a1,a2,()),())=G9 a0 a1 a2:=by kernel_rfl
theorem VN:HcOk prog 22 (ae oz JR):=by
 refine cg (cs:=T8) (.cons CG (.cons CH (.cons LJ (.cons xY (.cons xZ (.cons ajg (.cons ab6 (.cons ab8 .nil)))))))) (lp:=U7) (fn:=Tryz.f22) oz (.done (by kernel_rfl)) JR ?_
 rintro ⟨⟨(k:Int),(v:Int),(b:LI),⟨⟩⟩,⟨⟩⟩ out hw ho
 obtain ⟨hg,ho⟩:=Tr.guard ho
 have hg:b.length≤4294960000:=of_decide_eq_true hg
 cases ho
 refine (acQ k v b).trans ?_
 unfold G9
 show _=oR (((gf k v b).1,((gf k v b).2,())),())
 have g0:bP b 0=true:=by simp[bP];omega
 have g1:=yj 4 g0
 have hl:i64.wrap ((b.length:Int) - (an b 0 4).2.1)=(b.length:Int) - (an b 0 4).2.1:=by
  unfold bP at g1
  simp only[zA,zB] at g1
  exact aI (by omega) (by omega)
 have hv:i64.wrap v=v:=gJ hw.1.2.1
 rw[hl,Ji g1,hv]
 unfold gf
 by_cases h0:fE k v=0
 ·have hk:=pO h0
  rw[af (by simpa using h0),if_neg (not_not_intro h0),aa (decide_eq_true (show b.length≤4294967296 by omega)),aa g0]
  generalize an b 0 4=r at g1 ⊢
  obtain ⟨co,q,e⟩:=r
  have g1:bP b q=true:=g1
  dsimp only
  generalize b.drop q.toNat=rest
  by_cases h1:e=0
  ·rw[af (by simpa using h1),if_neg (not_not_intro h1),aa g1]
   by_cases k0:k=0
   ·rw[aa (by simpa using k0),if_pos k0]
    by_cases hd:(eh v rest).2=0
    ·rw[af (by simpa using hd),if_neg (not_not_intro hd)]
    ·rw[aa (by simpa using hd),if_pos hd]
   rw[af (by simpa using k0),if_neg k0]
   by_cases k1:k=1
   ·rw[aa (by simpa using k1),if_pos k1]
    by_cases hd:(lS v rest).2=0
    ·rw[af (by simpa using hd),if_neg (not_not_intro hd)]
    ·rw[aa (by simpa using hd),if_pos hd]
   rw[af (by simpa using k1),if_neg k1]
   have k2:k=2:=by omega
   rw[aa (by simpa using k2)]
   by_cases hd:(lU v rest).2=0
   ·rw[af (by simpa using hd),if_neg (not_not_intro hd)]
   ·rw[aa (by simpa using hd),if_pos hd]
  ·rw[aa (by simpa using h1),if_pos h1]
 ·rw[aa (by simpa using h0),if_pos h0]
abbrev kk:Io:=⟨[Ql,Ql],[],[],[dI],none⟩
def Cl (d:kk.In):Tr kk.Res:=.ret (.ret ((fE d.1.1 d.1.2.1,()),()))
abbrev Nq:List (Nat×Hc):=[]
def aa2:Hd:=bM Nq
def OC:Lp:=bB []
def DG (a0 a1:Int):Option kk.Res:=bif decide (a0<0) then oR ((160,()),()) else bif decide (2<a0) then oR ((160,()),()) else bif decide (a1<0) then oR ((8,()),()) else bif decide (3<a1) then oR ((8,()),()) else oR ((0,()),())
theorem X6 (a0 a1:Int):Io.run tt aa2 dr OC kk Tryz.f33 ((a0,a1,()),())=DG a0 a1:=by kernel_rfl
theorem O0:HcOk prog 33 (ae kk Cl):=by
 refine cg (cs:=Nq) HcsOk.nil (lp:=OC) (fn:=Tryz.f33) kk (.done (by kernel_rfl)) Cl ?_
 rintro ⟨⟨(k:Int),(v:Int),⟨⟩⟩,⟨⟩⟩ out hw ho
 cases ho
 refine (X6 k v).trans ?_
 unfold DG
 show _=oR ((fE k v,()),())
 unfold fE
 have key:(bif decide (v<0) then oR ((8,()),()) else bif decide (3<v) then oR ((8,()),()) else oR ((0,()),()):Option kk.Res)=oR ((if v<0∨3<v then 8 else 0,()),()):=by
  by_cases h3:v<0
  ·rw[aa (by simpa using h3),if_pos (.inl h3)]
  ·rw[af (by simpa using h3)]
   by_cases h4:3<v
   ·rw[aa (by simpa using h4),if_pos (.inr h4)]
   ·rw[af (by simpa using h4),if_neg (by omega)]
 by_cases h0:k<0
 ·rw[aa (by simpa using h0),if_pos (c:=k≠0∧k≠1∧k≠2) (by omega)]
 rw[af (by simpa using h0)]
 by_cases h1:2<k
 ·rw[aa (by simpa using h1),if_pos (c:=k≠0∧k≠1∧k≠2) (by omega)]
 rw[af (by simpa using h1),if_neg (c:=k≠0∧k≠1∧k≠2) (by omega)]
 exact key
theorem uK (n:Nd):Tre.mk n.lab n.kids=n:=by cases n;rfl
def aG (c:da.den)(k:Int):Nd:=if k=0 then bv c.2.2.2.2.1 else if k=1 then b9 c.2.2.2.2.2.1 else cb c.2.2.2.2.2.2.1
def cL (c:da.den):Bool:=dF c.2.2.2.2.1.2.2.2.1&&(eF c.2.2.2.2.2.1.2.2.2.2.2.1&&eH c.2.2.2.2.2.2.1.2.2.1)
abbrev lI:Io:=⟨[.dat da true false,Ql],[],[],[dH],none⟩
def Ck (d:lI.In):Tr lI.Res:=.ite (cL d.1.1) (.ret (.ret ((aG d.1.1 d.1.2.1,()),()))) .no
abbrev Np:List (Nat×Hc):=[(84,ae iM tz),(85,ae j6 wV),(86,ae j8 wZ)]
def aa1:Hd:=bM Np
def OB:Lp:=bB []
def DF (a0 a1 a2:Int)(a3:Bool)(a4:LI)(a5:Bool)(a6:LI)(a7 a8:Int)(a9:List ar.den)(a10 a11 a12 a13 a14:Int)(a15:List ai.den)(a16 a17:Int)(a18:List ah.den)(a19:Int):Option lI.Res:=bif a19 == 0 then bif dF a9 then oR ((Tre.mk (bv ((a5,a6,()),a7,a8,a9,())).1 (bv ((a5,a6,()),a7,a8,a9,())).2,()),()) else none else bif a19 == 1 then bif eF a15 then oR ((Tre.mk (b9 (a10,a11,a12,a13,a14,a15,())).1 (b9 (a10,a11,a12,a13,a14,a15,())).2,()),()) else none else bif eH a18 then oR ((Tre.mk (cb (a16,a17,a18,())).1 (cb (a16,a17,a18,())).2,()),()) else none
theorem X5 (a0 a1 a2:Int)(a3:Bool)(a4:LI)(a5:Bool)(a6:LI)(a7 a8:Int)(a9:List ar.den)(a10 a11 a12 a13 a14:Int)(a15:List ai.den)(a16 a17:Int)(a18:List ah.den)(a19:Int):Io.run tt aa1 dr OB lI Tryz.f36 (((a0,a1,a2,(a3,a4,()),((a5,a6,()),a7,a8,a9,()),(a10,a11,a12,a13,a14,a15,()),(a16,a17,a18,()),()),a19,()),())=DF a0 a1 a2 a3 a4 a5 a6 a7 a8 a9 a10 a11 a12 a13 a14 a15 a16 a17 a18 a19:=by kernel_rfl
theorem OZ:HcOk prog 36 (ae lI Ck):=by
 refine cg (cs:=Np) (.cons E2 (.cons I7 (.cons I9 .nil))) (lp:=OB) (fn:=Tryz.f36) lI (.done (by kernel_rfl)) Ck ?_
 rintro ⟨⟨⟨(k:Int),(v:Int),(co:Int),⟨(cz:Bool),(cs:LI),⟨⟩⟩,⟨⟨(nz:Bool),(ns:LI),⟨⟩⟩,(ak:Int),(wt:Int),(ts:List ar.den),⟨⟩⟩,⟨(fr:Int),(fw:Int),(fm:Int),(fx:Int),(fl:Int),(ft:List ai.den),⟨⟩⟩,⟨(lr:Int),(ll:Int),(lt:List ah.den),⟨⟩⟩,⟨⟩⟩,(q:Int),⟨⟩⟩,⟨⟩⟩ out hw ho
 obtain ⟨hg,ho⟩:=Tr.guard ho
 unfold cL at hg
 simp only[zA] at hg
 obtain ⟨h1,h2,h3⟩:=hg
 have h1:dF ts=true:=h1
 have h2:eF ft=true:=h2
 have h3:eH lt=true:=h3
 cases ho
 refine (X5 k v co cz cs nz ns ak wt ts fr fw fm fx fl ft lr ll lt q).trans ?_
 unfold DF
 show _=oR ((aG (k,(v,(co,((cz,(cs,())),(((nz,(ns,())),(ak,(wt,(ts,())))),((fr,(fw,(fm,(fx,(fl,(ft,())))))),((lr,(ll,(lt,()))),()))))))) q,()),())
 unfold aG
 dsimp only
 by_cases k0:q=0
 ·rw[aa (by simpa using k0),if_pos k0,aa h1]
  exact congrArg (fun n:Nd=>oR ((n,()),())) (uK _)
 rw[af (by simpa using k0),if_neg k0]
 by_cases k1:q=1
 ·rw[aa (by simpa using k1),if_pos k1,aa h2]
  exact congrArg (fun n:Nd=>oR ((n,()),())) (uK _)
 rw[af (by simpa using k1),if_neg k1,aa h3]
 exact congrArg (fun n:Nd=>oR ((n,()),())) (uK _)
def aN (c:dn.den)(k:Int):Nd:=if k=0 then bu c.2.2.2.1 else if k=1 then ca c.2.2.2.2.1 else cc c.2.2.2.2.2.1
def cr (c:dn.den):Bool:=dE c.2.2.2.1.1&&(eG c.2.2.2.2.1.2.1&&eJ c.2.2.2.2.2.1.2.1)
abbrev j4:Io:=⟨[.dat dn true false,Ql],[],[],[dH],none⟩
def wM (d:j4.In):Tr j4.Res:=.ite (cr d.1.1) (.ret (.ret ((aN d.1.1 d.1.2.1,()),()))) .no
abbrev H5:List (Nat×Hc):=[(119,ae iL tw),(120,ae j7 wX),(121,ae j9 w5)]
def WO:Hd:=bM H5
def IG:Lp:=bB []
def A8 (a0 a1 a2:Int)(a3:List az.den)(a4 a5:Int)(a6:List aj.den)(a7:Int)(a8:List ag.den)(a9:Int):Option j4.Res:=bif a9 == 0 then bif dE a3 then oR ((Tre.mk (bu (a3,a4,())).1 (bu (a3,a4,())).2,()),()) else none else bif a9 == 1 then bif eG a6 then oR ((Tre.mk (ca (a5,a6,())).1 (ca (a5,a6,())).2,()),()) else none else bif eJ a8 then oR ((Tre.mk (cc (a7,a8,())).1 (cc (a7,a8,())).2,()),()) else none
theorem So (a0 a1 a2:Int)(a3:List az.den)(a4 a5:Int)(a6:List aj.den)(a7:Int)(a8:List ag.den)(a9:Int):Io.run tt WO dr IG j4 Tryz.f52 (((a0,a1,a2,(a3,a4,()),(a5,a6,()),(a7,a8,()),()),a9,()),())=A8 a0 a1 a2 a3 a4 a5 a6 a7 a8 a9:=by kernel_rfl
theorem I4:HcOk prog 52 (ae j4 wM):=by
 refine cg (cs:=H5) (.cons E1 (.cons I8 (.cons Ja .nil))) (lp:=IG) (fn:=Tryz.f52) j4 (.done (by kernel_rfl)) wM ?_
 rintro ⟨⟨⟨(k:Int),(v:Int),(co:Int),⟨(pt:List az.den),(ph:Int),⟨⟩⟩,⟨(fh:Int),(ft:List aj.den),⟨⟩⟩,⟨(lh:Int),(lt:List ag.den),⟨⟩⟩,⟨⟩⟩,(q:Int),⟨⟩⟩,⟨⟩⟩ out hw ho
 obtain ⟨hg,ho⟩:=Tr.guard ho
 unfold cr at hg
 simp only[zA] at hg
 obtain ⟨h1,h2,h3⟩:=hg
 have h1:dE pt=true:=h1
 have h2:eG ft=true:=h2
 have h3:eJ lt=true:=h3
 cases ho
 refine (So k v co pt ph fh ft lh lt q).trans ?_
 unfold A8
 show _=oR ((aN (k,(v,(co,((pt,(ph,())),((fh,(ft,())),((lh,(lt,())),())))))) q,()),())
 unfold aN
 dsimp only
 by_cases k0:q=0
 ·rw[aa (by simpa using k0),if_pos k0,aa h1]
  exact congrArg (fun n:Nd=>oR ((n,()),())) (uK _)
 rw[af (by simpa using k0),if_neg k0]
 by_cases k1:q=1
 ·rw[aa (by simpa using k1),if_pos k1,aa h2]
  exact congrArg (fun n:Nd=>oR ((n,()),())) (uK _)
 rw[af (by simpa using k1),if_neg k1,aa h3]
 exact congrArg (fun n:Nd=>oR ((n,()),())) (uK _)
def bw (n:Nd):Bool:=if n.kids.all cD=true then true else false
abbrev lJ:Io:=⟨[dH],[],[],[dB],none⟩
def Cm (d:lJ.In):Tr lJ.Res:=.ret (.ret ((bw d.1.1,()),()))
abbrev Nr:List (Nat×Hc):=[(88,ae oL Kd)]
def NS:Hd:=bM Nr
abbrev gM:Lo:=⟨⟨(.any::.one (.ptr 1 0)::.any::.one hI::gE (dq (ce []))),[none,some [hI,hI,hL,.hol (.sl 5 (Ty.int u8)),.hol (.sl 91 ap)]]⟩,[(.ret,⟨(ce (.one hL::.any::gE (dq (ce [])))),[]⟩),(.exit 0,⟨(am (ce [])),[]⟩)]⟩
def tp (d:gM.st.den):Tr (aH gM.xs):=
 .ite (decide (d.1.1=0)) (.ite (d.2.1.2.2.2.2.1.all cD) (.ret (.pan (.ret ((),((),()))))) (.ret (.ret ((),((false,()),()))))) .no
def xO:Lp:=bB [(3,aS gM tp)]
def yr {R:Type}(h1 h2 h3:Int)(h4:Bool)(h5:LI)(h6:List (Nd))(next:Int→Int→Int→Bool→LI→List (Nd)→Option R)(out:aH gM.xs→Option R):Option R:=bif decide (h1<(↑h6.length:Int)) then bif decide (0≤h1)&&decide (h1<(↑h6.length:Int)) then bif !cD (Tre.mk (h6.getD h1.toNat (Tre.mk (0,0,false,[],()) [])).1 (h6.getD h1.toNat (Tre.mk (0,0,false,[],()) [])).2) then out (.ret ((),((false,()),()))) else next (i64.wrap (h1+1)) (h2) (h3) (h4) (h5) (h6) else none else out (.pan (.ret ((),((),()))))
def vW (n:Nat)(h1 h2 h3:Int)(h4:Bool)(h5:LI)(h6:List (Nd)):Option (aH gM.xs):=il tt NS dr xO 0 Tryz.f35 (db Tryz.f35 0) n (gM.st.mk' ((h1,()),((h2,(h3,(h4,(h5,(h6,()))))),()))) (ci gM.xs)
theorem SH (n:Nat)(h1 h2 h3:Int)(h4:Bool)(h5:LI)(h6:List (Nd)):vW (n+1) h1 h2 h3 h4 h5 h6=yr h1 h2 h3 h4 h5 h6 (vW n) some:=by kernel_rfl
theorem Rq {ks:List Nd}(hl:ks.length≤maxLen)(a' b':Int)(z':Bool)(x':LI):∀(k j:Nat),ks.length<j+k→j≤ks.length→
  vW k j a' b' z' x' ks=if (ks.drop j).all cD=true then some (.pan (.ret ((),((),())))) else some (.ret ((),((false,()),()))):=by
 intro k
 induction k with
 |zero=>intro j h1 h2;omega
 |succ k ih=>
  intro j h1 h2
  rw[SH]
  unfold yr
  by_cases hj:j<ks.length
  ·refine bT (decide_eq_true (show (j:Int)<(ks.length:Int) by omega)) ?_
   refine bT (by simp;omega) ?_
   rw[zE hj]
   simp only[zG,aJ hj]
   generalize ks[j]=u
   obtain ⟨ul,uk⟩:=u
   by_cases hz:cD (Tre.mk ul uk)=true
   ·refine bF (by rw[hz];rfl) ?_
    rw[cq hj hl]
    refine (ih (j+1) (by omega) (by omega)).trans ?_
    simp[hz]
   ·refine bT (by rw[Bool.eq_false_iff.2 hz];rfl) ?_
    exact (if_neg (by simp[hz])).symm
  ·refine bF (by simp;omega) ?_
   rw[zI (by omega)]
   rfl
def DH (a0:Nd):Option lJ.Res:=(tp ((0,()),((a0.1.1,(a0.1.2.1,(a0.1.2.2.1,(a0.1.2.2.2.1,(a0.2,()))))),()))).run fun y=>match y with | .ret ((),((x14,()),()))=>(oR ((x14,()),())) | .pan (.ret ((),((),())))=>(oR ((true,()),()))
theorem X7 (a0:Nd):Io.run tt NS dr xO lJ Tryz.f35 ((a0,()),())=DH a0:=by kernel_rfl
theorem El:HcsOk prog Nr:=.cons CJ .nil
theorem O1:HcOk prog 35 (ae lJ Cm):=by
 refine cg El (lp:=xO) (fn:=Tryz.f35) lJ (.step (h0:=aS gM tp) (by kernel_rfl) (jh El (lp:=xO) (fn:=Tryz.f35) (.done (by kernel_rfl)) gM tp ?_) (.done (by kernel_rfl))) Cm ?_
 ·rintro ⟨⟨(j:Int),⟨⟩⟩,⟨⟨(a':Int),(b':Int),(z':Bool),(x':LI),(ks:List Nd),⟨⟩⟩,⟨⟩⟩⟩ y hw hy
  obtain ⟨hg,hy⟩:=Tr.guard hy
  have hg:j=0:=of_decide_eq_true hg
  subst hg
  have hl:ks.length≤maxLen:=hw.2.1.2.2.2.2.1.1
  refine ⟨ks.length+1,(Rq hl a' b' z' x' (ks.length+1) 0 (by omega) (by omega)).trans ?_⟩
  rw[← hy,List.drop_zero]
  show _=(Tr.ite (ks.all cD) _ _).val
  rw[Tr.val_ite]
  rfl
 ·rintro ⟨⟨n,⟨⟩⟩,⟨⟩⟩ out hw ho
  cases ho
  refine (X7 n).trans ?_
  unfold DH
  show _=oR ((bw n,()),())
  unfold bw
  refine bT (decide_eq_true rfl) ?_
  show (Tr.ite (n.kids.all cD) _ _).run _=_
  cases n.kids.all cD <;> rfl
def L2 (c:da.den):Bool:=if ((c.1=0∨bw (aG c 0)=true)∧(c.1=1∨bw (aG c 1)=true)∧(c.1=2∨bw (aG c 2)=true)) then true else false
def c19 (x:(Int×(Int×(Int×(Bool×(LI×(Bool×(LI×(Int×(Int×(List ar.den×(Int×(Int×(Int×(Int×(Int×(List ai.den×(Int×(Int×(List ah.den×Unit)))))))))))))))))))):da.den:=(x.1,(x.2.1,(x.2.2.1,((x.2.2.2.1,(x.2.2.2.2.1,())),(((x.2.2.2.2.2.1,(x.2.2.2.2.2.2.1,())),(x.2.2.2.2.2.2.2.1,(x.2.2.2.2.2.2.2.2.1,(x.2.2.2.2.2.2.2.2.2.1,())))),((x.2.2.2.2.2.2.2.2.2.2.1,(x.2.2.2.2.2.2.2.2.2.2.2.1,(x.2.2.2.2.2.2.2.2.2.2.2.2.1,(x.2.2.2.2.2.2.2.2.2.2.2.2.2.1,(x.2.2.2.2.2.2.2.2.2.2.2.2.2.2.1,(x.2.2.2.2.2.2.2.2.2.2.2.2.2.2.2.1,())))))),((x.2.2.2.2.2.2.2.2.2.2.2.2.2.2.2.2.1,(x.2.2.2.2.2.2.2.2.2.2.2.2.2.2.2.2.2.1,(x.2.2.2.2.2.2.2.2.2.2.2.2.2.2.2.2.2.2.1,()))),())))))))
def mP (c:da.den):LI×Int:=if fE c.1 c.2.1≠0 then ([],fE c.1 c.2.1) else if lN c.2.2.2.1≠0 then ([],lN c.2.2.2.1) else
 if L2 c=true then
 (if (eE c.1 false c.2.1 (aG c c.1)).2≠0 then ([],(eE c.1 false c.2.1 (aG c c.1)).2) else (o3 c.1 c.2.1 c.2.2.1 c.2.2.2.1++(eE c.1 false c.2.1 (aG c c.1)).1,0)) else ([],7)
abbrev qF:Io:=⟨[.dat da true false],[],[],[dL,dI],none⟩
def Qw (d:qF.In):Tr qF.Res:=.ite (cL d.1.1&&decide (8*aM (aG d.1.1 d.1.1.1)≤4294967296)) (.ret (.ret (((mP d.1.1).1,((mP d.1.1).2,())),()))) .no
abbrev Uy:List (Nat×Hc):=[(33,ae kk Cl),(34,ae sq TM),(36,ae lI Ck),(35,ae lJ Cm),(37,ae sr TN),(39,ae iP rR),(38,ae uR Wa)]
def U1:Hd:=bM Uy
abbrev gL:Lo:=⟨⟨(.any::.one (.ptr 1 0)::.any::dq (.one hK::am (am (am (am (am (am (gE [])))))))),[none,some [hK,hK,hJ,hL,.hol .str,hL,.hol .str,hK,hJ,.hol (.sl 172 ar),hJ,hJ,hJ,hJ,.hol (.int i8),.hol (.sl 185 ai),hJ,.hol (.int i8),.hol (.sl 196 ah)]]⟩,[(.ret,⟨(ce (.one (.onl 5 (Ty.int u8) 5)::.one hI::am (am (am (am (am (am (gE (dq []))))))))),[]⟩),(.exit 0,⟨(.any::.one (.ptr 1 0)::am (am (am (am (am (am (gE (dq (ce []))))))))),[none,some [hK,hK,hJ,hL,.hol .str,hL,.hol .str,hK,hJ,.hol (.sl 172 ar),hJ,hJ,hJ,hJ,.hol (.int i8),.hol (.sl 185 ai),hJ,.hol (.int i8),.hol (.sl 196 ah)]]⟩)]⟩
def pu (d:gL.st.den):Tr (aH gL.xs):=
 .ite (decide (d.1.1=0)&&cL (c19 d.2.1)) (.ite (L2 (c19 d.2.1)) (.ret (.pan (.ret ((),((),(d.2.1,())))))) (.ret (.ret ((),(([],(7,())),()))))) .no
def CD:Lp:=bB [(13,aS gL pu)]
def rA {R:Type}(h19 h20 h21 h22:Int)(h23:Bool)(h24:LI)(h25:Bool)(h26:LI)(h27 h28:Int)(h29:List ar.den)(h30 h31 h32 h33 h34:Int)(h35:List ai.den)(h36 h37:Int)(h38:List ah.den)(next:Int→Int→Int→Int→Bool→LI→Bool→LI→Int→Int→List ar.den→Int→Int→Int→Int→Int→List ai.den→Int→Int→List ah.den→Option R)(out:aH gL.xs→Option R):Option R:=bif decide (h19<3) then bif h19 != h20 then bif cL (h20,h21,h22,(h23,h24,()),((h25,h26,()),h27,h28,h29,()),(h30,h31,h32,h33,h34,h35,()),(h36,h37,h38,()),()) then bif !bw (Tre.mk (aG (h20,h21,h22,(h23,h24,()),((h25,h26,()),h27,h28,h29,()),(h30,h31,h32,h33,h34,h35,()),(h36,h37,h38,()),()) h19).1 (aG (h20,h21,h22,(h23,h24,()),((h25,h26,()),h27,h28,h29,()),(h30,h31,h32,h33,h34,h35,()),(h36,h37,h38,()),()) h19).2) then out (.ret ((),(([],(7,())),()))) else next (i16.wrap (h19+1)) (h20) (h21) (h22) (h23) (h24) (h25) (h26) (h27) (h28) (h29) (h30) (h31) (h32) (h33) (h34) (h35) (h36) (h37) (h38) else none else next (i16.wrap (h19+1)) (h20) (h21) (h22) (h23) (h24) (h25) (h26) (h27) (h28) (h29) (h30) (h31) (h32) (h33) (h34) (h35) (h36) (h37) (h38) else out (.pan (.ret ((),((),((h20,(h21,(h22,(h23,(h24,(h25,(h26,(h27,(h28,(h29,(h30,(h31,(h32,(h33,(h34,(h35,(h36,(h37,(h38,()))))))))))))))))))),())))))
def eB (n:Nat)(h19 h20 h21 h22:Int)(h23:Bool)(h24:LI)(h25:Bool)(h26:LI)(h27 h28:Int)(h29:List ar.den)(h30 h31 h32 h33 h34:Int)(h35:List ai.den)(h36 h37:Int)(h38:List ah.den):Option (aH gL.xs):=il tt U1 dr CD 0 Tryz.f10 (db Tryz.f10 0) n (gL.st.mk' ((h19,()),((h20,(h21,(h22,(h23,(h24,(h25,(h26,(h27,(h28,(h29,(h30,(h31,(h32,(h33,(h34,(h35,(h36,(h37,(h38,()))))))))))))))))))),()))) (ci gL.xs)
theorem Fh (n:Nat)(h19 h20 h21 h22:Int)(h23:Bool)(h24:LI)(h25:Bool)(h26:LI)(h27 h28:Int)(h29:List ar.den)(h30 h31 h32 h33 h34:Int)(h35:List ai.den)(h36 h37:Int)(h38:List ah.den):eB (n+1) h19 h20 h21 h22 h23 h24 h25 h26 h27 h28 h29 h30 h31 h32 h33 h34 h35 h36 h37 h38=rA h19 h20 h21 h22 h23 h24 h25 h26 h27 h28 h29 h30 h31 h32 h33 h34 h35 h36 h37 h38 (eB n) some:=by kernel_rfl
theorem wb (k v co:Int)(cz:Bool)(cs:LI)(nz:Bool)(ns:LI)(ak wt:Int)(ts:List ar.den)(fr fw fm fx fl:Int)(ft:List ai.den)(lr ll:Int)(lt:List ah.den)(hl:cL (k,(v,(co,((cz,(cs,())),(((nz,(ns,())),(ak,(wt,(ts,())))),((fr,(fw,(fm,(fx,(fl,(ft,())))))),((lr,(ll,(lt,()))),())))))))=true)(n j:Nat)(hj:j<3):eB (n+1) (j:Int) k v co cz cs nz ns ak wt ts fr fw fm fx fl ft lr ll lt=
  if k=(j:Int)∨bw (aG (k,(v,(co,((cz,(cs,())),(((nz,(ns,())),(ak,(wt,(ts,())))),((fr,(fw,(fm,(fx,(fl,(ft,())))))),((lr,(ll,(lt,()))),()))))))) (j:Int))=true then eB n ((j+1:Nat):Int) k v co cz cs nz ns ak wt ts fr fw fm fx fl ft lr ll lt else some (.ret ((),(([],(7,())),()))):=by
 rw[Fh]
 unfold rA
 have hw:i16.wrap ((j:Int)+1)=((j+1:Nat):Int):=dY (by simp[eD,IntKind.min,IntKind.max,IntKind.signed,IntKind.bits];omega)
 refine bT (decide_eq_true (show (j:Int)<3 by omega)) ?_
 by_cases h1:k=(j:Int)
 ·rw[if_pos (.inl h1)]
  refine bF (by simp[h1]) ?_
  rw[hw]
 ·refine bT (by simp[Ne.symm h1]) ?_
  refine (aa hl _ _).trans ?_
  generalize aG (k,(v,(co,((cz,(cs,())),(((nz,(ns,())),(ak,(wt,(ts,())))),((fr,(fw,(fm,(fx,(fl,(ft,())))))),((lr,(ll,(lt,()))),()))))))) (j:Int)=n0
  obtain ⟨nl,nk⟩:=n0
  by_cases h2:bw (Tre.mk nl nk)=true
  ·rw[if_pos (.inr h2),h2,Bool.not_true,cond_false,hw]
  ·rw[if_neg (by rintro (h | h);exact h1 h;exact h2 h),Bool.eq_false_iff.2 h2,Bool.not_false,cond_true]
theorem W6 (k v co:Int)(cz:Bool)(cs:LI)(nz:Bool)(ns:LI)(ak wt:Int)(ts:List ar.den)(fr fw fm fx fl:Int)(ft:List ai.den)(lr ll:Int)(lt:List ah.den)(hl:cL (k,(v,(co,((cz,(cs,())),(((nz,(ns,())),(ak,(wt,(ts,())))),((fr,(fw,(fm,(fx,(fl,(ft,())))))),((lr,(ll,(lt,()))),())))))))=true):eB 4 0 k v co cz cs nz ns ak wt ts fr fw fm fx fl ft lr ll lt=
  if L2 (k,(v,(co,((cz,(cs,())),(((nz,(ns,())),(ak,(wt,(ts,())))),((fr,(fw,(fm,(fx,(fl,(ft,())))))),((lr,(ll,(lt,()))),())))))))=true then some (.pan (.ret ((),((),((k,(v,(co,(cz,(cs,(nz,(ns,(ak,(wt,(ts,(fr,(fw,(fm,(fx,(fl,(ft,(lr,(ll,(lt,()))))))))))))))))))),()))))) else some (.ret ((),(([],(7,())),()))):=by
 have s0:=wb k v co cz cs nz ns ak wt ts fr fw fm fx fl ft lr ll lt hl 3 0 (by decide)
 have s1:=wb k v co cz cs nz ns ak wt ts fr fw fm fx fl ft lr ll lt hl 2 1 (by decide)
 have s2:=wb k v co cz cs nz ns ak wt ts fr fw fm fx fl ft lr ll lt hl 1 2 (by decide)
 have s3:eB 1 ((3:Nat):Int) k v co cz cs nz ns ak wt ts fr fw fm fx fl ft lr ll lt=some (.pan (.ret ((),((),((k,(v,(co,(cz,(cs,(nz,(ns,(ak,(wt,(ts,(fr,(fw,(fm,(fx,(fl,(ft,(lr,(ll,(lt,()))))))))))))))))))),()))))):=by
  rw[Fh]
  unfold rA
  exact af (by decide) _ _
 have s0:eB 4 0 k v co cz cs nz ns ak wt ts fr fw fm fx fl ft lr ll lt=if k=0∨bw (aG (k,(v,(co,((cz,(cs,())),(((nz,(ns,())),(ak,(wt,(ts,())))),((fr,(fw,(fm,(fx,(fl,(ft,())))))),((lr,(ll,(lt,()))),()))))))) 0)=true then eB 3 ((1:Nat):Int) k v co cz cs nz ns ak wt ts fr fw fm fx fl ft lr ll lt else some (.ret ((),(([],(7,())),()))):=s0
 have s1:eB 3 ((1:Nat):Int) k v co cz cs nz ns ak wt ts fr fw fm fx fl ft lr ll lt=if k=1∨bw (aG (k,(v,(co,((cz,(cs,())),(((nz,(ns,())),(ak,(wt,(ts,())))),((fr,(fw,(fm,(fx,(fl,(ft,())))))),((lr,(ll,(lt,()))),()))))))) 1)=true then eB 2 ((2:Nat):Int) k v co cz cs nz ns ak wt ts fr fw fm fx fl ft lr ll lt else some (.ret ((),(([],(7,())),()))):=s1
 have s2:eB 2 ((2:Nat):Int) k v co cz cs nz ns ak wt ts fr fw fm fx fl ft lr ll lt=if k=2∨bw (aG (k,(v,(co,((cz,(cs,())),(((nz,(ns,())),(ak,(wt,(ts,())))),((fr,(fw,(fm,(fx,(fl,(ft,())))))),((lr,(ll,(lt,()))),()))))))) 2)=true then eB 1 ((3:Nat):Int) k v co cz cs nz ns ak wt ts fr fw fm fx fl ft lr ll lt else some (.ret ((),(([],(7,())),()))):=s2
 rw[s0,s1,s2,s3]
 unfold L2
 by_cases h0:k=0∨bw (aG (k,(v,(co,((cz,(cs,())),(((nz,(ns,())),(ak,(wt,(ts,())))),((fr,(fw,(fm,(fx,(fl,(ft,())))))),((lr,(ll,(lt,()))),()))))))) 0)=true
 ·rw[if_pos h0]
  by_cases h1:k=1∨bw (aG (k,(v,(co,((cz,(cs,())),(((nz,(ns,())),(ak,(wt,(ts,())))),((fr,(fw,(fm,(fx,(fl,(ft,())))))),((lr,(ll,(lt,()))),()))))))) 1)=true
  ·rw[if_pos h1]
   by_cases h2:k=2∨bw (aG (k,(v,(co,((cz,(cs,())),(((nz,(ns,())),(ak,(wt,(ts,())))),((fr,(fw,(fm,(fx,(fl,(ft,())))))),((lr,(ll,(lt,()))),()))))))) 2)=true
   ·rw[if_pos h2,if_pos (by rw[if_pos ⟨h0,h1,h2⟩])]
   ·rw[if_neg h2,if_neg (by rw[if_neg (fun h=>h2 h.2.2)];decide)]
  ·rw[if_neg h1,if_neg (by rw[if_neg (fun h=>h1 h.2.1)];decide)]
 ·rw[if_neg h0,if_neg (by rw[if_neg (fun h=>h0 h.1)];decide)]
def HC (a0 a1 a2:Int)(a3:Bool)(a4:LI)(a5:Bool)(a6:LI)(a7 a8:Int)(a9:List ar.den)(a10 a11 a12 a13 a14:Int)(a15:List ai.den)(a16 a17:Int)(a18:List ah.den):Option qF.Res:=bif fE a0 a1 != 0 then oR (([],fE a0 a1,()),()) else bif a3 then bif decide (0<(↑a4.length:Int)) then oR (([],70,()),()) else bif !(cC a4).2 then oR (([],6,()),()) else bif decide (255<(↑a4.length:Int)) then oR (([],4,()),()) else (pu ((0,()),((a0,(a1,(a2,(a3,(a4,(a5,(a6,(a7,(a8,(a9,(a10,(a11,(a12,(a13,(a14,(a15,(a16,(a17,(a18,()))))))))))))))))))),()))).run fun y=>match y with | .ret ((),((x100,x101,()),()))=>(oR ((x100,x101,()),())) | .pan (.ret ((),((),(x102,x103,x104,x105,x106,x107,x108,x109,x110,x111,x112,x113,x114,x115,x116,x117,x118,x119,x120,()),())))=>(bif cL (x102,x103,x104,(x105,x106,()),((x107,x108,()),x109,x110,x111,()),(x112,x113,x114,x115,x116,x117,()),(x118,x119,x120,()),()) then bif decide (8*aM (Tre.mk (aG (x102,x103,x104,(x105,x106,()),((x107,x108,()),x109,x110,x111,()),(x112,x113,x114,x115,x116,x117,()),(x118,x119,x120,()),()) x102).1 (aG (x102,x103,x104,(x105,x106,()),((x107,x108,()),x109,x110,x111,()),(x112,x113,x114,x115,x116,x117,()),(x118,x119,x120,()),()) x102).2)≤4294967296) then bif (eE x102 false (i64.wrap x103) (Tre.mk (aG (x102,x103,x104,(x105,x106,()),((x107,x108,()),x109,x110,x111,()),(x112,x113,x114,x115,x116,x117,()),(x118,x119,x120,()),()) x102).1 (aG (x102,x103,x104,(x105,x106,()),((x107,x108,()),x109,x110,x111,()),(x112,x113,x114,x115,x116,x117,()),(x118,x119,x120,()),()) x102).2)).2 != 0 then oR (([],(eE x102 false (i64.wrap x103) (Tre.mk (aG (x102,x103,x104,(x105,x106,()),((x107,x108,()),x109,x110,x111,()),(x112,x113,x114,x115,x116,x117,()),(x118,x119,x120,()),()) x102).1 (aG (x102,x103,x104,(x105,x106,()),((x107,x108,()),x109,x110,x111,()),(x112,x113,x114,x115,x116,x117,()),(x118,x119,x120,()),()) x102).2)).2,()),()) else bif decide ((aB (i64.wrap x102) (Int.toNat 2)).length+(aB (i64.wrap x103) (Int.toNat 2)).length≤4294967296) then bif decide (List.length (aB (i64.wrap x102) (Int.toNat 2)++aB (i64.wrap x103) (Int.toNat 2))+(aB (i64.wrap x104) (Int.toNat 4)).length≤4294967296) then bif x105 then bif decide (List.length (aB (i64.wrap x102) (Int.toNat 2)++aB (i64.wrap x103) (Int.toNat 2)++aB (i64.wrap x104) (Int.toNat 4))+(aB (-1) (Int.toNat 2)).length≤4294967296) then bif decide (List.length (aB (i64.wrap x102) (Int.toNat 2)++aB (i64.wrap x103) (Int.toNat 2)++aB (i64.wrap x104) (Int.toNat 4)++aB (-1) (Int.toNat 2))+(eE x102 false (i64.wrap x103) (Tre.mk (aG (x102,x103,x104,(x105,x106,()),((x107,x108,()),x109,x110,x111,()),(x112,x113,x114,x115,x116,x117,()),(x118,x119,x120,()),()) x102).1 (aG (x102,x103,x104,(x105,x106,()),((x107,x108,()),x109,x110,x111,()),(x112,x113,x114,x115,x116,x117,()),(x118,x119,x120,()),()) x102).2)).1.length≤4294967296) then oR ((aB (i64.wrap x102) (Int.toNat 2)++aB (i64.wrap x103) (Int.toNat 2)++aB (i64.wrap x104) (Int.toNat 4)++aB (-1) (Int.toNat 2)++(eE x102 false (i64.wrap x103) (Tre.mk (aG (x102,x103,x104,(x105,x106,()),((x107,x108,()),x109,x110,x111,()),(x112,x113,x114,x115,x116,x117,()),(x118,x119,x120,()),()) x102).1 (aG (x102,x103,x104,(x105,x106,()),((x107,x108,()),x109,x110,x111,()),(x112,x113,x114,x115,x116,x117,()),(x118,x119,x120,()),()) x102).2)).1,0,()),()) else none else none else bif decide (List.length (aB (i64.wrap x102) (Int.toNat 2)++aB (i64.wrap x103) (Int.toNat 2)++aB (i64.wrap x104) (Int.toNat 4))+(aB (↑x106.length:Int) (Int.toNat 2)).length≤4294967296) then bif decide (List.length (aB (i64.wrap x102) (Int.toNat 2)++aB (i64.wrap x103) (Int.toNat 2)++aB (i64.wrap x104) (Int.toNat 4)++aB (↑x106.length:Int) (Int.toNat 2))+x106.length≤4294967296) then bif decide (List.length (aB (i64.wrap x102) (Int.toNat 2)++aB (i64.wrap x103) (Int.toNat 2)++aB (i64.wrap x104) (Int.toNat 4)++aB (↑x106.length:Int) (Int.toNat 2)++x106)+(eE x102 false (i64.wrap x103) (Tre.mk (aG (x102,x103,x104,(x105,x106,()),((x107,x108,()),x109,x110,x111,()),(x112,x113,x114,x115,x116,x117,()),(x118,x119,x120,()),()) x102).1 (aG (x102,x103,x104,(x105,x106,()),((x107,x108,()),x109,x110,x111,()),(x112,x113,x114,x115,x116,x117,()),(x118,x119,x120,()),()) x102).2)).1.length≤4294967296) then oR ((aB (i64.wrap x102) (Int.toNat 2)++aB (i64.wrap x103) (Int.toNat 2)++aB (i64.wrap x104) (Int.toNat 4)++aB (↑x106.length:Int) (Int.toNat 2)++x106++(eE x102 false (i64.wrap x103) (Tre.mk (aG (x102,x103,x104,(x105,x106,()),((x107,x108,()),x109,x110,x111,()),(x112,x113,x114,x115,x116,x117,()),(x118,x119,x120,()),()) x102).1 (aG (x102,x103,x104,(x105,x106,()),((x107,x108,()),x109,x110,x111,()),(x112,x113,x114,x115,x116,x117,()),(x118,x119,x120,()),()) x102).2)).1,0,()),()) else none else none else none else none else none else none else none) else bif !(cC a4).2 then oR (([],6,()),()) else bif decide (255<(↑a4.length:Int)) then oR (([],4,()),()) else (pu ((0,()),((a0,(a1,(a2,(a3,(a4,(a5,(a6,(a7,(a8,(a9,(a10,(a11,(a12,(a13,(a14,(a15,(a16,(a17,(a18,()))))))))))))))))))),()))).run fun y=>match y with | .ret ((),((x141,x142,()),()))=>(oR ((x141,x142,()),())) | .pan (.ret ((),((),(x143,x144,x145,x146,x147,x148,x149,x150,x151,x152,x153,x154,x155,x156,x157,x158,x159,x160,x161,()),())))=>(bif cL (x143,x144,x145,(x146,x147,()),((x148,x149,()),x150,x151,x152,()),(x153,x154,x155,x156,x157,x158,()),(x159,x160,x161,()),()) then bif decide (8*aM (Tre.mk (aG (x143,x144,x145,(x146,x147,()),((x148,x149,()),x150,x151,x152,()),(x153,x154,x155,x156,x157,x158,()),(x159,x160,x161,()),()) x143).1 (aG (x143,x144,x145,(x146,x147,()),((x148,x149,()),x150,x151,x152,()),(x153,x154,x155,x156,x157,x158,()),(x159,x160,x161,()),()) x143).2)≤4294967296) then bif (eE x143 false (i64.wrap x144) (Tre.mk (aG (x143,x144,x145,(x146,x147,()),((x148,x149,()),x150,x151,x152,()),(x153,x154,x155,x156,x157,x158,()),(x159,x160,x161,()),()) x143).1 (aG (x143,x144,x145,(x146,x147,()),((x148,x149,()),x150,x151,x152,()),(x153,x154,x155,x156,x157,x158,()),(x159,x160,x161,()),()) x143).2)).2 != 0 then oR (([],(eE x143 false (i64.wrap x144) (Tre.mk (aG (x143,x144,x145,(x146,x147,()),((x148,x149,()),x150,x151,x152,()),(x153,x154,x155,x156,x157,x158,()),(x159,x160,x161,()),()) x143).1 (aG (x143,x144,x145,(x146,x147,()),((x148,x149,()),x150,x151,x152,()),(x153,x154,x155,x156,x157,x158,()),(x159,x160,x161,()),()) x143).2)).2,()),()) else bif decide ((aB (i64.wrap x143) (Int.toNat 2)).length+(aB (i64.wrap x144) (Int.toNat 2)).length≤4294967296) then bif decide (List.length (aB (i64.wrap x143) (Int.toNat 2)++aB (i64.wrap x144) (Int.toNat 2))+(aB (i64.wrap x145) (Int.toNat 4)).length≤4294967296) then bif x146 then bif decide (List.length (aB (i64.wrap x143) (Int.toNat 2)++aB (i64.wrap x144) (Int.toNat 2)++aB (i64.wrap x145) (Int.toNat 4))+(aB (-1) (Int.toNat 2)).length≤4294967296) then bif decide (List.length (aB (i64.wrap x143) (Int.toNat 2)++aB (i64.wrap x144) (Int.toNat 2)++aB (i64.wrap x145) (Int.toNat 4)++aB (-1) (Int.toNat 2))+(eE x143 false (i64.wrap x144) (Tre.mk (aG (x143,x144,x145,(x146,x147,()),((x148,x149,()),x150,x151,x152,()),(x153,x154,x155,x156,x157,x158,()),(x159,x160,x161,()),()) x143).1 (aG (x143,x144,x145,(x146,x147,()),((x148,x149,()),x150,x151,x152,()),(x153,x154,x155,x156,x157,x158,()),(x159,x160,x161,()),()) x143).2)).1.length≤4294967296) then oR ((aB (i64.wrap x143) (Int.toNat 2)++aB (i64.wrap x144) (Int.toNat 2)++aB (i64.wrap x145) (Int.toNat 4)++aB (-1) (Int.toNat 2)++(eE x143 false (i64.wrap x144) (Tre.mk (aG (x143,x144,x145,(x146,x147,()),((x148,x149,()),x150,x151,x152,()),(x153,x154,x155,x156,x157,x158,()),(x159,x160,x161,()),()) x143).1 (aG (x143,x144,x145,(x146,x147,()),((x148,x149,()),x150,x151,x152,()),(x153,x154,x155,x156,x157,x158,()),(x159,x160,x161,()),()) x143).2)).1,0,()),()) else none else none else bif decide (List.length (aB (i64.wrap x143) (Int.toNat 2)++aB (i64.wrap x144) (Int.toNat 2)++aB (i64.wrap x145) (Int.toNat 4))+(aB (↑x147.length:Int) (Int.toNat 2)).length≤4294967296) then bif decide (List.length (aB (i64.wrap x143) (Int.toNat 2)++aB (i64.wrap x144) (Int.toNat 2)++aB (i64.wrap x145) (Int.toNat 4)++aB (↑x147.length:Int) (Int.toNat 2))+x147.length≤4294967296) then bif decide (List.length (aB (i64.wrap x143) (Int.toNat 2)++aB (i64.wrap x144) (Int.toNat 2)++aB (i64.wrap x145) (Int.toNat 4)++aB (↑x147.length:Int) (Int.toNat 2)++x147)+(eE x143 false (i64.wrap x144) (Tre.mk (aG (x143,x144,x145,(x146,x147,()),((x148,x149,()),x150,x151,x152,()),(x153,x154,x155,x156,x157,x158,()),(x159,x160,x161,()),()) x143).1 (aG (x143,x144,x145,(x146,x147,()),((x148,x149,()),x150,x151,x152,()),(x153,x154,x155,x156,x157,x158,()),(x159,x160,x161,()),()) x143).2)).1.length≤4294967296) then oR ((aB (i64.wrap x143) (Int.toNat 2)++aB (i64.wrap x144) (Int.toNat 2)++aB (i64.wrap x145) (Int.toNat 4)++aB (↑x147.length:Int) (Int.toNat 2)++x147++(eE x143 false (i64.wrap x144) (Tre.mk (aG (x143,x144,x145,(x146,x147,()),((x148,x149,()),x150,x151,x152,()),(x153,x154,x155,x156,x157,x158,()),(x159,x160,x161,()),()) x143).1 (aG (x143,x144,x145,(x146,x147,()),((x148,x149,()),x150,x151,x152,()),(x153,x154,x155,x156,x157,x158,()),(x159,x160,x161,()),()) x143).2)).1,0,()),()) else none else none else none else none else none else none else none)
theorem adi (a0 a1 a2:Int)(a3:Bool)(a4:LI)(a5:Bool)(a6:LI)(a7 a8:Int)(a9:List ar.den)(a10 a11 a12 a13 a14:Int)(a15:List ai.den)(a16 a17:Int)(a18:List ah.den):Io.run tt U1 dr CD qF Tryz.f10 (((a0,a1,a2,(a3,a4,()),((a5,a6,()),a7,a8,a9,()),(a10,a11,a12,a13,a14,a15,()),(a16,a17,a18,()),()),()),())=HC a0 a1 a2 a3 a4 a5 a6 a7 a8 a9 a10 a11 a12 a13 a14 a15 a16 a17 a18:=by kernel_rfl
theorem Ir:HcsOk prog Uy:=.cons O0 (.cons RP (.cons OZ (.cons O1 (.cons acr (.cons ur (.cons IW .nil))))))
theorem afV:HcOk prog 10 (ae qF Qw):=by
 refine cg Ir (lp:=CD) (fn:=Tryz.f10) qF (.step (h0:=aS gL pu) (by kernel_rfl) (jh Ir (lp:=CD) (fn:=Tryz.f10) (.done (by kernel_rfl)) gL pu ?_) (.done (by kernel_rfl))) Qw ?_
 ·rintro ⟨⟨(j:Int),⟨⟩⟩,⟨⟨(k:Int),(v:Int),(co:Int),(cz:Bool),(cs:LI),(nz:Bool),(ns:LI),(ak:Int),(wt:Int),(ts:List ar.den),(fr:Int),(fw:Int),(fm:Int),(fx:Int),(fl:Int),(ft:List ai.den),(lr:Int),(ll:Int),(lt:List ah.den),⟨⟩⟩,⟨⟩⟩⟩ y hw hy
  obtain ⟨hg,hy⟩:=Tr.guard hy
  simp only[zA,zB] at hg
  obtain ⟨h1,h2⟩:=hg
  have h1:j=0:=h1
  subst h1
  refine ⟨4,(W6 k v co cz cs nz ns ak wt ts fr fw fm fx fl ft lr ll lt h2).trans ?_⟩
  rw[← hy]
  show _=(Tr.ite (L2 (k,(v,(co,((cz,(cs,())),(((nz,(ns,())),(ak,(wt,(ts,())))),((fr,(fw,(fm,(fx,(fl,(ft,())))))),((lr,(ll,(lt,()))),())))))))) _ _).val
  rw[Tr.val_ite]
  rfl
 ·rintro ⟨⟨⟨(k:Int),(v:Int),(co:Int),⟨(cz:Bool),(cs:LI),⟨⟩⟩,⟨⟨(nz:Bool),(ns:LI),⟨⟩⟩,(ak:Int),(wt:Int),(ts:List ar.den),⟨⟩⟩,⟨(fr:Int),(fw:Int),(fm:Int),(fx:Int),(fl:Int),(ft:List ai.den),⟨⟩⟩,⟨(lr:Int),(ll:Int),(lt:List ah.den),⟨⟩⟩,⟨⟩⟩,⟨⟩⟩,⟨⟩⟩ out hw ho
  obtain ⟨hg,ho⟩:=Tr.guard ho
  obtain ⟨hg,hb⟩:=Bool.and_eq_true_iff.1 hg
  have hg:cL (k,(v,(co,((cz,(cs,())),(((nz,(ns,())),(ak,(wt,(ts,())))),((fr,(fw,(fm,(fx,(fl,(ft,())))))),((lr,(ll,(lt,()))),())))))))=true:=hg
  have hb:8*aM (aG (k,(v,(co,((cz,(cs,())),(((nz,(ns,())),(ak,(wt,(ts,())))),((fr,(fw,(fm,(fx,(fl,(ft,())))))),((lr,(ll,(lt,()))),()))))))) k)≤4294967296:=of_decide_eq_true hb
  cases ho
  refine (adi k v co cz cs nz ns ak wt ts fr fw fm fx fl ft lr ll lt).trans ?_
  unfold HC
  show _=oR (((mP (k,(v,(co,((cz,(cs,())),(((nz,(ns,())),(ak,(wt,(ts,())))),((fr,(fw,(fm,(fx,(fl,(ft,())))))),((lr,(ll,(lt,()))),())))))))).1,((mP (k,(v,(co,((cz,(cs,())),(((nz,(ns,())),(ak,(wt,(ts,())))),((fr,(fw,(fm,(fx,(fl,(ft,())))))),((lr,(ll,(lt,()))),())))))))).2,())),())
  unfold mP
  have hk64:i64.wrap k=k:=gJ hw.1.1.1
  have hv64:i64.wrap v=v:=gJ hw.1.1.2.1
  have hc64:i64.wrap co=co:=dQ hw.1.1.2.2.1
  have hs64:i64.wrap (cs.length:Int)=cs.length∨255<cs.length:=by
   by_cases h:255<cs.length
   ·exact .inr h
   ·exact .inl (aI (by omega) (by omega))
  dsimp only
  by_cases h1:fE k v=0
  ·rw[af (by simpa using h1),if_neg (not_not_intro h1)]
   by_cases hz:cz=true∧cs≠[]
   ·have hcc:lN (cz,(cs,()))=70:=if_pos hz
    rw[hz.1] at hcc ⊢
    rw[cond_true,aa (decide_eq_true (by have:=List.length_pos_iff.2 hz.2;omega)),if_pos (by rw[hcc];decide),hcc]
   ·have hcc:lN (cz,(cs,()))=if (cC cs).2=false then 6 else if 255<cs.length then 4 else 0:=if_neg hz
    cases cz
    ·rw[cond_false]
     by_cases hu:(cC cs).2=false
     ·have hc:=hcc.trans (if_pos hu)
      rw[hu,Bool.not_false,cond_true,if_pos (by rw[hc];decide),hc]
     ·have hu':(cC cs).2=true:=by simpa using hu
      rw[hu',Bool.not_true,cond_false]
      by_cases h5:255<cs.length
      ·have hc:=hcc.trans ((if_neg hu).trans (if_pos h5))
       rw[aa (decide_eq_true (by omega)),if_pos (by rw[hc];decide),hc]
      ·have hc:=hcc.trans ((if_neg hu).trans (if_neg h5))
       rw[af (decide_eq_false (by omega)),if_neg (not_not_intro hc)]
       refine (aa (Bool.and_eq_true_iff.2 ⟨rfl,hg⟩) _ _).trans ?_
       by_cases h6:L2 (k,(v,(co,((false,(cs,())),(((nz,(ns,())),(ak,(wt,(ts,())))),((fr,(fw,(fm,(fx,(fl,(ft,())))))),((lr,(ll,(lt,()))),())))))))=true
       ·rw[if_pos h6]
        refine (aa h6 _ _).trans ?_
        refine (aa hg _ _).trans ?_
        generalize aG (k,(v,(co,((false,(cs,())),(((nz,(ns,())),(ak,(wt,(ts,())))),((fr,(fw,(fm,(fx,(fl,(ft,())))))),((lr,(ll,(lt,()))),()))))))) k=n at hb ⊢
        obtain ⟨nl,nk⟩:=n
        refine bT (decide_eq_true hb) ?_
        rw[hk64,hv64,hc64]
        have hy:(eE k false v (Tre.mk nl nk)).1.length≤130048:=ej _ _ _ _
        by_cases h7:(eE k false v (Tre.mk nl nk)).2=0
        ·refine bF (by simpa using h7) ?_
         rw[if_neg (not_not_intro h7)]
         generalize (eE k false v (Tre.mk nl nk)).1=y at hy ⊢
         simp only[show Int.toNat 2=2 from rfl,show Int.toNat 4=4 from rfl,zH,bj]
         refine bT (decide_eq_true (by omega)) ?_
         refine bT (decide_eq_true (by omega)) ?_
         rw[cond_false]
         refine bT (decide_eq_true (by omega)) ?_
         refine bT (decide_eq_true (by omega)) ?_
         refine bT (decide_eq_true (by omega)) ?_
         simp[o3,eY]
        ·refine bT (by simpa using h7) ?_
         rw[if_pos h7]
       ·rw[if_neg h6]
        exact af (Bool.eq_false_iff.2 h6) _ _
    ·rw[cond_true,af (decide_eq_false (by have:cs=[]:=Classical.byContradiction fun h=>hz ⟨rfl,h⟩;rw[this];decide))]
     by_cases hu:(cC cs).2=false
     ·have hc:=hcc.trans (if_pos hu)
      rw[hu,Bool.not_false,cond_true,if_pos (by rw[hc];decide),hc]
     ·have hu':(cC cs).2=true:=by simpa using hu
      rw[hu',Bool.not_true,cond_false]
      by_cases h5:255<cs.length
      ·have hc:=hcc.trans ((if_neg hu).trans (if_pos h5))
       rw[aa (decide_eq_true (by omega)),if_pos (by rw[hc];decide),hc]
      ·have hc:=hcc.trans ((if_neg hu).trans (if_neg h5))
       rw[af (decide_eq_false (by omega)),if_neg (not_not_intro hc)]
       refine (aa (Bool.and_eq_true_iff.2 ⟨rfl,hg⟩) _ _).trans ?_
       by_cases h6:L2 (k,(v,(co,((true,(cs,())),(((nz,(ns,())),(ak,(wt,(ts,())))),((fr,(fw,(fm,(fx,(fl,(ft,())))))),((lr,(ll,(lt,()))),())))))))=true
       ·rw[if_pos h6]
        refine (aa h6 _ _).trans ?_
        refine (aa hg _ _).trans ?_
        generalize aG (k,(v,(co,((true,(cs,())),(((nz,(ns,())),(ak,(wt,(ts,())))),((fr,(fw,(fm,(fx,(fl,(ft,())))))),((lr,(ll,(lt,()))),()))))))) k=n at hb ⊢
        obtain ⟨nl,nk⟩:=n
        refine bT (decide_eq_true hb) ?_
        rw[hk64,hv64,hc64]
        have hy:(eE k false v (Tre.mk nl nk)).1.length≤130048:=ej _ _ _ _
        by_cases h7:(eE k false v (Tre.mk nl nk)).2=0
        ·refine bF (by simpa using h7) ?_
         rw[if_neg (not_not_intro h7)]
         generalize (eE k false v (Tre.mk nl nk)).1=y at hy ⊢
         simp only[show Int.toNat 2=2 from rfl,show Int.toNat 4=4 from rfl,zH,bj]
         refine bT (decide_eq_true (by omega)) ?_
         refine bT (decide_eq_true (by omega)) ?_
         rw[cond_true]
         refine bT (decide_eq_true (by omega)) ?_
         refine bT (decide_eq_true (by omega)) ?_
         simp[o3,eY]
        ·refine bT (by simpa using h7) ?_
         rw[if_pos h7]
       ·rw[if_neg h6]
        exact af (Bool.eq_false_iff.2 h6) _ _
  ·rw[aa (by simpa using h1),if_pos h1]
def P3 (c:dn.den):Bool:=if ((c.1=0∨bw (aN c 0)=true)∧(c.1=1∨bw (aN c 1)=true)∧(c.1=2∨bw (aN c 2)=true)) then true else false
def c9 (x:(Int×(Int×(Int×(List az.den×(Int×(Int×(List aj.den×(Int×(List ag.den×Unit)))))))))):dn.den:=(x.1,(x.2.1,(x.2.2.1,((x.2.2.2.1,(x.2.2.2.2.1,())),((x.2.2.2.2.2.1,(x.2.2.2.2.2.2.1,())),((x.2.2.2.2.2.2.2.1,(x.2.2.2.2.2.2.2.2.1,())),()))))))
def lC (c:dn.den):LI×Int:=if fE c.1 c.2.1≠0 then ([],fE c.1 c.2.1) else
 if P3 c=true then
 (if (eE c.1 true c.2.1 (aN c c.1)).2≠0 then ([],(eE c.1 true c.2.1 (aN c c.1)).2) else (aB c.2.2.1 4++(eE c.1 true c.2.1 (aN c c.1)).1,0)) else ([],7)
abbrev nv:Io:=⟨[.dat dn true false],[],[],[dL,dI],none⟩
def J6 (d:nv.In):Tr nv.Res:=.ite (cr d.1.1&&decide (8*aM (aN d.1.1 d.1.1.1)≤4294967296)) (.ret (.ret (((lC d.1.1).1,((lC d.1.1).2,())),()))) .no
abbrev No:List (Nat×Hc):=[(33,ae kk Cl),(52,ae j4 wM),(35,ae lJ Cm),(37,ae sr TN),(39,ae iP rR),(38,ae uR Wa)]
def NR:Hd:=bM No
abbrev gK:Lo:=⟨⟨(.any::.one (.ptr 1 0)::.any::ce (.one hK::.any::am (am (gE (dq (ce [])))))),[none,some [hK,hK,hJ,.hol (.sl 212 az),hJ,hJ,.hol (.sl 221 aj),hJ,.hol (.sl 230 ag)]]⟩,[(.ret,⟨(ce (.one (.onl 5 (Ty.int u8) 5)::.one hI::.any::am (am (am [])))),[]⟩),(.exit 0,⟨(.any::.one (.ptr 1 0)::.any::am (am (am (ce [])))),[none,some [hK,hK,hJ,.hol (.sl 212 az),hJ,hJ,.hol (.sl 221 aj),hJ,.hol (.sl 230 ag)]]⟩)]⟩
def tl (d:gK.st.den):Tr (aH gK.xs):=
 .ite (decide (d.1.1=0)&&cr (c9 d.2.1)) (.ite (P3 (c9 d.2.1)) (.ret (.pan (.ret ((),((),(d.2.1,())))))) (.ret (.ret ((),(([],(7,())),()))))) .no
def xN:Lp:=bB [(6,aS gK tl)]
def rz {R:Type}(h9 h10 h11 h12:Int)(h13:List az.den)(h14 h15:Int)(h16:List aj.den)(h17:Int)(h18:List ag.den)(next:Int→Int→Int→Int→List az.den→Int→Int→List aj.den→Int→List ag.den→Option R)(out:aH gK.xs→Option R):Option R:=bif decide (h9<3) then bif h9 != h10 then bif cr (h10,h11,h12,(h13,h14,()),(h15,h16,()),(h17,h18,()),()) then bif !bw (Tre.mk (aN (h10,h11,h12,(h13,h14,()),(h15,h16,()),(h17,h18,()),()) h9).1 (aN (h10,h11,h12,(h13,h14,()),(h15,h16,()),(h17,h18,()),()) h9).2) then out (.ret ((),(([],(7,())),()))) else next (i16.wrap (h9+1)) (h10) (h11) (h12) (h13) (h14) (h15) (h16) (h17) (h18) else none else next (i16.wrap (h9+1)) (h10) (h11) (h12) (h13) (h14) (h15) (h16) (h17) (h18) else out (.pan (.ret ((),((),((h10,(h11,(h12,(h13,(h14,(h15,(h16,(h17,(h18,()))))))))),())))))
def ez (n:Nat)(h9 h10 h11 h12:Int)(h13:List az.den)(h14 h15:Int)(h16:List aj.den)(h17:Int)(h18:List ag.den):Option (aH gK.xs):=il tt NR dr xN 0 Tryz.f17 (db Tryz.f17 0) n (gK.st.mk' ((h9,()),((h10,(h11,(h12,(h13,(h14,(h15,(h16,(h17,(h18,()))))))))),()))) (ci gK.xs)
theorem Fg (n:Nat)(h9 h10 h11 h12:Int)(h13:List az.den)(h14 h15:Int)(h16:List aj.den)(h17:Int)(h18:List ag.den):ez (n+1) h9 h10 h11 h12 h13 h14 h15 h16 h17 h18=rz h9 h10 h11 h12 h13 h14 h15 h16 h17 h18 (ez n) some:=by kernel_rfl
theorem sE (k v co:Int)(pt:List az.den)(ph fh:Int)(ft:List aj.den)(lh:Int)(lt:List ag.den)(hl:cr (k,(v,(co,((pt,(ph,())),((fh,(ft,())),((lh,(lt,())),()))))))=true)(n j:Nat)(hj:j<3):ez (n+1) (j:Int) k v co pt ph fh ft lh lt=
  if k=(j:Int)∨bw (aN (k,(v,(co,((pt,(ph,())),((fh,(ft,())),((lh,(lt,())),())))))) (j:Int))=true then ez n ((j+1:Nat):Int) k v co pt ph fh ft lh lt else some (.ret ((),(([],(7,())),()))):=by
 rw[Fg]
 unfold rz
 have hw:i16.wrap ((j:Int)+1)=((j+1:Nat):Int):=dY (by simp[eD,IntKind.min,IntKind.max,IntKind.signed,IntKind.bits];omega)
 refine bT (decide_eq_true (show (j:Int)<3 by omega)) ?_
 by_cases h1:k=(j:Int)
 ·rw[if_pos (.inl h1)]
  refine bF (by simp[h1]) ?_
  rw[hw]
 ·refine bT (by simp[Ne.symm h1]) ?_
  refine (aa hl _ _).trans ?_
  generalize aN (k,(v,(co,((pt,(ph,())),((fh,(ft,())),((lh,(lt,())),())))))) (j:Int)=n0
  obtain ⟨nl,nk⟩:=n0
  by_cases h2:bw (Tre.mk nl nk)=true
  ·rw[if_pos (.inr h2),h2,Bool.not_true,cond_false,hw]
  ·rw[if_neg (by rintro (h | h);exact h1 h;exact h2 h),Bool.eq_false_iff.2 h2,Bool.not_false,cond_true]
theorem Rp (k v co:Int)(pt:List az.den)(ph fh:Int)(ft:List aj.den)(lh:Int)(lt:List ag.den)(hl:cr (k,(v,(co,((pt,(ph,())),((fh,(ft,())),((lh,(lt,())),()))))))=true):ez 4 0 k v co pt ph fh ft lh lt=
  if P3 (k,(v,(co,((pt,(ph,())),((fh,(ft,())),((lh,(lt,())),()))))))=true then some (.pan (.ret ((),((),((k,(v,(co,(pt,(ph,(fh,(ft,(lh,(lt,()))))))))),()))))) else some (.ret ((),(([],(7,())),()))):=by
 have s0:ez 4 0 k v co pt ph fh ft lh lt=if k=0∨bw (aN (k,(v,(co,((pt,(ph,())),((fh,(ft,())),((lh,(lt,())),())))))) 0)=true then ez 3 ((1:Nat):Int) k v co pt ph fh ft lh lt else some (.ret ((),(([],(7,())),()))):=sE k v co pt ph fh ft lh lt hl 3 0 (by decide)
 have s1:ez 3 ((1:Nat):Int) k v co pt ph fh ft lh lt=if k=1∨bw (aN (k,(v,(co,((pt,(ph,())),((fh,(ft,())),((lh,(lt,())),())))))) 1)=true then ez 2 ((2:Nat):Int) k v co pt ph fh ft lh lt else some (.ret ((),(([],(7,())),()))):=sE k v co pt ph fh ft lh lt hl 2 1 (by decide)
 have s2:ez 2 ((2:Nat):Int) k v co pt ph fh ft lh lt=if k=2∨bw (aN (k,(v,(co,((pt,(ph,())),((fh,(ft,())),((lh,(lt,())),())))))) 2)=true then ez 1 ((3:Nat):Int) k v co pt ph fh ft lh lt else some (.ret ((),(([],(7,())),()))):=sE k v co pt ph fh ft lh lt hl 1 2 (by decide)
 have s3:ez 1 ((3:Nat):Int) k v co pt ph fh ft lh lt=some (.pan (.ret ((),((),((k,(v,(co,(pt,(ph,(fh,(ft,(lh,(lt,()))))))))),()))))):=by
  rw[Fg]
  unfold rz
  exact af (by decide) _ _
 rw[s0,s1,s2,s3]
 unfold P3
 by_cases h0:k=0∨bw (aN (k,(v,(co,((pt,(ph,())),((fh,(ft,())),((lh,(lt,())),())))))) 0)=true
 ·rw[if_pos h0]
  by_cases h1:k=1∨bw (aN (k,(v,(co,((pt,(ph,())),((fh,(ft,())),((lh,(lt,())),())))))) 1)=true
  ·rw[if_pos h1]
   by_cases h2:k=2∨bw (aN (k,(v,(co,((pt,(ph,())),((fh,(ft,())),((lh,(lt,())),())))))) 2)=true
   ·rw[if_pos h2,if_pos (by rw[if_pos ⟨h0,h1,h2⟩])]
   ·rw[if_neg h2,if_neg (by rw[if_neg (fun h=>h2 h.2.2)];decide)]
  ·rw[if_neg h1,if_neg (by rw[if_neg (fun h=>h1 h.2.1)];decide)]
 ·rw[if_neg h0,if_neg (by rw[if_neg (fun h=>h0 h.1)];decide)]
def DE (a0 a1 a2:Int)(a3:List az.den)(a4 a5:Int)(a6:List aj.den)(a7:Int)(a8:List ag.den):Option nv.Res:=bif fE a0 a1 != 0 then oR (([],fE a0 a1,()),()) else (tl ((0,()),((a0,(a1,(a2,(a3,(a4,(a5,(a6,(a7,(a8,()))))))))),()))).run fun y=>match y with | .ret ((),((x50,x51,()),()))=>(oR ((x50,x51,()),())) | .pan (.ret ((),((),(x52,x53,x54,x55,x56,x57,x58,x59,x60,()),())))=>(bif cr (x52,x53,x54,(x55,x56,()),(x57,x58,()),(x59,x60,()),()) then bif decide (8*aM (Tre.mk (aN (x52,x53,x54,(x55,x56,()),(x57,x58,()),(x59,x60,()),()) x52).1 (aN (x52,x53,x54,(x55,x56,()),(x57,x58,()),(x59,x60,()),()) x52).2)≤4294967296) then bif (eE x52 true (i64.wrap x53) (Tre.mk (aN (x52,x53,x54,(x55,x56,()),(x57,x58,()),(x59,x60,()),()) x52).1 (aN (x52,x53,x54,(x55,x56,()),(x57,x58,()),(x59,x60,()),()) x52).2)).2 != 0 then oR (([],(eE x52 true (i64.wrap x53) (Tre.mk (aN (x52,x53,x54,(x55,x56,()),(x57,x58,()),(x59,x60,()),()) x52).1 (aN (x52,x53,x54,(x55,x56,()),(x57,x58,()),(x59,x60,()),()) x52).2)).2,()),()) else bif decide ((aB (i64.wrap x54) (Int.toNat 4)).length+(eE x52 true (i64.wrap x53) (Tre.mk (aN (x52,x53,x54,(x55,x56,()),(x57,x58,()),(x59,x60,()),()) x52).1 (aN (x52,x53,x54,(x55,x56,()),(x57,x58,()),(x59,x60,()),()) x52).2)).1.length≤4294967296) then oR ((aB (i64.wrap x54) (Int.toNat 4)++(eE x52 true (i64.wrap x53) (Tre.mk (aN (x52,x53,x54,(x55,x56,()),(x57,x58,()),(x59,x60,()),()) x52).1 (aN (x52,x53,x54,(x55,x56,()),(x57,x58,()),(x59,x60,()),()) x52).2)).1,0,()),()) else none else none else none)
theorem X4 (a0 a1 a2:Int)(a3:List az.den)(a4 a5:Int)(a6:List aj.den)(a7:Int)(a8:List ag.den):Io.run tt NR dr xN nv Tryz.f17 (((a0,a1,a2,(a3,a4,()),(a5,a6,()),(a7,a8,()),()),()),())=DE a0 a1 a2 a3 a4 a5 a6 a7 a8:=by kernel_rfl
theorem Ek:HcsOk prog No:=.cons O0 (.cons I4 (.cons O1 (.cons acr (.cons ur (.cons IW .nil)))))
theorem acm:HcOk prog 17 (ae nv J6):=by
 refine cg Ek (lp:=xN) (fn:=Tryz.f17) nv (.step (h0:=aS gK tl) (by kernel_rfl) (jh Ek (lp:=xN) (fn:=Tryz.f17) (.done (by kernel_rfl)) gK tl ?_) (.done (by kernel_rfl))) J6 ?_
 ·rintro ⟨⟨(j:Int),⟨⟩⟩,⟨⟨(k:Int),(v:Int),(co:Int),(pt:List az.den),(ph:Int),(fh:Int),(ft:List aj.den),(lh:Int),(lt:List ag.den),⟨⟩⟩,⟨⟩⟩⟩ y hw hy
  obtain ⟨hg,hy⟩:=Tr.guard hy
  simp only[zA,zB] at hg
  obtain ⟨h1,h2⟩:=hg
  have h1:j=0:=h1
  subst h1
  refine ⟨4,(Rp k v co pt ph fh ft lh lt h2).trans ?_⟩
  rw[← hy]
  show _=(Tr.ite (P3 (k,(v,(co,((pt,(ph,())),((fh,(ft,())),((lh,(lt,())),()))))))) _ _).val
  rw[Tr.val_ite]
  rfl
 ·rintro ⟨⟨⟨(k:Int),(v:Int),(co:Int),⟨(pt:List az.den),(ph:Int),⟨⟩⟩,⟨(fh:Int),(ft:List aj.den),⟨⟩⟩,⟨(lh:Int),(lt:List ag.den),⟨⟩⟩,⟨⟩⟩,⟨⟩⟩,⟨⟩⟩ out hw ho
  obtain ⟨hg,ho⟩:=Tr.guard ho
  obtain ⟨hg,hb⟩:=Bool.and_eq_true_iff.1 hg
  have hg:cr (k,(v,(co,((pt,(ph,())),((fh,(ft,())),((lh,(lt,())),()))))))=true:=hg
  have hb:8*aM (aN (k,(v,(co,((pt,(ph,())),((fh,(ft,())),((lh,(lt,())),())))))) k)≤4294967296:=of_decide_eq_true hb
  cases ho
  refine (X4 k v co pt ph fh ft lh lt).trans ?_
  unfold DE
  show _=oR (((lC (k,(v,(co,((pt,(ph,())),((fh,(ft,())),((lh,(lt,())),()))))))).1,((lC (k,(v,(co,((pt,(ph,())),((fh,(ft,())),((lh,(lt,())),()))))))).2,())),())
  unfold lC
  have hk64:i64.wrap k=k:=gJ hw.1.1.1
  have hv64:i64.wrap v=v:=gJ hw.1.1.2.1
  have hc64:i64.wrap co=co:=dQ hw.1.1.2.2.1
  dsimp only
  by_cases h1:fE k v=0
  ·rw[af (by simpa using h1),if_neg (not_not_intro h1)]
   refine (aa (Bool.and_eq_true_iff.2 ⟨rfl,hg⟩) _ _).trans ?_
   by_cases h6:P3 (k,(v,(co,((pt,(ph,())),((fh,(ft,())),((lh,(lt,())),()))))))=true
   ·rw[if_pos h6]
    refine (aa h6 _ _).trans ?_
    refine (aa hg _ _).trans ?_
    generalize aN (k,(v,(co,((pt,(ph,())),((fh,(ft,())),((lh,(lt,())),())))))) k=n at hb ⊢
    obtain ⟨nl,nk⟩:=n
    refine bT (decide_eq_true hb) ?_
    rw[hv64,hc64]
    have hy:(eE k true v (Tre.mk nl nk)).1.length≤130048:=ej _ _ _ _
    by_cases h7:(eE k true v (Tre.mk nl nk)).2=0
    ·refine bF (by simpa using h7) ?_
     rw[if_neg (not_not_intro h7)]
     generalize (eE k true v (Tre.mk nl nk)).1=y at hy ⊢
     simp only[show Int.toNat 4=4 from rfl,zH,bj]
     refine bT (decide_eq_true (by omega)) ?_
     rfl
    ·refine bT (by simpa using h7) ?_
     rw[if_pos h7]
   ·rw[if_neg h6]
    exact af (Bool.eq_false_iff.2 h6) _ _
  ·rw[aa (by simpa using h1),if_pos h1]
abbrev j3:Io:=⟨[.dat da true false,.dat da true false],[],[],[dB],none⟩
def wj (a b:da.den):Bool:=if (dm (aG a 0) (aG b 0)=true∧dm (aG a 1) (aG b 1)=true∧dm (aG a 2) (aG b 2)=true) then true else false
def C8 (d:j3.In):Tr j3.Res:=.ite (cL d.1.1&&cL d.1.2.1) (.ret (.ret ((kL d.1.1 d.1.2.1,()),()))) .no
abbrev H4:List (Nat×Hc):=[(36,ae lI Ck),(51,ae fK Ka)]
def It:Hd:=bM H4
abbrev fM:Lo:=⟨⟨(ce (.one (.ptr 2 0)::.one (.ptr 3 0)::.any::.one hK::am (am (dq (ce []))))),[none,none,some [hK,hK,hJ,hL,.hol .str,hL,.hol .str,hK,hJ,.hol (.sl 172 ar),hJ,hJ,hJ,hJ,.hol (.int i8),.hol (.sl 185 ai),hJ,.hol (.int i8),.hol (.sl 196 ah)],some [hK,hK,hJ,hL,.hol .str,hL,.hol .str,hK,hJ,.hol (.sl 172 ar),hJ,hJ,hJ,hJ,.hol (.int i8),.hol (.sl 185 ai),hJ,.hol (.int i8),.hol (.sl 196 ah)]]⟩,[(.ret,⟨(dq (.one hL::.any::am (am (dq (ce []))))),[]⟩),(.exit 0,⟨(am (am (gE (dq [])))),[]⟩)]⟩
def pW (d:fM.st.den):Tr (aH fM.xs):=
 .ite (decide (d.1.1=0)&&(cL (c19 d.2.1)&&cL (c19 d.2.2.1))) (.ite (wj (c19 d.2.1) (c19 d.2.2.1)) (.ret (.pan (.ret ((),((),()))))) (.ret (.ret ((),((false,()),()))))) .no
def t9:Lp:=bB [(5,aS fM pW)]
def pp {R:Type}(h38 h39 h40 h41:Int)(h42:Bool)(h43:LI)(h44:Bool)(h45:LI)(h46 h47:Int)(h48:List ar.den)(h49 h50 h51 h52 h53:Int)(h54:List ai.den)(h55 h56:Int)(h57:List ah.den)(h58 h59 h60:Int)(h61:Bool)(h62:LI)(h63:Bool)(h64:LI)(h65 h66:Int)(h67:List ar.den)(h68 h69 h70 h71 h72:Int)(h73:List ai.den)(h74 h75:Int)(h76:List ah.den)(next:Int→Int→Int→Int→Bool→LI→Bool→LI→Int→Int→List ar.den→Int→Int→Int→Int→Int→List ai.den→Int→Int→List ah.den→Int→Int→Int→Bool→LI→Bool→LI→Int→Int→List ar.den→Int→Int→Int→Int→Int→List ai.den→Int→Int→List ah.den→Option R)(out:aH fM.xs→Option R):Option R:=bif decide (h38<3) then bif cL (h39,h40,h41,(h42,h43,()),((h44,h45,()),h46,h47,h48,()),(h49,h50,h51,h52,h53,h54,()),(h55,h56,h57,()),()) then bif cL (h58,h59,h60,(h61,h62,()),((h63,h64,()),h65,h66,h67,()),(h68,h69,h70,h71,h72,h73,()),(h74,h75,h76,()),()) then bif !dm (Tre.mk (aG (h39,h40,h41,(h42,h43,()),((h44,h45,()),h46,h47,h48,()),(h49,h50,h51,h52,h53,h54,()),(h55,h56,h57,()),()) h38).1 (aG (h39,h40,h41,(h42,h43,()),((h44,h45,()),h46,h47,h48,()),(h49,h50,h51,h52,h53,h54,()),(h55,h56,h57,()),()) h38).2) (Tre.mk (aG (h58,h59,h60,(h61,h62,()),((h63,h64,()),h65,h66,h67,()),(h68,h69,h70,h71,h72,h73,()),(h74,h75,h76,()),()) h38).1 (aG (h58,h59,h60,(h61,h62,()),((h63,h64,()),h65,h66,h67,()),(h68,h69,h70,h71,h72,h73,()),(h74,h75,h76,()),()) h38).2) then out (.ret ((),((false,()),()))) else next (i16.wrap (h38+1)) (h39) (h40) (h41) (h42) (h43) (h44) (h45) (h46) (h47) (h48) (h49) (h50) (h51) (h52) (h53) (h54) (h55) (h56) (h57) (h58) (h59) (h60) (h61) (h62) (h63) (h64) (h65) (h66) (h67) (h68) (h69) (h70) (h71) (h72) (h73) (h74) (h75) (h76) else none else none else out (.pan (.ret ((),((),()))))
def dJ (n:Nat)(h38 h39 h40 h41:Int)(h42:Bool)(h43:LI)(h44:Bool)(h45:LI)(h46 h47:Int)(h48:List ar.den)(h49 h50 h51 h52 h53:Int)(h54:List ai.den)(h55 h56:Int)(h57:List ah.den)(h58 h59 h60:Int)(h61:Bool)(h62:LI)(h63:Bool)(h64:LI)(h65 h66:Int)(h67:List ar.den)(h68 h69 h70 h71 h72:Int)(h73:List ai.den)(h74 h75:Int)(h76:List ah.den):Option (aH fM.xs):=il tt It dr t9 0 Tryz.f14 (db Tryz.f14 0) n (fM.st.mk' ((h38,()),((h39,(h40,(h41,(h42,(h43,(h44,(h45,(h46,(h47,(h48,(h49,(h50,(h51,(h52,(h53,(h54,(h55,(h56,(h57,()))))))))))))))))))),((h58,(h59,(h60,(h61,(h62,(h63,(h64,(h65,(h66,(h67,(h68,(h69,(h70,(h71,(h72,(h73,(h74,(h75,(h76,()))))))))))))))))))),())))) (ci fM.xs)
theorem BB (n:Nat)(h38 h39 h40 h41:Int)(h42:Bool)(h43:LI)(h44:Bool)(h45:LI)(h46 h47:Int)(h48:List ar.den)(h49 h50 h51 h52 h53:Int)(h54:List ai.den)(h55 h56:Int)(h57:List ah.den)(h58 h59 h60:Int)(h61:Bool)(h62:LI)(h63:Bool)(h64:LI)(h65 h66:Int)(h67:List ar.den)(h68 h69 h70 h71 h72:Int)(h73:List ai.den)(h74 h75:Int)(h76:List ah.den):dJ (n+1) h38 h39 h40 h41 h42 h43 h44 h45 h46 h47 h48 h49 h50 h51 h52 h53 h54 h55 h56 h57 h58 h59 h60 h61 h62 h63 h64 h65 h66 h67 h68 h69 h70 h71 h72 h73 h74 h75 h76=pp h38 h39 h40 h41 h42 h43 h44 h45 h46 h47 h48 h49 h50 h51 h52 h53 h54 h55 h56 h57 h58 h59 h60 h61 h62 h63 h64 h65 h66 h67 h68 h69 h70 h71 h72 h73 h74 h75 h76 (dJ n) some:=by kernel_rfl
theorem qV (kA vA coA:Int)(czA:Bool)(csA:LI)(nzA:Bool)(nsA:LI)(akA wtA:Int)(tsA:List ar.den)(frA fwA fmA fxA flA:Int)(ftA:List ai.den)(lrA llA:Int)(ltA:List ah.den)(kB vB coB:Int)(czB:Bool)(csB:LI)(nzB:Bool)(nsB:LI)(akB wtB:Int)(tsB:List ar.den)(frB fwB fmB fxB flB:Int)(ftB:List ai.den)(lrB llB:Int)(ltB:List ah.den)(hA:cL (kA,(vA,(coA,((czA,(csA,())),(((nzA,(nsA,())),(akA,(wtA,(tsA,())))),((frA,(fwA,(fmA,(fxA,(flA,(ftA,())))))),((lrA,(llA,(ltA,()))),())))))))=true)(hB:cL (kB,(vB,(coB,((czB,(csB,())),(((nzB,(nsB,())),(akB,(wtB,(tsB,())))),((frB,(fwB,(fmB,(fxB,(flB,(ftB,())))))),((lrB,(llB,(ltB,()))),())))))))=true)(n j:Nat)(hj:j<3):dJ (n+1) (j:Int) kA vA coA czA csA nzA nsA akA wtA tsA frA fwA fmA fxA flA ftA lrA llA ltA kB vB coB czB csB nzB nsB akB wtB tsB frB fwB fmB fxB flB ftB lrB llB ltB=
  if dm (aG (kA,(vA,(coA,((czA,(csA,())),(((nzA,(nsA,())),(akA,(wtA,(tsA,())))),((frA,(fwA,(fmA,(fxA,(flA,(ftA,())))))),((lrA,(llA,(ltA,()))),()))))))) (j:Int)) (aG (kB,(vB,(coB,((czB,(csB,())),(((nzB,(nsB,())),(akB,(wtB,(tsB,())))),((frB,(fwB,(fmB,(fxB,(flB,(ftB,())))))),((lrB,(llB,(ltB,()))),()))))))) (j:Int))=true then dJ n ((j+1:Nat):Int) kA vA coA czA csA nzA nsA akA wtA tsA frA fwA fmA fxA flA ftA lrA llA ltA kB vB coB czB csB nzB nsB akB wtB tsB frB fwB fmB fxB flB ftB lrB llB ltB else some (.ret ((),((false,()),()))):=by
 rw[BB]
 unfold pp
 have hw:i16.wrap ((j:Int)+1)=((j+1:Nat):Int):=dY (by simp[eD,IntKind.min,IntKind.max,IntKind.signed,IntKind.bits];omega)
 refine bT (decide_eq_true (show (j:Int)<3 by omega)) ?_
 refine (aa hA _ _).trans ?_
 refine (aa hB _ _).trans ?_
 generalize aG (kA,(vA,(coA,((czA,(csA,())),(((nzA,(nsA,())),(akA,(wtA,(tsA,())))),((frA,(fwA,(fmA,(fxA,(flA,(ftA,())))))),((lrA,(llA,(ltA,()))),()))))))) (j:Int)=n0
 generalize aG (kB,(vB,(coB,((czB,(csB,())),(((nzB,(nsB,())),(akB,(wtB,(tsB,())))),((frB,(fwB,(fmB,(fxB,(flB,(ftB,())))))),((lrB,(llB,(ltB,()))),()))))))) (j:Int)=n1
 obtain ⟨nl,nk⟩:=n0
 obtain ⟨ml,mk⟩:=n1
 by_cases h2:dm (Tre.mk nl nk) (Tre.mk ml mk)=true
 ·rw[if_pos h2,h2,Bool.not_true,cond_false,hw]
 ·rw[if_neg h2,Bool.eq_false_iff.2 h2,Bool.not_false,cond_true]
theorem N8 (kA vA coA:Int)(czA:Bool)(csA:LI)(nzA:Bool)(nsA:LI)(akA wtA:Int)(tsA:List ar.den)(frA fwA fmA fxA flA:Int)(ftA:List ai.den)(lrA llA:Int)(ltA:List ah.den)(kB vB coB:Int)(czB:Bool)(csB:LI)(nzB:Bool)(nsB:LI)(akB wtB:Int)(tsB:List ar.den)(frB fwB fmB fxB flB:Int)(ftB:List ai.den)(lrB llB:Int)(ltB:List ah.den)(hA:cL (kA,(vA,(coA,((czA,(csA,())),(((nzA,(nsA,())),(akA,(wtA,(tsA,())))),((frA,(fwA,(fmA,(fxA,(flA,(ftA,())))))),((lrA,(llA,(ltA,()))),())))))))=true)(hB:cL (kB,(vB,(coB,((czB,(csB,())),(((nzB,(nsB,())),(akB,(wtB,(tsB,())))),((frB,(fwB,(fmB,(fxB,(flB,(ftB,())))))),((lrB,(llB,(ltB,()))),())))))))=true):dJ 4 0 kA vA coA czA csA nzA nsA akA wtA tsA frA fwA fmA fxA flA ftA lrA llA ltA kB vB coB czB csB nzB nsB akB wtB tsB frB fwB fmB fxB flB ftB lrB llB ltB=
  if wj (kA,(vA,(coA,((czA,(csA,())),(((nzA,(nsA,())),(akA,(wtA,(tsA,())))),((frA,(fwA,(fmA,(fxA,(flA,(ftA,())))))),((lrA,(llA,(ltA,()))),()))))))) (kB,(vB,(coB,((czB,(csB,())),(((nzB,(nsB,())),(akB,(wtB,(tsB,())))),((frB,(fwB,(fmB,(fxB,(flB,(ftB,())))))),((lrB,(llB,(ltB,()))),())))))))=true then some (.pan (.ret ((),((),())))) else some (.ret ((),((false,()),()))):=by
 have s0:dJ 4 0 kA vA coA czA csA nzA nsA akA wtA tsA frA fwA fmA fxA flA ftA lrA llA ltA kB vB coB czB csB nzB nsB akB wtB tsB frB fwB fmB fxB flB ftB lrB llB ltB=if dm (aG (kA,(vA,(coA,((czA,(csA,())),(((nzA,(nsA,())),(akA,(wtA,(tsA,())))),((frA,(fwA,(fmA,(fxA,(flA,(ftA,())))))),((lrA,(llA,(ltA,()))),()))))))) 0) (aG (kB,(vB,(coB,((czB,(csB,())),(((nzB,(nsB,())),(akB,(wtB,(tsB,())))),((frB,(fwB,(fmB,(fxB,(flB,(ftB,())))))),((lrB,(llB,(ltB,()))),()))))))) 0)=true then dJ 3 ((1:Nat):Int) kA vA coA czA csA nzA nsA akA wtA tsA frA fwA fmA fxA flA ftA lrA llA ltA kB vB coB czB csB nzB nsB akB wtB tsB frB fwB fmB fxB flB ftB lrB llB ltB else some (.ret ((),((false,()),()))):=qV kA vA coA czA csA nzA nsA akA wtA tsA frA fwA fmA fxA flA ftA lrA llA ltA kB vB coB czB csB nzB nsB akB wtB tsB frB fwB fmB fxB flB ftB lrB llB ltB hA hB 3 0 (by decide)
 have s1:dJ 3 ((1:Nat):Int) kA vA coA czA csA nzA nsA akA wtA tsA frA fwA fmA fxA flA ftA lrA llA ltA kB vB coB czB csB nzB nsB akB wtB tsB frB fwB fmB fxB flB ftB lrB llB ltB=if dm (aG (kA,(vA,(coA,((czA,(csA,())),(((nzA,(nsA,())),(akA,(wtA,(tsA,())))),((frA,(fwA,(fmA,(fxA,(flA,(ftA,())))))),((lrA,(llA,(ltA,()))),()))))))) 1) (aG (kB,(vB,(coB,((czB,(csB,())),(((nzB,(nsB,())),(akB,(wtB,(tsB,())))),((frB,(fwB,(fmB,(fxB,(flB,(ftB,())))))),((lrB,(llB,(ltB,()))),()))))))) 1)=true then dJ 2 ((2:Nat):Int) kA vA coA czA csA nzA nsA akA wtA tsA frA fwA fmA fxA flA ftA lrA llA ltA kB vB coB czB csB nzB nsB akB wtB tsB frB fwB fmB fxB flB ftB lrB llB ltB else some (.ret ((),((false,()),()))):=qV kA vA coA czA csA nzA nsA akA wtA tsA frA fwA fmA fxA flA ftA lrA llA ltA kB vB coB czB csB nzB nsB akB wtB tsB frB fwB fmB fxB flB ftB lrB llB ltB hA hB 2 1 (by decide)
 have s2:dJ 2 ((2:Nat):Int) kA vA coA czA csA nzA nsA akA wtA tsA frA fwA fmA fxA flA ftA lrA llA ltA kB vB coB czB csB nzB nsB akB wtB tsB frB fwB fmB fxB flB ftB lrB llB ltB=if dm (aG (kA,(vA,(coA,((czA,(csA,())),(((nzA,(nsA,())),(akA,(wtA,(tsA,())))),((frA,(fwA,(fmA,(fxA,(flA,(ftA,())))))),((lrA,(llA,(ltA,()))),()))))))) 2) (aG (kB,(vB,(coB,((czB,(csB,())),(((nzB,(nsB,())),(akB,(wtB,(tsB,())))),((frB,(fwB,(fmB,(fxB,(flB,(ftB,())))))),((lrB,(llB,(ltB,()))),()))))))) 2)=true then dJ 1 ((3:Nat):Int) kA vA coA czA csA nzA nsA akA wtA tsA frA fwA fmA fxA flA ftA lrA llA ltA kB vB coB czB csB nzB nsB akB wtB tsB frB fwB fmB fxB flB ftB lrB llB ltB else some (.ret ((),((false,()),()))):=qV kA vA coA czA csA nzA nsA akA wtA tsA frA fwA fmA fxA flA ftA lrA llA ltA kB vB coB czB csB nzB nsB akB wtB tsB frB fwB fmB fxB flB ftB lrB llB ltB hA hB 1 2 (by decide)
 have s3:dJ 1 ((3:Nat):Int) kA vA coA czA csA nzA nsA akA wtA tsA frA fwA fmA fxA flA ftA lrA llA ltA kB vB coB czB csB nzB nsB akB wtB tsB frB fwB fmB fxB flB ftB lrB llB ltB=some (.pan (.ret ((),((),())))):=by
  rw[BB]
  unfold pp
  exact af (by decide) _ _
 rw[s0,s1,s2,s3]
 unfold wj
 by_cases h0:dm (aG (kA,(vA,(coA,((czA,(csA,())),(((nzA,(nsA,())),(akA,(wtA,(tsA,())))),((frA,(fwA,(fmA,(fxA,(flA,(ftA,())))))),((lrA,(llA,(ltA,()))),()))))))) 0) (aG (kB,(vB,(coB,((czB,(csB,())),(((nzB,(nsB,())),(akB,(wtB,(tsB,())))),((frB,(fwB,(fmB,(fxB,(flB,(ftB,())))))),((lrB,(llB,(ltB,()))),()))))))) 0)=true
 ·rw[if_pos h0]
  by_cases h1:dm (aG (kA,(vA,(coA,((czA,(csA,())),(((nzA,(nsA,())),(akA,(wtA,(tsA,())))),((frA,(fwA,(fmA,(fxA,(flA,(ftA,())))))),((lrA,(llA,(ltA,()))),()))))))) 1) (aG (kB,(vB,(coB,((czB,(csB,())),(((nzB,(nsB,())),(akB,(wtB,(tsB,())))),((frB,(fwB,(fmB,(fxB,(flB,(ftB,())))))),((lrB,(llB,(ltB,()))),()))))))) 1)=true
  ·rw[if_pos h1]
   by_cases h2:dm (aG (kA,(vA,(coA,((czA,(csA,())),(((nzA,(nsA,())),(akA,(wtA,(tsA,())))),((frA,(fwA,(fmA,(fxA,(flA,(ftA,())))))),((lrA,(llA,(ltA,()))),()))))))) 2) (aG (kB,(vB,(coB,((czB,(csB,())),(((nzB,(nsB,())),(akB,(wtB,(tsB,())))),((frB,(fwB,(fmB,(fxB,(flB,(ftB,())))))),((lrB,(llB,(ltB,()))),()))))))) 2)=true
   ·rw[if_pos h2,if_pos (by rw[if_pos ⟨h0,h1,h2⟩])]
   ·rw[if_neg h2,if_neg (by rw[if_neg (fun h=>h2 h.2.2)];decide)]
  ·rw[if_neg h1,if_neg (by rw[if_neg (fun h=>h1 h.2.1)];decide)]
 ·rw[if_neg h0,if_neg (by rw[if_neg (fun h=>h0 h.1)];decide)]
def A7 (a0 a1 a2:Int)(a3:Bool)(a4:LI)(a5:Bool)(a6:LI)(a7 a8:Int)(a9:List ar.den)(a10 a11 a12 a13 a14:Int)(a15:List ai.den)(a16 a17:Int)(a18:List ah.den)(a19 a20 a21:Int)(a22:Bool)(a23:LI)(a24:Bool)(a25:LI)(a26 a27:Int)(a28:List ar.den)(a29 a30 a31 a32 a33:Int)(a34:List ai.den)(a35 a36:Int)(a37:List ah.den):Option j3.Res:=bif a0 != a19 then oR ((false,()),()) else bif a1 != a20 then oR ((false,()),()) else bif a2 != a21 then oR ((false,()),()) else bif !(a3 == a22&&(decide (a4=a23)&&true)) then oR ((false,()),()) else (pW ((0,()),((a0,(a1,(a2,(a3,(a4,(a5,(a6,(a7,(a8,(a9,(a10,(a11,(a12,(a13,(a14,(a15,(a16,(a17,(a18,()))))))))))))))))))),((a19,(a20,(a21,(a22,(a23,(a24,(a25,(a26,(a27,(a28,(a29,(a30,(a31,(a32,(a33,(a34,(a35,(a36,(a37,()))))))))))))))))))),())))).run fun y=>match y with | .ret ((),((x117,()),()))=>(oR ((x117,()),())) | .pan (.ret ((),((),())))=>(oR ((true,()),()))
theorem Sn (a0 a1 a2:Int)(a3:Bool)(a4:LI)(a5:Bool)(a6:LI)(a7 a8:Int)(a9:List ar.den)(a10 a11 a12 a13 a14:Int)(a15:List ai.den)(a16 a17:Int)(a18:List ah.den)(a19 a20 a21:Int)(a22:Bool)(a23:LI)(a24:Bool)(a25:LI)(a26 a27:Int)(a28:List ar.den)(a29 a30 a31 a32 a33:Int)(a34:List ai.den)(a35 a36:Int)(a37:List ah.den):Io.run tt It dr t9 j3 Tryz.f14 (((a0,a1,a2,(a3,a4,()),((a5,a6,()),a7,a8,a9,()),(a10,a11,a12,a13,a14,a15,()),(a16,a17,a18,()),()),(a19,a20,a21,(a22,a23,()),((a24,a25,()),a26,a27,a28,()),(a29,a30,a31,a32,a33,a34,()),(a35,a36,a37,()),()),()),())=A7 a0 a1 a2 a3 a4 a5 a6 a7 a8 a9 a10 a11 a12 a13 a14 a15 a16 a17 a18 a19 a20 a21 a22 a23 a24 a25 a26 a27 a28 a29 a30 a31 a32 a33 a34 a35 a36 a37:=by kernel_rfl
theorem Bt:HcsOk prog H4:=.cons OZ (.cons O2 .nil)
theorem Xu:HcOk prog 14 (ae j3 C8):=by
 refine cg Bt (lp:=t9) (fn:=Tryz.f14) j3 (.step (h0:=aS fM pW) (by kernel_rfl) (jh Bt (lp:=t9) (fn:=Tryz.f14) (.done (by kernel_rfl)) fM pW ?_) (.done (by kernel_rfl))) C8 ?_
 ·rintro ⟨⟨(j:Int),⟨⟩⟩,⟨⟨(kA:Int),(vA:Int),(coA:Int),(czA:Bool),(csA:LI),(nzA:Bool),(nsA:LI),(akA:Int),(wtA:Int),(tsA:List ar.den),(frA:Int),(fwA:Int),(fmA:Int),(fxA:Int),(flA:Int),(ftA:List ai.den),(lrA:Int),(llA:Int),(ltA:List ah.den),⟨⟩⟩,⟨(kB:Int),(vB:Int),(coB:Int),(czB:Bool),(csB:LI),(nzB:Bool),(nsB:LI),(akB:Int),(wtB:Int),(tsB:List ar.den),(frB:Int),(fwB:Int),(fmB:Int),(fxB:Int),(flB:Int),(ftB:List ai.den),(lrB:Int),(llB:Int),(ltB:List ah.den),⟨⟩⟩,⟨⟩⟩⟩ y hw hy
  obtain ⟨hg,hy⟩:=Tr.guard hy
  simp only[zA,zB] at hg
  obtain ⟨h1,h2,h3⟩:=hg
  have h1:j=0:=h1
  subst h1
  refine ⟨4,(N8 kA vA coA czA csA nzA nsA akA wtA tsA frA fwA fmA fxA flA ftA lrA llA ltA kB vB coB czB csB nzB nsB akB wtB tsB frB fwB fmB fxB flB ftB lrB llB ltB h2 h3).trans ?_⟩
  rw[← hy]
  show _=(Tr.ite (wj (kA,(vA,(coA,((czA,(csA,())),(((nzA,(nsA,())),(akA,(wtA,(tsA,())))),((frA,(fwA,(fmA,(fxA,(flA,(ftA,())))))),((lrA,(llA,(ltA,()))),()))))))) (kB,(vB,(coB,((czB,(csB,())),(((nzB,(nsB,())),(akB,(wtB,(tsB,())))),((frB,(fwB,(fmB,(fxB,(flB,(ftB,())))))),((lrB,(llB,(ltB,()))),())))))))) _ _).val
  rw[Tr.val_ite]
  rfl
 ·rintro ⟨⟨⟨(kA:Int),(vA:Int),(coA:Int),⟨(czA:Bool),(csA:LI),⟨⟩⟩,⟨⟨(nzA:Bool),(nsA:LI),⟨⟩⟩,(akA:Int),(wtA:Int),(tsA:List ar.den),⟨⟩⟩,⟨(frA:Int),(fwA:Int),(fmA:Int),(fxA:Int),(flA:Int),(ftA:List ai.den),⟨⟩⟩,⟨(lrA:Int),(llA:Int),(ltA:List ah.den),⟨⟩⟩,⟨⟩⟩,⟨(kB:Int),(vB:Int),(coB:Int),⟨(czB:Bool),(csB:LI),⟨⟩⟩,⟨⟨(nzB:Bool),(nsB:LI),⟨⟩⟩,(akB:Int),(wtB:Int),(tsB:List ar.den),⟨⟩⟩,⟨(frB:Int),(fwB:Int),(fmB:Int),(fxB:Int),(flB:Int),(ftB:List ai.den),⟨⟩⟩,⟨(lrB:Int),(llB:Int),(ltB:List ah.den),⟨⟩⟩,⟨⟩⟩,⟨⟩⟩,⟨⟩⟩ out hw ho
  obtain ⟨hg,ho⟩:=Tr.guard ho
  obtain ⟨hA,hB⟩:=Bool.and_eq_true_iff.1 hg
  have hA:cL (kA,(vA,(coA,((czA,(csA,())),(((nzA,(nsA,())),(akA,(wtA,(tsA,())))),((frA,(fwA,(fmA,(fxA,(flA,(ftA,())))))),((lrA,(llA,(ltA,()))),())))))))=true:=hA
  have hB:cL (kB,(vB,(coB,((czB,(csB,())),(((nzB,(nsB,())),(akB,(wtB,(tsB,())))),((frB,(fwB,(fmB,(fxB,(flB,(ftB,())))))),((lrB,(llB,(ltB,()))),())))))))=true:=hB
  cases ho
  have wA:=hw.1.1
  have wB:=hw.1.2.1
  refine (Sn kA vA coA czA csA nzA nsA akA wtA tsA frA fwA fmA fxA flA ftA lrA llA ltA kB vB coB czB csB nzB nsB akB wtB tsB frB fwB fmB fxB flB ftB lrB llB ltB).trans ?_
  unfold A7
  show _=oR ((kL (kA,(vA,(coA,((czA,(csA,())),(((nzA,(nsA,())),(akA,(wtA,(tsA,())))),((frA,(fwA,(fmA,(fxA,(flA,(ftA,())))))),((lrA,(llA,(ltA,()))),()))))))) (kB,(vB,(coB,((czB,(csB,())),(((nzB,(nsB,())),(akB,(wtB,(tsB,())))),((frB,(fwB,(fmB,(fxB,(flB,(ftB,())))))),((lrB,(llB,(ltB,()))),()))))))),()),())
  have key:wj (kA,(vA,(coA,((czA,(csA,())),(((nzA,(nsA,())),(akA,(wtA,(tsA,())))),((frA,(fwA,(fmA,(fxA,(flA,(ftA,())))))),((lrA,(llA,(ltA,()))),()))))))) (kB,(vB,(coB,((czB,(csB,())),(((nzB,(nsB,())),(akB,(wtB,(tsB,())))),((frB,(fwB,(fmB,(fxB,(flB,(ftB,())))))),((lrB,(llB,(ltB,()))),())))))))=true↔(((nzA,(nsA,())),(akA,(wtA,(tsA,()))))=((nzB,(nsB,())),(akB,(wtB,(tsB,()))))∧(frA,(fwA,(fmA,(fxA,(flA,(ftA,()))))))=(frB,(fwB,(fmB,(fxB,(flB,(ftB,()))))))∧(lrA,(llA,(ltA,())))=(lrB,(llB,(ltB,())))):=by
   unfold wj
   have i0:dm (aG (kA,(vA,(coA,((czA,(csA,())),(((nzA,(nsA,())),(akA,(wtA,(tsA,())))),((frA,(fwA,(fmA,(fxA,(flA,(ftA,())))))),((lrA,(llA,(ltA,()))),()))))))) 0) (aG (kB,(vB,(coB,((czB,(csB,())),(((nzB,(nsB,())),(akB,(wtB,(tsB,())))),((frB,(fwB,(fmB,(fxB,(flB,(ftB,())))))),((lrB,(llB,(ltB,()))),()))))))) 0)=true↔((nzA,(nsA,())),(akA,(wtA,(tsA,()))))=((nzB,(nsB,())),(akB,(wtB,(tsB,())))):=by
    rw[jk]
    refine ⟨fun h=>?_,fun h=>congrArg bv h⟩
    have h:bv ((nzA,(nsA,())),(akA,(wtA,(tsA,()))))=bv ((nzB,(nsB,())),(akB,(wtB,(tsB,())))):=h
    rw[← rj (m:=((nzA,(nsA,())),(akA,(wtA,(tsA,()))))) wA.2.2.2.2.1,← rj (m:=((nzB,(nsB,())),(akB,(wtB,(tsB,()))))) wB.2.2.2.2.1,h]
   have i1:dm (aG (kA,(vA,(coA,((czA,(csA,())),(((nzA,(nsA,())),(akA,(wtA,(tsA,())))),((frA,(fwA,(fmA,(fxA,(flA,(ftA,())))))),((lrA,(llA,(ltA,()))),()))))))) 1) (aG (kB,(vB,(coB,((czB,(csB,())),(((nzB,(nsB,())),(akB,(wtB,(tsB,())))),((frB,(fwB,(fmB,(fxB,(flB,(ftB,())))))),((lrB,(llB,(ltB,()))),()))))))) 1)=true↔(frA,(fwA,(fmA,(fxA,(flA,(ftA,()))))))=(frB,(fwB,(fmB,(fxB,(flB,(ftB,())))))):=by
    rw[jk]
    refine ⟨fun h=>?_,fun h=>congrArg b9 h⟩
    have h:b9 (frA,(fwA,(fmA,(fxA,(flA,(ftA,()))))))=b9 (frB,(fwB,(fmB,(fxB,(flB,(ftB,())))))):=h
    rw[← sY (m:=(frA,(fwA,(fmA,(fxA,(flA,(ftA,()))))))) wA.2.2.2.2.2.1,← sY (m:=(frB,(fwB,(fmB,(fxB,(flB,(ftB,()))))))) wB.2.2.2.2.2.1,h]
   have i2:dm (aG (kA,(vA,(coA,((czA,(csA,())),(((nzA,(nsA,())),(akA,(wtA,(tsA,())))),((frA,(fwA,(fmA,(fxA,(flA,(ftA,())))))),((lrA,(llA,(ltA,()))),()))))))) 2) (aG (kB,(vB,(coB,((czB,(csB,())),(((nzB,(nsB,())),(akB,(wtB,(tsB,())))),((frB,(fwB,(fmB,(fxB,(flB,(ftB,())))))),((lrB,(llB,(ltB,()))),()))))))) 2)=true↔(lrA,(llA,(ltA,())))=(lrB,(llB,(ltB,()))):=by
    rw[jk]
    refine ⟨fun h=>?_,fun h=>congrArg cb h⟩
    have h:cb (lrA,(llA,(ltA,())))=cb (lrB,(llB,(ltB,()))):=h
    rw[← s7 (m:=(lrA,(llA,(ltA,())))) wA.2.2.2.2.2.2.1,← s7 (m:=(lrB,(llB,(ltB,())))) wB.2.2.2.2.2.2.1,h]
   rw[← i0,← i1,← i2]
   constructor
   ·intro h
    split at h
    ·assumption
    ·cases h
   ·intro h
    rw[if_pos h]
  have no:∀h:(kA,(vA,(coA,((czA,(csA,())),(((nzA,(nsA,())),(akA,(wtA,(tsA,())))),((frA,(fwA,(fmA,(fxA,(flA,(ftA,())))))),((lrA,(llA,(ltA,()))),())))))))≠(kB,(vB,(coB,((czB,(csB,())),(((nzB,(nsB,())),(akB,(wtB,(tsB,())))),((frB,(fwB,(fmB,(fxB,(flB,(ftB,())))))),((lrB,(llB,(ltB,()))),()))))))),kL (kA,(vA,(coA,((czA,(csA,())),(((nzA,(nsA,())),(akA,(wtA,(tsA,())))),((frA,(fwA,(fmA,(fxA,(flA,(ftA,())))))),((lrA,(llA,(ltA,()))),()))))))) (kB,(vB,(coB,((czB,(csB,())),(((nzB,(nsB,())),(akB,(wtB,(tsB,())))),((frB,(fwB,(fmB,(fxB,(flB,(ftB,())))))),((lrB,(llB,(ltB,()))),())))))))=false:=fun h=>Bool.eq_false_iff.2 fun h'=>h (m3.1 h')
  have fin:∀{b:Bool},kL (kA,(vA,(coA,((czA,(csA,())),(((nzA,(nsA,())),(akA,(wtA,(tsA,())))),((frA,(fwA,(fmA,(fxA,(flA,(ftA,())))))),((lrA,(llA,(ltA,()))),()))))))) (kB,(vB,(coB,((czB,(csB,())),(((nzB,(nsB,())),(akB,(wtB,(tsB,())))),((frB,(fwB,(fmB,(fxB,(flB,(ftB,())))))),((lrB,(llB,(ltB,()))),())))))))=b→(oR ((b,()),()):Option j3.Res)=oR ((kL (kA,(vA,(coA,((czA,(csA,())),(((nzA,(nsA,())),(akA,(wtA,(tsA,())))),((frA,(fwA,(fmA,(fxA,(flA,(ftA,())))))),((lrA,(llA,(ltA,()))),()))))))) (kB,(vB,(coB,((czB,(csB,())),(((nzB,(nsB,())),(akB,(wtB,(tsB,())))),((frB,(fwB,(fmB,(fxB,(flB,(ftB,())))))),((lrB,(llB,(ltB,()))),()))))))),()),()):=fun h=>by rw[h]
  by_cases ek:kA=kB
  rotate_left
  ·refine bT (by simpa using ek) ?_
   exact fin (no fun h=>ek (by simp only[zD] at h;exact h.1))
  refine bF (by simpa using ek) ?_
  by_cases ev:vA=vB
  rotate_left
  ·refine bT (by simpa using ev) ?_
   exact fin (no fun h=>ev (by simp only[zD] at h;exact h.2.1))
  refine bF (by simpa using ev) ?_
  by_cases eo:coA=coB
  rotate_left
  ·refine bT (by simpa using eo) ?_
   exact fin (no fun h=>eo (by simp only[zD] at h;exact h.2.2.1))
  refine bF (by simpa using eo) ?_
  by_cases ec:czA=czB∧csA=csB
  rotate_left
  ·refine bT (by cases hh:(czA == czB&&(decide (csA=csB)&&true)) with | false=>rfl | true=>exact absurd (by simpa using hh) ec) ?_
   exact fin (no fun h=>ec (by simp only[zD] at h;exact ⟨h.2.2.2.1.1,h.2.2.2.1.2.1⟩))
  refine bF (by simpa using ec) ?_
  refine (aa (Bool.and_eq_true_iff.2 ⟨rfl,Bool.and_eq_true_iff.2 ⟨hA,hB⟩⟩) _ _).trans ?_
  by_cases h6:wj (kA,(vA,(coA,((czA,(csA,())),(((nzA,(nsA,())),(akA,(wtA,(tsA,())))),((frA,(fwA,(fmA,(fxA,(flA,(ftA,())))))),((lrA,(llA,(ltA,()))),()))))))) (kB,(vB,(coB,((czB,(csB,())),(((nzB,(nsB,())),(akB,(wtB,(tsB,())))),((frB,(fwB,(fmB,(fxB,(flB,(ftB,())))))),((lrB,(llB,(ltB,()))),())))))))=true
  ·refine (aa h6 _ _).trans ?_
   obtain ⟨e0,e1,e2⟩:=key.1 h6
   refine fin (m3.2 ?_)
   simp only[zD] at e0 e1 e2 ⊢
   simp only[ec,ek,ev,eo,e0,e1,e2,and_self]
  ·refine (af (Bool.eq_false_iff.2 h6) _ _).trans ?_
   refine fin (no fun h=>h6 (key.2 ?_))
   simp only[zD] at h ⊢
   simp only[h,and_self]
abbrev iK:Io:=⟨[.dat dn true false,.dat dn true false],[],[],[dB],none⟩
def wn (a b:dn.den):Bool:=if (dm (aN a 0) (aN b 0)=true∧dm (aN a 1) (aN b 1)=true∧dm (aN a 2) (aN b 2)=true) then true else false
def yM (d:iK.In):Tr iK.Res:=.ite (cr d.1.1&&cr d.1.2.1) (.ret (.ret ((kL d.1.1 d.1.2.1,()),()))) .no
abbrev D3:List (Nat×Hc):=[(52,ae j4 wM),(51,ae fK Ka)]
def En:Hd:=bM D3
abbrev eP:Lo:=⟨⟨(ce (.one (.ptr 2 0)::.one (.ptr 3 0)::.any::.one hK::.any::am (gE (dq (ce []))))),[none,none,some [hK,hK,hJ,.hol (.sl 212 az),hJ,hJ,.hol (.sl 221 aj),hJ,.hol (.sl 230 ag)],some [hK,hK,hJ,.hol (.sl 212 az),hJ,hJ,.hol (.sl 221 aj),hJ,.hol (.sl 230 ag)]]⟩,[(.ret,⟨(dq (.one hL::am (am ([])))),[]⟩),(.exit 0,⟨(.any::am (am (dq []))),[]⟩)]⟩
def om (d:eP.st.den):Tr (aH eP.xs):=
 .ite (decide (d.1.1=0)&&(cr (c9 d.2.1)&&cr (c9 d.2.2.1))) (.ite (wn (c9 d.2.1) (c9 d.2.2.1)) (.ret (.pan (.ret ((),((),()))))) (.ret (.ret ((),((false,()),()))))) .no
def qW:Lp:=bB [(5,aS eP om)]
def oe {R:Type}(h18 h19 h20 h21:Int)(h22:List az.den)(h23 h24:Int)(h25:List aj.den)(h26:Int)(h27:List ag.den)(h28 h29 h30:Int)(h31:List az.den)(h32 h33:Int)(h34:List aj.den)(h35:Int)(h36:List ag.den)(next:Int→Int→Int→Int→List az.den→Int→Int→List aj.den→Int→List ag.den→Int→Int→Int→List az.den→Int→Int→List aj.den→Int→List ag.den→Option R)(out:aH eP.xs→Option R):Option R:=bif decide (h18<3) then bif cr (h19,h20,h21,(h22,h23,()),(h24,h25,()),(h26,h27,()),()) then bif cr (h28,h29,h30,(h31,h32,()),(h33,h34,()),(h35,h36,()),()) then bif !dm (Tre.mk (aN (h19,h20,h21,(h22,h23,()),(h24,h25,()),(h26,h27,()),()) h18).1 (aN (h19,h20,h21,(h22,h23,()),(h24,h25,()),(h26,h27,()),()) h18).2) (Tre.mk (aN (h28,h29,h30,(h31,h32,()),(h33,h34,()),(h35,h36,()),()) h18).1 (aN (h28,h29,h30,(h31,h32,()),(h33,h34,()),(h35,h36,()),()) h18).2) then out (.ret ((),((false,()),()))) else next (i16.wrap (h18+1)) (h19) (h20) (h21) (h22) (h23) (h24) (h25) (h26) (h27) (h28) (h29) (h30) (h31) (h32) (h33) (h34) (h35) (h36) else none else none else out (.pan (.ret ((),((),()))))
def dd (n:Nat)(h18 h19 h20 h21:Int)(h22:List az.den)(h23 h24:Int)(h25:List aj.den)(h26:Int)(h27:List ag.den)(h28 h29 h30:Int)(h31:List az.den)(h32 h33:Int)(h34:List aj.den)(h35:Int)(h36:List ag.den):Option (aH eP.xs):=il tt En dr qW 0 Tryz.f12 (db Tryz.f12 0) n (eP.st.mk' ((h18,()),((h19,(h20,(h21,(h22,(h23,(h24,(h25,(h26,(h27,()))))))))),((h28,(h29,(h30,(h31,(h32,(h33,(h34,(h35,(h36,()))))))))),())))) (ci eP.xs)
theorem yb (n:Nat)(h18 h19 h20 h21:Int)(h22:List az.den)(h23 h24:Int)(h25:List aj.den)(h26:Int)(h27:List ag.den)(h28 h29 h30:Int)(h31:List az.den)(h32 h33:Int)(h34:List aj.den)(h35:Int)(h36:List ag.den):dd (n+1) h18 h19 h20 h21 h22 h23 h24 h25 h26 h27 h28 h29 h30 h31 h32 h33 h34 h35 h36=oe h18 h19 h20 h21 h22 h23 h24 h25 h26 h27 h28 h29 h30 h31 h32 h33 h34 h35 h36 (dd n) some:=by kernel_rfl
theorem pe (kA vA coA:Int)(ptA:List az.den)(phA fhA:Int)(ftA:List aj.den)(lhA:Int)(ltA:List ag.den)(kB vB coB:Int)(ptB:List az.den)(phB fhB:Int)(ftB:List aj.den)(lhB:Int)(ltB:List ag.den)(hA:cr (kA,(vA,(coA,((ptA,(phA,())),((fhA,(ftA,())),((lhA,(ltA,())),()))))))=true)(hB:cr (kB,(vB,(coB,((ptB,(phB,())),((fhB,(ftB,())),((lhB,(ltB,())),()))))))=true)(n j:Nat)(hj:j<3):dd (n+1) (j:Int) kA vA coA ptA phA fhA ftA lhA ltA kB vB coB ptB phB fhB ftB lhB ltB=
  if dm (aN (kA,(vA,(coA,((ptA,(phA,())),((fhA,(ftA,())),((lhA,(ltA,())),())))))) (j:Int)) (aN (kB,(vB,(coB,((ptB,(phB,())),((fhB,(ftB,())),((lhB,(ltB,())),())))))) (j:Int))=true then dd n ((j+1:Nat):Int) kA vA coA ptA phA fhA ftA lhA ltA kB vB coB ptB phB fhB ftB lhB ltB else some (.ret ((),((false,()),()))):=by
 rw[yb]
 unfold oe
 have hw:i16.wrap ((j:Int)+1)=((j+1:Nat):Int):=dY (by simp[eD,IntKind.min,IntKind.max,IntKind.signed,IntKind.bits];omega)
 refine bT (decide_eq_true (show (j:Int)<3 by omega)) ?_
 refine (aa hA _ _).trans ?_
 refine (aa hB _ _).trans ?_
 generalize aN (kA,(vA,(coA,((ptA,(phA,())),((fhA,(ftA,())),((lhA,(ltA,())),())))))) (j:Int)=n0
 generalize aN (kB,(vB,(coB,((ptB,(phB,())),((fhB,(ftB,())),((lhB,(ltB,())),())))))) (j:Int)=n1
 obtain ⟨nl,nk⟩:=n0
 obtain ⟨ml,mk⟩:=n1
 by_cases h2:dm (Tre.mk nl nk) (Tre.mk ml mk)=true
 ·rw[if_pos h2,h2,Bool.not_true,cond_false,hw]
 ·rw[if_neg h2,Bool.eq_false_iff.2 h2,Bool.not_false,cond_true]
theorem K7 (kA vA coA:Int)(ptA:List az.den)(phA fhA:Int)(ftA:List aj.den)(lhA:Int)(ltA:List ag.den)(kB vB coB:Int)(ptB:List az.den)(phB fhB:Int)(ftB:List aj.den)(lhB:Int)(ltB:List ag.den)(hA:cr (kA,(vA,(coA,((ptA,(phA,())),((fhA,(ftA,())),((lhA,(ltA,())),()))))))=true)(hB:cr (kB,(vB,(coB,((ptB,(phB,())),((fhB,(ftB,())),((lhB,(ltB,())),()))))))=true):dd 4 0 kA vA coA ptA phA fhA ftA lhA ltA kB vB coB ptB phB fhB ftB lhB ltB=
  if wn (kA,(vA,(coA,((ptA,(phA,())),((fhA,(ftA,())),((lhA,(ltA,())),())))))) (kB,(vB,(coB,((ptB,(phB,())),((fhB,(ftB,())),((lhB,(ltB,())),()))))))=true then some (.pan (.ret ((),((),())))) else some (.ret ((),((false,()),()))):=by
 have s0:dd 4 0 kA vA coA ptA phA fhA ftA lhA ltA kB vB coB ptB phB fhB ftB lhB ltB=if dm (aN (kA,(vA,(coA,((ptA,(phA,())),((fhA,(ftA,())),((lhA,(ltA,())),())))))) 0) (aN (kB,(vB,(coB,((ptB,(phB,())),((fhB,(ftB,())),((lhB,(ltB,())),())))))) 0)=true then dd 3 ((1:Nat):Int) kA vA coA ptA phA fhA ftA lhA ltA kB vB coB ptB phB fhB ftB lhB ltB else some (.ret ((),((false,()),()))):=pe kA vA coA ptA phA fhA ftA lhA ltA kB vB coB ptB phB fhB ftB lhB ltB hA hB 3 0 (by decide)
 have s1:dd 3 ((1:Nat):Int) kA vA coA ptA phA fhA ftA lhA ltA kB vB coB ptB phB fhB ftB lhB ltB=if dm (aN (kA,(vA,(coA,((ptA,(phA,())),((fhA,(ftA,())),((lhA,(ltA,())),())))))) 1) (aN (kB,(vB,(coB,((ptB,(phB,())),((fhB,(ftB,())),((lhB,(ltB,())),())))))) 1)=true then dd 2 ((2:Nat):Int) kA vA coA ptA phA fhA ftA lhA ltA kB vB coB ptB phB fhB ftB lhB ltB else some (.ret ((),((false,()),()))):=pe kA vA coA ptA phA fhA ftA lhA ltA kB vB coB ptB phB fhB ftB lhB ltB hA hB 2 1 (by decide)
 have s2:dd 2 ((2:Nat):Int) kA vA coA ptA phA fhA ftA lhA ltA kB vB coB ptB phB fhB ftB lhB ltB=if dm (aN (kA,(vA,(coA,((ptA,(phA,())),((fhA,(ftA,())),((lhA,(ltA,())),())))))) 2) (aN (kB,(vB,(coB,((ptB,(phB,())),((fhB,(ftB,())),((lhB,(ltB,())),())))))) 2)=true then dd 1 ((3:Nat):Int) kA vA coA ptA phA fhA ftA lhA ltA kB vB coB ptB phB fhB ftB lhB ltB else some (.ret ((),((false,()),()))):=pe kA vA coA ptA phA fhA ftA lhA ltA kB vB coB ptB phB fhB ftB lhB ltB hA hB 1 2 (by decide)
 have s3:dd 1 ((3:Nat):Int) kA vA coA ptA phA fhA ftA lhA ltA kB vB coB ptB phB fhB ftB lhB ltB=some (.pan (.ret ((),((),())))):=by
  rw[yb]
  unfold oe
  exact af (by decide) _ _
 rw[s0,s1,s2,s3]
 unfold wn
 by_cases h0:dm (aN (kA,(vA,(coA,((ptA,(phA,())),((fhA,(ftA,())),((lhA,(ltA,())),())))))) 0) (aN (kB,(vB,(coB,((ptB,(phB,())),((fhB,(ftB,())),((lhB,(ltB,())),())))))) 0)=true
 ·rw[if_pos h0]
  by_cases h1:dm (aN (kA,(vA,(coA,((ptA,(phA,())),((fhA,(ftA,())),((lhA,(ltA,())),())))))) 1) (aN (kB,(vB,(coB,((ptB,(phB,())),((fhB,(ftB,())),((lhB,(ltB,())),())))))) 1)=true
  ·rw[if_pos h1]
   by_cases h2:dm (aN (kA,(vA,(coA,((ptA,(phA,())),((fhA,(ftA,())),((lhA,(ltA,())),())))))) 2) (aN (kB,(vB,(coB,((ptB,(phB,())),((fhB,(ftB,())),((lhB,(ltB,())),())))))) 2)=true
   ·rw[if_pos h2,if_pos (by rw[if_pos ⟨h0,h1,h2⟩])]
   ·rw[if_neg h2,if_neg (by rw[if_neg (fun h=>h2 h.2.2)];decide)]
  ·rw[if_neg h1,if_neg (by rw[if_neg (fun h=>h1 h.2.1)];decide)]
 ·rw[if_neg h0,if_neg (by rw[if_neg (fun h=>h0 h.1)];decide)]
def xi (a0 a1 a2:Int)(a3:List az.den)(a4 a5:Int)(a6:List aj.den)(a7:Int)(a8:List ag.den)(a9 a10 a11:Int)(a12:List az.den)(a13 a14:Int)(a15:List aj.den)(a16:Int)(a17:List ag.den):Option iK.Res:=bif a0 != a9 then oR ((false,()),()) else bif a1 != a10 then oR ((false,()),()) else bif a2 != a11 then oR ((false,()),()) else (om ((0,()),((a0,(a1,(a2,(a3,(a4,(a5,(a6,(a7,(a8,()))))))))),((a9,(a10,(a11,(a12,(a13,(a14,(a15,(a16,(a17,()))))))))),())))).run fun y=>match y with | .ret ((),((x57,()),()))=>(oR ((x57,()),())) | .pan (.ret ((),((),())))=>(oR ((true,()),()))
theorem Pj (a0 a1 a2:Int)(a3:List az.den)(a4 a5:Int)(a6:List aj.den)(a7:Int)(a8:List ag.den)(a9 a10 a11:Int)(a12:List az.den)(a13 a14:Int)(a15:List aj.den)(a16:Int)(a17:List ag.den):Io.run tt En dr qW iK Tryz.f12 (((a0,a1,a2,(a3,a4,()),(a5,a6,()),(a7,a8,()),()),(a9,a10,a11,(a12,a13,()),(a14,a15,()),(a16,a17,()),()),()),())=xi a0 a1 a2 a3 a4 a5 a6 a7 a8 a9 a10 a11 a12 a13 a14 a15 a16 a17:=by kernel_rfl
theorem xy:HcsOk prog D3:=.cons I4 (.cons O2 .nil)
theorem RQ:HcOk prog 12 (ae iK yM):=by
 refine cg xy (lp:=qW) (fn:=Tryz.f12) iK (.step (h0:=aS eP om) (by kernel_rfl) (jh xy (lp:=qW) (fn:=Tryz.f12) (.done (by kernel_rfl)) eP om ?_) (.done (by kernel_rfl))) yM ?_
 ·rintro ⟨⟨(j:Int),⟨⟩⟩,⟨⟨(kA:Int),(vA:Int),(coA:Int),(ptA:List az.den),(phA:Int),(fhA:Int),(ftA:List aj.den),(lhA:Int),(ltA:List ag.den),⟨⟩⟩,⟨(kB:Int),(vB:Int),(coB:Int),(ptB:List az.den),(phB:Int),(fhB:Int),(ftB:List aj.den),(lhB:Int),(ltB:List ag.den),⟨⟩⟩,⟨⟩⟩⟩ y hw hy
  obtain ⟨hg,hy⟩:=Tr.guard hy
  simp only[zA,zB] at hg
  obtain ⟨h1,h2,h3⟩:=hg
  have h1:j=0:=h1
  subst h1
  refine ⟨4,(K7 kA vA coA ptA phA fhA ftA lhA ltA kB vB coB ptB phB fhB ftB lhB ltB h2 h3).trans ?_⟩
  rw[← hy]
  show _=(Tr.ite (wn (kA,(vA,(coA,((ptA,(phA,())),((fhA,(ftA,())),((lhA,(ltA,())),())))))) (kB,(vB,(coB,((ptB,(phB,())),((fhB,(ftB,())),((lhB,(ltB,())),()))))))) _ _).val
  rw[Tr.val_ite]
  rfl
 ·rintro ⟨⟨⟨(kA:Int),(vA:Int),(coA:Int),⟨(ptA:List az.den),(phA:Int),⟨⟩⟩,⟨(fhA:Int),(ftA:List aj.den),⟨⟩⟩,⟨(lhA:Int),(ltA:List ag.den),⟨⟩⟩,⟨⟩⟩,⟨(kB:Int),(vB:Int),(coB:Int),⟨(ptB:List az.den),(phB:Int),⟨⟩⟩,⟨(fhB:Int),(ftB:List aj.den),⟨⟩⟩,⟨(lhB:Int),(ltB:List ag.den),⟨⟩⟩,⟨⟩⟩,⟨⟩⟩,⟨⟩⟩ out hw ho
  obtain ⟨hg,ho⟩:=Tr.guard ho
  obtain ⟨hA,hB⟩:=Bool.and_eq_true_iff.1 hg
  have hA:cr (kA,(vA,(coA,((ptA,(phA,())),((fhA,(ftA,())),((lhA,(ltA,())),()))))))=true:=hA
  have hB:cr (kB,(vB,(coB,((ptB,(phB,())),((fhB,(ftB,())),((lhB,(ltB,())),()))))))=true:=hB
  cases ho
  have wA:=hw.1.1
  have wB:=hw.1.2.1
  refine (Pj kA vA coA ptA phA fhA ftA lhA ltA kB vB coB ptB phB fhB ftB lhB ltB).trans ?_
  unfold xi
  show _=oR ((kL (kA,(vA,(coA,((ptA,(phA,())),((fhA,(ftA,())),((lhA,(ltA,())),())))))) (kB,(vB,(coB,((ptB,(phB,())),((fhB,(ftB,())),((lhB,(ltB,())),())))))),()),())
  have key:wn (kA,(vA,(coA,((ptA,(phA,())),((fhA,(ftA,())),((lhA,(ltA,())),())))))) (kB,(vB,(coB,((ptB,(phB,())),((fhB,(ftB,())),((lhB,(ltB,())),()))))))=true↔((ptA,(phA,()))=(ptB,(phB,()))∧(fhA,(ftA,()))=(fhB,(ftB,()))∧(lhA,(ltA,()))=(lhB,(ltB,()))):=by
   unfold wn
   have i0:dm (aN (kA,(vA,(coA,((ptA,(phA,())),((fhA,(ftA,())),((lhA,(ltA,())),())))))) 0) (aN (kB,(vB,(coB,((ptB,(phB,())),((fhB,(ftB,())),((lhB,(ltB,())),())))))) 0)=true↔(ptA,(phA,()))=(ptB,(phB,())):=by
    rw[jk]
    refine ⟨fun h=>?_,fun h=>congrArg bu h⟩
    have h:bu (ptA,(phA,()))=bu (ptB,(phB,())):=h
    rw[← rh (m:=(ptA,(phA,()))) wA.2.2.2.1,← rh (m:=(ptB,(phB,()))) wB.2.2.2.1,h]
   have i1:dm (aN (kA,(vA,(coA,((ptA,(phA,())),((fhA,(ftA,())),((lhA,(ltA,())),())))))) 1) (aN (kB,(vB,(coB,((ptB,(phB,())),((fhB,(ftB,())),((lhB,(ltB,())),())))))) 1)=true↔(fhA,(ftA,()))=(fhB,(ftB,())):=by
    rw[jk]
    refine ⟨fun h=>?_,fun h=>congrArg ca h⟩
    have h:ca (fhA,(ftA,()))=ca (fhB,(ftB,())):=h
    rw[← s6 (m:=(fhA,(ftA,()))) wA.2.2.2.2.1,← s6 (m:=(fhB,(ftB,()))) wB.2.2.2.2.1,h]
   have i2:dm (aN (kA,(vA,(coA,((ptA,(phA,())),((fhA,(ftA,())),((lhA,(ltA,())),())))))) 2) (aN (kB,(vB,(coB,((ptB,(phB,())),((fhB,(ftB,())),((lhB,(ltB,())),())))))) 2)=true↔(lhA,(ltA,()))=(lhB,(ltB,())):=by
    rw[jk]
    refine ⟨fun h=>?_,fun h=>congrArg cc h⟩
    have h:cc (lhA,(ltA,()))=cc (lhB,(ltB,())):=h
    rw[← s8 (m:=(lhA,(ltA,()))) wA.2.2.2.2.2.1,← s8 (m:=(lhB,(ltB,()))) wB.2.2.2.2.2.1,h]
   rw[← i0,← i1,← i2]
   constructor
   ·intro h
    split at h
    ·assumption
    ·cases h
   ·intro h
    rw[if_pos h]
  have no:∀h:(kA,(vA,(coA,((ptA,(phA,())),((fhA,(ftA,())),((lhA,(ltA,())),()))))))≠(kB,(vB,(coB,((ptB,(phB,())),((fhB,(ftB,())),((lhB,(ltB,())),())))))),kL (kA,(vA,(coA,((ptA,(phA,())),((fhA,(ftA,())),((lhA,(ltA,())),())))))) (kB,(vB,(coB,((ptB,(phB,())),((fhB,(ftB,())),((lhB,(ltB,())),()))))))=false:=fun h=>Bool.eq_false_iff.2 fun h'=>h (m3.1 h')
  have fin:∀{b:Bool},kL (kA,(vA,(coA,((ptA,(phA,())),((fhA,(ftA,())),((lhA,(ltA,())),())))))) (kB,(vB,(coB,((ptB,(phB,())),((fhB,(ftB,())),((lhB,(ltB,())),()))))))=b→(oR ((b,()),()):Option iK.Res)=oR ((kL (kA,(vA,(coA,((ptA,(phA,())),((fhA,(ftA,())),((lhA,(ltA,())),())))))) (kB,(vB,(coB,((ptB,(phB,())),((fhB,(ftB,())),((lhB,(ltB,())),())))))),()),()):=fun h=>by rw[h]
  by_cases ek:kA=kB
  rotate_left
  ·refine bT (by simpa using ek) ?_
   exact fin (no fun h=>ek (by simp only[zD] at h;exact h.1))
  refine bF (by simpa using ek) ?_
  by_cases ev:vA=vB
  rotate_left
  ·refine bT (by simpa using ev) ?_
   exact fin (no fun h=>ev (by simp only[zD] at h;exact h.2.1))
  refine bF (by simpa using ev) ?_
  by_cases eo:coA=coB
  rotate_left
  ·refine bT (by simpa using eo) ?_
   exact fin (no fun h=>eo (by simp only[zD] at h;exact h.2.2.1))
  refine bF (by simpa using eo) ?_
  refine (aa (Bool.and_eq_true_iff.2 ⟨rfl,Bool.and_eq_true_iff.2 ⟨hA,hB⟩⟩) _ _).trans ?_
  by_cases h6:wn (kA,(vA,(coA,((ptA,(phA,())),((fhA,(ftA,())),((lhA,(ltA,())),())))))) (kB,(vB,(coB,((ptB,(phB,())),((fhB,(ftB,())),((lhB,(ltB,())),()))))))=true
  ·refine (aa h6 _ _).trans ?_
   obtain ⟨e0,e1,e2⟩:=key.1 h6
   refine fin (m3.2 ?_)
   simp only[zD] at e0 e1 e2 ⊢
   simp only[ek,ev,eo,e0,e1,e2,and_self]
  ·refine (af (Bool.eq_false_iff.2 h6) _ _).trans ?_
   refine fin (no fun h=>h6 (key.2 ?_))
   simp only[zD] at h ⊢
   simp only[h,and_self]
def V6 (c:da.den):Bool:=(dF c.2.2.2.2.1.2.2.2.1&&decide (aM (bv c.2.2.2.2.1)≤4294967296))&&((eF c.2.2.2.2.2.1.2.2.2.2.2.1&&decide (aM (b9 c.2.2.2.2.2.1)≤4294967296))&&(eH c.2.2.2.2.2.2.1.2.2.1&&decide (aM (cb c.2.2.2.2.2.2.1)≤4294967296)))
abbrev nw:Io:=⟨[.dat da true false],[],[],[.dat da true false],none⟩
def J7 (d:nw.In):Tr nw.Res:=.ite (V6 d.1.1) (.ret (.ret ((d.1.1,()),()))) .no
abbrev Ns:List (Nat×Hc):=[(30,ae jW yQ),(31,ae k8 Dg),(32,ae la Di)]
def aa3:Hd:=bM Ns
def OD:Lp:=bB []
def DI (a0 a1 a2:Int)(a3:Bool)(a4:LI)(a5:Bool)(a6:LI)(a7 a8:Int)(a9:List ar.den)(a10 a11 a12 a13 a14:Int)(a15:List ai.den)(a16 a17:Int)(a18:List ah.den):Option nw.Res:=bif dF a9&&decide (aM (bv ((a5,a6,()),a7,a8,a9,()))≤4294967296) then bif eF a15&&decide (aM (b9 (a10,a11,a12,a13,a14,a15,()))≤4294967296) then bif eH a18&&decide (aM (cb (a16,a17,a18,()))≤4294967296) then oR (((a0,a1,a2,(a3,a4,()),((a5,a6,()),a7,a8,a9,()),(a10,a11,a12,a13,a14,a15,()),(a16,a17,a18,()),()),()),()) else none else none else none
theorem X8 (a0 a1 a2:Int)(a3:Bool)(a4:LI)(a5:Bool)(a6:LI)(a7 a8:Int)(a9:List ar.den)(a10 a11 a12 a13 a14:Int)(a15:List ai.den)(a16 a17:Int)(a18:List ah.den):Io.run tt aa3 dr OD nw Tryz.f9 (((a0,a1,a2,(a3,a4,()),((a5,a6,()),a7,a8,a9,()),(a10,a11,a12,a13,a14,a15,()),(a16,a17,a18,()),()),()),())=DI a0 a1 a2 a3 a4 a5 a6 a7 a8 a9 a10 a11 a12 a13 a14 a15 a16 a17 a18:=by kernel_rfl
theorem acn:HcOk prog 9 (ae nw J7):=by
 refine cg (cs:=Ns) (.cons RW (.cons XG (.cons XI .nil))) (lp:=OD) (fn:=Tryz.f9) nw (.done (by kernel_rfl)) J7 ?_
 rintro ⟨⟨⟨(k:Int),(v:Int),(co:Int),⟨(cz:Bool),(cs:LI),⟨⟩⟩,⟨⟨(nz:Bool),(ns:LI),⟨⟩⟩,(ak:Int),(wt:Int),(ts:List ar.den),⟨⟩⟩,⟨(fr:Int),(fw:Int),(fm:Int),(fx:Int),(fl:Int),(ft:List ai.den),⟨⟩⟩,⟨(lr:Int),(ll:Int),(lt:List ah.den),⟨⟩⟩,⟨⟩⟩,⟨⟩⟩,⟨⟩⟩ out hw ho
 obtain ⟨hg,ho⟩:=Tr.guard ho
 obtain ⟨h1,hg⟩:=Bool.and_eq_true_iff.1 hg
 obtain ⟨h2,h3⟩:=Bool.and_eq_true_iff.1 hg
 cases ho
 refine (X8 k v co cz cs nz ns ak wt ts fr fw fm fx fl ft lr ll lt).trans ?_
 unfold DI
 refine (aa h1 _ _).trans ?_
 refine (aa h2 _ _).trans ?_
 exact aa h3 _ _
def Jj (c:dn.den):Bool:=(dE c.2.2.2.1.1&&decide (aM (bu c.2.2.2.1)≤4294967296))&&((eG c.2.2.2.2.1.2.1&&decide (aM (ca c.2.2.2.2.1)≤4294967296))&&(eJ c.2.2.2.2.2.1.2.1&&decide (aM (cc c.2.2.2.2.2.1)≤4294967296)))
abbrev kX:Io:=⟨[.dat dn true false],[],[],[.dat dn true false],none⟩
def C9 (d:kX.In):Tr kX.Res:=.ite (Jj d.1.1) (.ret (.ret ((d.1.1,()),()))) .no
abbrev H6:List (Nat×Hc):=[(55,ae jV yP),(56,ae k9 Dh),(57,ae lb Dj)]
def WP:Hd:=bM H6
def IH:Lp:=bB []
def A9 (a0 a1 a2:Int)(a3:List az.den)(a4 a5:Int)(a6:List aj.den)(a7:Int)(a8:List ag.den):Option kX.Res:=bif dE a3&&decide (aM (bu (a3,a4,()))≤4294967296) then bif eG a6&&decide (aM (ca (a5,a6,()))≤4294967296) then bif eJ a8&&decide (aM (cc (a7,a8,()))≤4294967296) then oR (((a0,a1,a2,(a3,a4,()),(a5,a6,()),(a7,a8,()),()),()),()) else none else none else none
theorem Sp (a0 a1 a2:Int)(a3:List az.den)(a4 a5:Int)(a6:List aj.den)(a7:Int)(a8:List ag.den):Io.run tt WP dr IH kX Tryz.f16 (((a0,a1,a2,(a3,a4,()),(a5,a6,()),(a7,a8,()),()),()),())=A9 a0 a1 a2 a3 a4 a5 a6 a7 a8:=by kernel_rfl
theorem Xv:HcOk prog 16 (ae kX C9):=by
 refine cg (cs:=H6) (.cons RV (.cons XH (.cons XJ .nil))) (lp:=IH) (fn:=Tryz.f16) kX (.done (by kernel_rfl)) C9 ?_
 rintro ⟨⟨⟨(k:Int),(v:Int),(co:Int),⟨(pt:List az.den),(ph:Int),⟨⟩⟩,⟨(fh:Int),(ft:List aj.den),⟨⟩⟩,⟨(lh:Int),(lt:List ag.den),⟨⟩⟩,⟨⟩⟩,⟨⟩⟩,⟨⟩⟩ out hw ho
 obtain ⟨hg,ho⟩:=Tr.guard ho
 obtain ⟨h1,hg⟩:=Bool.and_eq_true_iff.1 hg
 obtain ⟨h2,h3⟩:=Bool.and_eq_true_iff.1 hg
 cases ho
 refine (Sp k v co pt ph fh ft lh lt).trans ?_
 unfold A9
 refine (aa h1 _ _).trans ?_
 refine (aa h2 _ _).trans ?_
 exact aa h3 _ _
end
end Go.Proofs.YtomeplopmndbgaaGreat.Sym
namespace Go.Proofs.YtomeplopmndbgaaGreat.Sym
open Go
noncomputable section
theorem ke (l:List Nd):cD (ba l)=((l.length:Int) == 0):=by
 unfold cD
 by_cases h:l=[]
 ·subst h;rfl
 ·have h1:l.length≠0:=by simpa using h
  have h2:((l.length:Int) == 0)=false:=by simpa using h
  rw[h2]
  exact if_neg h1
theorem um {n:Nd}{b:Bool}(h:n.kids.all cD=b):bw n=b:=by
 unfold bw
 rw[h]
 cases b <;> rfl
theorem abX (m:ik.den):bw (bv m)=GJ m:=by
 unfold bv
 refine um ?_
 show (List.all [ji m.1,av 2 m.2.1,av 3 m.2.2.1,ba (m.2.2.2.1.map c6)] cD)=_
 simp only[List.all_cons,List.all_nil]
 rw[rq,bh,bh,ke,List.length_map]
 unfold GJ
 simp only[Bool.and_true]
theorem afA (m:bO.den):bw (b9 m)=Fv m:=by
 unfold b9
 refine um ?_
 show (List.all [av 3 m.1,av 3 m.2.1,av 3 m.2.2.1,av 3 m.2.2.2.1,av 1 m.2.2.2.2.1,ba (m.2.2.2.2.2.1.map hY)] cD)=_
 simp only[List.all_cons,List.all_nil]
 rw[bh,bh,bh,bh,bh,ke,List.length_map]
 unfold Fv
 simp only[Bool.and_true]
theorem afC (m:bX.den):bw (cb m)=An m:=by
 unfold cb
 refine um ?_
 show (List.all [av 3 m.1,av 1 m.2.1,ba (m.2.2.1.map ig)] cD)=_
 simp only[List.all_cons,List.all_nil]
 rw[bh,bh,ke,List.length_map]
 unfold An
 simp only[Bool.and_true]
theorem abW (m:ij.den):bw (bu m)=sU m:=by
 unfold bu
 refine um ?_
 show (List.all [ba (m.1.map dX),av 3 m.2.1] cD)=_
 simp only[List.all_cons,List.all_nil]
 rw[ke,bh,List.length_map]
 unfold sU
 simp only[Bool.and_true]
 exact Bool.and_comm _ _
theorem afB (m:bW.den):bw (ca m)=sR m:=by
 unfold ca
 refine um ?_
 show (List.all [av 3 m.1,ba (m.2.1.map ie)] cD)=_
 simp only[List.all_cons,List.all_nil]
 rw[bh,ke,List.length_map]
 unfold sR
 simp only[Bool.and_true]
theorem afD (m:bY.den):bw (cc m)=sT m:=by
 unfold cc
 refine um ?_
 show (List.all [av 3 m.1,ba (m.2.1.map ii)] cD)=_
 simp only[List.all_cons,List.all_nil]
 rw[bh,ke,List.length_map]
 unfold sT
 simp only[Bool.and_true]
theorem adP (c:da.den):L2 c=rH c:=by
 have e0:bw (aG c 0)=GJ c.2.2.2.2.1:=abX _
 have e1:bw (aG c 1)=Fv c.2.2.2.2.2.1:=afA _
 have e2:bw (aG c 2)=An c.2.2.2.2.2.2.1:=afC _
 unfold L2 rH
 rw[e0,e1,e2]
 cases GJ c.2.2.2.2.1 <;> cases Fv c.2.2.2.2.2.1 <;> cases An c.2.2.2.2.2.2.1 <;> by_cases h0:c.1=0 <;> by_cases h1:c.1=1 <;> by_cases h2:c.1=2 <;> simp[h0,h1,h2]
theorem adY (c:dn.den):P3 c=pi c:=by
 have e0:bw (aN c 0)=sU c.2.2.2.1:=abW _
 have e1:bw (aN c 1)=sR c.2.2.2.2.1:=afB _
 have e2:bw (aN c 2)=sT c.2.2.2.2.2.1:=afD _
 unfold P3 pi
 rw[e0,e1,e2]
 cases sU c.2.2.2.1 <;> cases sR c.2.2.2.2.1 <;> cases sT c.2.2.2.2.2.1 <;> by_cases h0:c.1=0 <;> by_cases h1:c.1=1 <;> by_cases h2:c.1=2 <;> simp[h0,h1,h2]
theorem aew (c:da.den)(h:c.1=0∨c.1=1∨c.1=2):o1 c=eE c.1 false c.2.1 (aG c c.1):=by
 unfold o1 aG
 rcases h with h | h | h
 ·rw[if_pos h,if_pos h,h]
  unfold cZ;rfl
 ·have n0:¬ c.1=0:=fun e=>absurd (h.symm.trans e) (by decide)
  rw[if_neg n0,if_pos h,if_neg n0,if_pos h,h]
  unfold e7;rfl
 ·have n0:¬ c.1=0:=fun e=>absurd (h.symm.trans e) (by decide)
  have n1:¬ c.1=1:=fun e=>absurd (h.symm.trans e) (by decide)
  rw[if_neg n0,if_neg n1,if_neg n0,if_neg n1,h]
  unfold eI;rfl
theorem ZB (c:dn.den)(h:c.1=0∨c.1=1∨c.1=2):o4 c=eE c.1 true c.2.1 (aN c c.1):=by
 unfold o4 aN
 rcases h with h | h | h
 ·rw[if_pos h,if_pos h,h]
  unfold dx;rfl
 ·have n0:¬ c.1=0:=fun e=>absurd (h.symm.trans e) (by decide)
  rw[if_neg n0,if_pos h,if_neg n0,if_pos h,h]
  unfold f7;rfl
 ·have n0:¬ c.1=0:=fun e=>absurd (h.symm.trans e) (by decide)
  have n1:¬ c.1=1:=fun e=>absurd (h.symm.trans e) (by decide)
  rw[if_neg n0,if_neg n1,if_neg n0,if_neg n1,h]
  unfold fF;rfl
theorem MY (c:da.den):dN c=mP c:=by
 unfold dN mP
 rw[adP]
 by_cases h1:fE c.1 c.2.1=0
 ·rw[if_neg (not_not_intro h1),if_neg (not_not_intro h1),aew c (pO h1)]
  by_cases h2:lN c.2.2.2.1=0
  ·rw[if_neg (not_not_intro h2),if_neg (not_not_intro h2)]
   cases rH c with
   |false=>rw[if_pos rfl,if_neg (by decide)]
   |true=>rw[if_neg (by decide),if_pos rfl]
  ·rw[if_pos h2,if_pos h2]
 ·rw[if_pos h1,if_pos h1]
theorem Jd (c:dn.den):cp c=lC c:=by
 unfold cp lC
 rw[adY]
 by_cases h1:fE c.1 c.2.1=0
 ·rw[if_neg (not_not_intro h1),if_neg (not_not_intro h1),ZB c (pO h1)]
  cases pi c with
  |false=>rw[if_pos rfl,if_neg (by decide)]
  |true=>rw[if_neg (by decide),if_pos rfl]
 ·rw[if_pos h1,if_pos h1]
def FE (c:da.den):Bool:=cH c.2.2.2.2.1.2.2.2.1&&(cL c&&(V6 c&&decide (8*aM (aG c c.1)≤4294967296)))
def FF (c:dn.den):Bool:=dD c.2.2.2.2.1.2.1&&(cr c&&(Jj c&&decide (8*aM (aN c c.1)≤4294967296)))
theorem Wk {c:da.den}(h:ga da c≤1048576):FE c=true:=by
 have e:ga da c=1+(1+(1+(ga fv c.2.2.2.1+(ga ik c.2.2.2.2.1+(ga bO c.2.2.2.2.2.1+(ga bX c.2.2.2.2.2.2.1+0)))))):=rfl
 have h1:=acO (m:=c.2.2.2.2.1) (by omega)
 have h2:=aeK (m:=c.2.2.2.2.2.1) (by omega)
 have h3:=af9 (m:=c.2.2.2.2.2.2.1) (by omega)
 unfold L5 at h1
 unfold Ta at h2
 unfold Tc at h3
 simp only[zA,zB] at h1 h2 h3
 obtain ⟨a1,a2,a3⟩:=h1
 obtain ⟨b2,b3⟩:=h2
 obtain ⟨c2,c3⟩:=h3
 unfold FE cL V6
 simp only[zA,zB]
 refine ⟨a1,⟨a2,b2,c2⟩,⟨⟨a2,by omega⟩,⟨b2,by omega⟩,c2,by omega⟩,?_⟩
 unfold aG
 split
 ·exact a3
 ·split
  ·exact b3
  ·exact c3
theorem R4 {c:dn.den}(h:ga dn c≤1048576):FF c=true:=by
 have e:ga dn c=1+(1+(1+(ga ij c.2.2.2.1+(ga bW c.2.2.2.2.1+(ga bY c.2.2.2.2.2.1+0))))):=rfl
 have h1:=acM (m:=c.2.2.2.1) (by omega)
 have h2:=aeO (m:=c.2.2.2.2.1) (by omega)
 have h3:=agb (m:=c.2.2.2.2.2.1) (by omega)
 unfold L4 at h1
 unfold Tb at h2
 unfold Td at h3
 simp only[zA,zB] at h1 h2 h3
 obtain ⟨a2,a3⟩:=h1
 obtain ⟨b1,b2,b3⟩:=h2
 obtain ⟨c2,c3⟩:=h3
 unfold FF cr Jj
 simp only[zA,zB]
 refine ⟨b1,⟨a2,b2,c2⟩,⟨⟨a2,by omega⟩,⟨b2,by omega⟩,c2,by omega⟩,?_⟩
 unfold aN
 split
 ·exact a3
 ·split
  ·exact b3
  ·exact c3
theorem ZL:dN (2,(1,(7,((false,([99],())),(((false,([],())),(0,(0,(([]:List ar.den),())))),((0,(0,(0,(0,(0,(([]:List ai.den),())))))),((-1,(0,(([]:List ah.den),()))),())))))))=([0,2,0,1,0,0,0,7,0,1,99,255,255,255,255,0,0,0,0],0):=by
 have w1:eI 1 (-1,(0,(([]:List ah.den),())))=([255,255,255,255,0,0,0,0],0):=(acE (v:=1) (m:=(-1,(0,(([]:List ah.den),())))) ⟨⟨by decide,by decide⟩,⟨by decide,by decide⟩,⟨Nat.zero_le _,fun x h=>absurd h (by simp)⟩,trivial⟩).symm.trans (by kernel_rfl)
 have hb:o1 (2,(1,(7,((false,([99],())),(((false,([],())),(0,(0,(([]:List ar.den),())))),((0,(0,(0,(0,(0,(([]:List ai.den),())))))),((-1,(0,(([]:List ah.den),()))),())))))))=([255,255,255,255,0,0,0,0],0):=((if_neg (by decide)).trans (if_neg (by decide))).trans w1
 have h1:fE 2 1=0:=by kernel_rfl
 have h2:lN (false,([99],()))=0:=by kernel_rfl
 have h3:rH (2,(1,(7,((false,([99],())),(((false,([],())),(0,(0,(([]:List ar.den),())))),((0,(0,(0,(0,(0,(([]:List ai.den),())))))),((-1,(0,(([]:List ah.den),()))),())))))))=true:=by kernel_rfl
 unfold dN
 rw[hb,h3]
 dsimp only
 rw[h1,h2]
 rfl
theorem ZM:gy [0,2,0,1,0,0,0,7,0,1,99,255,255,255,255,0,0,0,0]=((2,(1,(7,((false,([99],())),(((false,([],())),(0,(0,(([]:List ar.den),())))),((0,(0,(0,(0,(0,(([]:List ai.den),())))))),((-1,(0,(([]:List ah.den),()))),()))))))),0):=by kernel_rfl
theorem ZO:cp (2,(1,(7,(LS,(fr0,(or0,()))))))=([0,0,0,7,0,0,0,0],0):=by
 have w1:fF 1 or0=([0,0,0,0],0):=(acH (v:=1) (m:=or0) ⟨⟨by decide,by decide⟩,⟨Nat.zero_le _,fun x h=>absurd h (by simp)⟩,trivial⟩).symm.trans (by kernel_rfl)
 have hb:o4 (2,(1,(7,(LS,(fr0,(or0,()))))))=([0,0,0,0],0):=((if_neg (by decide)).trans (if_neg (by decide))).trans w1
 have h1:fE 2 1=0:=by kernel_rfl
 have h3:pi (2,(1,(7,(LS,(fr0,(or0,()))))))=true:=by kernel_rfl
 unfold cp
 rw[hb,h3]
 dsimp only
 rw[h1]
 rfl
theorem ZN:gf 2 1 [0,0,0,7,0,0,0,0]=((2,(1,(7,(LS,(fr0,(or0,())))))),0):=by kernel_rfl
abbrev nd:Io:=⟨[],[],[],[dB],none⟩
def JT (d:nd.In):Tr nd.Res:=.ret (.ret ((true,()),()))
abbrev M4:List (Nat×Hc):=[(11,ae sn TC),(20,ae sm TB),(13,ae nc JQ),(18,ae oA JS),(22,ae oz JR),(28,ae sk TA)]
def aaL:Hd:=bM M4
def Ol:Lp:=bB []
def Dn:Option nd.Res:=bif (dN (2,1,7,(false,[99],()),((false,[],()),0,0,[],()),(0,0,0,0,0,[],()),(-1,0,[],()),())).2 != 0 then oR ((false,()),()) else bif (gy [0,2,0,1,0,0,0,7,0,1,99,255,255,255,255,0,0,0,0]).2 != 0 then oR ((false,()),()) else bif (cp ((gy [0,2,0,1,0,0,0,7,0,1,99,255,255,255,255,0,0,0,0]).1.1,(gy [0,2,0,1,0,0,0,7,0,1,99,255,255,255,255,0,0,0,0]).1.2.1,(gy [0,2,0,1,0,0,0,7,0,1,99,255,255,255,255,0,0,0,0]).1.2.2.1,([],0,()),(0,[],()),(0,[],()),())).2 != 0 then oR ((false,()),()) else bif (gf 2 1 [0,0,0,7,0,0,0,0]).2 != 0 then oR ((false,()),()) else bif (gy [0,2,0,1,0,0,0,7,0,1,99,255,255,255,255,0,0,0,0]).1.2.2.1 != 7 then oR ((false,()),()) else bif (gf 2 1 [0,0,0,7,0,0,0,0]).1.2.2.1 != 7 then oR ((false,()),()) else bif decide ((dN (2,1,7,(false,[99],()),((false,[],()),0,0,[],()),(0,0,0,0,0,[],()),(-1,0,[],()),())).1=[0,2,0,1,0,0,0,7,0,1,99,255,255,255,255,0,0,0,0]) then oR ((decide ((cp ((gy [0,2,0,1,0,0,0,7,0,1,99,255,255,255,255,0,0,0,0]).1.1,(gy [0,2,0,1,0,0,0,7,0,1,99,255,255,255,255,0,0,0,0]).1.2.1,(gy [0,2,0,1,0,0,0,7,0,1,99,255,255,255,255,0,0,0,0]).1.2.2.1,([],0,()),(0,[],()),(0,[],()),())).1=[0,0,0,7,0,0,0,0]),()),()) else oR ((false,()),())
theorem XP:Io.run tt aaL dr Ol nd Tryz.f8 ((),())=Dn:=by kernel_rfl
theorem ab3:HcOk prog 8 (ae nd JT):=by
 refine cg (cs:=M4) (.cons ab2 (.cons ab1 (.cons ab0 (.cons VO (.cons VN (.cons RC .nil)))))) (lp:=Ol) (fn:=Tryz.f8) nd (.done (by kernel_rfl)) JT ?_
 rintro ⟨⟨⟩,⟨⟩⟩ out hw ho
 cases ho
 refine XP.trans ?_
 unfold Dn
 rw[ZL,ZM]
 show (bif (cp (2,(1,(7,(LS,(fr0,(or0,()))))))).2 != 0 then _ else _)=_
 rw[ZO]
 show (bif (0:Int) != 0 then _ else (bif (gf 2 1 [0,0,0,7,0,0,0,0]).2 != 0 then _ else _))=_
 rw[ZN]
 rfl
end
end Go.Proofs.YtomeplopmndbgaaGreat.Sym
