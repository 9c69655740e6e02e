/- produce.DecodeReq: what it reads. -/
import Derived.Test.YtomeplopmndbgaaGreatQ4

namespace Go.Proofs.YtomeplopmndbgaaGreat.Sym
open Go
set_option linter.unusedSimpArgs false
set_option linter.unusedVariables false
noncomputable section
abbrev JF:List (List Sh):=[[.ptr 1 0],[.ptr 2 0,dI,dI],[dL,dI]]
abbrev AZ:List (List Sh):=[[.ptr 1 0,dI,dI],[dL,dI],[.ptr 0 0]]
abbrev L8:List (List Sh):=[[.nil,dI,dI],[.ptr 0 0]]
abbrev mm (v:Int)(b:List Int)(s:aQ):k8 JF:=(((),()),dm v b s)
abbrev qV (v:Int)(b:List Int)(s:aQ):k8 AZ:=(((),(v,(s.1,()))),((b,(s.2,())),(((),()),())))
abbrev mT (d:k8 AZ):aQ:=(d.1.2.2.1,d.2.1.2.1)
def er {α:Type}(one:aQ→α×aQ):Nat→aQ→List α×aQ
 |0,s=>([],s)
 |k+1,s=>if s.1=0 then ((one s).1::(er one k (one s).2).1,(er one k (one s).2).2) else ([],s)
def qr (n:Int)(s:aQ):aQ:=if s.1=0 then (if n<0 then (5,s.2) else if 16<n then (9,s.2) else s) else s
def kp {α:Type}(one:aQ→α×aQ)(b:List Int)(s:aQ):List α×aQ:=er one (ae .i32 4 b s).1.toNat (qr (ae .i32 4 b s).1 (ae .i32 4 b s).2)
abbrev FK (v:Int)(b:List Int)(s:aQ):(Int×(Int×Unit))×((List Int×(Int×Unit))×(Unit×Unit)):=((v,(s.1,())),((b,(s.2,())),((),())))
theorem WT {b:List Int}{s:aQ}(n:Int)(h:av b s.2=true):av b (qr n s).2=true:=by
 unfold qr
 split
 ·split
  ·exact h
  ·split <;> exact h
 ·exact h
theorem KH {α:Type}{one:aQ→α×aQ}{b:List Int}(h1:∀s,av b s.2=true→av b (one s).2.2=true):∀(k:Nat) (s:aQ),av b s.2=true→av b (er one k s).2.2=true
 |0,s,h=>h
 |k+1,s,h=>by
  rw[er]
  split
  ·exact KH h1 k _ (h1 s h)
  ·exact h
theorem nG {α:Type}{one:aQ→α×aQ}{b:List Int}{s:aQ}(h1:∀s,av b s.2=true→av b (one s).2.2=true)(h:av b s.2=true):av b (kp one b s).2.2=true:=
 KH h1 _ _ (WT _ (bJ _ _ h))
theorem rE {b:List Int}{s:aQ}(h:av b s.2=true):av b (ct b s).2.2=true:=M0 _ (bJ _ _ h)
@[irreducible] noncomputable def G4 (b:List Int)(s:aQ):bZ.den×aQ:=(((ae .i32 4 b s).1,((yN b (ae .i32 4 b s).2).1,())),(yN b (ae .i32 4 b s).2).2)
abbrev vX (st cf:Nat)(T:Ty):Io:=⟨[.ptr 0 0,.fnc cf false [2]],AZ,[],[.dat (.sl st T) false false],none⟩
def ZR (st cf:Nat)(T:Ty)(sps:Int→List Int→aQ→List T.den×aQ)(d:(vX st cf T).In):Tr (vX st cf T).Res:=.ite (av d.2.2.1.1 d.2.2.1.2.1) (.ret (.ret (((sps d.2.1.2.1 d.2.2.1.1 (mT d.2)).1,()),qV d.2.1.2.1 d.2.2.1.1 (sps d.2.1.2.1 d.2.2.1.1 (mT d.2)).2))) .no
abbrev eL (st cf:Nat)(T:Ty):Lo:=⟨⟨[.one (.ptr 0 0),.one (.fnp cf false [2]),.any,.any,.any,.one (.hol (.int IntKind.i32)),.one (.onl st T 19),.one (.hol (.int IntKind.i32)),.any,.any,.any,.any,.any,.any,.any,.any,.any,.any,.any,.any,.any,.any,.any,.any,.any,.any,.any,.any,.any,.any,.any,.any,.any,.any,.any,.any,.any,.any,.any,.any,.any,.any,.any,.any,.any,.any],[some [.ptr 1 0,.hol (.int IntKind.i64),.hol (.int IntKind.i64)],some [.hol (.sl 5 (Ty.int IntKind.u8)),.hol (.int IntKind.i64)],some [.ptr 0 0]]⟩,[(.exit 1,⟨(bQ (bh (.one (.onl st T 19)::.any::ai (ai (bQ (bh [])))))),[some [.ptr 1 0,.hol (.int IntKind.i64),.hol (.int IntKind.i64)],some [.hol (.sl 5 (Ty.int IntKind.u8)),.hol (.int IntKind.i64)],some [.ptr 0 0]]⟩)]⟩
def dl (st cf:Nat)(T:Ty)(one:Int→List Int→aQ→T.den×aQ)(d:(eL st cf T).st.den):Tr (aD (eL st cf T).xs):=
 .ite (decide (d.1.2.2.1=0)&&(decide (d.1.2.1.length=0)&&(av d.2.2.1.1 d.2.2.1.2.1&&(decide (d.1.1≤(16:Int)) || decide (d.2.1.2.1≠0))))) (.ret (.ret ((),(((er (one d.2.1.1 d.2.2.1.1) d.1.1.toNat (d.2.1.2.1,d.2.2.1.2.1)).1,()),FK d.2.1.1 d.2.2.1.1 (er (one d.2.1.1 d.2.2.1.1) d.1.1.toNat (d.2.1.2.1,d.2.2.1.2.1)).2)))) .no
def B8 (st cf:Nat)(T:Ty)(one:Int→List Int→aQ→T.den×aQ){R:Type}(h4:Int)(h5:List T.den)(h6 h7 h8:Int)(h9:List Int)(h10:Int)(next:Int→List T.den→Int→Int→Int→List Int→Int→Option R)(out:aD (eL st cf T).xs→Option R):Option R:=bif decide (h6<h4) then bif h8 == 0 then bif av h9 h10 then bif decide (h5.length+1≤4294967296) then next (h4) (h5++[(one h7 h9 (h8,h10)).1]) (IntKind.i32.wrap (h6+1)) (h7) ((one h7 h9 (h8,h10)).2.1) (h9) ((one h7 h9 (h8,h10)).2.2) else none else none else out (.ret ((),((h5,()),((h7,(h8,())),((h9,(h10,())),((),())))))) else out (.ret ((),((h5,()),((h7,(h8,())),((h9,(h10,())),((),()))))))
theorem Uz {st cf:Nat}{T:Ty}{one:Int→List Int→aQ→T.den×aQ}(hok:∀v b s,av b s.2=true→av b (one v b s).2.2=true)
  (it:Nat→Int→List T.den→Int→Int→Int→List Int→Int→Option (aD (eL st cf T).xs)) (hit:∀n h4 h5 h6 h7 h8 h9 h10,it (n+1) h4 h5 h6 h7 h8 h9 h10=B8 st cf T one h4 h5 h6 h7 h8 h9 h10 (it n) some) (n v:Int) (b:List Int):∀(k j:Nat) (xs:List T.den) (s:aQ),n.toNat<j+k→j≤n.toNat→xs.length=j→av b s.2=true→(s.1=0→n≤16)→
  it k n xs j v s.1 b s.2=some (.ret ((),((xs++(er (one v b) (n.toNat - j) s).1,()),FK v b (er (one v b) (n.toNat - j) s).2))):=by
 intro k
 induction k with
 |zero=>intro j xs s h;omega
 |succ k ih=>
  intro j xs s h1 h2 h3 h4 h5
  rw[hit]
  unfold B8
  by_cases hj:(j:Int)<n
  ·refine (aa (by simpa using hj) _ _).trans ?_
   obtain ⟨m,hm⟩:∃m,n.toNat - j=m+1:=⟨n.toNat - j - 1,by omega⟩
   rw[hm]
   by_cases he:s.1=0
   ·refine (aa (by simpa using he) _ _).trans ?_
    have hn:=h5 he
    refine (aa h4 _ _).trans ?_
    refine (aa (decide_eq_true (show xs.length+1≤4294967296 by omega)) _ _).trans ?_
    have hw:IntKind.i32.wrap ((j:Int)+1)=((j+1:Nat):Int):=dd (by simp[ey,IntKind.min,IntKind.max,IntKind.signed,IntKind.bits];omega)
    rw[hw]
    refine (ih (j+1) (xs++[(one v b s).1]) (one v b s).2 (by omega) (by omega) (by simp[h3]) (hok v b s h4) (fun _=>hn)).trans ?_
    rw[show n.toNat - (j+1)=m by omega,er,if_pos he]
    simp
   ·refine (ab (by simpa using he) _ _).trans ?_
    rw[er,if_neg he]
    simp
  ·refine (ab (by simpa using hj) _ _).trans ?_
   rw[show n.toNat - j=0 by omega,er]
   simp
def Hz (st cf:Nat)(T:Ty)(one:Int→List Int→aQ→T.den×aQ)(a0 a1:Int)(a2:List Int)(a3:Int):Option (vX st cf T).Res:=bif av a2 a3 then bif (ae IntKind.i32 4 a2 (a1,a3)).2.1 != 0 then (dl st cf T one (((ae IntKind.i32 4 a2 (a1,a3)).1,([],(0,()))),((a0,((ae IntKind.i32 4 a2 (a1,a3)).2.1,())),((a2,((ae IntKind.i32 4 a2 (a1,a3)).2.2,())),((),()))))).run fun y=>match y with | .ret ((),((x28,()),(x29,x30,()),(x31,x32,()),(),()))=>(some (Out.ret ((x28,()),((),x29,x30,()),(x31,x32,()),((),()),()))) else bif decide ((ae IntKind.i32 4 a2 (a1,a3)).1<0) then (dl st cf T one (((ae IntKind.i32 4 a2 (a1,a3)).1,([],(0,()))),((a0,(5,())),((a2,((ae IntKind.i32 4 a2 (a1,a3)).2.2,())),((),()))))).run fun y=>match y with | .ret ((),((x40,()),(x41,x42,()),(x43,x44,()),(),()))=>(some (Out.ret ((x40,()),((),x41,x42,()),(x43,x44,()),((),()),()))) else bif decide (16<(ae IntKind.i32 4 a2 (a1,a3)).1) then (dl st cf T one (((ae IntKind.i32 4 a2 (a1,a3)).1,([],(0,()))),((a0,(9,())),((a2,((ae IntKind.i32 4 a2 (a1,a3)).2.2,())),((),()))))).run fun y=>match y with | .ret ((),((x52,()),(x53,x54,()),(x55,x56,()),(),()))=>(some (Out.ret ((x52,()),((),x53,x54,()),(x55,x56,()),((),()),()))) else (dl st cf T one (((ae IntKind.i32 4 a2 (a1,a3)).1,([],(0,()))),((a0,((ae IntKind.i32 4 a2 (a1,a3)).2.1,())),((a2,((ae IntKind.i32 4 a2 (a1,a3)).2.2,())),((),()))))).run fun y=>match y with | .ret ((),((x64,()),(x65,x66,()),(x67,x68,()),(),()))=>(some (Out.ret ((x64,()),((),x65,x66,()),(x67,x68,()),((),()),()))) else none
theorem F8 {st cf f:Nat}{T:Ty}{sps:Int→List Int→aQ→List T.den×aQ}{one:Int→List Int→aQ→T.den×aQ}(hs:∀v b s,sps v b s=kp (one v b) b s)(hok:∀v b s,av b s.2=true→av b (one v b s).2.2=true)
  {cs:List (Nat×Hc)} (hcs:HcsOk prog cs) {fn:Func} (hf:prog.funcs[f]?=some fn) (hname:(fn.name == "runtime.NumGoroutine")=false) (hbody:fn.body.isNone=false)
  (hlp:bv [(10,aN (eL st cf T) (dl st cf T one))] (dP ((dT fn).getD 0 kd).2.1)=some (aN (eL st cf T) (dl st cf T one))) (h1:Nat.ble (Ss fn ((dT fn).getD 0 kd)).length 0=true) (h2:Nat.ble (dT fn).length (0+1)=true)
  (hit:∀(n:Nat) (h4:Int) (h5:List T.den) (h6 h7 h8:Int) (h9:List Int) (h10:Int),gd tt (bA cs) dr (bv [(10,aN (eL st cf T) (dl st cf T one))]) 3 fn ((dT fn).getD 0 kd) (n+1) ((eL st cf T).st.mk' ((h4,(h5,(h6,()))),((h7,(h8,())),((h9,(h10,())),((),()))))) (bL (eL st cf T).xs)=
   B8 st cf T one h4 h5 h6 h7 h8 h9 h10 (fun h4 h5 h6 h7 h8 h9 h10=>gd tt (bA cs) dr (bv [(10,aN (eL st cf T) (dl st cf T one))]) 3 fn ((dT fn).getD 0 kd) n ((eL st cf T).st.mk' ((h4,(h5,(h6,()))),((h7,(h8,())),((h9,(h10,())),((),()))))) (bL (eL st cf T).xs)) some)
  (hrun:∀(a0 a1:Int) (a2:List Int) (a3:Int),Io.run tt (bA cs) dr (bv [(10,aN (eL st cf T) (dl st cf T one))]) (vX st cf T) fn (((),(),()),((),a0,a1,()),(a2,a3,()),((),()),())=Hz st cf T one a0 a1 a2 a3):
  HcOk prog f (ah (vX st cf T) (ZR st cf T sps)):=by
 refine aj (n:=400) hm (cs:=cs) hcs (lp:=bv [(10,aN (eL st cf T) (dl st cf T one))]) (fn:=fn) hf hname hbody (vX st cf T) (.step (h0:=aN (eL st cf T) (dl st cf T one)) hlp (aw (n:=400) hm (cs:=cs) hcs (lp:=bv [(10,aN (eL st cf T) (dl st cf T one))]) (fn:=fn) (.done h1) (eL st cf T) (dl st cf T one) ?_) (.done h2)) (ZR st cf T sps) ?_
 ·rintro ⟨⟨(n:Int),(xs:List T.den),(i:Int),⟨⟩⟩,⟨⟨(v:Int),(e:Int),⟨⟩⟩,⟨(b:List Int),(p:Int),⟨⟩⟩,⟨⟨⟩,⟨⟩⟩⟩⟩ y hw hy
  obtain ⟨hg,hy⟩:=Tr.guard hy
  simp only[Bool.and_eq_true,decide_eq_true_eq,Bool.or_eq_true] at hg
  obtain ⟨h1,h2,h3,h4⟩:=hg
  have h1:i=0:=h1
  have h2:xs=[]:=List.eq_nil_of_length_eq_zero h2
  have h3:av b p=true:=h3
  have h4:n≤16∨e≠0:=h4
  subst h1
  subst h2
  refine ⟨n.toNat+1,(Uz (st:=st) (cf:=cf) hok (fun n h4 h5 h6 h7 h8 h9 h10=>gd tt (bA cs) dr (bv [(10,aN (eL st cf T) (dl st cf T one))]) 3 fn ((dT fn).getD 0 kd) n ((eL st cf T).st.mk' ((h4,(h5,(h6,()))),((h7,(h8,())),((h9,(h10,())),((),()))))) (bL (eL st cf T).xs)) hit n v b (n.toNat+1) 0 [] (e,p) (by omega) (by omega) rfl h3 (fun he=>h4.resolve_right (fun h=>h he))).trans ?_⟩
  rw[← hy];rfl
 ·rintro ⟨⟨⟨⟩,⟨⟩,⟨⟩⟩,⟨⟨⟩,(v:Int),(e:Int),⟨⟩⟩,⟨(b:List Int),(p:Int),⟨⟩⟩,⟨⟨⟩,⟨⟩⟩,⟨⟩⟩ out hw ho
  obtain ⟨hg,ho⟩:=Tr.guard ho
  have hg:av b p=true:=hg
  cases ho
  refine (hrun v e b p).trans ?_
  unfold Hz
  show _=some (Out.ret (((sps v b (e,p)).1,()),qV v b (sps v b (e,p)).2))
  rw[hs]
  unfold kp
  refine (aa hg _ _).trans ?_
  have hr:av b (ae .i32 4 b (e,p)).2.2=true:=bJ .i32 4 (s:=(e,p)) hg
  generalize ae .i32 4 b (e,p)=r at hr ⊢
  obtain ⟨n,e1,q⟩:=r
  have hr:av b q=true:=hr
  have key:∀e':Int,(e'=0→n≤16)→dl st cf T one ((n,([],(0,()))),((v,(e',())),((b,(q,())),((),()))))=.ite true (.ret (.ret ((),(((er (one v b) n.toNat (e',q)).1,()),FK v b (er (one v b) n.toNat (e',q)).2)))) .no:=by
   intro e' he
   refine congrArg (fun c=>Tr.ite c _ _) ?_
   show (decide ((0:Int)=0)&&(decide (([]:List T.den).length=0)&&(av b q&&(decide (n≤16) || decide (e'≠0)))))=true
   rw[hr]
   by_cases h:e'=0
   ·simp[he h]
   ·simp[h]
  unfold qr
  show (bif e1 != 0 then _ else _)=_
  by_cases h1:e1=0
  ·refine (ab (by simpa using h1) _ _).trans ?_
   show (bif decide (n<0) then _ else _)=_
   rw[if_pos h1]
   by_cases h2:n<0
   ·refine (aa (by simpa using h2) _ _).trans ?_
    show (dl st cf T one ((n,([],(0,()))),((v,(5,())),((b,(q,())),((),()))))).run _=_
    rw[key 5 (by omega),if_pos h2]
    rfl
   ·refine (ab (by simpa using h2) _ _).trans ?_
    show (bif decide (16<n) then _ else _)=_
    rw[if_neg h2]
    by_cases h3:16<n
    ·refine (aa (by simpa using h3) _ _).trans ?_
     show (dl st cf T one ((n,([],(0,()))),((v,(9,())),((b,(q,())),((),()))))).run _=_
     rw[key 9 (by omega),if_pos h3]
     rfl
    ·refine (ab (by simpa using h3) _ _).trans ?_
     show (dl st cf T one ((n,([],(0,()))),((v,(e1,())),((b,(q,())),((),()))))).run _=_
     rw[key e1 (by omega),if_neg h3]
     rfl
  ·refine (aa (by simpa using h1) _ _).trans ?_
   show (dl st cf T one ((n,([],(0,()))),((v,(e1,())),((b,(q,())),((),()))))).run _=_
   rw[key e1 (fun h=>absurd h h1),if_neg h1]
   rfl
@[irreducible] noncomputable def BD (b:List Int)(s:aQ):List bZ.den×aQ:=kp (G4 b) b s
@[irreducible] noncomputable def Kp (b:List Int)(s:aQ):ap.den×aQ:=(((ct b s).1,((BD b (ct b s).2).1,())),(BD b (ct b s).2).2)
abbrev q4 (st cf:Nat)(T:Ty):Io:=⟨[.ptr 0 0,.fnc cf false [1]],L8,[],[.dat (.sl st T) false false],none⟩
def Sy (st cf:Nat)(T:Ty)(d:(q4 st cf T).In):Tr (q4 st cf T).Res:=.ite (decide (d.2.1.2.2.1≠0)) (.ret (.ret ((([]:List T.den),()),d.2))) .no
abbrev eF (st cf:Nat)(T:Ty):Lo:=⟨⟨[.one (.ptr 0 0),.one (.fnp cf false [1]),.any,.any,.any,.one (.hol (.int IntKind.i32)),.one (.onl st T 17),.one (.hol (.int IntKind.i32)),.any,.any,.any,.any,.any,.any,.any,.any,.any,.any,.any,.any,.any,.any,.any,.any,.any,.any,.any,.any,.any,.any,.any,.any,.any,.any,.any,.any,.any,.any,.any,.any,.any,.any,.any,.any,.any,.any],[some [.nilp,.hol (.int IntKind.i64),.hol (.int IntKind.i64)],some [.ptr 0 0]]⟩,[(.exit 1,⟨(bQ (bh (.one (.onl st T 17)::.any::ai (ai (bQ (bh [])))))),[some [.nilp,.hol (.int IntKind.i64),.hol (.int IntKind.i64)],some [.ptr 0 0]]⟩)]⟩
def fH (st cf:Nat)(T:Ty)(d:(eF st cf T).st.den):Tr (aD (eF st cf T).xs):=
 .ite (decide (d.2.1.2.1≠0)) (.ret (.ret ((),((d.1.2.1,()),d.2)))) .no
def EQ (st cf:Nat)(T:Ty){R:Type}(h2:Int)(h3:List T.den)(h4 h5 h6:Int)(next:Int→List T.den→Int→Int→Int→Option R)(out:aD (eF st cf T).xs→Option R):Option R:=bif decide (h4<h2) then bif h6 == 0 then none else out (.ret ((),((h3,()),((h5,(h6,())),((),()))))) else out (.ret ((),((h3,()),((h5,(h6,())),((),())))))
def CW (st cf:Nat)(T:Ty)(a0 a1:Int):Option (q4 st cf T).Res:=bif decide (a1≠0) then bif a1 != 0 then (fH st cf T ((0,([],(0,()))),((a0,(a1,())),((),())))).run fun y=>match y with | .ret ((),((x13,()),(x14,x15,()),(),()))=>(some (Out.ret ((x13,()),((),x14,x15,()),((),()),()))) else (fH st cf T ((0,([],(0,()))),((a0,(a1,())),((),())))).run fun y=>match y with | .ret ((),((x21,()),(x22,x23,()),(),()))=>(some (Out.ret ((x21,()),((),x22,x23,()),((),()),()))) else none
theorem OD {st cf f:Nat}{T:Ty}
  {cs:List (Nat×Hc)} (hcs:HcsOk prog cs) {fn:Func} (hf:prog.funcs[f]?=some fn) (hname:(fn.name == "runtime.NumGoroutine")=false) (hbody:fn.body.isNone=false)
  (hlp:bv [(10,aN (eF st cf T) (fH st cf T))] (dP ((dT fn).getD 0 kd).2.1)=some (aN (eF st cf T) (fH st cf T))) (h1:Nat.ble (Ss fn ((dT fn).getD 0 kd)).length 0=true) (h2:Nat.ble (dT fn).length (0+1)=true)
  (hit:∀(n:Nat) (h2:Int) (h3:List T.den) (h4 h5 h6:Int),gd tt (bA cs) dr (bv [(10,aN (eF st cf T) (fH st cf T))]) 2 fn ((dT fn).getD 0 kd) (n+1) ((eF st cf T).st.mk' ((h2,(h3,(h4,()))),((h5,(h6,())),((),())))) (bL (eF st cf T).xs)=
   EQ st cf T h2 h3 h4 h5 h6 (fun h2 h3 h4 h5 h6=>gd tt (bA cs) dr (bv [(10,aN (eF st cf T) (fH st cf T))]) 2 fn ((dT fn).getD 0 kd) n ((eF st cf T).st.mk' ((h2,(h3,(h4,()))),((h5,(h6,())),((),())))) (bL (eF st cf T).xs)) some)
  (hrun:∀(a0 a1:Int),Io.run tt (bA cs) dr (bv [(10,aN (eF st cf T) (fH st cf T))]) (q4 st cf T) fn (((),(),()),((),a0,a1,()),((),()),())=CW st cf T a0 a1):
  HcOk prog f (ah (q4 st cf T) (Sy st cf T)):=by
 refine aj (n:=400) hm (cs:=cs) hcs (lp:=bv [(10,aN (eF st cf T) (fH st cf T))]) (fn:=fn) hf hname hbody (q4 st cf T) (.step (h0:=aN (eF st cf T) (fH st cf T)) hlp (aw (n:=400) hm (cs:=cs) hcs (lp:=bv [(10,aN (eF st cf T) (fH st cf T))]) (fn:=fn) (.done h1) (eF st cf T) (fH st cf T) ?_) (.done h2)) (Sy st cf T) ?_
 ·rintro ⟨⟨(n:Int),(xs:List T.den),(i:Int),⟨⟩⟩,⟨⟨(v:Int),(e:Int),⟨⟩⟩,⟨⟨⟩,⟨⟩⟩⟩⟩ y hw hy
  obtain ⟨hg,hy⟩:=Tr.guard hy
  have hg:e≠0:=of_decide_eq_true hg
  refine ⟨1,(hit 0 n xs i v e).trans ?_⟩
  unfold EQ
  rw[← hy]
  by_cases h:i<n
  ·refine (aa (by simpa using h) _ _).trans ?_
   exact ab (by simpa using hg) _ _
  ·exact ab (by simpa using h) _ _
 ·rintro ⟨⟨⟨⟩,⟨⟩,⟨⟩⟩,⟨⟨⟩,(v:Int),(e:Int),⟨⟩⟩,⟨⟨⟩,⟨⟩⟩,⟨⟩⟩ out hw ho
  obtain ⟨hg,ho⟩:=Tr.guard ho
  have hg:e≠0:=of_decide_eq_true hg
  cases ho
  refine (hrun v e).trans ?_
  unfold CW
  have e1:fH st cf T ((0,([],(0,()))),((v,(e,())),((),())))=.ite true (.ret (.ret ((),((([]:List T.den),()),((v,(e,())),((),())))))) .no:=congrArg (fun c=>Tr.ite c _ _) (decide_eq_true hg)
  refine (aa (by simpa using hg) _ _).trans ?_
  refine (aa (by simpa using hg) _ _).trans ?_
  rw[e1]
  rfl
def U8 (args:List V)(A:AS):Bool:=match args with
 |[.one (.int _ v),.one (.lst _ _ xs _)]=>!(decide (0≤v)&&(decide (v≤3)&&decide ((xs.length:Int)≤130048)))
 |_=>false
abbrev tFl:Ty:=.prod .str (.prod (.int .i64) (.prod (.int .i64) (.prod (.int .i64) .unit)))
abbrev eE:Ty:=.tree tFl 160
abbrev LL:Sh:=.dat eE true false
abbrev aao:Ty:=.sl 160 eE
abbrev xl:Sh:=.dat aao false false
abbrev aaC:Sh:=.dat aao false true
abbrev Fd:Type:=Tre tFl.den
abbrev aaD:Sh:=.dat Xc false false
abbrev hJ:Io:=⟨[dS],[],[],[cQ],none⟩
def pP (d:hJ.In):Tr hJ.Res:=.ret (.ret ((.mk (5,(0,(false,(d.1.1,())))) [],()),()))
abbrev Om:List (Nat×Hc):=[]
def Ya:Hd:=bA Om
def O7:Lp:=bv []
def PJ (a0:List Int):Option hJ.Res:=some (Out.ret ((Tre.mk (5,0,false,a0,()) [],()),()))
theorem Wo (a0:List Int):Io.run tt Ya dr O7 hJ Tryz.f183 ((a0,()),())=PJ a0:=by kernel_rfl
theorem dQ:HcOk prog 183 (ah hJ pP):=by
 refine aj (n:=400) hm (cs:=Om) HcsOk.nil (lp:=O7) (fn:=Tryz.f183) (by kernel_rfl) (by kernel_rfl) (by kernel_rfl) hJ (.done (by kernel_rfl)) pP ?_
 rintro ⟨⟨(s:List Int),⟨⟩⟩,⟨⟩⟩ out hw ho
 cases ho
 exact Wo s
abbrev kc:Io:=⟨[Ac],[],[],[cQ],none⟩
def yj (d:kc.In):Tr kc.Res:=.ret (.ret ((.mk (6,(0,(d.1.1.1,(d.1.1.2.1,())))) [],()),()))
abbrev Ix:List (Nat×Hc):=[]
def Un:Hd:=bA Ix
def Jw:Lp:=bv []
def Lt (a0:Bool)(a1:List Int):Option kc.Res:=some (Out.ret ((Tre.mk (6,0,a0,a1,()) [],()),()))
theorem Ro (a0:Bool)(a1:List Int):Io.run tt Un dr Jw kc Tryz.f185 (((a0,a1,()),()),())=Lt a0 a1:=by kernel_rfl
theorem nC:HcOk prog 185 (ah kc yj):=by
 refine aj (n:=400) hm (cs:=Ix) HcsOk.nil (lp:=Jw) (fn:=Tryz.f185) (by kernel_rfl) (by kernel_rfl) (by kernel_rfl) kc (.done (by kernel_rfl)) yj ?_
 rintro ⟨⟨⟨(z:Bool),(s:List Int),⟨⟩⟩,⟨⟩⟩,⟨⟩⟩ out hw ho
 cases ho
 exact Ro z s
abbrev gf:Io:=⟨[LK],[],[],[cQ],none⟩
def pO (d:gf.In):Tr gf.Res:=.ret (.ret ((.mk (8,(0,(d.1.1.1,(d.1.1.2.1,())))) [],()),()))
abbrev DJ:List (Nat×Hc):=[]
def Qa:Hd:=bA DJ
def Ec:Lp:=bv []
def HV (a0:Bool)(a1:List Int):Option gf.Res:=some (Out.ret ((Tre.mk (8,0,a0,a1,()) [],()),()))
theorem MC (a0:Bool)(a1:List Int):Io.run tt Qa dr Ec gf Tryz.f182 (((a0,a1,()),()),())=HV a0 a1:=by kernel_rfl
theorem gD:HcOk prog 182 (ah gf pO):=by
 refine aj (n:=400) hm (cs:=DJ) HcsOk.nil (lp:=Ec) (fn:=Tryz.f182) (by kernel_rfl) (by kernel_rfl) (by kernel_rfl) gf (.done (by kernel_rfl)) pO ?_
 rintro ⟨⟨⟨(z:Bool),(s:List Int),⟨⟩⟩,⟨⟩⟩,⟨⟩⟩ out hw ho
 cases ho
 exact MC z s
abbrev gg:Io:=⟨[aaD],[],[],[cQ],none⟩
def nP (d:gg.In):Tr gg.Res:=.ret (.ret ((.mk (9,(0,(false,(([]:List Int),())))) d.1.1,()),()))
abbrev Ol:List (Nat×Hc):=[]
def X9:Hd:=bA Ol
def O6:Lp:=bv []
def PI (a0:List ao.den):Option gg.Res:=some (Out.ret ((Tre.mk (9,0,false,[],()) a0,()),()))
theorem Wn (a0:List ao.den):Io.run tt X9 dr O6 gg Tryz.f184 ((a0,()),())=PI a0:=by kernel_rfl
theorem c7:HcOk prog 184 (ah gg nP):=by
 refine aj (n:=400) hm (cs:=Ol) HcsOk.nil (lp:=O6) (fn:=Tryz.f184) (by kernel_rfl) (by kernel_rfl) (by kernel_rfl) gg (.done (by kernel_rfl)) nP ?_
 rintro ⟨⟨l,⟨⟩⟩,⟨⟩⟩ out hw ho
 cases ho
 exact Wn l
abbrev jy:Io:=⟨[cQ],[],[],[Ac],none⟩
def zd (d:jy.In):Tr jy.Res:=.ret (.ret (((d.1.1.lab.2.2.1,(d.1.1.lab.2.2.2.1,())),()),()))
abbrev DK:List (Nat×Hc):=[]
def Qb:Hd:=bA DK
def Ed:Lp:=bv []
def HW (a0:Tre yb.den):Option jy.Res:=some (Out.ret ((a0.1.2.2,()),()))
theorem MD (a0:Tre yb.den):Io.run tt Qb dr Ed jy Tryz.f163 ((a0,()),())=HW a0:=by kernel_rfl
theorem wq:HcOk prog 163 (ah jy zd):=by
 refine aj (n:=400) hm (cs:=DK) HcsOk.nil (lp:=Ed) (fn:=Tryz.f163) (by kernel_rfl) (by kernel_rfl) (by kernel_rfl) jy (.done (by kernel_rfl)) zd ?_
 rintro ⟨⟨(n:Nd),⟨⟩⟩,⟨⟩⟩ out hw ho
 cases ho
 exact MD n
abbrev jx:Io:=⟨[cQ],[],[],[LK],none⟩
def zc (d:jx.In):Tr jx.Res:=.ite (decide (d.1.1.lab.2.2.2.1.length≤4294967296)) (.ret (.ret (((d.1.1.lab.2.2.1,(d.1.1.lab.2.2.2.1,())),()),()))) .no
abbrev DI:List (Nat×Hc):=[(27,ah mZ CF)]
def P9:Hd:=bA DI
def Eb:Lp:=bv []
def w9 (a0:Tre yb.den):Option jx.Res:=bif decide (List.length a0.1.2.2.2.1≤4294967296) then some (Out.ret ((a0.1.2.2,()),())) else none
theorem MB (a0:Tre yb.den):Io.run tt P9 dr Eb jx Tryz.f165 ((a0,()),())=w9 a0:=by kernel_rfl
theorem wo:HcOk prog 165 (ah jx zc):=by
 refine aj (n:=400) hm (cs:=DI) (.cons sX .nil) (lp:=Eb) (fn:=Tryz.f165) (by kernel_rfl) (by kernel_rfl) (by kernel_rfl) jx (.done (by kernel_rfl)) zc ?_
 rintro ⟨⟨(n:Nd),⟨⟩⟩,⟨⟩⟩ out hw ho
 obtain ⟨hg,ho⟩:=Tr.guard ho
 have hg:n.lab.2.2.2.1.length≤4294967296:=of_decide_eq_true hg
 cases ho
 refine (MB n).trans ?_
 unfold w9
 exact aa (by simpa using hg) _ _
abbrev mC:Io:=⟨[cQ],[],[],[dB],none⟩
def bW (n:Nd):Bool:=if n.lab.2.1=0 then (if n.lab.2.2.1=false then (if n.lab.2.2.2.1.length=0 then (if n.kids.length=0 then true else false) else false) else false) else false
def Fk (d:mC.In):Tr mC.Res:=.ret (.ret ((bW d.1.1,()),()))
abbrev On:List (Nat×Hc):=[]
def Yb:Hd:=bA On
def O8:Lp:=bv []
def Dq (a0:Tre yb.den):Option mC.Res:=bif a0.1.2.1 == 0 then bif !a0.1.2.2.1 then bif (↑(List.length a0.1.2.2.2.1):Int) == 0 then some (Out.ret (((↑a0.2.length:Int) == 0,()),())) else some (Out.ret ((false,()),())) else some (Out.ret ((false,()),())) else some (Out.ret ((false,()),()))
theorem Wq (a0:Tre yb.den):Io.run tt Yb dr O8 mC Tryz.f88 ((a0,()),())=Dq a0:=by kernel_rfl
theorem uG:HcOk prog 88 (ah mC Fk):=by
 refine aj (n:=400) hm (cs:=On) HcsOk.nil (lp:=O8) (fn:=Tryz.f88) (by kernel_rfl) (by kernel_rfl) (by kernel_rfl) mC (.done (by kernel_rfl)) Fk ?_
 rintro ⟨⟨(n:Nd),⟨⟩⟩,⟨⟩⟩ out hw ho
 cases ho
 refine (Wq n).trans ?_
 unfold Dq
 show _=some (Out.ret ((bW n,()),()))
 unfold bW
 simp only[cond_eq_ite]
 repeat' split
 all_goals simp_all
abbrev ka:Io:=⟨[LL,dI],[],[],[dB],none⟩
def gM (f:Fd)(v:Int):Bool:=if f.lab.2.2.1≤v∧v≤f.lab.2.2.2.1 then true else false
def yi (d:ka.In):Tr ka.Res:=.ret (.ret ((gM d.1.1 d.1.2.1,()),()))
abbrev Iw:List (Nat×Hc):=[]
def Um:Hd:=bA Iw
def Jv:Lp:=bv []
def zL (a0:Tre tFl.den)(a1:Int):Option ka.Res:=bif decide (a0.1.2.2.1≤a1) then some (Out.ret ((decide (a1≤a0.1.2.2.2.1),()),())) else some (Out.ret ((false,()),()))
theorem Rn (a0:Tre tFl.den)(a1:Int):Io.run tt Um dr Jv ka Tryz.f189 ((a0,a1,()),())=zL a0 a1:=by kernel_rfl
theorem qf:HcOk prog 189 (ah ka yi):=by
 refine aj (n:=400) hm (cs:=Iw) HcsOk.nil (lp:=Jv) (fn:=Tryz.f189) (by kernel_rfl) (by kernel_rfl) (by kernel_rfl) ka (.done (by kernel_rfl)) yi ?_
 rintro ⟨⟨(f:Fd),(v:Int),⟨⟩⟩,⟨⟩⟩ out hw ho
 cases ho
 refine (Rn f v).trans ?_
 unfold zL
 show _=some (Out.ret ((gM f v,()),()))
 unfold gM
 simp only[cond_eq_ite]
 repeat' split
 all_goals simp_all
abbrev lD:Io:=⟨[dI],[],[],[dI],none⟩
def bu (k:Int):Int:=if k=1 then 1 else if k=2∨k=5∨k=6 then 2 else if k=4 then 8 else 4
def Fj (d:lD.In):Tr lD.Res:=.ret (.ret ((bu d.1.1,()),()))
abbrev Iz:List (Nat×Hc):=[]
def Up:Hd:=bA Iz
def Jy:Lp:=bv []
def zN (a0:Int):Option lD.Res:=bif a0 == 1 then some (Out.ret ((1,()),())) else bif a0 == 2 then bif a0 == 2 then some (Out.ret ((2,()),())) else bif a0 == 4 then some (Out.ret ((8,()),())) else some (Out.ret ((4,()),())) else bif a0 == 5 then bif a0 == 5 then some (Out.ret ((2,()),())) else bif a0 == 4 then some (Out.ret ((8,()),())) else some (Out.ret ((4,()),())) else bif a0 == 6 then some (Out.ret ((2,()),())) else bif a0 == 4 then some (Out.ret ((8,()),())) else some (Out.ret ((4,()),()))
theorem Rq (a0:Int):Io.run tt Up dr Jy lD Tryz.f217 ((a0,()),())=zN a0:=by kernel_rfl
theorem JP:HcOk prog 217 (ah lD Fj):=by
 refine aj (n:=400) hm (cs:=Iz) HcsOk.nil (lp:=Jy) (fn:=Tryz.f217) (by kernel_rfl) (by kernel_rfl) (by kernel_rfl) lD (.done (by kernel_rfl)) Fj ?_
 rintro ⟨⟨(k:Int),⟨⟩⟩,⟨⟩⟩ out hw ho
 cases ho
 refine (Rq k).trans ?_
 unfold zN
 show _=some (Out.ret ((bu k,()),()))
 unfold bu
 simp only[cond_eq_ite]
 repeat' split
 all_goals simp_all
abbrev iQ:Io:=⟨[LL,cQ],[],[],[dB],none⟩
def fS (k:Int)(n:Nd):Bool:=
 if n.lab.1≠k then false else if 4<k∧n.lab.2.1≠0 then false else if (k<5∨8<k)∧0<n.lab.2.2.2.1.length then false else if k≠6∧k≠8∧n.lab.2.2.1=true then false else if 8<k∨n.kids.length=0 then true else false
def yk (d:iQ.In):Tr iQ.Res:=.ret (.ret ((fS d.1.1.lab.2.1 d.1.2.1,()),()))
abbrev Iy:List (Nat×Hc):=[]
def Uo:Hd:=bA Iy
def Jx:Lp:=bv []
def zM (a0:Tre tFl.den)(a1:Tre yb.den):Option iQ.Res:=bif a1.1.1 != a0.1.2.1 then some (Out.ret ((false,()),())) else bif decide (4<a0.1.2.1) then bif a1.1.2.1 != 0 then some (Out.ret ((false,()),())) else bif decide (a0.1.2.1<5) then bif decide (0<(↑(List.length a1.1.2.2.2.1):Int)) then some (Out.ret ((false,()),())) else bif a0.1.2.1 != 6 then bif a0.1.2.1 != 8 then bif a1.1.2.2.1 then some (Out.ret ((false,()),())) else bif decide (8<a0.1.2.1) then some (Out.ret ((true,()),())) else some (Out.ret (((↑a1.2.length:Int) == 0,()),())) else bif decide (8<a0.1.2.1) then some (Out.ret ((true,()),())) else some (Out.ret (((↑a1.2.length:Int) == 0,()),())) else bif decide (8<a0.1.2.1) then some (Out.ret ((true,()),())) else some (Out.ret (((↑a1.2.length:Int) == 0,()),())) else bif decide (8<a0.1.2.1) then bif decide (0<(↑(List.length a1.1.2.2.2.1):Int)) then some (Out.ret ((false,()),())) else bif a0.1.2.1 != 6 then bif a0.1.2.1 != 8 then bif a1.1.2.2.1 then some (Out.ret ((false,()),())) else bif decide (8<a0.1.2.1) then some (Out.ret ((true,()),())) else some (Out.ret (((↑a1.2.length:Int) == 0,()),())) else bif decide (8<a0.1.2.1) then some (Out.ret ((true,()),())) else some (Out.ret (((↑a1.2.length:Int) == 0,()),())) else bif decide (8<a0.1.2.1) then some (Out.ret ((true,()),())) else some (Out.ret (((↑a1.2.length:Int) == 0,()),())) else bif a0.1.2.1 != 6 then bif a0.1.2.1 != 8 then bif a1.1.2.2.1 then some (Out.ret ((false,()),())) else bif decide (8<a0.1.2.1) then some (Out.ret ((true,()),())) else some (Out.ret (((↑a1.2.length:Int) == 0,()),())) else bif decide (8<a0.1.2.1) then some (Out.ret ((true,()),())) else some (Out.ret (((↑a1.2.length:Int) == 0,()),())) else bif decide (8<a0.1.2.1) then some (Out.ret ((true,()),())) else some (Out.ret (((↑a1.2.length:Int) == 0,()),())) else bif decide (a0.1.2.1<5) then bif decide (0<(↑(List.length a1.1.2.2.2.1):Int)) then some (Out.ret ((false,()),())) else bif a0.1.2.1 != 6 then bif a0.1.2.1 != 8 then bif a1.1.2.2.1 then some (Out.ret ((false,()),())) else bif decide (8<a0.1.2.1) then some (Out.ret ((true,()),())) else some (Out.ret (((↑a1.2.length:Int) == 0,()),())) else bif decide (8<a0.1.2.1) then some (Out.ret ((true,()),())) else some (Out.ret (((↑a1.2.length:Int) == 0,()),())) else bif decide (8<a0.1.2.1) then some (Out.ret ((true,()),())) else some (Out.ret (((↑a1.2.length:Int) == 0,()),())) else bif decide (8<a0.1.2.1) then bif decide (0<(↑(List.length a1.1.2.2.2.1):Int)) then some (Out.ret ((false,()),())) else bif a0.1.2.1 != 6 then bif a0.1.2.1 != 8 then bif a1.1.2.2.1 then some (Out.ret ((false,()),())) else bif decide (8<a0.1.2.1) then some (Out.ret ((true,()),())) else some (Out.ret (((↑a1.2.length:Int) == 0,()),())) else bif decide (8<a0.1.2.1) then some (Out.ret ((true,()),())) else some (Out.ret (((↑a1.2.length:Int) == 0,()),())) else bif decide (8<a0.1.2.1) then some (Out.ret ((true,()),())) else some (Out.ret (((↑a1.2.length:Int) == 0,()),())) else bif a0.1.2.1 != 6 then bif a0.1.2.1 != 8 then bif a1.1.2.2.1 then some (Out.ret ((false,()),())) else bif decide (8<a0.1.2.1) then some (Out.ret ((true,()),())) else some (Out.ret (((↑a1.2.length:Int) == 0,()),())) else bif decide (8<a0.1.2.1) then some (Out.ret ((true,()),())) else some (Out.ret (((↑a1.2.length:Int) == 0,()),())) else bif decide (8<a0.1.2.1) then some (Out.ret ((true,()),())) else some (Out.ret (((↑a1.2.length:Int) == 0,()),()))
theorem Rp (a0:Tre tFl.den)(a1:Tre yb.den):Io.run tt Uo dr Jx iQ Tryz.f191 ((a0,a1,()),())=zM a0 a1:=by kernel_rfl
theorem A8:HcOk prog 191 (ah iQ yk):=by
 refine aj (n:=400) hm (cs:=Iy) HcsOk.nil (lp:=Jx) (fn:=Tryz.f191) (by kernel_rfl) (by kernel_rfl) (by kernel_rfl) iQ (.done (by kernel_rfl)) yk ?_
 rintro ⟨⟨(f:Fd),(n:Nd),⟨⟩⟩,⟨⟩⟩ out hw ho
 cases ho
 refine (Rp f n).trans ?_
 unfold zM
 show _=some (Out.ret ((fS f.lab.2.1 n,()),()))
 unfold fS
 obtain ⟨⟨nm,k,lo,hi,⟨⟩⟩,e⟩:=f
 obtain ⟨⟨k',m,z,d,⟨⟩⟩,l⟩:=n
 have hc:∀(c a b:Bool),(bif c then (some (Out.ret ((a,()),())):Option iQ.Res) else some (Out.ret ((b,()),())))=some (Out.ret ((bif c then a else b,()),())):=by intro c a b;cases c <;> rfl
 simp only[hc]
 refine congrArg (fun b:Bool=>some (Out.ret ((b,()),()))) ?_
 simp only[cond_eq_ite]
 grind
abbrev mB:Io:=⟨[xl,dI],[],[],[aaC],none⟩
def cX (l:List Fd)(v:Int):List Fd:=l.filter fun f=>gM f v
def Fh (d:mB.In):Tr mB.Res:=.ite (decide (d.1.1.length≤4294967296)) (.ret (.ret ((cX d.1.1 d.1.2.1,()),()))) .no
abbrev FF:List (Nat×Hc):=[(189,ah ka yi)]
def Oz:Hd:=bA FF
abbrev gt:Lo:=⟨⟨(.one (.hol (.sl 160 ((Ty.str.prod ((Ty.int IntKind.i64).prod ((Ty.int IntKind.i64).prod ((Ty.int IntKind.i64).prod Ty.unit)))).tree 160)))::.one (.hol (.int IntKind.i64))::.any::bh (.one (.onl 160 ((Ty.str.prod ((Ty.int IntKind.i64).prod ((Ty.int IntKind.i64).prod ((Ty.int IntKind.i64).prod Ty.unit)))).tree 160) 11)::.one (.hol (.int IntKind.i64))::.any::ai (bQ []))),[]⟩,[(.exit 0,⟨(.any::bQ (.one (.onl 160 ((Ty.str.prod ((Ty.int IntKind.i64).prod ((Ty.int IntKind.i64).prod ((Ty.int IntKind.i64).prod Ty.unit)))).tree 160) 11)::ai (bQ (bh [])))),[]⟩)]⟩
def pN (d:gt.st.den):Tr (aD gt.xs):=
 .ite (decide (d.1.2.2.1.length=0)&&(decide (d.1.2.2.2.1=0)&&decide (d.1.1.length≤4294967296))) (.ret (.ret ((),((cX d.1.1 d.1.2.1,()),())))) .no
def yD:Lp:=bv [(4,aN gt pN)]
def xO {R:Type}(h2:List eE.den)(h3:Int)(h4:List ((Ty.str.prod ((Ty.int IntKind.i64).prod ((Ty.int IntKind.i64).prod ((Ty.int IntKind.i64).prod Ty.unit)))).tree 160).den)(h5:Int)(next:List eE.den→Int→List ((Ty.str.prod ((Ty.int IntKind.i64).prod ((Ty.int IntKind.i64).prod ((Ty.int IntKind.i64).prod Ty.unit)))).tree 160).den→Int→Option R)(out:aD gt.xs→Option R):Option R:=bif decide (h5<(↑h2.length:Int)) then bif decide (0≤h5)&&decide (h5<(↑h2.length:Int)) then bif gM (Tre.mk (h2.getD h5.toNat (Tre.mk ([],0,0,0,()) [])).1 (h2.getD h5.toNat (Tre.mk ([],0,0,0,()) [])).2) h3 then bif decide (0≤h5)&&decide (h5<(↑h2.length:Int)) then bif decide (h4.length+[Tre.mk (h2.getD h5.toNat (Tre.mk ([],0,0,0,()) [])).1 (h2.getD h5.toNat (Tre.mk ([],0,0,0,()) [])).2].length≤4294967296) then next (h2) (h3) (h4++[Tre.mk (h2.getD h5.toNat (Tre.mk ([],0,0,0,()) [])).1 (h2.getD h5.toNat (Tre.mk ([],0,0,0,()) [])).2]) (IntKind.i64.wrap (h5+1)) else none else none else next (h2) (h3) (h4) (IntKind.i64.wrap (h5+1)) else none else out (.ret ((),((h4,()),())))
def wb (n:Nat)(h2:List eE.den)(h3:Int)(h4:List ((Ty.str.prod ((Ty.int IntKind.i64).prod ((Ty.int IntKind.i64).prod ((Ty.int IntKind.i64).prod Ty.unit)))).tree 160).den)(h5:Int):Option (aD gt.xs):=gd tt Oz dr yD 0 Tryz.f210 (cE Tryz.f210 0) n (gt.st.mk' ((h2,(h3,(h4,(h5,())))),())) (bL gt.xs)
theorem RJ (n:Nat)(h2:List eE.den)(h3:Int)(h4:List ((Ty.str.prod ((Ty.int IntKind.i64).prod ((Ty.int IntKind.i64).prod ((Ty.int IntKind.i64).prod Ty.unit)))).tree 160).den)(h5:Int):wb (n+1) h2 h3 h4 h5=xO h2 h3 h4 h5 (wb n) some:=by kernel_rfl
theorem abe (f:Nd):Tre.mk f.lab f.kids=f:=by cases f;rfl
theorem Qo {l:List Fd}(v:Int)(hl:l.length≤4294967296):∀(k j:Nat) (o:List Fd),l.length<j+k→j≤l.length→o.length≤j→
  wb k l v o j=some (.ret ((),((o++cX (l.drop j) v,()),()))):=by
 intro k
 induction k with
 |zero=>intro j o h1 h2 h3;omega
 |succ k ih=>
  intro j o h1 h2 h3
  rw[RJ]
  unfold xO
  by_cases hj:j<l.length
  ·refine (aa (decide_eq_true (show (j:Int)<(l.length:Int) by omega)) _ _).trans ?_
   refine (aa (by simp;omega) _ _).trans ?_
   have hg:List.getD l ((j:Int)).toNat (Tre.mk (([]:List Int),(0:Int),(0:Int),(0:Int),()) ([]:List Fd))=l[j]:=by simp only[Int.toNat_natCast];exact aH hj
   simp only[hg]
   rw[aC (n:=(j:Int)+1) (by omega) (by omega)]
   have hd:l.drop j=l[j]::l.drop (j+1):=List.drop_eq_getElem_cons hj
   generalize l[j]=x at hd ⊢
   obtain ⟨a,ks⟩:=x
   by_cases hh:gM (Tre.mk a ks) v=true
   ·refine (aa hh _ _).trans ?_
    refine (aa (by simp;omega) _ _).trans ?_
    refine (aa (decide_eq_true (show o.length+1≤4294967296 by omega)) _ _).trans ?_
    refine (ih (j+1) (o++[Tre.mk a ks]) (by omega) (by omega) (by simp;omega)).trans ?_
    rw[hd]
    simp[cX,hh]
   ·have hh:gM (Tre.mk a ks) v=false:=by simpa using hh
    refine (ab hh _ _).trans ?_
    refine (ih (j+1) o (by omega) (by omega) (by omega)).trans ?_
    rw[hd]
    simp[cX,hh]
  ·refine (ab (decide_eq_false (show ¬(j:Int)<(l.length:Int) by omega)) _ _).trans ?_
   rw[List.drop_of_length_le (by omega)]
   simp[cX]
def Do (a0:List eE.den)(a1:Int):Option mB.Res:=(pN ((a0,(a1,([],(0,())))),())).run fun y=>match y with | .ret ((),((x15,()),()))=>(some (Out.ret ((x15,()),())))
theorem Wm (a0:List eE.den)(a1:Int):Io.run tt Oz dr yD mB Tryz.f210 ((a0,a1,()),())=Do a0 a1:=by kernel_rfl
theorem yI:HcOk prog 210 (ah mB Fh):=by
 refine aj (n:=400) hm (cs:=FF) (.cons qf .nil) (lp:=yD) (fn:=Tryz.f210) (by kernel_rfl) (by kernel_rfl) (by kernel_rfl) mB (.step (h0:=aN gt pN) (by kernel_rfl) (aw (n:=400) hm (cs:=FF) (.cons qf .nil) (lp:=yD) (fn:=Tryz.f210) (.done (by kernel_rfl)) gt pN ?_) (.done (by kernel_rfl))) Fh ?_
 ·rintro ⟨⟨(l:List Fd),(v:Int),(o:List Fd),(i:Int),⟨⟩⟩,⟨⟩⟩ y hw hy
  obtain ⟨hg,hy⟩:=Tr.guard hy
  simp only[Bool.and_eq_true,decide_eq_true_eq] at hg
  obtain ⟨h1,h2,h3⟩:=hg
  have h1:o=[]:=List.eq_nil_of_length_eq_zero h1
  have h2:i=0:=h2
  have h3:l.length≤4294967296:=h3
  subst h1
  subst h2
  refine ⟨l.length+1,(Qo v h3 (l.length+1) 0 [] (by omega) (by omega) (by simp)).trans ?_⟩
  rw[← hy];rfl
 ·rintro ⟨⟨(l:List Fd),(v:Int),⟨⟩⟩,⟨⟩⟩ out hw ho
  obtain ⟨hg,ho⟩:=Tr.guard ho
  have hg:l.length≤4294967296:=of_decide_eq_true hg
  cases ho
  refine (Wm l v).trans ?_
  unfold Do
  have e:pN ((l,(v,(([]:List Fd),(0,())))),())=.ite true (.ret (.ret ((),((cX l v,()),())))) .no:=congrArg (fun c=>Tr.ite c _ _) (by simp[hg])
  rw[e]
  rfl
end
end Go.Proofs.YtomeplopmndbgaaGreat.Sym
namespace Go.Proofs.YtomeplopmndbgaaGreat.Sym
open Go
set_option linter.unusedSimpArgs false
set_option linter.unusedVariables false
structure FuT where
 n:Nat
@[irreducible] noncomputable def aG [i:Inhabited FuT]:Nat:=i.default.n
mutual
def Tre.wt {α:Type}(f:α→Nat):Tre α→Nat
 |.mk l ks=>1+f l+Tre.wts f ks
def Tre.wts {α:Type}(f:α→Nat):List (Tre α)→Nat
 |[]=>0
 |k::ks=>k.wt f+Tre.wts f ks
end
theorem Tre.wt_pos {α:Type}(f:α→Nat)(t:Tre α):1≤t.wt f:=by cases t;simp only[Tre.wt];omega
theorem Tre.wts_len {α:Type}(f:α→Nat):∀l:List (Tre α),l.length≤Tre.wts f l
 |[]=>Nat.zero_le _
 |k::ks=>by
  have h1:=k.wt_pos f
  have h2:=Tre.wts_len f ks
  simp only[Tre.wts,List.length_cons];omega
theorem Tre.wts_mem {α:Type}{f:α→Nat}{k:Tre α}:∀{l:List (Tre α)},k∈l→k.wt f≤Tre.wts f l
 |k'::ks,h=>by
  simp only[Tre.wts]
  rcases List.mem_cons.1 h with rfl | h
  ·omega
  ·have:=Tre.wts_mem (f:=f) h;omega
theorem Tre.wt_eq {α:Type}(f:α→Nat)(t:Tre α):t.wt f=1+f t.lab+Tre.wts f t.kids:=by cases t;rfl
noncomputable section
@[irreducible] noncomputable def aP (n:Nd):Nat:=n.wt fun l=>l.2.2.2.1.length
@[irreducible] noncomputable def aI (l:List Nd):Nat:=Tre.wts (fun l=>l.2.2.2.1.length) l
theorem cC (n:Nd):aP n=1+n.lab.2.2.2.1.length+aI n.kids:=by unfold aP aI;exact Tre.wt_eq _ n
theorem cY {k:Nd}{l:List Nd}(h:k∈l):aP k≤aI l:=by unfold aP aI;exact Tre.wts_mem h
theorem gI (l:List Nd):l.length≤aI l:=by unfold aI;exact Tre.wts_len _ l
open Classical in
def ci (a b:Nd):Bool:=if a=b then true else false
open Classical in
def s8 (a b:List Nd):Bool:=if a=b then true else false
theorem gF {a b:Nd}:ci a b=true↔a=b:=by unfold ci;split <;> simp_all
theorem pa {a b:List Nd}:s8 a b=true↔a=b:=by unfold s8;split <;> simp_all
theorem FuT.val (n:Nat):@aG ⟨⟨n⟩⟩=n:=by unfold aG;rfl
theorem HcOk.none {f:Nat}{fn:Func}(hf:prog.funcs[f]?=some fn)(hname:(fn.name == "runtime.NumGoroutine")=false) (hbody:fn.body.isNone=false) (io:Io) (Fn:io.In→Tr io.Res) (hn:∀d out,(Fn d).val≠some out):HcOk prog f (ah io Fn):=
 vZ (ig prog 400) hf hname io Fn (fun d out _ h=>absurd h (hn d out)) hbody
theorem Tr.val_run {α R:Type}:∀{t:Tr α} {K:α→Option R} {a:α},t.val=some a→t.run K=K a
 |.ret a,K,b,h=>by simp only[Tr.val,Tr.run,Option.some.injEq] at h;subst h;rfl
 |.no,K,b,h=>by cases h
 |.ite c t e,K,b,h=>by
  cases c with
  |true=>exact Tr.val_run (t:=t) h
  |false=>exact Tr.val_run (t:=e) h
theorem HcOk.lim {f:Nat}{io:Io}{Fs:Nat→io.In→Tr io.Res}{Fn:io.In→Tr io.Res}(h:∀n,HcOk prog f (ah io (Fs n)))(hF:∀d,∃n,∀out,(Fn d).val=some out→(Fs n d).val=some out):HcOk prog f (ah io Fn):=by
 intro R args id A K r F G ts cst w vals hid hc Rl hv
 unfold ah at hc
 cases h1:xw io.args args (List.replicate io.obs.length Option.none) with
 |none=>rw[h1] at hc;cases hc
 |some p=>
  obtain ⟨a,β1⟩:=p
  rw[h1] at hc
  simp only at hc
  cases h2:Qq A.ob io.obs 0 β1 with
  |none=>rw[h2] at hc;cases hc
  |some q=>
   obtain ⟨o,β⟩:=q
   rw[h2] at hc
   simp only at hc
   obtain ⟨n,hn⟩:=hF (a,o)
   refine h n R args id A K r F G ts cst w vals hid ?_ Rl hv
   unfold ah
   rw[h1]
   simp only[h2]
   revert hc
   cases bR ((ke (dV 0) io.args args 0++m8 A.ob β (n4 io.obs.length 0) io.obs 0).map (·.2))&&(bR ((ke (dV 0) io.args args 0++m8 A.ob β (n4 io.obs.length 0) io.obs 0).map (·.1))&&io.ok) with
   |false=>intro hc;cases hc
   |true=>
    intro hc
    obtain ⟨out,ho,hk⟩:=Tr.run_val hc
    exact (Tr.val_run (hn out ho)).trans hk
theorem nH (n:Nd):1≤aP n:=by rw[cC];omega
theorem WQ {a b c d:Int}{z z':Bool}{x y:List Int}{l m:List Nd}:ci (.mk (a,(c,(z,(x,())))) l) (.mk (b,(d,(z',(y,())))) m)=true↔a=b∧c=d∧z=z'∧x=y∧l=m:=by
 rw[gF]
 constructor
 ·intro h
  injection h with h1 h2
  injection h1 with h3 h4
  injection h4 with h5 h6
  injection h6 with h7 h8
  injection h8 with h9 h10
  exact ⟨h3,h5,h7,h9,h2⟩
 ·rintro ⟨rfl,rfl,rfl,rfl,rfl⟩;rfl
abbrev dW:Io:=⟨[cQ,cQ],[],[],[dB],none⟩
def pM (n:Nat)(d:dW.In):Tr dW.Res:=.ite (decide (aP d.1.1<n)) (.ret (.ret ((ci d.1.1 d.1.2.1,()),()))) .no
def Fg (d:dW.In):Tr dW.Res:=.ret (.ret ((ci d.1.1 d.1.2.1,()),()))
section
variable [Inhabited FuT]
abbrev z0:List (Nat×Hc):=[(28,ah og Hn),(51,ah dW (pM aG))]
def IL:Hd:=bA z0
abbrev fe:Lo:=⟨⟨(bh (.one (.ptr 2 0)::.one (.ptr 3 0)::.any::.one (.hol (.int IntKind.i64))::.any::ai (ai (ai (bQ (bh [])))))),[none,none,some [.hol (.int IntKind.i64),.hol (.int IntKind.i64),.hol .bool,.hol (.sl 5 (Ty.int IntKind.u8)),.hol (.sl 91 ao)],some [.hol (.int IntKind.i64),.hol (.int IntKind.i64),.hol .bool,.hol (.sl 5 (Ty.int IntKind.u8)),.hol (.sl 91 ao)]]⟩,[(.ret,⟨(bQ (.one (.hol .bool)::ai (ai (ai (dR []))))),[]⟩),(.exit 0,⟨(.any::ai (ai (ai (dR (bQ []))))),[]⟩)]⟩
def nj (d:fe.st.den):Tr (aD fe.xs):=
 .ite (decide (d.1.1=0)&&(decide (d.2.1.2.2.2.2.1.length=d.2.2.1.2.2.2.2.1.length)&&decide (aI d.2.1.2.2.2.2.1<aG))) (.ite (s8 d.2.1.2.2.2.2.1 d.2.2.1.2.2.2.2.1) (.ret (.pan (.ret ((),((),()))))) (.ret (.ret ((),((false,()),()))))) .no
def uu:Lp:=bv [(5,aN fe nj)]
def vi {R:Type}(h2 h3 h4:Int)(h5:Bool)(h6:List Int)(h7:List (Nd))(h8 h9:Int)(h10:Bool)(h11:List Int)(h12:List (Nd))(next:Int→Int→Int→Bool→List Int→List (Nd)→Int→Int→Bool→List Int→List (Nd)→Option R)(out:aD fe.xs→Option R):Option R:=bif decide (h2<(↑h7.length:Int)) then bif decide (0≤h2)&&decide (h2<(↑h7.length:Int)) then bif decide (0≤h2)&&decide (h2<(↑h12.length:Int)) then bif decide (aP (Tre.mk (h7.getD h2.toNat (Tre.mk (0,0,false,[],()) [])).1 (h7.getD h2.toNat (Tre.mk (0,0,false,[],()) [])).2)<aG) then bif !ci (Tre.mk (h7.getD h2.toNat (Tre.mk (0,0,false,[],()) [])).1 (h7.getD h2.toNat (Tre.mk (0,0,false,[],()) [])).2) (Tre.mk (h12.getD h2.toNat (Tre.mk (0,0,false,[],()) [])).1 (h12.getD h2.toNat (Tre.mk (0,0,false,[],()) [])).2) then out (.ret ((),((false,()),()))) else next (IntKind.i64.wrap (h2+1)) (h3) (h4) (h5) (h6) (h7) (h8) (h9) (h10) (h11) (h12) else none else none else none else out (.pan (.ret ((),((),()))))
def sP (n:Nat)(h2 h3 h4:Int)(h5:Bool)(h6:List Int)(h7:List (Nd))(h8 h9:Int)(h10:Bool)(h11:List Int)(h12:List (Nd)):Option (aD fe.xs):=gd tt IL dr uu 0 Tryz.f51 (cE Tryz.f51 0) n (fe.st.mk' ((h2,()),((h3,(h4,(h5,(h6,(h7,()))))),((h8,(h9,(h10,(h11,(h12,()))))),())))) (bL fe.xs)
theorem MR (n:Nat)(h2 h3 h4:Int)(h5:Bool)(h6:List Int)(h7:List (Nd))(h8 h9:Int)(h10:Bool)(h11:List Int)(h12:List (Nd)):sP (n+1) h2 h3 h4 h5 h6 h7 h8 h9 h10 h11 h12=vi h2 h3 h4 h5 h6 h7 h8 h9 h10 h11 h12 (sP n) some:=by kernel_rfl
theorem L0 {l m:List Nd}(hlm:l.length=m.length)(hl:l.length≤maxLen)(hw:aI l<aG)(a b c d:Int)(z z':Bool)(x y:List Int):∀(k j:Nat),l.length<j+k→j≤l.length→l.take j=m.take j→
  sP k j a b z x l c d z' y m=if s8 l m=true then some (.pan (.ret ((),((),())))) else some (.ret ((),((false,()),()))):=by
 intro k
 induction k with
 |zero=>intro j h1 h2;omega
 |succ k ih=>
  intro j h1 h2 h3
  rw[MR]
  unfold vi
  by_cases hj:j<l.length
  ·have hj':j<m.length:=by omega
   refine (aa (decide_eq_true (show (j:Int)<(l.length:Int) by omega)) _ _).trans ?_
   refine (aa (by simp;omega) _ _).trans ?_
   refine (aa (by simp;omega) _ _).trans ?_
   rw[bp hj hl]
   have hmem:=cY (List.getElem_mem hj)
   have ht:l.take (j+1)=m.take (j+1)↔l[j]=m[j]:=by
    rw[List.take_succ_eq_append_getElem hj,List.take_succ_eq_append_getElem hj',h3]
    exact ⟨fun h=>by have:=(List.append_inj' h rfl).2;injection this,fun h=>by rw[h]⟩
   have hne:l[j]≠m[j]→l≠m:=fun h e=>h (by subst e;rfl)
   have ih':=ih (j+1) (by omega) (by omega)
   simp only[Int.toNat_natCast,aH hj,aH hj']
   generalize l[j]=u at hmem ht hne ⊢
   generalize m[j]=v at ht hne ⊢
   obtain ⟨ul,uk⟩:=u
   obtain ⟨vl,vk⟩:=v
   refine (aa (decide_eq_true (show aP (Tre.mk ul uk)<aG by omega)) _ _).trans ?_
   by_cases he:ci (Tre.mk ul uk) (Tre.mk vl vk)=true
   ·refine (ab (show (!ci (Tre.mk ul uk) (Tre.mk vl vk))=false by rw[he];rfl) _ _).trans ?_
    exact ih' (ht.2 (gF.1 he))
   ·refine (aa (show (!ci (Tre.mk ul uk) (Tre.mk vl vk))=true by simpa using he) _ _).trans ?_
    rw[if_neg (fun h=>hne (fun e=>he (gF.2 e)) (pa.1 h))]
  ·refine (ab (decide_eq_false (show ¬(j:Int)<(l.length:Int) by omega)) _ _).trans ?_
   rw[List.take_of_length_le (by omega),List.take_of_length_le (by omega)] at h3
   rw[if_pos (pa.2 h3)]
def zK (a0 a1:Nd):Option dW.Res:=bif a0.1.1 != a1.1.1 then some (Out.ret ((false,()),())) else bif a0.1.2.1 != a1.1.2.1 then some (Out.ret ((false,()),())) else bif !a0.1.2.2.1 == a1.1.2.2.1 then some (Out.ret ((false,()),())) else bif !decide (a0.1.2.2.2.1=a1.1.2.2.2.1) then some (Out.ret ((false,()),())) else bif (↑a0.2.length:Int) != (↑a1.2.length:Int) then some (Out.ret ((false,()),())) else (nj ((0,()),((a0.1.1,(a0.1.2.1,(a0.1.2.2.1,(a0.1.2.2.2.1,(a0.2,()))))),((a1.1.1,(a1.1.2.1,(a1.1.2.2.1,(a1.1.2.2.2.1,(a1.2,()))))),())))).run fun y=>match y with | .ret ((),((x25,()),()))=>(some (Out.ret ((x25,()),()))) | .pan (.ret ((),((),())))=>(some (Out.ret ((true,()),())))
theorem Rm (a0 a1:Nd):Io.run tt IL dr uu dW Tryz.f51 ((a0,a1,()),())=zK a0 a1:=by kernel_rfl
theorem QJ (rtAlike:HcOk prog 51 (ah dW (pM aG))):HcOk prog 51 (ah dW (pM (aG+1))):=by
 refine aj (n:=400) hm (cs:=z0) (.cons Gw (.cons rtAlike .nil)) (lp:=uu) (fn:=Tryz.f51) (by kernel_rfl) (by kernel_rfl) (by kernel_rfl) dW (.step (h0:=aN fe nj) (by kernel_rfl) (aw (n:=400) hm (cs:=z0) (.cons Gw (.cons rtAlike .nil)) (lp:=uu) (fn:=Tryz.f51) (.done (by kernel_rfl)) fe nj ?_) (.done (by kernel_rfl))) (pM (aG+1)) ?_
 ·rintro ⟨⟨(i:Int),⟨⟩⟩,⟨⟨(a:Int),(b:Int),(z:Bool),(x:List Int),(l:List Nd),⟨⟩⟩,⟨(c:Int),(d:Int),(z':Bool),(y':List Int),(m:List Nd),⟨⟩⟩,⟨⟩⟩⟩ y hw hy
  obtain ⟨hg,hy⟩:=Tr.guard hy
  simp only[Bool.and_eq_true,decide_eq_true_eq] at hg
  obtain ⟨h1,h2,h3⟩:=hg
  have h1:i=0:=h1
  have h2:l.length=m.length:=h2
  have h3:aI l<aG:=h3
  subst h1
  refine ⟨l.length+1,(L0 h2 (by have:=hw.2.1.2.2.2.2.1.1;exact this) h3 a b c d z z' x y' (l.length+1) 0 (by omega) (by omega) rfl).trans ?_⟩
  rw[← hy]
  by_cases h:s8 l m=true
  ·rw[if_pos h];exact (aa h _ _).symm
  ·rw[if_neg h];exact (ab (by simpa using h) _ _).symm
 ·rintro ⟨⟨(a:Nd),(b:Nd),⟨⟩⟩,⟨⟩⟩ out hw ho
  obtain ⟨hg,ho⟩:=Tr.guard ho
  have hk:aP a<aG+1:=of_decide_eq_true hg
  clear hg
  cases ho
  refine (Rm a b).trans ?_
  unfold zK
  show _=some (Out.ret ((ci a b,()),()))
  obtain ⟨⟨a1,a2,a3,a4,⟨⟩⟩,a5⟩:=a
  obtain ⟨⟨b1,b2,b3,b4,⟨⟩⟩,b5⟩:=b
  rw[cC] at hk
  have hk:1+a4.length+aI a5<aG+1:=hk
  have key:=WQ (a:=a1) (b:=b1) (c:=a2) (d:=b2) (z:=a3) (z':=b3) (x:=a4) (y:=b4) (l:=a5) (m:=b5)
  have no:¬(a1=b1∧a2=b2∧a3=b3∧a4=b4∧a5=b5)→ci (Tre.mk (a1,(a2,(a3,(a4,())))) a5) (Tre.mk (b1,(b2,(b3,(b4,())))) b5)=false:=fun h=>by
   rw[Bool.eq_false_iff];exact fun e=>h (key.1 e)
  by_cases h1:a1=b1
  ·refine (ab (by simpa using h1) _ _).trans ?_
   by_cases h2:a2=b2
   ·refine (ab (by simpa using h2) _ _).trans ?_
    by_cases h3:a3=b3
    ·refine (ab (by simp[h3]) _ _).trans ?_
     by_cases h4:a4=b4
     ·refine (ab (by simp[h4]) _ _).trans ?_
      by_cases h5:a5.length=b5.length
      ·refine (ab (by simp[h5]) _ _).trans ?_
       have c1:(decide ((0:Int)=0)&&(decide (a5.length=b5.length)&&decide (aI a5<aG)))=true:=by simp;omega
       have e1:nj ((0,()),((a1,(a2,(a3,(a4,(a5,()))))),((b1,(b2,(b3,(b4,(b5,()))))),())))=.ite true (.ite (s8 a5 b5) (.ret (.pan (.ret ((),((),()))))) (.ret (.ret ((),((false,()),()))))) .no:=congrArg (fun c=>Tr.ite c _ _) c1
       rw[e1]
       by_cases h6:a5=b5
       ·rw[pa.2 h6,key.2 ⟨h1,h2,h3,h4,h6⟩];rfl
       ·have:s8 a5 b5=false:=by rw[Bool.eq_false_iff];exact fun e=>h6 (pa.1 e)
        rw[this,no (fun h=>h6 h.2.2.2.2)];rfl
      ·refine (aa (bne_iff_ne.2 (fun e=>h5 (Int.ofNat.inj e))) _ _).trans ?_
       rw[no (fun h=>h5 (by rw[h.2.2.2.2]))]
     ·refine (aa (by simp[h4]) _ _).trans ?_
      rw[no (fun h=>h4 h.2.2.2.1)]
    ·refine (aa (by cases a3 <;> cases b3 <;> simp_all) _ _).trans ?_
     rw[no (fun h=>h3 h.2.2.1)]
   ·refine (aa (by simpa using h2) _ _).trans ?_
    rw[no (fun h=>h2 h.2.1)]
  ·refine (aa (by simpa using h1) _ _).trans ?_
   rw[no (fun h=>h1 h.1)]
end
theorem QI (n:Nat):HcOk prog 51 (ah dW (pM n)):=by
 induction n with
 |zero=>exact HcOk.none (fn:=Tryz.f51) (by kernel_rfl) (by kernel_rfl) (by kernel_rfl) _ _ fun d out h=>by cases h
 |succ n ih=>
  have:=@QJ ⟨⟨n⟩⟩ (by rw[FuT.val];exact ih)
  rw[FuT.val] at this
  exact this
theorem uE:HcOk prog 51 (ah dW Fg):=by
 refine HcOk.lim QI fun d=>⟨aP d.1.1+1,fun out h=>?_⟩
 exact (aa (decide_eq_true (Nat.lt_succ_self _)) _ _).trans h
abbrev eY:Io:=⟨[cQ],[],[],[cQ],none⟩
def tE (n:Nat)(d:eY.In):Tr eY.Res:=.ite (decide (aP d.1.1<n)&&decide (aP d.1.1≤4294967296)) (.ret (.ret ((d.1.1,()),()))) .no
def Fi (d:eY.In):Tr eY.Res:=.ite (decide (aP d.1.1≤4294967296)) (.ret (.ret ((d.1.1,()),()))) .no
section
variable [Inhabited FuT]
abbrev FG:List (Nat×Hc):=[(27,ah mZ CF),(83,ah eY (tE aG))]
def OA:Hd:=bA FG
abbrev gu:Lo:=⟨⟨(.any::.one (.ptr 1 0)::.one (.ptr 2 0)::.one (.onl 91 ao 7)::.one (.hol (.int IntKind.i64))::ai (dR (bQ []))),[none,some [.hol (.int IntKind.i64),.hol (.int IntKind.i64),.hol .bool,.hol (.sl 5 (Ty.int IntKind.u8)),.hol (.sl 91 ao)],some [.hol (.int IntKind.i64),.hol (.int IntKind.i64),.hol .bool,.onl 5 (Ty.int IntKind.u8) 1032,.onl 91 ao 1034]]⟩,[(.exit 0,⟨(.any::.one (.ptr 1 0)::.one (.ptr 2 0)::.one (.onl 91 ao 7)::.any::ai (dR (bQ []))),[none,some [.hol (.int IntKind.i64),.hol (.int IntKind.i64),.hol .bool,.hol (.sl 5 (Ty.int IntKind.u8)),.hol (.sl 91 ao)],some [.hol (.int IntKind.i64),.hol (.int IntKind.i64),.hol .bool,.onl 5 (Ty.int IntKind.u8) 1032,.onl 91 ao 1034]]⟩)]⟩
def pQ (d:gu.st.den):Tr (aD gu.xs):=
 .ite (decide (d.1.1.length=0)&&(decide (d.1.2.1=0)&&(decide (aI d.2.1.2.2.2.2.1<aG)&&decide (aI d.2.1.2.2.2.2.1≤4294967296)))) (.ret (.ret ((),((d.2.1.2.2.2.2.1,()),d.2)))) .no
def yE:Lp:=bv [(4,aN gu pQ)]
def xP {R:Type}(h1:List ao.den)(h2 h3 h4:Int)(h5:Bool)(h6:List Int)(h7:List (Nd))(h8 h9:Int)(h10:Bool)(h11:List Int)(h12:List ao.den)(next:List ao.den→Int→Int→Int→Bool→List Int→List (Nd)→Int→Int→Bool→List Int→List ao.den→Option R)(out:aD gu.xs→Option R):Option R:=bif decide (h2<(↑h7.length:Int)) then bif decide (0≤h2)&&decide (h2<(↑h7.length:Int)) then bif decide (aP (Tre.mk (h7.getD h2.toNat (Tre.mk (0,0,false,[],()) [])).1 (h7.getD h2.toNat (Tre.mk (0,0,false,[],()) [])).2)<aG)&&decide (aP (Tre.mk (h7.getD h2.toNat (Tre.mk (0,0,false,[],()) [])).1 (h7.getD h2.toNat (Tre.mk (0,0,false,[],()) [])).2)≤4294967296) then bif decide (h1.length+1≤4294967296) then next (h1++[Tre.mk (h7.getD h2.toNat (Tre.mk (0,0,false,[],()) [])).1 (h7.getD h2.toNat (Tre.mk (0,0,false,[],()) [])).2]) (IntKind.i64.wrap (h2+1)) (h3) (h4) (h5) (h6) (h7) (h8) (h9) (h10) (h11) (h12) else none else none else none else out (.ret ((),((h1,()),((h3,(h4,(h5,(h6,(h7,()))))),((h8,(h9,(h10,(h11,(h12,()))))),())))))
def wc (n:Nat)(h1:List ao.den)(h2 h3 h4:Int)(h5:Bool)(h6:List Int)(h7:List (Nd))(h8 h9:Int)(h10:Bool)(h11:List Int)(h12:List ao.den):Option (aD gu.xs):=gd tt OA dr yE 0 Tryz.f83 (cE Tryz.f83 0) n (gu.st.mk' ((h1,(h2,())),((h3,(h4,(h5,(h6,(h7,()))))),((h8,(h9,(h10,(h11,(h12,()))))),())))) (bL gu.xs)
theorem RK (n:Nat)(h1:List ao.den)(h2 h3 h4:Int)(h5:Bool)(h6:List Int)(h7:List (Nd))(h8 h9:Int)(h10:Bool)(h11:List Int)(h12:List ao.den):wc (n+1) h1 h2 h3 h4 h5 h6 h7 h8 h9 h10 h11 h12=xP h1 h2 h3 h4 h5 h6 h7 h8 h9 h10 h11 h12 (wc n) some:=by kernel_rfl
theorem Qp {l:List Nd}(hw:aI l<aG)(hb:aI l≤4294967296)(a b:Int)(z:Bool)(x:List Int)(c d:Int)(z':Bool)(y:List Int)(m:List Nd):∀(k j:Nat),l.length<j+k→j≤l.length→
  wc k (l.take j) j a b z x l c d z' y m=some (.ret ((),((l,()),((a,(b,(z,(x,(l,()))))),((c,(d,(z',(y,(m,()))))),()))))):=by
 intro k
 induction k with
 |zero=>intro j h1 h2;omega
 |succ k ih=>
  intro j h1 h2
  rw[RK]
  unfold xP
  by_cases hj:j<l.length
  ·refine (aa (decide_eq_true (show (j:Int)<(l.length:Int) by omega)) _ _).trans ?_
   refine (aa (by simp;omega) _ _).trans ?_
   have hlen:=gI l
   rw[aC (n:=(j:Int)+1) (by omega) (by omega)]
   have hmem:=cY (List.getElem_mem hj)
   have ht:l.take (j+1)=l.take j++[l[j]]:=List.take_succ_eq_append_getElem hj
   have ih':=ih (j+1) (by omega) (by omega)
   rw[ht] at ih'
   simp only[Int.toNat_natCast,aH hj]
   generalize l[j]=u at hmem ht ih' ⊢
   obtain ⟨ul,uk⟩:=u
   refine (aa (show (decide (aP (Tre.mk ul uk)<aG)&&decide (aP (Tre.mk ul uk)≤4294967296))=true by simp;omega) _ _).trans ?_
   refine (aa (decide_eq_true (show (l.take j).length+1≤4294967296 by simp;omega)) _ _).trans ?_
   exact ih'
  ·refine (ab (decide_eq_false (show ¬(j:Int)<(l.length:Int) by omega)) _ _).trans ?_
   rw[List.take_of_length_le (by omega)]
def Dp (a0:Nd):Option eY.Res:=(pQ (([],(0,())),((a0.1.1,(a0.1.2.1,(a0.1.2.2.1,(a0.1.2.2.2.1,(a0.2,()))))),((0,(0,(false,([],([],()))))),())))).run fun y=>match y with | .ret ((),((x36,()),(x37,x38,x39,x40,x41,()),(x42,x43,x44,x45,x46,()),()))=>(bif decide (x40.length≤4294967296) then some (Out.ret ((Tre.mk (x37,x38,x39,x40,()) x36,()),())) else none)
theorem Wp (a0:Nd):Io.run tt OA dr yE eY Tryz.f83 ((a0,()),())=Dp a0:=by kernel_rfl
theorem VA (rtTwin:HcOk prog 83 (ah eY (tE aG))):HcOk prog 83 (ah eY (tE (aG+1))):=by
 refine aj (n:=400) hm (cs:=FG) (.cons sX (.cons rtTwin .nil)) (lp:=yE) (fn:=Tryz.f83) (by kernel_rfl) (by kernel_rfl) (by kernel_rfl) eY (.step (h0:=aN gu pQ) (by kernel_rfl) (aw (n:=400) hm (cs:=FG) (.cons sX (.cons rtTwin .nil)) (lp:=yE) (fn:=Tryz.f83) (.done (by kernel_rfl)) gu pQ ?_) (.done (by kernel_rfl))) (tE (aG+1)) ?_
 ·rintro ⟨⟨(o:List Nd),(i:Int),⟨⟩⟩,⟨⟨(a:Int),(b:Int),(z:Bool),(x:List Int),(l:List Nd),⟨⟩⟩,⟨(c:Int),(d:Int),(z':Bool),(y':List Int),(m:List Nd),⟨⟩⟩,⟨⟩⟩⟩ y hw hy
  obtain ⟨hg,hy⟩:=Tr.guard hy
  simp only[Bool.and_eq_true,decide_eq_true_eq] at hg
  obtain ⟨h1,h2,h3,h4⟩:=hg
  have h1:o=[]:=List.eq_nil_of_length_eq_zero h1
  have h2:i=0:=h2
  have h3:aI l<aG:=h3
  have h4:aI l≤4294967296:=h4
  subst h1
  subst h2
  refine ⟨l.length+1,(Qp h3 h4 a b z x c d z' y' m (l.length+1) 0 (by omega) (by omega)).trans ?_⟩
  rw[← hy]
  rfl
 ·rintro ⟨⟨(a:Nd),⟨⟩⟩,⟨⟩⟩ out hw ho
  obtain ⟨hg,ho⟩:=Tr.guard ho
  simp only[Bool.and_eq_true,decide_eq_true_eq] at hg
  obtain ⟨hk,hb⟩:=hg
  have hk:aP a<aG+1:=hk
  have hb:aP a≤4294967296:=hb
  cases ho
  refine (Wp a).trans ?_
  unfold Dp
  show _=some (Out.ret ((a,()),()))
  obtain ⟨⟨a1,a2,a3,a4,⟨⟩⟩,a5⟩:=a
  rw[cC] at hk hb
  have hk:1+a4.length+aI a5<aG+1:=hk
  have hb:1+a4.length+aI a5≤4294967296:=hb
  have c1:(decide (([]:List Nd).length=0)&&(decide ((0:Int)=0)&&(decide (aI a5<aG)&&decide (aI a5≤4294967296))))=true:=by simp;omega
  have e1:pQ ((([]:List Nd),(0,())),((a1,(a2,(a3,(a4,(a5,()))))),((0,(0,(false,(([]:List Int),(([]:List Nd),()))))),())))=.ite true (.ret (.ret ((),((a5,()),((a1,(a2,(a3,(a4,(a5,()))))),((0,(0,(false,(([]:List Int),(([]:List Nd),()))))),())))))) .no:=congrArg (fun c=>Tr.ite c _ _) c1
  rw[e1]
  exact aa (decide_eq_true (show a4.length≤4294967296 by omega)) _ _
end
theorem Vz (n:Nat):HcOk prog 83 (ah eY (tE n)):=by
 induction n with
 |zero=>exact HcOk.none (fn:=Tryz.f83) (by kernel_rfl) (by kernel_rfl) (by kernel_rfl) _ _ fun d out h=>by cases h
 |succ n ih=>
  have:=@VA ⟨⟨n⟩⟩ (by rw[FuT.val];exact ih)
  rw[FuT.val] at this
  exact this
theorem GG:HcOk prog 83 (ah eY Fi):=by
 refine HcOk.lim Vz fun d=>⟨aP d.1.1+1,fun out h=>?_⟩
 obtain ⟨hg,h⟩:=Tr.guard h
 refine (aa ?_ _ _).trans h
 simp only[Bool.and_eq_true,decide_eq_true_eq]
 exact ⟨Nat.lt_succ_self _,of_decide_eq_true hg⟩
end
end Go.Proofs.YtomeplopmndbgaaGreat.Sym
namespace Go.Proofs.YtomeplopmndbgaaGreat.Sym
open Go
set_option linter.unusedSimpArgs false
set_option linter.unusedVariables false
noncomputable section
mutual
def bY (f:Fd)(v:Int):Nd→List Int×Int
 |.mk a ks=>
  if fS f.lab.2.1 (.mk a ks)=false then ([],101)
  else if f.lab.2.1≤4 then (if fP a.2.1 (bu f.lab.2.1)=true then (aB a.2.1 (bu f.lab.2.1).toNat,0) else ([],102))
  else if f.lab.2.1=9 then (if 16<ks.length then ([],9) else if (bI (f.kids.headD f) v ks).2≠0 then ([],(bI (f.kids.headD f) v ks).2) else (aB ks.length 4++(bI (f.kids.headD f) v ks).1,0))
  else if f.lab.2.1=10 then bC f.kids v (.mk a ks)
  else if a.2.2.1=true then (if a.2.2.2.1.length=0 then (aB (-1) (bu f.lab.2.1).toNat,0) else ([],70))
  else if f.lab.2.1≤6∧(bM a.2.2.2.1).2=false then ([],6)
  else if f.lab.2.1≤6∧255<a.2.2.2.1.length then ([],4)
  else (aB a.2.2.2.1.length (bu f.lab.2.1).toNat++a.2.2.2.1,0)
termination_by n=>(SizeOf.sizeOf n,1)
def bC (fs:List Fd)(v:Int):Nd→List Int×Int
 |.mk a ks=>if ks.length≠(cX fs v).length then ([],101) else cJ v (cX fs v) ks
termination_by n=>(SizeOf.sizeOf n,0)
def bI (f:Fd)(v:Int):List Nd→List Int×Int
 |[]=>([],0)
 |k::ks=>if (bY f v k).2≠0 then ([],(bY f v k).2) else if (bI f v ks).2≠0 then ([],(bI f v ks).2) else ((bY f v k).1++(bI f v ks).1,0)
termination_by l=>(SizeOf.sizeOf l,0)
def cJ (v:Int):List Fd→List Nd→List Int×Int
 |f::fs,k::ks=>if (bY f v k).2≠0 then ([],(bY f v k).2) else if (cJ v fs ks).2≠0 then ([],(cJ v fs ks).2) else ((bY f v k).1++(cJ v fs ks).1,0)
 |_,_=>([],0)
termination_by fs l=>(SizeOf.sizeOf l,0)
end
mutual
def Tre.arr:Fd→Bool
 |.mk a ks=>((decide (a.2.1≠9) || decide (ks.length≠0))&&decide (ks.length≤16))&&Tre.arrs ks
def Tre.arrs:List Fd→Bool
 |[]=>true
 |k::ks=>k.arr&&Tre.arrs ks
end
@[irreducible] noncomputable def dM (f:Fd):Bool:=f.arr
@[irreducible] noncomputable def bq (f:List Fd):Bool:=Tre.arrs f
theorem Bv (f:Fd):dM f=(((decide (f.lab.2.1≠9) || decide (f.kids.length≠0))&&decide (f.kids.length≤16))&&bq f.kids):=by
 cases f;unfold dM bq;rfl
theorem jK {k:Fd}:∀{l:List Fd},bq l=true→k∈l→dM k=true
 |[],_,h=>by cases h
 |x::l,h,hk=>by
  unfold bq at h
  simp only[Tre.arrs,Bool.and_eq_true] at h
  rcases List.mem_cons.1 hk with rfl | hk
  ·unfold dM;exact h.1
  ·exact jK (l:=l) (by unfold bq;exact h.2) hk
theorem Kl {l:List Fd}{v:Int}(h:bq l=true):bq (cX l v)=true:=by
 have key:∀l:List Fd,(∀k∈l,dM k=true)→bq l=true:=by
  intro l
  induction l with
  |nil=>intro _;unfold bq;rfl
  |cons x l ih=>
   intro h
   have h1:=ih fun k hk=>h k (List.mem_cons_of_mem _ hk)
   have h2:=h x (by simp)
   unfold bq dM at *
   simp only[Tre.arrs,h1,h2,Bool.and_self]
 refine key _ fun k hk=>jK h (List.mem_filter.1 hk).1
theorem aM (k:Nd)(ks:List Nd):aI (k::ks)=aP k+aI ks:=by unfold aI aP;rfl
theorem KL (k:Int):1≤bu k∧bu k≤8:=by unfold bu;split;omega;split;omega;split <;> omega
theorem uY {f:Fd}{v:Int}:∀{ks:List Nd},(∀k∈ks,(bY f v k).1.length≤8*aP k)→(bI f v ks).1.length≤8*aI ks
 |[],_=>by rw[bI];simp
 |k::ks,h=>by
  have h1:=h k (by simp)
  have h2:=uY (f:=f) (v:=v) (ks:=ks) fun k hk=>h k (List.mem_cons_of_mem _ hk)
  rw[bI,aM]
  split
  ·simp
  ·split
   ·simp
   ·rw[List.length_append];omega
theorem BS {v:Int}:∀{fs:List Fd} {ks:List Nd},(∀f,∀k∈ks,(bY f v k).1.length≤8*aP k)→(cJ v fs ks).1.length≤8*aI ks
 |f::fs,k::ks,h=>by
  have h1:=h f k (by simp)
  have h2:=BS (v:=v) (fs:=fs) (ks:=ks) fun f k hk=>h f k (List.mem_cons_of_mem _ hk)
  rw[cJ,aM]
  split
  ·simp
  ·split
   ·simp
   ·rw[List.length_append];omega
 |[],ks,h=>by rw[cJ];simp;simp
 |_::_,[],h=>by rw[cJ];simp;simp
theorem Nc {v:Int}:∀{fs:List Fd} {ks:List Nd},(cJ v fs ks).2≠0→(cJ v fs ks).1=[]
 |[],ks,h=>by rw[cJ];simp
 |_::_,[],h=>by rw[cJ];simp
 |f::fs,k::ks,h=>by
  rw[cJ] at h ⊢
  split
  ·rfl
  ·rename_i h1
   rw[if_neg h1] at h
   split
   ·rfl
   ·rename_i h2
    rw[if_neg h2] at h
    exact absurd rfl h
theorem Nf (v:Int):∀(N:Nat),(∀f n,aP n≤N→(bY f v n).1.length≤8*aP n)∧(∀fs n,aP n≤N→(bC fs v n).1.length+8≤8*aP n):=by
 intro N
 induction N with
 |zero=>exact ⟨fun f n h=>by have:=nH n;omega,fun f n h=>by have:=nH n;omega⟩
 |succ N ih=>
  have hp:∀fs n,aP n≤N+1→(bC fs v n).1.length+8≤8*aP n:=by
   rintro fs ⟨a,ks⟩ h
   rw[cC] at h ⊢
   rw[bC]
   simp only at h ⊢
   split
   ·simp;omega
   ·have:=BS (v:=v) (fs:=cX fs v) (ks:=ks) fun f k hk=>ih.1 f k (by have:=cY hk;omega)
    omega
  refine ⟨?_,hp⟩
  rintro f ⟨a,ks⟩ h
  have hpp:=hp f.kids (.mk a ks) h
  have hw:=KL f.lab.2.1
  rw[cC] at h hpp ⊢
  rw[bY]
  simp only at h hpp ⊢
  have hi:=uY (f:=f.kids.headD f) (v:=v) (ks:=ks) fun k hk=>ih.1 _ k (by have:=cY hk;omega)
  split
  ·simp
  split
  ·split
   ·simp[bN];omega
   ·simp
  split
  ·split
   ·simp
   ·split
    ·simp
    ·rw[List.length_append,bN];omega
  split
  ·omega
  split
  ·split
   ·simp[bN];omega
   ·simp
  split
  ·simp
  split
  ·simp
  ·rw[List.length_append,bN];omega
theorem EC (f:Fd)(v:Int)(n:Nd):(bY f v n).1.length≤8*aP n:=(Nf v _).1 f n (Nat.le_refl _)
abbrev dK:Io:=⟨[LL,dI,cQ],[],[],[dL,dI],none⟩
def la (n:Nat)(d:dK.In):Tr dK.Res:=.ite (decide (2*aP d.1.2.2.1+1≤n)&&(dM d.1.1&&decide (8*aP d.1.2.2.1≤4294967296))) (.ret (.ret (((bY d.1.1 d.1.2.1 d.1.2.2.1).1,((bY d.1.1 d.1.2.1 d.1.2.2.1).2,())),()))) .no
abbrev eK:Io:=⟨[xl,dI,cQ],[],[],[dL,dI],none⟩
def pS (n:Nat)(d:eK.In):Tr eK.Res:=.ite (decide (2*aP d.1.2.2.1≤n)&&(bq d.1.1&&(decide (8*aP d.1.2.2.1≤4294967296)&&decide (d.1.1.length≤4294967296)))) (.ret (.ret (((bC d.1.1 d.1.2.1 d.1.2.2.1).1,((bC d.1.1 d.1.2.1 d.1.2.2.1).2,())),()))) .no
def NJ (d:eK.In):Tr eK.Res:=.ite (bq d.1.1&&(decide (8*aP d.1.2.2.1≤4294967296)&&decide (d.1.1.length≤4294967296))) (.ret (.ret (((bC d.1.1 d.1.2.1 d.1.2.2.1).1,((bC d.1.1 d.1.2.1 d.1.2.2.1).2,())),()))) .no
section
variable [Inhabited FuT]
abbrev z9:List (Nat×Hc):=[(191,ah iQ yk),(217,ah lD Fj),(218,ah oC K9),(39,ah iB tz),(211,ah dK (la aG)),(192,ah eK (pS aG)),(34,ah p6 NI),(38,ah ui Sw)]
def IO:Hd:=bA z9
abbrev dZ:Lo:=⟨⟨(.any::.one (.hol (.int IntKind.i64))::.any::.one (.ptr 3 0)::.any::.one (.ptr 5 0)::.any::bh (.one (.onl 5 (Ty.int IntKind.u8) 19)::.one (.hol (.int IntKind.i64))::.any::ai (ai (ai (ai (ai (ai (dR (bh []))))))))),[none,none,none,some [.hol .str,.hol (.int IntKind.i64),.hol (.int IntKind.i64),.hol (.int IntKind.i64),.hol (.sl 160 eE)],none,some [.hol (.int IntKind.i64),.hol (.int IntKind.i64),.hol .bool,.hol (.sl 5 (Ty.int IntKind.u8)),.hol (.sl 91 (((Ty.int IntKind.i64).prod ((Ty.int IntKind.i64).prod (Ty.bool.prod ((Ty.sl 5 (Ty.int IntKind.u8)).prod Ty.unit)))).tree 91))]]⟩,[(.ret,⟨(bQ (bh (.one (.onl 5 (Ty.int IntKind.u8) 13)::.one (.hol (.int IntKind.i64))::ai (ai (ai (ai (ai (ai (dR (bQ (bh []))))))))))),[]⟩),(.exit 0,⟨(.any::dR (.one (.onl 5 (Ty.int IntKind.u8) 19)::ai (ai (ai (ai (ai (ai (dR (bQ []))))))))),[]⟩)]⟩
def nQ (d:dZ.st.den):Tr (aD dZ.xs):=
 .ite (decide (d.1.2.2.1=0)&&(decide (d.1.2.1.length=4)&&((decide (d.2.1.2.2.2.2.1.length≠0)&&bq d.2.1.2.2.2.2.1)&&(decide (2*aI d.2.2.1.2.2.2.2.1+1≤aG)&&decide (8+8*aI d.2.2.1.2.2.2.2.1≤4294967296)))))
  (.ite (decide ((bI (d.2.1.2.2.2.2.1.headD (.mk ([],(0,(0,(0,())))) [])) d.1.1 d.2.2.1.2.2.2.2.1).2=0))
   (.ret (.pan (.ret ((),((d.1.2.1++(bI (d.2.1.2.2.2.2.1.headD (.mk ([],(0,(0,(0,())))) [])) d.1.1 d.2.2.1.2.2.2.2.1).1,()),())))))
   (.ret (.ret ((),(([],((bI (d.2.1.2.2.2.2.1.headD (.mk ([],(0,(0,(0,())))) [])) d.1.1 d.2.2.1.2.2.2.2.1).2,())),()))))) .no
def ux:Lp:=bv [(14,aN dZ nQ)]
def r8 {R:Type}(h3:Int)(h4:List Int)(h5:Int)(h6:List Int)(h7 h8 h9:Int)(h10:List (Fd))(h11 h12:Int)(h13:Bool)(h14:List Int)(h15:List (Nd))(next:Int→List Int→Int→List Int→Int→Int→Int→List (Fd)→Int→Int→Bool→List Int→List (Nd)→Option R)(out:aD dZ.xs→Option R):Option R:=bif decide (h5<(↑h15.length:Int)) then bif decide (0≤0)&&decide (0<(↑h10.length:Int)) then bif decide (0≤h5)&&decide (h5<(↑h15.length:Int)) then bif decide (2*aP (Tre.mk (h15.getD h5.toNat (Tre.mk (0,0,false,[],()) [])).1 (h15.getD h5.toNat (Tre.mk (0,0,false,[],()) [])).2)+1≤aG)&&(dM (Tre.mk (h10.getD (Int.toNat 0) (Tre.mk ([],0,0,0,()) [])).1 (h10.getD (Int.toNat 0) (Tre.mk ([],0,0,0,()) [])).2)&&decide (8*aP (Tre.mk (h15.getD h5.toNat (Tre.mk (0,0,false,[],()) [])).1 (h15.getD h5.toNat (Tre.mk (0,0,false,[],()) [])).2)≤4294967296)) then bif (bY (Tre.mk (h10.getD (Int.toNat 0) (Tre.mk ([],0,0,0,()) [])).1 (h10.getD (Int.toNat 0) (Tre.mk ([],0,0,0,()) [])).2) h3 (Tre.mk (h15.getD h5.toNat (Tre.mk (0,0,false,[],()) [])).1 (h15.getD h5.toNat (Tre.mk (0,0,false,[],()) [])).2)).2 != 0 then out (.ret ((),(([],((bY (Tre.mk (h10.getD (Int.toNat 0) (Tre.mk ([],0,0,0,()) [])).1 (h10.getD (Int.toNat 0) (Tre.mk ([],0,0,0,()) [])).2) h3 (Tre.mk (h15.getD h5.toNat (Tre.mk (0,0,false,[],()) [])).1 (h15.getD h5.toNat (Tre.mk (0,0,false,[],()) [])).2)).2,())),()))) else bif decide (h4.length+(bY (Tre.mk (h10.getD (Int.toNat 0) (Tre.mk ([],0,0,0,()) [])).1 (h10.getD (Int.toNat 0) (Tre.mk ([],0,0,0,()) [])).2) h3 (Tre.mk (h15.getD h5.toNat (Tre.mk (0,0,false,[],()) [])).1 (h15.getD h5.toNat (Tre.mk (0,0,false,[],()) [])).2)).1.length≤4294967296) then next (h3) (h4++(bY (Tre.mk (h10.getD (Int.toNat 0) (Tre.mk ([],0,0,0,()) [])).1 (h10.getD (Int.toNat 0) (Tre.mk ([],0,0,0,()) [])).2) h3 (Tre.mk (h15.getD h5.toNat (Tre.mk (0,0,false,[],()) [])).1 (h15.getD h5.toNat (Tre.mk (0,0,false,[],()) [])).2)).1) (IntKind.i64.wrap (h5+1)) (h6) (h7) (h8) (h9) (h10) (h11) (h12) (h13) (h14) (h15) else none else none else none else none else out (.pan (.ret ((),((h4,()),()))))
def qa (n:Nat)(h3:Int)(h4:List Int)(h5:Int)(h6:List Int)(h7 h8 h9:Int)(h10:List (Fd))(h11 h12:Int)(h13:Bool)(h14:List Int)(h15:List (Nd)):Option (aD dZ.xs):=gd tt IO dr ux 0 Tryz.f211 (cE Tryz.f211 0) n (dZ.st.mk' ((h3,(h4,(h5,()))),((h6,(h7,(h8,(h9,(h10,()))))),((h11,(h12,(h13,(h14,(h15,()))))),())))) (bL dZ.xs)
theorem J8 (n:Nat)(h3:Int)(h4:List Int)(h5:Int)(h6:List Int)(h7 h8 h9:Int)(h10:List (Fd))(h11 h12:Int)(h13:Bool)(h14:List Int)(h15:List (Nd)):qa (n+1) h3 h4 h5 h6 h7 h8 h9 h10 h11 h12 h13 h14 h15=r8 h3 h4 h5 h6 h7 h8 h9 h10 h11 h12 h13 h14 h15 (qa n) some:=by kernel_rfl
theorem L4 {f0:Fd}{fs:List Fd}{ks:List Nd}{v:Int}(hl:ks.length≤maxLen)(ha:dM f0=true)(hf:2*aI ks+1≤aG)(hb:8*aI ks≤4294967296)(nm:List Int)(k' lo hi a b:Int)(z:Bool)(x:List Int):∀(k j:Nat) (o:List Int),ks.length<j+k→j≤ks.length→o.length+8*aI (ks.drop j)≤4294967296→
  qa k v o j nm k' lo hi (f0::fs) a b z x ks=if (bI f0 v (ks.drop j)).2=0 then some (.pan (.ret ((),((o++(bI f0 v (ks.drop j)).1,()),())))) else some (.ret ((),(([],((bI f0 v (ks.drop j)).2,())),()))):=by
 intro k
 induction k with
 |zero=>intro j o h1 h2;omega
 |succ k ih=>
  intro j o h1 h2 h3
  rw[J8]
  unfold r8
  by_cases hj:j<ks.length
  ·refine (aa (decide_eq_true (show (j:Int)<(ks.length:Int) by omega)) _ _).trans ?_
   refine (aa (by simp) _ _).trans ?_
   refine (aa (by simp;omega) _ _).trans ?_
   have hmem:=cY (List.getElem_mem hj)
   have hd:ks.drop j=ks[j]::ks.drop (j+1):=List.drop_eq_getElem_cons hj
   have hvl:=EC f0 v ks[j]
   have ih':=ih (j+1) (o++(bY f0 v ks[j]).1) (by omega) (by omega)
   rw[hd,aM] at h3
   rw[hd,bI]
   rw[bp hj hl]
   simp only[Int.toNat_natCast,aH hj]
   generalize ks[j]=u at hmem hvl ih' h3 ⊢
   obtain ⟨ul,uk⟩:=u
   obtain ⟨fl,fk⟩:=f0
   refine (aa (show (decide (2*aP (Tre.mk ul uk)+1≤aG)&&(dM (Tre.mk fl fk)&&decide (8*aP (Tre.mk ul uk)≤4294967296)))=true by rw[ha];simp;omega) _ _).trans ?_
   by_cases he:(bY (Tre.mk fl fk) v (Tre.mk ul uk)).2=0
   ·refine (ab (show ((bY (Tre.mk fl fk) v (Tre.mk ul uk)).2 != 0)=false by rw[he];rfl) _ _).trans ?_
    refine (aa (decide_eq_true (show o.length+(bY (Tre.mk fl fk) v (Tre.mk ul uk)).1.length≤4294967296 by omega)) _ _).trans ?_
    refine (ih' (by rw[List.length_append];omega)).trans ?_
    by_cases h2:(bI (Tre.mk fl fk) v (ks.drop (j+1))).2=0
    ·simp[he,h2]
    ·simp[he,h2]
   ·refine (aa (show ((bY (Tre.mk fl fk) v (Tre.mk ul uk)).2 != 0)=true by simpa using he) _ _).trans ?_
    simp[he]
  ·refine (ab (decide_eq_false (show ¬(j:Int)<(ks.length:Int) by omega)) _ _).trans ?_
   rw[List.drop_of_length_le (by omega),bI,if_pos rfl,List.append_nil]
def zS (a0:Fd)(a1:Int)(a2:Nd):Option dK.Res:=bif !fS a0.1.2.1 (Tre.mk a2.1 a2.2) then some (Out.ret (([],101,()),())) else bif decide (a0.1.2.1≤4) then bif decide (1≤bu a0.1.2.1) then bif !fP a2.1.2.1 (bu a0.1.2.1) then some (Out.ret (([],102,()),())) else bif decide (0≤bu a0.1.2.1)&&decide (bu a0.1.2.1≤8) then some (Out.ret ((aB a2.1.2.1 (bu a0.1.2.1).toNat,0,()),())) else none else none else bif a0.1.2.1 == 9 then bif decide (16<(↑a2.2.length:Int)) then some (Out.ret (([],9,()),())) else (nQ ((a1,(aB (↑a2.2.length:Int) (Int.toNat 4),(0,()))),((a0.1.1,(a0.1.2.1,(a0.1.2.2.1,(a0.1.2.2.2.1,(a0.2,()))))),((a2.1.1,(a2.1.2.1,(a2.1.2.2.1,(a2.1.2.2.2.1,(a2.2,()))))),())))).run fun y=>match y with | .ret ((),((x32,x33,()),()))=>(some (Out.ret ((x32,x33,()),()))) | .pan (.ret ((),((x34,()),())))=>(some (Out.ret ((x34,0,()),()))) else bif a0.1.2.1 == 10 then bif decide (2*aP (Tre.mk a2.1 a2.2)≤aG)&&(bq a0.2&&(decide (8*aP (Tre.mk a2.1 a2.2)≤4294967296)&&decide (a0.2.length≤4294967296))) then some (Out.ret (((bC a0.2 a1 (Tre.mk a2.1 a2.2)).1,(bC a0.2 a1 (Tre.mk a2.1 a2.2)).2,()),())) else none else bif a2.1.2.2.1 then bif decide (0<(↑(List.length a2.1.2.2.2.1):Int)) then some (Out.ret (([],70,()),())) else bif a2.1.2.2.1 then bif decide (0≤bu a0.1.2.1)&&decide (bu a0.1.2.1≤8) then some (Out.ret ((aB (-1) (bu a0.1.2.1).toNat,0,()),())) else none else bif decide (a0.1.2.1≤6) then bif !(bM a2.1.2.2.2.1).2 then some (Out.ret (([],6,()),())) else bif decide (255<(↑(List.length a2.1.2.2.2.1):Int)) then some (Out.ret (([],4,()),())) else bif decide (0≤bu a0.1.2.1)&&decide (bu a0.1.2.1≤8) then bif decide ((aB (↑(List.length a2.1.2.2.2.1):Int) (bu a0.1.2.1).toNat).length+List.length a2.1.2.2.2.1≤4294967296) then some (Out.ret ((aB (↑(List.length a2.1.2.2.2.1):Int) (bu a0.1.2.1).toNat++a2.1.2.2.2.1,0,()),())) else none else none else bif decide (0≤bu a0.1.2.1)&&decide (bu a0.1.2.1≤8) then bif decide ((aB (↑(List.length a2.1.2.2.2.1):Int) (bu a0.1.2.1).toNat).length+List.length a2.1.2.2.2.1≤4294967296) then some (Out.ret ((aB (↑(List.length a2.1.2.2.2.1):Int) (bu a0.1.2.1).toNat++a2.1.2.2.2.1,0,()),())) else none else none else bif a2.1.2.2.1 then bif decide (0≤bu a0.1.2.1)&&decide (bu a0.1.2.1≤8) then some (Out.ret ((aB (-1) (bu a0.1.2.1).toNat,0,()),())) else none else bif decide (a0.1.2.1≤6) then bif !(bM a2.1.2.2.2.1).2 then some (Out.ret (([],6,()),())) else bif decide (255<(↑(List.length a2.1.2.2.2.1):Int)) then some (Out.ret (([],4,()),())) else bif decide (0≤bu a0.1.2.1)&&decide (bu a0.1.2.1≤8) then bif decide ((aB (↑(List.length a2.1.2.2.2.1):Int) (bu a0.1.2.1).toNat).length+List.length a2.1.2.2.2.1≤4294967296) then some (Out.ret ((aB (↑(List.length a2.1.2.2.2.1):Int) (bu a0.1.2.1).toNat++a2.1.2.2.2.1,0,()),())) else none else none else bif decide (0≤bu a0.1.2.1)&&decide (bu a0.1.2.1≤8) then bif decide ((aB (↑(List.length a2.1.2.2.2.1):Int) (bu a0.1.2.1).toNat).length+List.length a2.1.2.2.2.1≤4294967296) then some (Out.ret ((aB (↑(List.length a2.1.2.2.2.1):Int) (bu a0.1.2.1).toNat++a2.1.2.2.2.1,0,()),())) else none else none
theorem Ry (a0:Fd)(a1:Int)(a2:Nd):Io.run tt IO dr ux dK Tryz.f211 ((a0,a1,a2,()),())=zS a0 a1 a2:=by kernel_rfl
theorem QO (rvValue:HcOk prog 211 (ah dK (la aG)))(rvParts:HcOk prog 192 (ah eK (pS aG))):HcOk prog 211 (ah dK (la (aG+1))):=by
 refine aj (n:=400) hm (cs:=z9) (.cons A8 (.cons JP (.cons Pk (.cons ry (.cons rvValue (.cons rvParts (.cons GD (.cons Em .nil)))))))) (lp:=ux) (fn:=Tryz.f211) (by kernel_rfl) (by kernel_rfl) (by kernel_rfl) dK (.step (h0:=aN dZ nQ) (by kernel_rfl) (aw (n:=400) hm (cs:=z9) (.cons A8 (.cons JP (.cons Pk (.cons ry (.cons rvValue (.cons rvParts (.cons GD (.cons Em .nil)))))))) (lp:=ux) (fn:=Tryz.f211) (.done (by kernel_rfl)) dZ nQ ?_) (.done (by kernel_rfl))) (la (aG+1)) ?_
 ·rintro ⟨⟨(v:Int),(o:List Int),(i:Int),⟨⟩⟩,⟨⟨(nm:List Int),(k':Int),(lo:Int),(hi:Int),(fs:List Fd),⟨⟩⟩,⟨(a:Int),(b:Int),(z:Bool),(x:List Int),(ks:List Nd),⟨⟩⟩,⟨⟩⟩⟩ y hw hy
  obtain ⟨hg,hy⟩:=Tr.guard hy
  simp only[Bool.and_eq_true,decide_eq_true_eq] at hg
  obtain ⟨h1,h2,⟨h3,h4⟩,h5,h6⟩:=hg
  have h1:i=0:=h1
  have h2:o.length=4:=h2
  have h3:fs.length≠0:=h3
  have h4:bq fs=true:=h4
  have h5:2*aI ks+1≤aG:=h5
  have h6:8+8*aI ks≤4294967296:=h6
  subst h1
  obtain ⟨f0,fs,rfl⟩:∃f0 fs',fs=f0::fs':=by cases fs with | nil=>exact absurd rfl h3 | cons a b=>exact ⟨a,b,rfl⟩
  refine ⟨ks.length+1,(L4 (by have:=hw.2.2.1.2.2.2.2.1.1;exact this) (jK h4 (by simp)) h5 (by omega) nm k' lo hi a b z x (ks.length+1) 0 o (by omega) (by omega) (by rw[List.drop_zero];omega)).trans ?_⟩
  rw[← hy,List.drop_zero]
  by_cases h:(bI f0 v ks).2=0
  ·rw[if_pos h];exact (aa (decide_eq_true h) _ _).symm
  ·rw[if_neg h];exact (ab (decide_eq_false h) _ _).symm
 ·rintro ⟨⟨(f:Fd),(v:Int),(n:Nd),⟨⟩⟩,⟨⟩⟩ out hw ho
  obtain ⟨hg,ho⟩:=Tr.guard ho
  simp only[Bool.and_eq_true,decide_eq_true_eq] at hg
  obtain ⟨hk,ha,hb⟩:=hg
  have hk:2*aP n+1≤aG+1:=hk
  have ha:dM f=true:=ha
  have hb:8*aP n≤4294967296:=hb
  cases ho
  refine (Ry f v n).trans ?_
  unfold zS
  show _=some (Out.ret (((bY f v n).1,((bY f v n).2,())),()))
  obtain ⟨⟨nm,k',lo,hi,⟨⟩⟩,fs⟩:=f
  obtain ⟨⟨a,b,z,x,⟨⟩⟩,ks⟩:=n
  have hw8:=KL k'
  have hwf:=cC (Tre.mk (a,(b,(z,(x,())))) ks)
  have hwf:aP (Tre.mk (a,(b,(z,(x,())))) ks)=1+x.length+aI ks:=hwf
  have hk:2*(1+x.length+aI ks)+1≤aG+1:=by rw[← hwf];exact hk
  have hb:8*(1+x.length+aI ks)≤4294967296:=by rw[← hwf];exact hb
  rw[Bv] at ha
  simp only[Bool.and_eq_true] at ha
  obtain ⟨⟨ha1,ha3⟩,ha2⟩:=ha
  have ha2:bq fs=true:=ha2
  have ha3:fs.length≤16:=of_decide_eq_true ha3
  rw[bY]
  simp only
  have cW:(decide (0≤bu k')&&decide (bu k'≤8))=true:=by simp;omega
  have tail:(bif decide (0≤bu k')&&decide (bu k'≤8) then bif decide ((aB ((x.length:Nat):Int) (bu k').toNat).length+x.length≤4294967296) then (some (Out.ret ((aB ((x.length:Nat):Int) (bu k').toNat++x,((0:Int),())),())):Option dK.Res) else none else none)=some (Out.ret ((aB ((x.length:Nat):Int) (bu k').toNat++x,((0:Int),())),())):=by
   refine (aa cW _ _).trans ?_
   exact aa (decide_eq_true (by rw[bN];omega)) _ _
  by_cases h1:fS k' (Tre.mk (a,(b,(z,(x,())))) ks)=false
  ·rw[if_pos h1]
   exact aa (by rw[show fS k' (Tre.mk (a,(b,(z,(x,())))) ks)=false from h1];rfl) _ _
  rw[if_neg h1]
  refine (ab (by simpa using h1) _ _).trans ?_
  by_cases h2:k'≤4
  ·rw[if_pos h2]
   refine (aa (by simpa using h2) _ _).trans ?_
   refine (aa (decide_eq_true (show 1≤bu k' by omega)) _ _).trans ?_
   by_cases h3:fP b (bu k')=true
   ·rw[if_pos h3]
    refine (ab (show (!fP b (bu k'))=false by rw[h3];rfl) _ _).trans ?_
    exact aa cW _ _
   ·rw[if_neg h3]
    exact aa (show (!fP b (bu k'))=true by simpa using h3) _ _
  rw[if_neg h2]
  refine (ab (by simpa using h2) _ _).trans ?_
  by_cases h3:k'=9
  ·rw[if_pos h3]
   refine (aa (by simpa using h3) _ _).trans ?_
   by_cases h4:16<ks.length
   ·rw[if_pos h4]
    exact aa (decide_eq_true (show (16:Int)<(ks.length:Int) by omega)) _ _
   ·rw[if_neg h4]
    refine (ab (decide_eq_false (show ¬(16:Int)<(ks.length:Int) by omega)) _ _).trans ?_
    have h0:fs.length≠0:=by
     rcases Bool.or_eq_true _ _▸ha1 with h | h
     ·exact absurd h3 (of_decide_eq_true h)
     ·exact of_decide_eq_true h
    have c1:(decide ((0:Int)=0)&&(decide ((aB ((ks.length:Nat):Int) (Int.toNat 4)).length=4)&&((decide (fs.length≠0)&&bq fs)&&(decide (2*aI ks+1≤aG)&&decide (8+8*aI ks≤4294967296)))))=true:=by
     have h0':fs≠[]:=fun e=>h0 (by rw[e];rfl)
     rw[ha2,bN];simp[h0'];omega
    obtain ⟨f0,fs,rfl⟩:∃f0 fs',fs=f0::fs':=by cases fs with | nil=>exact absurd rfl h0 | cons a b=>exact ⟨a,b,rfl⟩
    refine (aa c1 _ _).trans ?_
    show (Tr.ite (decide ((bI f0 v ks).2=0)) _ _).run _=some (Out.ret (((if (bI f0 v ks).2≠0 then _ else _:List Int×Int).1,((if (bI f0 v ks).2≠0 then _ else _:List Int×Int).2,())),()))
    by_cases h5:(bI f0 v ks).2=0
    ·rw[if_neg (by simpa using h5)]
     exact aa (decide_eq_true h5) _ _
    ·rw[if_pos h5]
     exact ab (decide_eq_false h5) _ _
  rw[if_neg h3]
  refine (ab (by simpa using h3) _ _).trans ?_
  by_cases h4:k'=10
  ·rw[if_pos h4]
   refine (aa (by simpa using h4) _ _).trans ?_
   exact aa (show (decide (2*aP (Tre.mk (a,(b,(z,(x,())))) ks)≤aG)&&(bq fs&&(decide (8*aP (Tre.mk (a,(b,(z,(x,())))) ks)≤4294967296)&&decide (fs.length≤4294967296))))=true by rw[ha2,hwf];simp;omega) _ _
  rw[if_neg h4]
  refine (ab (by simpa using h4) _ _).trans ?_
  have rest:(bif decide (k'≤6) then bif !(bM x).2 then (some (Out.ret (([],((6:Int),())),())):Option dK.Res) else bif decide ((255:Int)<((x.length:Nat):Int)) then some (Out.ret (([],((4:Int),())),())) else bif decide (0≤bu k')&&decide (bu k'≤8) then bif decide ((aB ((x.length:Nat):Int) (bu k').toNat).length+x.length≤4294967296) then (some (Out.ret ((aB ((x.length:Nat):Int) (bu k').toNat++x,((0:Int),())),())):Option dK.Res) else none else none
    else bif decide (0≤bu k')&&decide (bu k'≤8) then bif decide ((aB ((x.length:Nat):Int) (bu k').toNat).length+x.length≤4294967296) then (some (Out.ret ((aB ((x.length:Nat):Int) (bu k').toNat++x,((0:Int),())),())):Option dK.Res) else none else none)=
    some (Out.ret (((if k'≤6∧(bM x).2=false then ([],6) else if k'≤6∧255<x.length then ([],4) else (aB ((x.length:Nat):Int) (bu k').toNat++x,0):List Int×Int).1,((if k'≤6∧(bM x).2=false then ([],6) else if k'≤6∧255<x.length then ([],4) else (aB ((x.length:Nat):Int) (bu k').toNat++x,0):List Int×Int).2,())),())):=by
   rw[tail]
   by_cases h6:k'≤6
   ·refine (aa (decide_eq_true h6) _ _).trans ?_
    by_cases h7:(bM x).2=false
    ·rw[if_pos ⟨h6,h7⟩]
     exact aa (by rw[h7];rfl) _ _
    ·rw[if_neg (fun h=>h7 h.2)]
     refine (ab (by simpa using h7) _ _).trans ?_
     by_cases h8:255<x.length
     ·rw[if_pos ⟨h6,h8⟩]
      exact aa (decide_eq_true (by omega)) _ _
     ·rw[if_neg (fun h=>h8 h.2)]
      exact ab (decide_eq_false (by omega)) _ _
   ·rw[if_neg (fun h=>h6 h.1),if_neg (fun h=>h6 h.1)]
    exact ab (decide_eq_false h6) _ _
  by_cases h5:z=true
  ·subst h5
   rw[if_pos rfl]
   refine (aa rfl _ _).trans ?_
   by_cases h6:x.length=0
   ·rw[if_pos h6]
    refine (ab (decide_eq_false (show ¬(0:Int)<((x.length:Nat):Int) by omega)) _ _).trans ?_
    refine (aa rfl _ _).trans ?_
    exact aa cW _ _
   ·rw[if_neg h6]
    exact aa (decide_eq_true (show (0:Int)<((x.length:Nat):Int) by omega)) _ _
  ·have h5:z=false:=by simpa using h5
   subst h5
   rw[if_neg (by decide)]
   refine (ab rfl _ _).trans ?_
   refine (ab rfl _ _).trans ?_
   exact rest
end
section
variable [Inhabited FuT]
abbrev z8:List (Nat×Hc):=[(210,ah mB Fh),(211,ah dK (la aG)),(38,ah ui Sw)]
def IN:Hd:=bA z8
abbrev fg:Lo:=⟨⟨(.any::.one (.hol (.int IntKind.i64))::.any::bh (.one (.ptr 5 0)::bh (.one (.onl 160 eE 17)::.one (.onl 5 (Ty.int IntKind.u8) 19)::.one (.hol (.int IntKind.i64))::.any::ai (ai (bQ (bh [])))))),[none,none,none,none,none,some [.hol (.int IntKind.i64),.hol (.int IntKind.i64),.hol .bool,.hol (.sl 5 (Ty.int IntKind.u8)),.hol (.sl 91 (((Ty.int IntKind.i64).prod ((Ty.int IntKind.i64).prod (Ty.bool.prod ((Ty.sl 5 (Ty.int IntKind.u8)).prod Ty.unit)))).tree 91))]]⟩,[(.ret,⟨(bQ (bh (.one (.onl 5 (Ty.int IntKind.u8) 13)::.one (.hol (.int IntKind.i64))::ai (ai (dR (bh [])))))),[]⟩),(.exit 0,⟨(.any::dR (.one (.onl 5 (Ty.int IntKind.u8) 19)::ai (ai (dR [])))),[]⟩)]⟩
def qL (d:fg.st.den):Tr (aD fg.xs):=
 .ite (decide (d.1.2.2.2.1=0)&&(decide (d.1.2.2.1.length=0)&&((decide (d.1.2.1.length=d.2.1.2.2.2.2.1.length)&&bq d.1.2.1)&&(decide (2*aI d.2.1.2.2.2.2.1+1≤aG)&&decide (8+8*aI d.2.1.2.2.2.2.1≤4294967296)))))
  (.ite (decide ((cJ d.1.1 d.1.2.1 d.2.1.2.2.2.2.1).2=0))
   (.ret (.pan (.ret ((),(((cJ d.1.1 d.1.2.1 d.2.1.2.2.2.2.1).1,()),())))))
   (.ret (.ret ((),(([],((cJ d.1.1 d.1.2.1 d.2.1.2.2.2.2.1).2,())),()))))) .no
def uw:Lp:=bv [(7,aN fg qL)]
def vm {R:Type}(h3:Int)(h4:List eE.den)(h5:List Int)(h6 h7 h8:Int)(h9:Bool)(h10:List Int)(h11:List (Nd))(next:Int→List eE.den→List Int→Int→Int→Int→Bool→List Int→List (Nd)→Option R)(out:aD fg.xs→Option R):Option R:=bif decide (h6<(↑h4.length:Int)) then bif decide (0≤h6)&&decide (h6<(↑h4.length:Int)) then bif decide (0≤h6)&&decide (h6<(↑h11.length:Int)) then bif decide (2*aP (Tre.mk (h11.getD h6.toNat (Tre.mk (0,0,false,[],()) [])).1 (h11.getD h6.toNat (Tre.mk (0,0,false,[],()) [])).2)+1≤aG)&&(dM (Tre.mk (h4.getD h6.toNat (Tre.mk ([],0,0,0,()) [])).1 (h4.getD h6.toNat (Tre.mk ([],0,0,0,()) [])).2)&&decide (8*aP (Tre.mk (h11.getD h6.toNat (Tre.mk (0,0,false,[],()) [])).1 (h11.getD h6.toNat (Tre.mk (0,0,false,[],()) [])).2)≤4294967296)) then bif (bY (Tre.mk (h4.getD h6.toNat (Tre.mk ([],0,0,0,()) [])).1 (h4.getD h6.toNat (Tre.mk ([],0,0,0,()) [])).2) h3 (Tre.mk (h11.getD h6.toNat (Tre.mk (0,0,false,[],()) [])).1 (h11.getD h6.toNat (Tre.mk (0,0,false,[],()) [])).2)).2 != 0 then out (.ret ((),(([],((bY (Tre.mk (h4.getD h6.toNat (Tre.mk ([],0,0,0,()) [])).1 (h4.getD h6.toNat (Tre.mk ([],0,0,0,()) [])).2) h3 (Tre.mk (h11.getD h6.toNat (Tre.mk (0,0,false,[],()) [])).1 (h11.getD h6.toNat (Tre.mk (0,0,false,[],()) [])).2)).2,())),()))) else bif decide (h5.length+(bY (Tre.mk (h4.getD h6.toNat (Tre.mk ([],0,0,0,()) [])).1 (h4.getD h6.toNat (Tre.mk ([],0,0,0,()) [])).2) h3 (Tre.mk (h11.getD h6.toNat (Tre.mk (0,0,false,[],()) [])).1 (h11.getD h6.toNat (Tre.mk (0,0,false,[],()) [])).2)).1.length≤4294967296) then next (h3) (h4) (h5++(bY (Tre.mk (h4.getD h6.toNat (Tre.mk ([],0,0,0,()) [])).1 (h4.getD h6.toNat (Tre.mk ([],0,0,0,()) [])).2) h3 (Tre.mk (h11.getD h6.toNat (Tre.mk (0,0,false,[],()) [])).1 (h11.getD h6.toNat (Tre.mk (0,0,false,[],()) [])).2)).1) (IntKind.i64.wrap (h6+1)) (h7) (h8) (h9) (h10) (h11) else none else none else none else none else out (.pan (.ret ((),((h5,()),()))))
def sR (n:Nat)(h3:Int)(h4:List eE.den)(h5:List Int)(h6 h7 h8:Int)(h9:Bool)(h10:List Int)(h11:List (Nd)):Option (aD fg.xs):=gd tt IN dr uw 0 Tryz.f192 (cE Tryz.f192 0) n (fg.st.mk' ((h3,(h4,(h5,(h6,())))),((h7,(h8,(h9,(h10,(h11,()))))),()))) (bL fg.xs)
theorem MT (n:Nat)(h3:Int)(h4:List eE.den)(h5:List Int)(h6 h7 h8:Int)(h9:Bool)(h10:List Int)(h11:List (Nd)):sR (n+1) h3 h4 h5 h6 h7 h8 h9 h10 h11=vm h3 h4 h5 h6 h7 h8 h9 h10 h11 (sR n) some:=by kernel_rfl
theorem L3 {fs:List Fd}{ks:List Nd}{v:Int}(hl:ks.length≤maxLen)(hfk:fs.length=ks.length)(ha:bq fs=true)(hf:2*aI ks+1≤aG)(hb:8*aI ks≤4294967296)(a b:Int)(z:Bool)(x:List Int):∀(k j:Nat) (o:List Int),ks.length<j+k→j≤ks.length→o.length+8*aI (ks.drop j)≤4294967296→
  sR k v fs o j a b z x ks=if (cJ v (fs.drop j) (ks.drop j)).2=0 then some (.pan (.ret ((),((o++(cJ v (fs.drop j) (ks.drop j)).1,()),())))) else some (.ret ((),(([],((cJ v (fs.drop j) (ks.drop j)).2,())),()))):=by
 intro k
 induction k with
 |zero=>intro j o h1 h2;omega
 |succ k ih=>
  intro j o h1 h2 h3
  rw[MT]
  unfold vm
  by_cases hj:j<ks.length
  ·have hj':j<fs.length:=by omega
   refine (aa (decide_eq_true (show (j:Int)<(fs.length:Int) by omega)) _ _).trans ?_
   refine (aa (by simp;omega) _ _).trans ?_
   refine (aa (by simp;omega) _ _).trans ?_
   have hmem:=cY (List.getElem_mem hj)
   have har:=jK ha (List.getElem_mem hj')
   have hd:ks.drop j=ks[j]::ks.drop (j+1):=List.drop_eq_getElem_cons hj
   have hd':fs.drop j=fs[j]::fs.drop (j+1):=List.drop_eq_getElem_cons hj'
   have hvl:=EC fs[j] v ks[j]
   have ih':=ih (j+1) (o++(bY fs[j] v ks[j]).1) (by omega) (by omega)
   rw[hd,aM] at h3
   rw[hd,hd',cJ]
   rw[bp hj hl]
   simp only[Int.toNat_natCast,aH hj,aH hj']
   generalize ks[j]=u at hmem hvl ih' h3 ⊢
   generalize fs[j]=f0 at har hvl ih' ⊢
   obtain ⟨ul,uk⟩:=u
   obtain ⟨fl,fk⟩:=f0
   refine (aa (show (decide (2*aP (Tre.mk ul uk)+1≤aG)&&(dM (Tre.mk fl fk)&&decide (8*aP (Tre.mk ul uk)≤4294967296)))=true by rw[har];simp;omega) _ _).trans ?_
   by_cases he:(bY (Tre.mk fl fk) v (Tre.mk ul uk)).2=0
   ·refine (ab (show ((bY (Tre.mk fl fk) v (Tre.mk ul uk)).2 != 0)=false by rw[he];rfl) _ _).trans ?_
    refine (aa (decide_eq_true (show o.length+(bY (Tre.mk fl fk) v (Tre.mk ul uk)).1.length≤4294967296 by omega)) _ _).trans ?_
    refine (ih' (by rw[List.length_append];omega)).trans ?_
    by_cases h2:(cJ v (fs.drop (j+1)) (ks.drop (j+1))).2=0
    ·simp[he,h2]
    ·simp[he,h2]
   ·refine (aa (show ((bY (Tre.mk fl fk) v (Tre.mk ul uk)).2 != 0)=true by simpa using he) _ _).trans ?_
    simp[he]
  ·refine (ab (decide_eq_false (show ¬(j:Int)<(fs.length:Int) by omega)) _ _).trans ?_
   rw[List.drop_of_length_le (by omega),List.drop_of_length_le (by omega),cJ,if_pos rfl,List.append_nil]
   simp
def zR (a0:List eE.den)(a1:Int)(a2:Nd):Option eK.Res:=bif decide (a0.length≤4294967296) then bif (↑a2.2.length:Int) != (↑(cX a0 a1).length:Int) then some (Out.ret (([],101,()),())) else (qL ((a1,(cX a0 a1,([],(0,())))),((a2.1.1,(a2.1.2.1,(a2.1.2.2.1,(a2.1.2.2.2.1,(a2.2,()))))),()))).run fun y=>match y with | .ret ((),((x24,x25,()),()))=>(some (Out.ret ((x24,x25,()),()))) | .pan (.ret ((),((x26,()),())))=>(some (Out.ret ((x26,0,()),()))) else none
theorem Rx (a0:List eE.den)(a1:Int)(a2:Nd):Io.run tt IN dr uw eK Tryz.f192 ((a0,a1,a2,()),())=zR a0 a1 a2:=by kernel_rfl
theorem QN (rvValue:HcOk prog 211 (ah dK (la aG))):HcOk prog 192 (ah eK (pS (aG+1))):=by
 refine aj (n:=400) hm (cs:=z8) (.cons yI (.cons rvValue (.cons Em .nil))) (lp:=uw) (fn:=Tryz.f192) (by kernel_rfl) (by kernel_rfl) (by kernel_rfl) eK (.step (h0:=aN fg qL) (by kernel_rfl) (aw (n:=400) hm (cs:=z8) (.cons yI (.cons rvValue (.cons Em .nil))) (lp:=uw) (fn:=Tryz.f192) (.done (by kernel_rfl)) fg qL ?_) (.done (by kernel_rfl))) (pS (aG+1)) ?_
 ·rintro ⟨⟨(v:Int),(fs:List Fd),(o:List Int),(i:Int),⟨⟩⟩,⟨⟨(a:Int),(b:Int),(z:Bool),(x:List Int),(ks:List Nd),⟨⟩⟩,⟨⟩⟩⟩ y hw hy
  obtain ⟨hg,hy⟩:=Tr.guard hy
  simp only[Bool.and_eq_true,decide_eq_true_eq] at hg
  obtain ⟨h1,h2,⟨h3,h4⟩,h5,h6⟩:=hg
  have h1:i=0:=h1
  have h2:o=[]:=List.eq_nil_of_length_eq_zero h2
  have h3:fs.length=ks.length:=h3
  have h4:bq fs=true:=h4
  have h5:2*aI ks+1≤aG:=h5
  have h6:8+8*aI ks≤4294967296:=h6
  subst h1
  subst h2
  refine ⟨ks.length+1,(L3 (by have:=hw.2.1.2.2.2.2.1.1;exact this) h3 h4 h5 (by omega) a b z x (ks.length+1) 0 [] (by omega) (by omega) (by rw[List.drop_zero];simp;omega)).trans ?_⟩
  rw[← hy,List.drop_zero,List.drop_zero]
  by_cases h:(cJ v fs ks).2=0
  ·rw[if_pos h];exact (aa (decide_eq_true h) _ _).symm
  ·rw[if_neg h];exact (ab (decide_eq_false h) _ _).symm
 ·rintro ⟨⟨(fs:List Fd),(v:Int),(n:Nd),⟨⟩⟩,⟨⟩⟩ out hw ho
  obtain ⟨hg,ho⟩:=Tr.guard ho
  simp only[Bool.and_eq_true,decide_eq_true_eq] at hg
  obtain ⟨hk,ha,hb,hl⟩:=hg
  have hk:2*aP n≤aG+1:=hk
  have ha:bq fs=true:=ha
  have hb:8*aP n≤4294967296:=hb
  have hl:fs.length≤4294967296:=hl
  cases ho
  refine (Rx fs v n).trans ?_
  unfold zR
  show _=some (Out.ret (((bC fs v n).1,((bC fs v n).2,())),()))
  obtain ⟨⟨a,b,z,x,⟨⟩⟩,ks⟩:=n
  have hwf:=cC (Tre.mk (a,(b,(z,(x,())))) ks)
  have hwf:aP (Tre.mk (a,(b,(z,(x,())))) ks)=1+x.length+aI ks:=hwf
  have hk:2*(1+x.length+aI ks)≤aG+1:=by rw[← hwf];exact hk
  have hb:8*(1+x.length+aI ks)≤4294967296:=by rw[← hwf];exact hb
  rw[bC]
  refine (aa (decide_eq_true hl) _ _).trans ?_
  by_cases h1:ks.length=(cX fs v).length
  ·rw[if_neg (by simpa using h1)]
   refine (ab (by simp[h1]) _ _).trans ?_
   have c1:(decide ((0:Int)=0)&&(decide (([]:List Int).length=0)&&((decide ((cX fs v).length=ks.length)&&bq (cX fs v))&&(decide (2*aI ks+1≤aG)&&decide (8+8*aI ks≤4294967296)))))=true:=by
    rw[Kl ha];simp;omega
   refine (aa c1 _ _).trans ?_
   by_cases h5:(cJ v (cX fs v) ks).2=0
   ·refine (aa (decide_eq_true h5) _ _).trans ?_
    rw[h5];rfl
   ·refine (ab (decide_eq_false h5) _ _).trans ?_
    rw[Nc h5];rfl
  ·rw[if_pos h1]
   exact aa (bne_iff_ne.2 (fun e=>h1 (Int.ofNat.inj e))) _ _
end
theorem YH (n:Nat):HcOk prog 211 (ah dK (la n))∧HcOk prog 192 (ah eK (pS n)):=by
 induction n with
 |zero=>
  refine ⟨HcOk.none (fn:=Tryz.f211) (by kernel_rfl) (by kernel_rfl) (by kernel_rfl) _ _ fun d out h=>?_,HcOk.none (fn:=Tryz.f192) (by kernel_rfl) (by kernel_rfl) (by kernel_rfl) _ _ fun d out h=>?_⟩
  ·cases h
  ·obtain ⟨hg,h⟩:=Tr.guard h
   simp only[Bool.and_eq_true,decide_eq_true_eq] at hg
   have:=nH d.1.2.2.1
   omega
 |succ n ih=>
  have h1:=@QO ⟨⟨n⟩⟩ (by rw[FuT.val];exact ih.1) (by rw[FuT.val];exact ih.2)
  have h2:=@QN ⟨⟨n⟩⟩ (by rw[FuT.val];exact ih.1)
  rw[FuT.val] at h1 h2
  exact ⟨h1,h2⟩
theorem VG:HcOk prog 192 (ah eK NJ):=by
 refine HcOk.lim (fun n=>(YH n).2) fun d=>⟨2*aP d.1.2.2.1,fun out h=>?_⟩
 obtain ⟨hg,h⟩:=Tr.guard h
 exact (aa (by rw[hg];simp) _ _).trans h
end
end Go.Proofs.YtomeplopmndbgaaGreat.Sym
namespace Go.Proofs.YtomeplopmndbgaaGreat.Sym
open Go
set_option linter.unusedSimpArgs false
set_option linter.unusedVariables false
noncomputable section
@[irreducible] noncomputable def ya (f:Fd):Nat:=f.wt fun _=>0
@[irreducible] noncomputable def iI (l:List Fd):Nat:=Tre.wts (fun _=>0) l
theorem G5 (f:Fd):ya f=1+iI f.kids:=by unfold ya iI;exact Tre.wt_eq _ f
theorem Ku {k:Fd}{l:List Fd}(h:k∈l):ya k≤iI l:=by unfold ya iI;exact Tre.wts_mem h
def pg (ks:List Fd):Nat→Int→Int→Bool
 |0,_,_=>true
 |k+1,v,hi=>if v≤hi then (if (cX ks v).length=0 then false else pg ks k (v+1) hi) else true
def pz (ks:List Fd)(s:List Int):Bool:=ks.all fun k=>!decide (k.lab.1=s)
def lL (ks:List Fd):Nat→List Fd→Bool
 |_,[]=>true
 |j,f::fs=>pz (ks.take j) f.lab.1&&lL ks (j+1) fs
mutual
def dH (d:Int):Fd→Bool
 |.mk a ks=>if a.1.length=0 then false else if a.2.2.1<0 then false else if 3<a.2.2.2.1 then false else if a.2.2.2.1<a.2.2.1 then false else if a.2.1<1 then false else if 10<a.2.1 then false
   else if a.2.1<9 then (if ks.length=0 then true else false) else if cx (d+1) ks=false then false else if pg ks 5 a.2.2.1 a.2.2.2.1=false then false else if a.2.1=10 then true else if ks.length=1 then true else false
termination_by f=>(SizeOf.sizeOf f,0)
def cx (d:Int)(ks:List Fd):Bool:=if ks.length<1 then false else if 16<ks.length then false else if 8<d then false else lL ks 0 ks&&cw d ks
termination_by (SizeOf.sizeOf ks,1)
def cw (d:Int):List Fd→Bool
 |[]=>true
 |k::ks=>dH d k&&cw d ks
termination_by l=>(SizeOf.sizeOf l,0)
end
abbrev gi:Io:=⟨[xl,dI],[],[],[dB],none⟩
def tG (n:Nat)(d:gi.In):Tr gi.Res:=.ite (decide (2*iI d.1.1+2≤n)&&(decide ((0:Int)≤d.1.2.1)&&decide (d.1.2.1≤1000))) (.ret (.ret ((cx d.1.2.1 d.1.1,()),()))) .no
def SM (d:gi.In):Tr gi.Res:=.ite ((decide ((0:Int)≤d.1.2.1)&&decide (d.1.2.1≤1000))) (.ret (.ret ((cx d.1.2.1 d.1.1,()),()))) .no
abbrev iR:Io:=⟨[LL,dI],[],[],[dB],none⟩
def pR (n:Nat)(d:iR.In):Tr iR.Res:=.ite (decide (2*ya d.1.1+1≤n)&&(decide ((0:Int)≤d.1.2.1)&&decide (d.1.2.1≤999))) (.ret (.ret ((dH d.1.2.1 d.1.1,()),()))) .no
section
variable [Inhabited FuT]
abbrev yr:List (Nat×Hc):=[(220,ah iR (pR aG))]
def FX:Hd:=bA yr
abbrev gz:Lo:=⟨⟨(.one (.hol (.sl 160 eE))::.one (.hol (.int IntKind.i64))::.any::bh (.one (.hol (.int IntKind.i64))::.one (.hol (.int IntKind.i64))::.any::ai (ai (dR [])))),[]⟩,[(.ret,⟨(bQ (.one (.hol .bool)::.any::ai (ai (dR (bh []))))),[]⟩),(.exit 2,⟨(.one (.hol (.sl 160 eE))::.one (.hol (.int IntKind.i64))::.any::bh (.one (.hol (.int IntKind.i64))::ai (ai (dR (bh []))))),[]⟩)]⟩
abbrev gy:Lo:=⟨⟨(.one (.hol (.sl 160 eE))::.one (.hol (.int IntKind.i64))::.any::bh (.one (.hol (.int IntKind.i64))::ai (ai (dR (bh []))))),[]⟩,[(.ret,⟨(bQ (.one (.hol .bool)::.any::ai (ai (dR (bh []))))),[]⟩),(.exit 0,⟨(ai (ai (ai []))),[]⟩)]⟩
def np (d:gz.st.den):Tr (aD gz.xs):=
 .ite (decide (d.1.2.2.2.1=0)&&(decide ((0:Int)≤d.1.2.2.1)&&decide (d.1.2.2.1<(d.1.1.length:Int))))
  (.ite (pz (d.1.1.take d.1.2.2.1.toNat) (d.1.1.getD d.1.2.2.1.toNat (Tre.mk ([],(0,(0,(0,())))) [])).lab.1) (.ret (.pan (.ret ((),((d.1.1,(d.1.2.1,(d.1.2.2.1,()))),()))))) (.ret (.ret ((),((false,()),()))))) .no
def tH (d:gy.st.den):Tr (aD gy.xs):=
 .ite (decide (d.1.2.2.1=0)&&((decide ((0:Int)≤d.1.2.1)&&decide (d.1.2.1≤999))&&(decide (2*iI d.1.1+1≤aG)&&decide (d.1.1.length≤16))))
  (.ite (lL d.1.1 0 d.1.1&&cw d.1.2.1 d.1.1) (.ret (.pan (.ret ((),((),()))))) (.ret (.ret ((),((false,()),()))))) .no
def rp:Lp:=bv [(5,aN gy tH),(8,aN gz np)]
def xS {R:Type}(h5:List eE.den)(h6 h7 h8:Int)(next:List eE.den→Int→Int→Int→Option R)(out:aD gz.xs→Option R):Option R:=bif decide (h8<h7) then bif decide (0≤h8)&&decide (h8<(↑h5.length:Int)) then bif decide (0≤h7)&&decide (h7<(↑h5.length:Int)) then bif decide ((h5.getD h8.toNat (Tre.mk ([],0,0,0,()) [])).1.1=(h5.getD h7.toNat (Tre.mk ([],0,0,0,()) [])).1.1) then out (.ret ((),((false,()),()))) else next (h5) (h6) (h7) (IntKind.i64.wrap (h8+1)) else none else none else out (.pan (.ret ((),((h5,(h6,(h7,()))),()))))
def we (n:Nat)(h5:List eE.den)(h6 h7 h8:Int):Option (aD gz.xs):=gd tt FX dr rp 0 Tryz.f216 (wP Tryz.f216 (cE Tryz.f216 0) 0) n (gz.st.mk' ((h5,(h6,(h7,(h8,())))),())) (bL gz.xs)
theorem RN (n:Nat)(h5:List eE.den)(h6 h7 h8:Int):we (n+1) h5 h6 h7 h8=xS h5 h6 h7 h8 (we n) some:=by kernel_rfl
def xR {R:Type}(h2:List eE.den)(h3 h4:Int)(next:List eE.den→Int→Int→Option R)(out:aD gy.xs→Option R):Option R:=bif decide (h4<(↑h2.length:Int)) then (np ((h2,(h3,(h4,(0,())))),())).run fun y=>match y with | .ret ((),((x17,()),()))=>(out (.ret ((),((x17,()),())))) | .pan (.ret ((),((x19,x20,x21,()),())))=>(bif decide (0≤x21)&&decide (x21<(↑x19.length:Int)) then bif decide (2*ya (Tre.mk (x19.getD x21.toNat (Tre.mk ([],0,0,0,()) [])).1 (x19.getD x21.toNat (Tre.mk ([],0,0,0,()) [])).2)+1≤aG)&&(decide (0≤x20)&&decide (x20≤999)) then bif !dH x20 (Tre.mk (x19.getD x21.toNat (Tre.mk ([],0,0,0,()) [])).1 (x19.getD x21.toNat (Tre.mk ([],0,0,0,()) [])).2) then out (.ret ((),((false,()),()))) else next (x19) (x20) (IntKind.i64.wrap (x21+1)) else none else none) else out (.pan (.ret ((),((),()))))
def wd (n:Nat)(h2:List eE.den)(h3 h4:Int):Option (aD gy.xs):=gd tt FX dr rp 0 Tryz.f216 (cE Tryz.f216 0) n (gy.st.mk' ((h2,(h3,(h4,()))),())) (bL gy.xs)
theorem RM (n:Nat)(h2:List eE.den)(h3 h4:Int):wd (n+1) h2 h3 h4=xR h2 h3 h4 (wd n) some:=by kernel_rfl
theorem I3 {fs:List Fd}(d:Int){i:Nat}(hi:i<fs.length)(hl:fs.length≤maxLen):∀(k j:Nat),i<j+k→j≤i→pz (fs.take j) (fs[i]).lab.1=true→
  we k fs d i j=if pz (fs.take i) (fs[i]).lab.1=true then some (.pan (.ret ((),((fs,(d,((i:Int),()))),())))) else some (.ret ((),((false,()),()))):=by
 intro k
 induction k with
 |zero=>intro j h1 h2;omega
 |succ k ih=>
  intro j h1 h2 h3
  rw[RN]
  unfold xS
  by_cases hj:j<i
  ·have hjl:j<fs.length:=by omega
   refine (aa (decide_eq_true (show (j:Int)<(i:Int) by omega)) _ _).trans ?_
   refine (aa (by simp;omega) _ _).trans ?_
   refine (aa (by simp;omega) _ _).trans ?_
   rw[bp hjl hl]
   simp only[Int.toNat_natCast,aH hi,aH hjl]
   by_cases he:(fs[j]).lab.1=(fs[i]).lab.1
   ·refine (aa (decide_eq_true he) _ _).trans ?_
    rw[if_neg]
    intro h
    have hm:fs[j]∈fs.take i:=by rw[List.mem_take_iff_getElem];exact ⟨j,by omega,rfl⟩
    have:=List.all_eq_true.1 h fs[j] hm
    simp[he] at this
   ·refine (ab (decide_eq_false he) _ _).trans ?_
    refine ih (j+1) (by omega) (by omega) ?_
    rw[List.take_succ_eq_append_getElem hjl]
    unfold pz at h3 ⊢
    rw[List.all_append,h3]
    simp[he]
  ·refine (ab (decide_eq_false (show ¬(j:Int)<(i:Int) by omega)) _ _).trans ?_
   have:j=i:=by omega
   rw[if_pos (this▸h3)]
theorem I2 {fs:List Fd}{d:Int}(hd:0≤d∧d≤999)(hf:2*iI fs+1≤aG)(hl:fs.length≤16):∀(k j:Nat),fs.length<j+k→j≤fs.length→
  wd k fs d j=if (lL fs j (fs.drop j)&&cw d (fs.drop j))=true then some (.pan (.ret ((),((),())))) else some (.ret ((),((false,()),()))):=by
 intro k
 induction k with
 |zero=>intro j h1 h2;omega
 |succ k ih=>
  intro j h1 h2
  rw[RM]
  unfold xR
  by_cases hj:j<fs.length
  ·refine (aa (decide_eq_true (show (j:Int)<(fs.length:Int) by omega)) _ _).trans ?_
   have hdr:fs.drop j=fs[j]::fs.drop (j+1):=List.drop_eq_getElem_cons hj
   have hmem:=Ku (List.getElem_mem hj)
   have ih':=ih (j+1) (by omega) (by omega)
   rw[hdr,lL,cw]
   have hgd:fs.getD ((j:Int)).toNat (Tre.mk (([]:List Int),((0:Int),((0:Int),((0:Int),())))) ([]:List Fd))=fs[j]:=by simp only[Int.toNat_natCast];exact aH hj
   have c8:(decide ((0:Int)=0)&&(decide ((0:Int)≤(j:Int))&&decide ((j:Int)<(fs.length:Int))))=true:=by simp;omega
   have e8:np ((fs,(d,((j:Int),((0:Int),())))),())=.ite true (.ite (pz (fs.take j) (fs[j]).lab.1) (.ret (.pan (.ret ((),((fs,(d,((j:Int),()))),()))))) (.ret (.ret ((),((false,()),()))))) .no:=by
    unfold np
    rw[← c8]
    show Tr.ite _ (Tr.ite (pz (fs.take ((j:Int)).toNat) (fs.getD ((j:Int)).toNat _).lab.1) _ _) _=_
    rw[hgd];simp only[Int.toNat_natCast]
   rw[e8]
   by_cases hn:pz (fs.take j) (fs[j]).lab.1=true
   ·rw[hn]
    show (bif decide (0≤(j:Int))&&decide ((j:Int)<(fs.length:Int)) then _ else none)=_
    refine (aa (by simp;omega) _ _).trans ?_
    rw[aC (n:=(j:Int)+1) (by omega) (by omega)]
    simp only[Int.toNat_natCast,aH hj]
    generalize fs[j]=f0 at hmem ⊢
    obtain ⟨fl,fk⟩:=f0
    refine (aa (show (decide (2*ya (Tre.mk fl fk)+1≤aG)&&(decide ((0:Int)≤d)&&decide (d≤999)))=true by simp;omega) _ _).trans ?_
    by_cases hv:dH d (Tre.mk fl fk)=true
    ·refine (ab (show (!dH d (Tre.mk fl fk))=false by rw[hv];rfl) _ _).trans ?_
     refine ih'.trans ?_
     rw[hv];simp
    ·refine (aa (show (!dH d (Tre.mk fl fk))=true by simpa using hv) _ _).trans ?_
     simp[hv]
   ·have hn:pz (fs.take j) (fs[j]).lab.1=false:=by simpa using hn
    rw[hn]
    rfl
  ·refine (ab (decide_eq_false (show ¬(j:Int)<(fs.length:Int) by omega)) _ _).trans ?_
   rw[List.drop_of_length_le (by omega),lL,cw]
   rfl
def Dt (a0:List eE.den)(a1:Int):Option gi.Res:=bif decide ((↑a0.length:Int)<1) then some (Out.ret ((false,()),())) else bif decide (16<(↑a0.length:Int)) then some (Out.ret ((false,()),())) else bif decide (8<a1) then some (Out.ret ((false,()),())) else (tH ((a0,(a1,(0,()))),())).run fun y=>match y with | .ret ((),((x26,()),()))=>(some (Out.ret ((x26,()),()))) | .pan (.ret ((),((),())))=>(some (Out.ret ((true,()),())))
theorem Ws (a0:List eE.den)(a1:Int):Io.run tt FX dr rp gi Tryz.f216 ((a0,a1,()),())=Dt a0 a1:=by kernel_rfl
theorem VF (rvField:HcOk prog 220 (ah iR (pR aG))):HcOk prog 216 (ah gi (tG (aG+1))):=by
 refine aj (n:=400) hm (cs:=yr) (.cons rvField .nil) (lp:=rp) (fn:=Tryz.f216) (by kernel_rfl) (by kernel_rfl) (by kernel_rfl) gi (.step (h0:=aN gy tH) (by kernel_rfl) (aw (n:=400) hm (cs:=yr) (.cons rvField .nil) (lp:=rp) (fn:=Tryz.f216) (.step (h0:=aN gz np) (by kernel_rfl) (aw (n:=400) hm (cs:=yr) (.cons rvField .nil) (lp:=rp) (fn:=Tryz.f216) (.done (by kernel_rfl)) gz np ?_) (.done (by kernel_rfl))) gy tH ?_) (.done (by kernel_rfl))) (tG (aG+1)) ?_
 ·rintro ⟨⟨(fs:List Fd),(d:Int),(i:Int),(j:Int),⟨⟩⟩,⟨⟩⟩ y hw hy
  obtain ⟨hg,hy⟩:=Tr.guard hy
  simp only[Bool.and_eq_true,decide_eq_true_eq] at hg
  obtain ⟨h1,h2,h3⟩:=hg
  have h1:j=0:=h1
  have h2:0≤i:=h2
  have h3:i<(fs.length:Int):=h3
  subst h1
  obtain ⟨i,rfl⟩:=cZ h2
  have hi:i<fs.length:=by omega
  refine ⟨i+1,(I3 d hi hw.1.1.1 (i+1) 0 (by omega) (by omega) (by simp[pz])).trans ?_⟩
  rw[← hy]
  have hgd:fs.getD ((i:Int)).toNat (Tre.mk (([]:List Int),((0:Int),((0:Int),((0:Int),())))) ([]:List Fd))=fs[i]:=by simp only[Int.toNat_natCast];exact aH hi
  show _=(Tr.ite (pz (fs.take ((i:Int)).toNat) (fs.getD ((i:Int)).toNat _).lab.1) _ _).val
  rw[hgd]
  simp only[Int.toNat_natCast]
  by_cases h:pz (fs.take i) (fs[i]).lab.1=true
  ·rw[if_pos h];exact (aa h _ _).symm
  ·rw[if_neg h];exact (ab (by simpa using h) _ _).symm
 ·rintro ⟨⟨(fs:List Fd),(d:Int),(i:Int),⟨⟩⟩,⟨⟩⟩ y hw hy
  obtain ⟨hg,hy⟩:=Tr.guard hy
  simp only[Bool.and_eq_true,decide_eq_true_eq] at hg
  obtain ⟨h1,⟨h2,h3⟩,h4,h5⟩:=hg
  have h1:i=0:=h1
  have h2:0≤d:=h2
  have h3:d≤999:=h3
  have h4:2*iI fs+1≤aG:=h4
  have h5:fs.length≤16:=h5
  subst h1
  refine ⟨fs.length+1,(I2 ⟨h2,h3⟩ h4 h5 (fs.length+1) 0 (by omega) (by omega)).trans ?_⟩
  rw[← hy,List.drop_zero]
  by_cases h:(lL fs 0 fs&&cw d fs)=true
  ·rw[if_pos h];exact (aa h _ _).symm
  ·rw[if_neg h];exact (ab (by simpa using h) _ _).symm
 ·rintro ⟨⟨(fs:List Fd),(d:Int),⟨⟩⟩,⟨⟩⟩ out hw ho
  obtain ⟨hg,ho⟩:=Tr.guard ho
  simp only[Bool.and_eq_true,decide_eq_true_eq] at hg
  obtain ⟨hk,hd1,hd2⟩:=hg
  have hk:2*iI fs+2≤aG+1:=hk
  have hd1:0≤d:=hd1
  have hd2:d≤1000:=hd2
  cases ho
  refine (Ws fs d).trans ?_
  unfold Dt
  show _=some (Out.ret ((cx d fs,()),()))
  rw[cx]
  by_cases h1:fs.length<1
  ·rw[if_pos h1]
   exact aa (decide_eq_true (by omega)) _ _
  rw[if_neg h1]
  refine (ab (decide_eq_false (by omega)) _ _).trans ?_
  by_cases h2:16<fs.length
  ·rw[if_pos h2]
   exact aa (decide_eq_true (by omega)) _ _
  rw[if_neg h2]
  refine (ab (decide_eq_false (by omega)) _ _).trans ?_
  by_cases h3:8<d
  ·rw[if_pos h3]
   exact aa (decide_eq_true h3) _ _
  rw[if_neg h3]
  refine (ab (decide_eq_false h3) _ _).trans ?_
  have c1:(decide ((0:Int)=0)&&((decide ((0:Int)≤d)&&decide (d≤999))&&(decide (2*iI fs+1≤aG)&&decide (fs.length≤16))))=true:=by simp;omega
  refine (aa c1 _ _).trans ?_
  by_cases h:(lL fs 0 fs&&cw d fs)=true
  ·rw[h];rfl
  ·have h:(lL fs 0 fs&&cw d fs)=false:=by simpa using h
   rw[h];rfl
end
section
variable [Inhabited FuT]
abbrev z7:List (Nat×Hc):=[(216,ah gi (tG aG)),(210,ah mB Fh)]
def IM:Hd:=bA z7
abbrev ff:Lo:=⟨⟨(bh (.one (.ptr 2 0)::bh (.one (.hol (.int IntKind.i64))::.any::ai (ai (ai (ai (bh []))))))),[none,none,some [.hol .str,.hol (.int IntKind.i64),.hol (.int IntKind.i64),.hol (.int IntKind.i64),.hol (.sl 160 eE)]]⟩,[(.ret,⟨(bQ (.one (.hol .bool)::ai (ai (ai (ai (bQ [])))))),[]⟩),(.exit 0,⟨(bh (.one (.ptr 2 0)::ai (ai (ai (ai (bQ (bh []))))))),[none,none,some [.hol .str,.hol (.int IntKind.i64),.hol (.int IntKind.i64),.hol (.int IntKind.i64),.hol (.sl 160 eE)]]⟩)]⟩
def qK (d:ff.st.den):Tr (aD ff.xs):=
 .ite (((decide ((0:Int)≤d.1.1)&&decide (d.1.1≤4))&&decide (d.2.1.2.2.2.1≤3))&&decide (d.2.1.2.2.2.2.1.length≤16))
  (.ite (pg d.2.1.2.2.2.2.1 5 d.1.1 d.2.1.2.2.2.1) (.ret (.pan (.ret ((),((),(d.2.1,())))))) (.ret (.ret ((),((false,()),()))))) .no
def uv:Lp:=bv [(9,aN ff qK)]
def vj {R:Type}(h2:Int)(h3:List Int)(h4 h5 h6:Int)(h7:List (Fd))(next:Int→List Int→Int→Int→Int→List (Fd)→Option R)(out:aD ff.xs→Option R):Option R:=bif decide (h2≤h6) then bif decide (h7.length≤4294967296) then bif (↑(cX h7 h2).length:Int) == 0 then out (.ret ((),((false,()),()))) else next (IntKind.i64.wrap (h2+1)) (h3) (h4) (h5) (h6) (h7) else none else out (.pan (.ret ((),((),((h3,(h4,(h5,(h6,(h7,()))))),())))))
def sQ (n:Nat)(h2:Int)(h3:List Int)(h4 h5 h6:Int)(h7:List (Fd)):Option (aD ff.xs):=gd tt IM dr uv 0 Tryz.f220 (cE Tryz.f220 0) n (ff.st.mk' ((h2,()),((h3,(h4,(h5,(h6,(h7,()))))),()))) (bL ff.xs)
theorem MS (n:Nat)(h2:Int)(h3:List Int)(h4 h5 h6:Int)(h7:List (Fd)):sQ (n+1) h2 h3 h4 h5 h6 h7=vj h2 h3 h4 h5 h6 h7 (sQ n) some:=by kernel_rfl
theorem L2 {ks:List Fd}(hl:ks.length≤16)(nm:List Int)(a b c:Int)(hc:c≤3):∀(k:Nat) (v:Int),0≤v→v≤4→4<v+k→
  sQ k v nm a b c ks=if pg ks k v c=true then some (.pan (.ret ((),((),((nm,(a,(b,(c,(ks,()))))),()))))) else some (.ret ((),((false,()),()))):=by
 intro k
 induction k with
 |zero=>intro v h0 h1 h2;omega
 |succ k ih=>
  intro v h0 h1 h2
  rw[MS]
  unfold vj
  rw[pg]
  by_cases hv:v≤c
  ·refine (aa (decide_eq_true hv) _ _).trans ?_
   refine (aa (decide_eq_true (by omega)) _ _).trans ?_
   rw[if_pos hv,aC (n:=v+1) (by omega) (by omega)]
   by_cases h:(cX ks v).length=0
   ·refine (aa (by simp[h]) _ _).trans ?_
    rw[if_pos h];rfl
   ·refine (ab (by simpa using h) _ _).trans ?_
    rw[if_neg h]
    exact ih (v+1) (by omega) (by omega) (by omega)
  ·refine (ab (decide_eq_false hv) _ _).trans ?_
   rw[if_neg hv];rfl
def zQ (a0:Fd)(a1:Int):Option iR.Res:=bif (↑(List.length a0.1.1):Int) == 0 then some (Out.ret ((false,()),())) else bif decide (a0.1.2.2.1<0) then some (Out.ret ((false,()),())) else bif decide (3<a0.1.2.2.2.1) then some (Out.ret ((false,()),())) else bif decide (a0.1.2.2.2.1<a0.1.2.2.1) then some (Out.ret ((false,()),())) else bif decide (a0.1.2.1<1) then some (Out.ret ((false,()),())) else bif decide (10<a0.1.2.1) then some (Out.ret ((false,()),())) else bif decide (a0.1.2.1<9) then some (Out.ret (((↑a0.2.length:Int) == 0,()),())) else bif decide (2*iI a0.2+2≤aG)&&(decide (0≤IntKind.i64.wrap (a1+1))&&decide (IntKind.i64.wrap (a1+1)≤1000)) then bif !cx (IntKind.i64.wrap (a1+1)) a0.2 then some (Out.ret ((false,()),())) else (qK ((a0.1.2.2.1,()),((a0.1.1,(a0.1.2.1,(a0.1.2.2.1,(a0.1.2.2.2.1,(a0.2,()))))),()))).run fun y=>match y with | .ret ((),((x20,()),()))=>(some (Out.ret ((x20,()),()))) | .pan (.ret ((),((),(x21,x22,x23,x24,x25,()),())))=>(bif x22 == 10 then some (Out.ret ((true,()),())) else some (Out.ret (((↑x25.length:Int) == 1,()),()))) else none
theorem Rw (a0:Fd)(a1:Int):Io.run tt IM dr uv iR Tryz.f220 ((a0,a1,()),())=zQ a0 a1:=by kernel_rfl
theorem QM (rvList:HcOk prog 216 (ah gi (tG aG))):HcOk prog 220 (ah iR (pR (aG+1))):=by
 refine aj (n:=400) hm (cs:=z7) (.cons rvList (.cons yI .nil)) (lp:=uv) (fn:=Tryz.f220) (by kernel_rfl) (by kernel_rfl) (by kernel_rfl) iR (.step (h0:=aN ff qK) (by kernel_rfl) (aw (n:=400) hm (cs:=z7) (.cons rvList (.cons yI .nil)) (lp:=uv) (fn:=Tryz.f220) (.done (by kernel_rfl)) ff qK ?_) (.done (by kernel_rfl))) (pR (aG+1)) ?_
 ·rintro ⟨⟨(v:Int),⟨⟩⟩,⟨⟨(nm:List Int),(a:Int),(b:Int),(c:Int),(ks:List Fd),⟨⟩⟩,⟨⟩⟩⟩ y hw hy
  obtain ⟨hg,hy⟩:=Tr.guard hy
  simp only[Bool.and_eq_true,decide_eq_true_eq] at hg
  obtain ⟨⟨⟨h1,h4⟩,h2⟩,h3⟩:=hg
  have h1:0≤v:=h1
  have h4:v≤4:=h4
  have h2:c≤3:=h2
  have h3:ks.length≤16:=h3
  refine ⟨5,(L2 h3 nm a b c h2 5 v h1 h4 (by omega)).trans ?_⟩
  rw[← hy]
  by_cases h:pg ks 5 v c=true
  ·rw[if_pos h];exact (aa h _ _).symm
  ·rw[if_neg h];exact (ab (by simpa using h) _ _).symm
 ·rintro ⟨⟨(f:Fd),(d:Int),⟨⟩⟩,⟨⟩⟩ out hw ho
  obtain ⟨hg,ho⟩:=Tr.guard ho
  simp only[Bool.and_eq_true,decide_eq_true_eq] at hg
  obtain ⟨hk,hd1,hd2⟩:=hg
  have hk:2*ya f+1≤aG+1:=hk
  have hd1:0≤d:=hd1
  have hd2:d≤999:=hd2
  cases ho
  refine (Rw f d).trans ?_
  unfold zQ
  show _=some (Out.ret ((dH d f,()),()))
  obtain ⟨⟨(nm:List Int),(k':Int),(lo:Int),(hi:Int),⟨⟩⟩,(ks:List Fd)⟩:=f
  have hwf:=G5 (Tre.mk (nm,(k',(lo,(hi,())))) ks)
  have hwf:ya (Tre.mk (nm,(k',(lo,(hi,())))) ks)=1+iI ks:=hwf
  have hk:2*(1+iI ks)+1≤aG+1:=by rw[← hwf];exact hk
  rw[dH,aC (n:=d+1) (by omega) (by omega)]
  simp only
  by_cases h1:List.length nm=0
  ·rw[if_pos h1]
   exact aa (by simp[h1]) _ _
  rw[if_neg h1]
  refine (ab (by simpa using h1) _ _).trans ?_
  by_cases h2:lo<(0:Int)
  ·rw[if_pos h2]
   exact aa (decide_eq_true h2) _ _
  rw[if_neg h2]
  refine (ab (decide_eq_false h2) _ _).trans ?_
  by_cases h3:(3:Int)<hi
  ·rw[if_pos h3]
   exact aa (decide_eq_true h3) _ _
  rw[if_neg h3]
  refine (ab (decide_eq_false h3) _ _).trans ?_
  by_cases h4:(hi:Int)<lo
  ·rw[if_pos h4]
   exact aa (decide_eq_true h4) _ _
  rw[if_neg h4]
  refine (ab (decide_eq_false h4) _ _).trans ?_
  by_cases h5:k'<(1:Int)
  ·rw[if_pos h5]
   exact aa (decide_eq_true h5) _ _
  rw[if_neg h5]
  refine (ab (decide_eq_false h5) _ _).trans ?_
  by_cases h6:(10:Int)<k'
  ·rw[if_pos h6]
   exact aa (decide_eq_true h6) _ _
  rw[if_neg h6]
  refine (ab (decide_eq_false h6) _ _).trans ?_
  by_cases h7:k'<(9:Int)
  ·rw[if_pos h7]
   refine (aa (decide_eq_true h7) _ _).trans ?_
   by_cases h8:ks.length=0
   ·rw[if_pos h8,h8];rfl
   ·rw[if_neg h8]
    exact congrArg (fun b:Bool=>some (Out.ret ((b,()),()))) (by simpa using h8)
  rw[if_neg h7]
  refine (ab (decide_eq_false h7) _ _).trans ?_
  refine (aa (show (decide (2*iI ks+2≤aG)&&(decide ((0:Int)≤d+1)&&decide (d+1≤1000)))=true by simp;omega) _ _).trans ?_
  by_cases h8:cx (d+1) ks=false
  ·rw[if_pos h8]
   exact aa (by rw[h8];rfl) _ _
  rw[if_neg h8]
  refine (ab (by simpa using h8) _ _).trans ?_
  have h8:cx (d+1) ks=true:=by simpa using h8
  have hl:ks.length≤16:=by
   rw[cx] at h8
   split at h8
   ·cases h8
   ·split at h8
    ·cases h8
    ·omega
  have c1:(((decide ((0:Int)≤lo)&&decide (lo≤4))&&decide (hi≤(3:Int)))&&decide (ks.length≤16))=true:=by simp[hl];omega
  refine (aa c1 _ _).trans ?_
  by_cases h9:pg ks 5 lo hi=true
  ·refine (aa h9 _ _).trans ?_
   rw[if_neg (by rw[h9];decide)]
   show (bif k' == 10 then _ else _)=_
   by_cases h10:k'=10
   ·rw[if_pos h10]
    exact aa (by simpa using h10) _ _
   ·rw[if_neg h10]
    refine (ab (by simpa using h10) _ _).trans ?_
    by_cases h11:ks.length=1
    ·rw[if_pos h11]
     exact congrArg (fun b:Bool=>some (Out.ret ((b,()),()))) (show ((ks.length:Int) == 1)=true by rw[h11];rfl)
    ·rw[if_neg h11]
     exact congrArg (fun b:Bool=>some (Out.ret ((b,()),()))) (show ((ks.length:Int) == 1)=false by simp;omega)
  ·have h9:pg ks 5 lo hi=false:=by simpa using h9
   refine (ab h9 _ _).trans ?_
   rw[if_pos h9]
   rfl
end
theorem VE (n:Nat):HcOk prog 216 (ah gi (tG n))∧HcOk prog 220 (ah iR (pR n)):=by
 induction n with
 |zero=>
  refine ⟨HcOk.none (fn:=Tryz.f216) (by kernel_rfl) (by kernel_rfl) (by kernel_rfl) _ _ fun d out h=>?_,HcOk.none (fn:=Tryz.f220) (by kernel_rfl) (by kernel_rfl) (by kernel_rfl) _ _ fun d out h=>?_⟩
  ·cases h
  ·cases h
 |succ n ih=>
  have h1:=@VF ⟨⟨n⟩⟩ (by rw[FuT.val];exact ih.2)
  have h2:=@QM ⟨⟨n⟩⟩ (by rw[FuT.val];exact ih.1)
  rw[FuT.val] at h1 h2
  exact ⟨h1,h2⟩
theorem YK:HcOk prog 216 (ah gi SM):=by
 refine HcOk.lim (fun n=>(VE n).1) fun d=>⟨2*iI d.1.1+2,fun out h=>?_⟩
 obtain ⟨hg,h⟩:=Tr.guard h
 exact (aa (by rw[hg];simp) _ _).trans h
abbrev lF:Io:=⟨[xl],[],[],[dI],none⟩
def nF (l:List Fd):Int:=if cx 1 l=true then 0 else 100
def Fo (d:lF.In):Tr lF.Res:=.ret (.ret ((nF d.1.1,()),()))
abbrev IB:List (Nat×Hc):=[(216,ah gi SM)]
def Ur:Hd:=bA IB
def JA:Lp:=bv []
def zP (a0:List eE.den):Option lF.Res:=bif !cx 1 a0 then some (Out.ret ((100,()),())) else some (Out.ret ((0,()),()))
theorem Ru (a0:List eE.den):Io.run tt Ur dr JA lF Tryz.f209 ((a0,()),())=zP a0:=by kernel_rfl
theorem VD:HcOk prog 209 (ah lF Fo):=by
 refine aj (n:=400) hm (cs:=IB) (.cons YK .nil) (lp:=JA) (fn:=Tryz.f209) (by kernel_rfl) (by kernel_rfl) (by kernel_rfl) lF (.done (by kernel_rfl)) Fo ?_
 rintro ⟨⟨(fs:List Fd),⟨⟩⟩,⟨⟩⟩ out hw ho
 cases ho
 refine (Ru fs).trans ?_
 unfold zP
 show _=some (Out.ret ((nF fs,()),()))
 unfold nF
 by_cases h:cx 1 fs=true
 ·rw[if_pos h]
  exact ab (by rw[h];rfl) _ _
 ·rw[if_neg h]
  exact aa (by simpa using h) _ _
abbrev lE:Io:=⟨[xl,dI],[],[],[dI],none⟩
def py (l:List Fd)(v:Int):Int:=if v<0∨3<v then 8 else nF l
def Fm (d:lE.In):Tr lE.Res:=.ret (.ret ((py d.1.1 d.1.2.1,()),()))
abbrev IA:List (Nat×Hc):=[(209,ah lF Fo)]
def Uq:Hd:=bA IA
def Jz:Lp:=bv []
def zO (a0:List eE.den)(a1:Int):Option lE.Res:=bif decide (a1<0) then some (Out.ret ((8,()),())) else bif decide (3<a1) then some (Out.ret ((8,()),())) else some (Out.ret ((nF a0,()),()))
theorem Rr (a0:List eE.den)(a1:Int):Io.run tt Uq dr Jz lE Tryz.f190 ((a0,a1,()),())=zO a0 a1:=by kernel_rfl
theorem VC:HcOk prog 190 (ah lE Fm):=by
 refine aj (n:=400) hm (cs:=IA) (.cons VD .nil) (lp:=Jz) (fn:=Tryz.f190) (by kernel_rfl) (by kernel_rfl) (by kernel_rfl) lE (.done (by kernel_rfl)) Fm ?_
 rintro ⟨⟨(fs:List Fd),(v:Int),⟨⟩⟩,⟨⟩⟩ out hw ho
 cases ho
 refine (Rr fs v).trans ?_
 unfold zO
 show _=some (Out.ret ((py fs v,()),()))
 unfold py
 by_cases h:v<0
 ·rw[if_pos (.inl h)]
  exact aa (decide_eq_true h) _ _
 ·refine (ab (decide_eq_false h) _ _).trans ?_
  by_cases h2:3<v
  ·rw[if_pos (.inr h2)]
   exact aa (decide_eq_true h2) _ _
  ·rw[if_neg (by omega)]
   exact ab (decide_eq_false h2) _ _
theorem Kk (k:Fd)(ks:List Fd):bq (k::ks)=(dM k&&bq ks):=by unfold bq dM;rfl
theorem Kr:∀(N:Nat),(∀(d:Int) (f:Fd),ya f≤N→dH d f=true→dM f=true)∧(∀(d:Int) (ks:List Fd),iI ks<N→cx d ks=true→bq ks=true∧1≤ks.length∧ks.length≤16):=by
 intro N
 induction N with
 |zero=>exact ⟨fun d f h=>by have:=G5 f;omega,fun d ks h=>by omega⟩
 |succ N ih=>
  have hl:∀(d:Int) (ks:List Fd),iI ks<N+1→cx d ks=true→bq ks=true∧1≤ks.length∧ks.length≤16:=by
   intro d ks hN h
   rw[cx] at h
   split at h
   ·cases h
   split at h
   ·cases h
   split at h
   ·cases h
   refine ⟨?_,by omega,by omega⟩
   simp only[Bool.and_eq_true] at h
   have key:∀l:List Fd,(∀k∈l,ya k≤N)→cw d l=true→bq l=true:=by
    intro l
    induction l with
    |nil=>intro _ _;unfold bq;rfl
    |cons k l ihl=>
     intro h1 h2
     rw[cw] at h2
     simp only[Bool.and_eq_true] at h2
     rw[Kk,ih.1 d k (h1 k (by simp)) h2.1,ihl (fun k hk=>h1 k (List.mem_cons_of_mem _ hk)) h2.2];rfl
   exact key ks (fun k hk=>by have:=Ku hk;omega) h.2
  refine ⟨?_,hl⟩
  rintro d ⟨⟨(nm:List Int),(k':Int),(lo:Int),(hi:Int),⟨⟩⟩,(ks:List Fd)⟩ hN h
  rw[Bv]
  have hwf:=G5 (Tre.mk (nm,(k',(lo,(hi,())))) ks)
  have hwf:ya (Tre.mk (nm,(k',(lo,(hi,())))) ks)=1+iI ks:=hwf
  have hN:1+iI ks≤N+1:=by rw[← hwf];exact hN
  show ((((decide (k'≠9) || decide (ks.length≠0))&&decide (ks.length≤16))&&bq ks))=true
  rw[dH] at h
  by_cases c0:List.length nm=0
  ·rw[if_pos c0] at h;cases h
  rw[if_neg c0] at h
  by_cases c1:lo<0
  ·rw[if_pos c1] at h;cases h
  rw[if_neg c1] at h
  by_cases c2:3<hi
  ·rw[if_pos c2] at h;cases h
  rw[if_neg c2] at h
  by_cases c3:hi<lo
  ·rw[if_pos c3] at h;cases h
  rw[if_neg c3] at h
  by_cases c4:k'<1
  ·rw[if_pos c4] at h;cases h
  rw[if_neg c4] at h
  by_cases c5:10<k'
  ·rw[if_pos c5] at h;cases h
  rw[if_neg c5] at h
  by_cases hk9:k'<9
  ·rw[if_pos hk9] at h
   by_cases h0:ks.length=0
   ·have:ks=[]:=List.eq_nil_of_length_eq_zero h0
    subst this
    have e:decide (k'≠9)=true:=decide_eq_true (by omega)
    have:bq []=true:=by unfold bq;rfl
    rw[e,this];rfl
   ·rw[if_neg h0] at h;cases h
  rw[if_neg hk9] at h
  by_cases hlk:cx (d+1) ks=false
  ·rw[if_pos hlk] at h;cases h
  obtain ⟨h1,h2,h3⟩:=hl (d+1) ks (by omega) (by simpa using hlk)
  have e:decide (ks.length≠0)=true:=decide_eq_true (by omega)
  have e2:decide (ks.length≤16)=true:=decide_eq_true h3
  rw[h1,e,e2,Bool.or_true];rfl
theorem RR {l:List Fd}{v:Int}(h:py l v=0):bq l=true∧l.length≤16:=by
 unfold py at h
 split at h
 ·omega
 ·unfold nF at h
  split at h
  ·rename_i hl
   have:=(Kr (iI l+1)).2 1 l (by omega) hl
   exact ⟨this.1,this.2.2⟩
  ·omega
abbrev jC:Io:=⟨[xl,dI,cQ],[],[],[dL,dI],none⟩
def rX (l:List Fd)(v:Int)(n:Nd):List Int×Int:=if py l v≠0 then ([],py l v) else if fS 10 n=false then ([],101) else if (bC l v n).2≠0 then ([],(bC l v n).2) else if 130048<(bC l v n).1.length then ([],4) else ((bC l v n).1,0)
def zg (d:jC.In):Tr jC.Res:=.ite (decide (8*aP d.1.2.2.1≤4294967296)) (.ret (.ret (((rX d.1.1 d.1.2.1 d.1.2.2.1).1,((rX d.1.1 d.1.2.1 d.1.2.2.1).2,())),()))) .no
abbrev DM:List (Nat×Hc):=[(190,ah lE Fm),(191,ah iQ yk),(192,ah eK NJ)]
def Qd:Hd:=bA DM
def Ef:Lp:=bv []
def xd (a0:List eE.den)(a1:Int)(a2:Nd):Option jC.Res:=bif py a0 a1 != 0 then some (Out.ret (([],py a0 a1,()),())) else bif !fS 10 (Tre.mk a2.1 a2.2) then some (Out.ret (([],101,()),())) else bif bq a0&&(decide (8*aP (Tre.mk a2.1 a2.2)≤4294967296)&&decide (a0.length≤4294967296)) then bif (bC a0 a1 (Tre.mk a2.1 a2.2)).2 != 0 then some (Out.ret (([],(bC a0 a1 (Tre.mk a2.1 a2.2)).2,()),())) else bif decide (130048<(↑(bC a0 a1 (Tre.mk a2.1 a2.2)).1.length:Int)) then some (Out.ret (([],4,()),())) else some (Out.ret (((bC a0 a1 (Tre.mk a2.1 a2.2)).1,0,()),())) else none
theorem MF (a0:List eE.den)(a1:Int)(a2:Nd):Io.run tt Qd dr Ef jC Tryz.f91 ((a0,a1,a2,()),())=xd a0 a1 a2:=by kernel_rfl
theorem QL:HcOk prog 91 (ah jC zg):=by
 refine aj (n:=400) hm (cs:=DM) (.cons VC (.cons A8 (.cons VG .nil))) (lp:=Ef) (fn:=Tryz.f91) (by kernel_rfl) (by kernel_rfl) (by kernel_rfl) jC (.done (by kernel_rfl)) zg ?_
 rintro ⟨⟨(fs:List Fd),(v:Int),(n:Nd),⟨⟩⟩,⟨⟩⟩ out hw ho
 obtain ⟨hg,ho⟩:=Tr.guard ho
 have hb:8*aP n≤4294967296:=of_decide_eq_true hg
 cases ho
 refine (MF fs v n).trans ?_
 unfold xd
 show _=some (Out.ret (((rX fs v n).1,((rX fs v n).2,())),()))
 unfold rX
 by_cases h1:py fs v=0
 ·rw[if_neg (by simpa using h1)]
  refine (ab (by rw[h1];rfl) _ _).trans ?_
  obtain ⟨ha,hl⟩:=RR h1
  obtain ⟨nl,nk⟩:=n
  by_cases h2:fS 10 (Tre.mk nl nk)=false
  ·rw[if_pos h2]
   exact aa (show (!fS 10 (Tre.mk nl nk))=true by rw[h2];rfl) _ _
  rw[if_neg h2]
  refine (ab (show (!fS 10 (Tre.mk nl nk))=false by simpa using h2) _ _).trans ?_
  refine (aa (show (bq fs&&(decide (8*aP (Tre.mk nl nk)≤4294967296)&&decide (fs.length≤4294967296)))=true by rw[ha];simp;omega) _ _).trans ?_
  by_cases h3:(bC fs v (Tre.mk nl nk)).2=0
  ·rw[if_neg (by simpa using h3)]
   refine (ab (show ((bC fs v (Tre.mk nl nk)).2 != 0)=false by rw[h3];rfl) _ _).trans ?_
   by_cases h4:130048<(bC fs v (Tre.mk nl nk)).1.length
   ·rw[if_pos h4]
    exact aa (decide_eq_true (show (130048:Int)<((bC fs v (Tre.mk nl nk)).1.length:Int) by omega)) _ _
   ·rw[if_neg h4]
    exact ab (decide_eq_false (show ¬(130048:Int)<((bC fs v (Tre.mk nl nk)).1.length:Int) by omega)) _ _
  ·rw[if_pos h3]
   exact aa (by simpa using h3) _ _
 ·rw[if_pos h1]
  exact aa (by simpa using h1) _ _
end
end Go.Proofs.YtomeplopmndbgaaGreat.Sym
namespace Go.Proofs.YtomeplopmndbgaaGreat.Sym
open Go
set_option linter.unusedSimpArgs false
set_option linter.unusedVariables false
noncomputable section
mutual
def ba (f:Fd)(v:Int):Nd→Nd×Bool
 |.mk a ks=>if f.lab.2.1=9 then (.mk (9,(0,(false,(([]:List Int),())))) (bX (f.kids.headD f) v ks).1,(bX (f.kids.headD f) v ks).2)
  else if f.lab.2.1=10 then (.mk (10,(0,(false,(([]:List Int),())))) (bF v f.kids ks).1,(bF v f.kids ks).2) else (.mk a ks,true)
termination_by n=>(SizeOf.sizeOf n,0)
def bX (f:Fd)(v:Int):List Nd→List Nd×Bool
 |[]=>([],true)
 |k::ks=>((ba f v k).1::(bX f v ks).1,(ba f v k).2&&(bX f v ks).2)
termination_by l=>(SizeOf.sizeOf l,0)
def bF (v:Int):List Fd→List Nd→List Nd×Bool
 |f::fs,k::ks=>if gM f v=true then ((ba f v k).1::(bF v fs ks).1,(ba f v k).2&&(bF v fs ks).2) else ((bF v fs ks).1,bW k&&(bF v fs ks).2)
 |_,_=>([],true)
termination_by fs l=>(SizeOf.sizeOf l,0)
end
mutual
def WR (f:Fd)(v:Int):Nd→Nd
 |.mk a ks=>if f.lab.2.1=9 then .mk (9,(0,(false,(([]:List Int),())))) (BF (f.kids.headD f) v ks)
  else if f.lab.2.1=10 then .mk (10,(0,(false,(([]:List Int),())))) (BG v f.kids ks) else .mk a ks
termination_by n=>(SizeOf.sizeOf n,0,0)
def BF (f:Fd)(v:Int):List Nd→List Nd
 |[]=>[]
 |k::ks=>WR f v k::BF f v ks
termination_by l=>(SizeOf.sizeOf l,0,0)
def BG (v:Int):List Fd→List Nd→List Nd
 |[],_=>[]
 |f::fs,[]=>.mk (f.lab.2.1,(0,(false,(([]:List Int),())))) []::BG v fs []
 |f::fs,k::ks=>if gM f v=true then WR f v k::BG v fs ks else .mk (f.lab.2.1,(0,(false,(([]:List Int),())))) []::BG v fs (k::ks)
termination_by fs l=>(SizeOf.sizeOf l,0,fs.length)
end
abbrev jB:Io:=⟨[LL,dI,cQ],[],[],[cQ,dB],none⟩
def zf (n:Nat)(d:jB.In):Tr jB.Res:=.ite (decide (aP d.1.2.2.1<n)&&(dM d.1.1&&decide (aP d.1.2.2.1≤4294967296))) (.ret (.ret (((ba d.1.1 d.1.2.1 d.1.2.2.1).1,((ba d.1.1 d.1.2.1 d.1.2.2.1).2,())),()))) .no
def ZU (d:jB.In):Tr jB.Res:=.ite (dM d.1.1&&decide (aP d.1.2.2.1≤4294967296)) (.ret (.ret (((ba d.1.1 d.1.2.1 d.1.2.2.1).1,((ba d.1.1 d.1.2.1 d.1.2.2.1).2,())),()))) .no
section
variable [Inhabited FuT]
abbrev FH:List (Nat×Hc):=[(90,ah jB (zf aG)),(189,ah ka yi),(88,ah mC Fk)]
def LR:Hd:=bA FH
abbrev iZ:Lo:=⟨⟨(.any::.one (.hol (.int IntKind.i64))::.any::.one (.ptr 3 0)::.any::.one (.ptr 5 0)::.one (.ptr 6 0)::.any::.one (.onl 91 (((Ty.int IntKind.i64).prod ((Ty.int IntKind.i64).prod (Ty.bool.prod ((Ty.sl 5 (Ty.int IntKind.u8)).prod Ty.unit)))).tree 91) 17)::.one (.hol .bool)::.one (.hol (.int IntKind.i64))::.any::ai (ai (ai (ai (ai (ai (bQ []))))))),[none,none,none,some [.hol .str,.hol (.int IntKind.i64),.hol (.int IntKind.i64),.hol (.int IntKind.i64),.hol (.sl 160 eE)],none,some [.hol (.int IntKind.i64),.hol (.int IntKind.i64),.hol .bool,.hol (.sl 5 (Ty.int IntKind.u8)),.hol (.sl 91 (((Ty.int IntKind.i64).prod ((Ty.int IntKind.i64).prod (Ty.bool.prod ((Ty.sl 5 (Ty.int IntKind.u8)).prod Ty.unit)))).tree 91))],some [.hol (.int IntKind.i64),.hol (.int IntKind.i64),.hol .bool,.onl 5 (Ty.int IntKind.u8) 3080,.onl 91 (((Ty.int IntKind.i64).prod ((Ty.int IntKind.i64).prod (Ty.bool.prod ((Ty.sl 5 (Ty.int IntKind.u8)).prod Ty.unit)))).tree 91) 3082]]⟩,[(.exit 0,⟨(bQ (bh (.one (.ptr 6 0)::.any::.one (.onl 91 (((Ty.int IntKind.i64).prod ((Ty.int IntKind.i64).prod (Ty.bool.prod ((Ty.sl 5 (Ty.int IntKind.u8)).prod Ty.unit)))).tree 91) 17)::.one (.hol .bool)::ai (ai (ai (ai (ai (ai (bQ (bh [])))))))))),[none,none,none,none,none,none,some [.hol (.int IntKind.i64),.hol (.int IntKind.i64),.hol .bool,.onl 5 (Ty.int IntKind.u8) 3080,.onl 91 (((Ty.int IntKind.i64).prod ((Ty.int IntKind.i64).prod (Ty.bool.prod ((Ty.sl 5 (Ty.int IntKind.u8)).prod Ty.unit)))).tree 91) 3082]]⟩)]⟩
abbrev gv:Lo:=⟨⟨(.any::.one (.hol (.int IntKind.i64))::.any::.one (.ptr 3 0)::.any::.one (.ptr 5 0)::.one (.ptr 6 0)::.any::.one (.onl 91 (((Ty.int IntKind.i64).prod ((Ty.int IntKind.i64).prod (Ty.bool.prod ((Ty.sl 5 (Ty.int IntKind.u8)).prod Ty.unit)))).tree 91) 17)::.one (.hol .bool)::.any::bh (.one (.hol (.int IntKind.i64))::ai (ai (ai (ai (ai (ai (bh [])))))))),[none,none,none,some [.hol .str,.hol (.int IntKind.i64),.hol (.int IntKind.i64),.hol (.int IntKind.i64),.hol (.sl 160 eE)],none,some [.hol (.int IntKind.i64),.hol (.int IntKind.i64),.hol .bool,.hol (.sl 5 (Ty.int IntKind.u8)),.hol (.sl 91 (((Ty.int IntKind.i64).prod ((Ty.int IntKind.i64).prod (Ty.bool.prod ((Ty.sl 5 (Ty.int IntKind.u8)).prod Ty.unit)))).tree 91))],some [.hol (.int IntKind.i64),.hol (.int IntKind.i64),.hol .bool,.onl 5 (Ty.int IntKind.u8) 3080,.onl 91 (((Ty.int IntKind.i64).prod ((Ty.int IntKind.i64).prod (Ty.bool.prod ((Ty.sl 5 (Ty.int IntKind.u8)).prod Ty.unit)))).tree 91) 3082]]⟩,[(.exit 2,⟨(bQ (bh (.one (.ptr 6 0)::.any::.one (.onl 91 (((Ty.int IntKind.i64).prod ((Ty.int IntKind.i64).prod (Ty.bool.prod ((Ty.sl 5 (Ty.int IntKind.u8)).prod Ty.unit)))).tree 91) 17)::.one (.hol .bool)::ai (ai (ai (ai (ai (ai (bQ (bh [])))))))))),[none,none,none,none,none,none,some [.hol (.int IntKind.i64),.hol (.int IntKind.i64),.hol .bool,.onl 5 (Ty.int IntKind.u8) 3080,.onl 91 (((Ty.int IntKind.i64).prod ((Ty.int IntKind.i64).prod (Ty.bool.prod ((Ty.sl 5 (Ty.int IntKind.u8)).prod Ty.unit)))).tree 91) 3082]]⟩)]⟩
def yl (d:iZ.st.den):Tr (aD iZ.xs):=
 .ite (decide (d.1.2.2.2.1=0)&&((decide (d.1.2.1.length=0)&&d.1.2.2.1)&&((decide (d.2.1.2.2.2.2.1.length≠0)&&bq d.2.1.2.2.2.2.1)&&(decide (aI d.2.2.1.2.2.2.2.1<aG)&&decide (aI d.2.2.1.2.2.2.2.1≤4294967296)))))
  (.ret (.ret ((),(((bX (d.2.1.2.2.2.2.1.headD (.mk ([],(0,(0,(0,())))) [])) d.1.1 d.2.2.1.2.2.2.2.1).1,((bX (d.2.1.2.2.2.2.1.headD (.mk ([],(0,(0,(0,())))) [])) d.1.1 d.2.2.1.2.2.2.2.1).2,())),(d.2.2.2.1,()))))) .no
def tF (d:gv.st.den):Tr (aD gv.xs):=
 .ite (decide (d.1.2.2.2.1=0)&&((decide (d.1.2.1.length=0)&&d.1.2.2.1)&&(bq d.2.1.2.2.2.2.1&&(decide (aI d.2.2.1.2.2.2.2.1<aG)&&decide (aI d.2.2.1.2.2.2.2.1≤4294967296)))))
  (.ret (.ret ((),(((bF d.1.1 d.2.1.2.2.2.2.1 d.2.2.1.2.2.2.2.1).1,((bF d.1.1 d.2.1.2.2.2.2.1 d.2.2.1.2.2.2.2.1).2,())),(d.2.2.2.1,()))))) .no
def wj:Lp:=bv [(6,aN iZ yl),(15,aN gv tF)]
def Cd {R:Type}(h3:Int)(h4:List (((Ty.int IntKind.i64).prod ((Ty.int IntKind.i64).prod (Ty.bool.prod ((Ty.sl 5 (Ty.int IntKind.u8)).prod Ty.unit)))).tree 91).den)(h5:Bool)(h6:Int)(h7:List Int)(h8 h9 h10:Int)(h11:List (Fd))(h12 h13:Int)(h14:Bool)(h15:List Int)(h16:List (Nd))(h17 h18:Int)(h19:Bool)(h20:List Int)(h21:List (((Ty.int IntKind.i64).prod ((Ty.int IntKind.i64).prod (Ty.bool.prod ((Ty.sl 5 (Ty.int IntKind.u8)).prod Ty.unit)))).tree 91).den)(next:Int→List (((Ty.int IntKind.i64).prod ((Ty.int IntKind.i64).prod (Ty.bool.prod ((Ty.sl 5 (Ty.int IntKind.u8)).prod Ty.unit)))).tree 91).den→Bool→Int→List Int→Int→Int→Int→List (Fd)→Int→Int→Bool→List Int→List (Nd)→Int→Int→Bool→List Int→List (((Ty.int IntKind.i64).prod ((Ty.int IntKind.i64).prod (Ty.bool.prod ((Ty.sl 5 (Ty.int IntKind.u8)).prod Ty.unit)))).tree 91).den→Option R)(out:aD iZ.xs→Option R):Option R:=bif decide (h6<(↑h16.length:Int)) then bif decide (0≤0)&&decide (0<(↑h11.length:Int)) then bif decide (0≤h6)&&decide (h6<(↑h16.length:Int)) then bif decide (aP (Tre.mk (h16.getD h6.toNat (Tre.mk (0,0,false,[],()) [])).1 (h16.getD h6.toNat (Tre.mk (0,0,false,[],()) [])).2)<aG)&&(dM (Tre.mk (h11.getD (Int.toNat 0) (Tre.mk ([],0,0,0,()) [])).1 (h11.getD (Int.toNat 0) (Tre.mk ([],0,0,0,()) [])).2)&&decide (aP (Tre.mk (h16.getD h6.toNat (Tre.mk (0,0,false,[],()) [])).1 (h16.getD h6.toNat (Tre.mk (0,0,false,[],()) [])).2)≤4294967296)) then bif decide (h4.length+1≤4294967296) then bif h5 then next (h3) (h4++[Tre.mk (ba (Tre.mk (h11.getD (Int.toNat 0) (Tre.mk ([],0,0,0,()) [])).1 (h11.getD (Int.toNat 0) (Tre.mk ([],0,0,0,()) [])).2) h3 (Tre.mk (h16.getD h6.toNat (Tre.mk (0,0,false,[],()) [])).1 (h16.getD h6.toNat (Tre.mk (0,0,false,[],()) [])).2)).1.1 (ba (Tre.mk (h11.getD (Int.toNat 0) (Tre.mk ([],0,0,0,()) [])).1 (h11.getD (Int.toNat 0) (Tre.mk ([],0,0,0,()) [])).2) h3 (Tre.mk (h16.getD h6.toNat (Tre.mk (0,0,false,[],()) [])).1 (h16.getD h6.toNat (Tre.mk (0,0,false,[],()) [])).2)).1.2]) ((ba (Tre.mk (h11.getD (Int.toNat 0) (Tre.mk ([],0,0,0,()) [])).1 (h11.getD (Int.toNat 0) (Tre.mk ([],0,0,0,()) [])).2) h3 (Tre.mk (h16.getD h6.toNat (Tre.mk (0,0,false,[],()) [])).1 (h16.getD h6.toNat (Tre.mk (0,0,false,[],()) [])).2)).2) (IntKind.i64.wrap (h6+1)) (h7) (h8) (h9) (h10) (h11) (h12) (h13) (h14) (h15) (h16) (h17) (h18) (h19) (h20) (h21) else next (h3) (h4++[Tre.mk (ba (Tre.mk (h11.getD (Int.toNat 0) (Tre.mk ([],0,0,0,()) [])).1 (h11.getD (Int.toNat 0) (Tre.mk ([],0,0,0,()) [])).2) h3 (Tre.mk (h16.getD h6.toNat (Tre.mk (0,0,false,[],()) [])).1 (h16.getD h6.toNat (Tre.mk (0,0,false,[],()) [])).2)).1.1 (ba (Tre.mk (h11.getD (Int.toNat 0) (Tre.mk ([],0,0,0,()) [])).1 (h11.getD (Int.toNat 0) (Tre.mk ([],0,0,0,()) [])).2) h3 (Tre.mk (h16.getD h6.toNat (Tre.mk (0,0,false,[],()) [])).1 (h16.getD h6.toNat (Tre.mk (0,0,false,[],()) [])).2)).1.2]) (false) (IntKind.i64.wrap (h6+1)) (h7) (h8) (h9) (h10) (h11) (h12) (h13) (h14) (h15) (h16) (h17) (h18) (h19) (h20) (h21) else none else none else none else none else out (.ret ((),((h4,(h5,())),((h17,(h18,(h19,(h20,(h21,()))))),()))))
def p9 (n:Nat)(h3:Int)(h4:List (((Ty.int IntKind.i64).prod ((Ty.int IntKind.i64).prod (Ty.bool.prod ((Ty.sl 5 (Ty.int IntKind.u8)).prod Ty.unit)))).tree 91).den)(h5:Bool)(h6:Int)(h7:List Int)(h8 h9 h10:Int)(h11:List (Fd))(h12 h13:Int)(h14:Bool)(h15:List Int)(h16:List (Nd))(h17 h18:Int)(h19:Bool)(h20:List Int)(h21:List (((Ty.int IntKind.i64).prod ((Ty.int IntKind.i64).prod (Ty.bool.prod ((Ty.sl 5 (Ty.int IntKind.u8)).prod Ty.unit)))).tree 91).den):Option (aD iZ.xs):=gd tt LR dr wj 0 Tryz.f90 (cE Tryz.f90 0) n (iZ.st.mk' ((h3,(h4,(h5,(h6,())))),((h7,(h8,(h9,(h10,(h11,()))))),((h12,(h13,(h14,(h15,(h16,()))))),((h17,(h18,(h19,(h20,(h21,()))))),()))))) (bL iZ.xs)
theorem WC (n:Nat)(h3:Int)(h4:List (((Ty.int IntKind.i64).prod ((Ty.int IntKind.i64).prod (Ty.bool.prod ((Ty.sl 5 (Ty.int IntKind.u8)).prod Ty.unit)))).tree 91).den)(h5:Bool)(h6:Int)(h7:List Int)(h8 h9 h10:Int)(h11:List (Fd))(h12 h13:Int)(h14:Bool)(h15:List Int)(h16:List (Nd))(h17 h18:Int)(h19:Bool)(h20:List Int)(h21:List (((Ty.int IntKind.i64).prod ((Ty.int IntKind.i64).prod (Ty.bool.prod ((Ty.sl 5 (Ty.int IntKind.u8)).prod Ty.unit)))).tree 91).den):p9 (n+1) h3 h4 h5 h6 h7 h8 h9 h10 h11 h12 h13 h14 h15 h16 h17 h18 h19 h20 h21=Cd h3 h4 h5 h6 h7 h8 h9 h10 h11 h12 h13 h14 h15 h16 h17 h18 h19 h20 h21 (p9 n) some:=by kernel_rfl
def xQ {R:Type}(h74:Int)(h75:List (((Ty.int IntKind.i64).prod ((Ty.int IntKind.i64).prod (Ty.bool.prod ((Ty.sl 5 (Ty.int IntKind.u8)).prod Ty.unit)))).tree 91).den)(h76:Bool)(h77:Int)(h78:List Int)(h79 h80 h81:Int)(h82:List (Fd))(h83 h84:Int)(h85:Bool)(h86:List Int)(h87:List (Nd))(h88 h89:Int)(h90:Bool)(h91:List Int)(h92:List (((Ty.int IntKind.i64).prod ((Ty.int IntKind.i64).prod (Ty.bool.prod ((Ty.sl 5 (Ty.int IntKind.u8)).prod Ty.unit)))).tree 91).den)(next:Int→List (((Ty.int IntKind.i64).prod ((Ty.int IntKind.i64).prod (Ty.bool.prod ((Ty.sl 5 (Ty.int IntKind.u8)).prod Ty.unit)))).tree 91).den→Bool→Int→List Int→Int→Int→Int→List (Fd)→Int→Int→Bool→List Int→List (Nd)→Int→Int→Bool→List Int→List (((Ty.int IntKind.i64).prod ((Ty.int IntKind.i64).prod (Ty.bool.prod ((Ty.sl 5 (Ty.int IntKind.u8)).prod Ty.unit)))).tree 91).den→Option R)(out:aD gv.xs→Option R):Option R:=bif decide (h77<(↑h82.length:Int)) then bif decide (h77<(↑h87.length:Int)) then bif decide (0≤h77)&&decide (h77<(↑h82.length:Int)) then bif gM (Tre.mk (h82.getD h77.toNat (Tre.mk ([],0,0,0,()) [])).1 (h82.getD h77.toNat (Tre.mk ([],0,0,0,()) [])).2) h74 then bif decide (0≤h77)&&decide (h77<(↑h82.length:Int)) then bif decide (0≤h77)&&decide (h77<(↑h87.length:Int)) then bif decide (aP (Tre.mk (h87.getD h77.toNat (Tre.mk (0,0,false,[],()) [])).1 (h87.getD h77.toNat (Tre.mk (0,0,false,[],()) [])).2)<aG)&&(dM (Tre.mk (h82.getD h77.toNat (Tre.mk ([],0,0,0,()) [])).1 (h82.getD h77.toNat (Tre.mk ([],0,0,0,()) [])).2)&&decide (aP (Tre.mk (h87.getD h77.toNat (Tre.mk (0,0,false,[],()) [])).1 (h87.getD h77.toNat (Tre.mk (0,0,false,[],()) [])).2)≤4294967296)) then bif decide (h75.length+1≤4294967296) then bif h76 then next (h74) (h75++[Tre.mk (ba (Tre.mk (h82.getD h77.toNat (Tre.mk ([],0,0,0,()) [])).1 (h82.getD h77.toNat (Tre.mk ([],0,0,0,()) [])).2) h74 (Tre.mk (h87.getD h77.toNat (Tre.mk (0,0,false,[],()) [])).1 (h87.getD h77.toNat (Tre.mk (0,0,false,[],()) [])).2)).1.1 (ba (Tre.mk (h82.getD h77.toNat (Tre.mk ([],0,0,0,()) [])).1 (h82.getD h77.toNat (Tre.mk ([],0,0,0,()) [])).2) h74 (Tre.mk (h87.getD h77.toNat (Tre.mk (0,0,false,[],()) [])).1 (h87.getD h77.toNat (Tre.mk (0,0,false,[],()) [])).2)).1.2]) ((ba (Tre.mk (h82.getD h77.toNat (Tre.mk ([],0,0,0,()) [])).1 (h82.getD h77.toNat (Tre.mk ([],0,0,0,()) [])).2) h74 (Tre.mk (h87.getD h77.toNat (Tre.mk (0,0,false,[],()) [])).1 (h87.getD h77.toNat (Tre.mk (0,0,false,[],()) [])).2)).2) (IntKind.i64.wrap (h77+1)) (h78) (h79) (h80) (h81) (h82) (h83) (h84) (h85) (h86) (h87) (h88) (h89) (h90) (h91) (h92) else next (h74) (h75++[Tre.mk (ba (Tre.mk (h82.getD h77.toNat (Tre.mk ([],0,0,0,()) [])).1 (h82.getD h77.toNat (Tre.mk ([],0,0,0,()) [])).2) h74 (Tre.mk (h87.getD h77.toNat (Tre.mk (0,0,false,[],()) [])).1 (h87.getD h77.toNat (Tre.mk (0,0,false,[],()) [])).2)).1.1 (ba (Tre.mk (h82.getD h77.toNat (Tre.mk ([],0,0,0,()) [])).1 (h82.getD h77.toNat (Tre.mk ([],0,0,0,()) [])).2) h74 (Tre.mk (h87.getD h77.toNat (Tre.mk (0,0,false,[],()) [])).1 (h87.getD h77.toNat (Tre.mk (0,0,false,[],()) [])).2)).1.2]) (false) (IntKind.i64.wrap (h77+1)) (h78) (h79) (h80) (h81) (h82) (h83) (h84) (h85) (h86) (h87) (h88) (h89) (h90) (h91) (h92) else none else none else none else none else bif h76 then bif decide (0≤h77)&&decide (h77<(↑h87.length:Int)) then next (h74) (h75) (bW (Tre.mk (h87.getD h77.toNat (Tre.mk (0,0,false,[],()) [])).1 (h87.getD h77.toNat (Tre.mk (0,0,false,[],()) [])).2)) (IntKind.i64.wrap (h77+1)) (h78) (h79) (h80) (h81) (h82) (h83) (h84) (h85) (h86) (h87) (h88) (h89) (h90) (h91) (h92) else none else next (h74) (h75) (false) (IntKind.i64.wrap (h77+1)) (h78) (h79) (h80) (h81) (h82) (h83) (h84) (h85) (h86) (h87) (h88) (h89) (h90) (h91) (h92) else none else out (.ret ((),((h75,(h76,())),((h88,(h89,(h90,(h91,(h92,()))))),())))) else out (.ret ((),((h75,(h76,())),((h88,(h89,(h90,(h91,(h92,()))))),()))))
def rh (n:Nat)(h74:Int)(h75:List (((Ty.int IntKind.i64).prod ((Ty.int IntKind.i64).prod (Ty.bool.prod ((Ty.sl 5 (Ty.int IntKind.u8)).prod Ty.unit)))).tree 91).den)(h76:Bool)(h77:Int)(h78:List Int)(h79 h80 h81:Int)(h82:List (Fd))(h83 h84:Int)(h85:Bool)(h86:List Int)(h87:List (Nd))(h88 h89:Int)(h90:Bool)(h91:List Int)(h92:List (((Ty.int IntKind.i64).prod ((Ty.int IntKind.i64).prod (Ty.bool.prod ((Ty.sl 5 (Ty.int IntKind.u8)).prod Ty.unit)))).tree 91).den):Option (aD gv.xs):=gd tt LR dr wj 0 Tryz.f90 (cE Tryz.f90 1) n (gv.st.mk' ((h74,(h75,(h76,(h77,())))),((h78,(h79,(h80,(h81,(h82,()))))),((h83,(h84,(h85,(h86,(h87,()))))),((h88,(h89,(h90,(h91,(h92,()))))),()))))) (bL gv.xs)
theorem RL (n:Nat)(h74:Int)(h75:List (((Ty.int IntKind.i64).prod ((Ty.int IntKind.i64).prod (Ty.bool.prod ((Ty.sl 5 (Ty.int IntKind.u8)).prod Ty.unit)))).tree 91).den)(h76:Bool)(h77:Int)(h78:List Int)(h79 h80 h81:Int)(h82:List (Fd))(h83 h84:Int)(h85:Bool)(h86:List Int)(h87:List (Nd))(h88 h89:Int)(h90:Bool)(h91:List Int)(h92:List (((Ty.int IntKind.i64).prod ((Ty.int IntKind.i64).prod (Ty.bool.prod ((Ty.sl 5 (Ty.int IntKind.u8)).prod Ty.unit)))).tree 91).den):rh (n+1) h74 h75 h76 h77 h78 h79 h80 h81 h82 h83 h84 h85 h86 h87 h88 h89 h90 h91 h92=xQ h74 h75 h76 h77 h78 h79 h80 h81 h82 h83 h84 h85 h86 h87 h88 h89 h90 h91 h92 (rh n) some:=by kernel_rfl
theorem L1 {f0:Fd}{fs:List Fd}{ks:List Nd}{v:Int}(ha:dM f0=true)(hf:aI ks<aG)(hb:aI ks≤4294967296)(nm:List Int)(k' lo hi a b:Int)(z:Bool)(x:List Int)(a' b':Int)(z':Bool)(x':List Int)(l':List Nd):∀(k j:Nat) (o:List Nd) (t:Bool),ks.length<j+k→j≤ks.length→o.length≤j→
  p9 k v o t j nm k' lo hi (f0::fs) a b z x ks a' b' z' x' l'=some (.ret ((),(((o++(bX f0 v (ks.drop j)).1),((t&&(bX f0 v (ks.drop j)).2),())),((a',(b',(z',(x',(l',()))))),())))):=by
 intro k
 induction k with
 |zero=>intro j o t h1 h2;omega
 |succ k ih=>
  intro j o t h1 h2 h3
  rw[WC]
  unfold Cd
  have hlen:=gI ks
  by_cases hj:j<ks.length
  ·refine (aa (decide_eq_true (show (j:Int)<(ks.length:Int) by omega)) _ _).trans ?_
   refine (aa (by simp) _ _).trans ?_
   refine (aa (by simp;omega) _ _).trans ?_
   have hmem:=cY (List.getElem_mem hj)
   have hd:ks.drop j=ks[j]::ks.drop (j+1):=List.drop_eq_getElem_cons hj
   have ih':=fun t'=>ih (j+1) (o++[(ba f0 v ks[j]).1]) t' (by omega) (by omega) (by simp;omega)
   rw[hd,bX]
   rw[aC (n:=(j:Int)+1) (by omega) (by omega)]
   simp only[Int.toNat_natCast,aH hj]
   generalize ks[j]=u at hmem ih' ⊢
   obtain ⟨ul,uk⟩:=u
   obtain ⟨fl,fk⟩:=f0
   refine (aa (show (decide (aP (Tre.mk ul uk)<aG)&&(dM (Tre.mk fl fk)&&decide (aP (Tre.mk ul uk)≤4294967296)))=true by rw[ha];simp;omega) _ _).trans ?_
   refine (aa (decide_eq_true (show o.length+1≤4294967296 by omega)) _ _).trans ?_
   have e1:o++[Tre.mk (ba (Tre.mk fl fk) v (Tre.mk ul uk)).1.1 (ba (Tre.mk fl fk) v (Tre.mk ul uk)).1.2]=o++[(ba (Tre.mk fl fk) v (Tre.mk ul uk)).1]:=by rw[abe]
   cases t with
   |true=>
    show p9 k v (o++[Tre.mk (ba (Tre.mk fl fk) v (Tre.mk ul uk)).1.1 (ba (Tre.mk fl fk) v (Tre.mk ul uk)).1.2]) (ba (Tre.mk fl fk) v (Tre.mk ul uk)).2 _ _ _ _ _ _ _ _ _ _ _ _ _ _ _ _=_
    rw[e1]
    refine (ih' _).trans ?_;simp
   |false=>
    show p9 k v (o++[Tre.mk (ba (Tre.mk fl fk) v (Tre.mk ul uk)).1.1 (ba (Tre.mk fl fk) v (Tre.mk ul uk)).1.2]) false _ _ _ _ _ _ _ _ _ _ _ _ _ _ _ _=_
    rw[e1]
    refine (ih' false).trans ?_;simp
  ·refine (ab (decide_eq_false (show ¬(j:Int)<(ks.length:Int) by omega)) _ _).trans ?_
   rw[List.drop_of_length_le (by omega),bX,List.append_nil,Bool.and_true]
theorem I1 {fs:List Fd}{ks:List Nd}{v:Int}(ha:bq fs=true)(hf:aI ks<aG)(hb:aI ks≤4294967296)(nm:List Int)(k' lo hi a b:Int)(z:Bool)(x:List Int)(a' b':Int)(z':Bool)(x':List Int)(l':List Nd):∀(k j:Nat) (o:List Nd) (t:Bool),ks.length<j+k→j≤ks.length→o.length≤j→
  rh k v o t j nm k' lo hi fs a b z x ks a' b' z' x' l'=some (.ret ((),(((o++(bF v (fs.drop j) (ks.drop j)).1),((t&&(bF v (fs.drop j) (ks.drop j)).2),())),((a',(b',(z',(x',(l',()))))),())))):=by
 intro k
 induction k with
 |zero=>intro j o t h1 h2;omega
 |succ k ih=>
  intro j o t h1 h2 h3
  rw[RL]
  unfold xQ
  have hlen:=gI ks
  by_cases hj':j<fs.length
  ·refine (aa (decide_eq_true (show (j:Int)<(fs.length:Int) by omega)) _ _).trans ?_
   by_cases hj:j<ks.length
   ·refine (aa (decide_eq_true (show (j:Int)<(ks.length:Int) by omega)) _ _).trans ?_
    refine (aa (by simp;omega) _ _).trans ?_
    have hmem:=cY (List.getElem_mem hj)
    have har:=jK ha (List.getElem_mem hj')
    have hd:ks.drop j=ks[j]::ks.drop (j+1):=List.drop_eq_getElem_cons hj
    have hd':fs.drop j=fs[j]::fs.drop (j+1):=List.drop_eq_getElem_cons hj'
    have ih1:=fun t'=>ih (j+1) (o++[(ba fs[j] v ks[j]).1]) t' (by omega) (by omega) (by simp;omega)
    have ih2:=fun t'=>ih (j+1) o t' (by omega) (by omega) (by omega)
    rw[hd,hd',bF]
    rw[aC (n:=(j:Int)+1) (by omega) (by omega)]
    simp only[Int.toNat_natCast,aH hj,aH hj']
    generalize ks[j]=u at hmem ih1 ⊢
    generalize fs[j]=f0 at har ih1 ⊢
    obtain ⟨ul,uk⟩:=u
    obtain ⟨fl,fk⟩:=f0
    by_cases hh:gM (Tre.mk fl fk) v=true
    ·refine (aa (show gM (Tre.mk fl fk) v=true from hh) _ _).trans ?_
     refine (aa (by simp;omega) _ _).trans ?_
     refine (aa (by simp;omega) _ _).trans ?_
     refine (aa (show (decide (aP (Tre.mk ul uk)<aG)&&(dM (Tre.mk fl fk)&&decide (aP (Tre.mk ul uk)≤4294967296)))=true by rw[har];simp;omega) _ _).trans ?_
     refine (aa (decide_eq_true (show o.length+1≤4294967296 by omega)) _ _).trans ?_
     rw[if_pos hh]
     show (bif t then rh k v (o++[Tre.mk (ba (Tre.mk fl fk) v (Tre.mk ul uk)).1.1 (ba (Tre.mk fl fk) v (Tre.mk ul uk)).1.2]) (ba (Tre.mk fl fk) v (Tre.mk ul uk)).2 _ _ _ _ _ _ _ _ _ _ _ _ _ _ _ _ else _)=_
     generalize ba (Tre.mk fl fk) v (Tre.mk ul uk)=r at ih1 ⊢
     obtain ⟨⟨rl,rk⟩,rb⟩:=r
     cases t with
     |true=>refine (ih1 rb).trans ?_;simp
     |false=>refine (ih1 false).trans ?_;simp
    ·refine (ab (show gM (Tre.mk fl fk) v=false by simpa using hh) _ _).trans ?_
     rw[if_neg hh]
     cases t with
     |true=>
      show (bif decide (0≤(j:Int))&&decide ((j:Int)<(ks.length:Int)) then _ else none)=_
      refine (aa (by simp;omega) _ _).trans ?_
      refine (ih2 _).trans ?_
      simp
     |false=>
      refine (ih2 false).trans ?_
      simp
   ·refine (ab (decide_eq_false (show ¬(j:Int)<(ks.length:Int) by omega)) _ _).trans ?_
    rw[List.drop_of_length_le (show ks.length≤j by omega),List.drop_eq_getElem_cons hj',bF,List.append_nil,Bool.and_true]
    simp
  ·refine (ab (decide_eq_false (show ¬(j:Int)<(fs.length:Int) by omega)) _ _).trans ?_
   rw[List.drop_of_length_le (show fs.length≤j by omega),bF,List.append_nil,Bool.and_true]
   simp
def HY (a0:Fd)(a1:Int)(a2:Nd):Option jB.Res:=bif a0.1.2.1 == 9 then (yl ((a1,([],(true,(0,())))),((a0.1.1,(a0.1.2.1,(a0.1.2.2.1,(a0.1.2.2.2.1,(a0.2,()))))),((a2.1.1,(a2.1.2.1,(a2.1.2.2.1,(a2.1.2.2.2.1,(a2.2,()))))),((0,(0,(false,([],([],()))))),()))))).run fun y=>match y with | .ret ((),((x67,x68,()),(x69,x70,x71,x72,x73,()),()))=>(some (Out.ret ((Tre.mk (9,0,false,[],()) x67,x68,()),()))) else bif a0.1.2.1 != 10 then some (Out.ret ((Tre.mk a2.1 a2.2,true,()),())) else (tF ((a1,([],(true,(0,())))),((a0.1.1,(a0.1.2.1,(a0.1.2.2.1,(a0.1.2.2.2.1,(a0.2,()))))),((a2.1.1,(a2.1.2.1,(a2.1.2.2.1,(a2.1.2.2.2.1,(a2.2,()))))),((0,(0,(false,([],([],()))))),()))))).run fun y=>match y with | .ret ((),((x183,x184,()),(x185,x186,x187,x188,x189,()),()))=>(some (Out.ret ((Tre.mk (10,0,false,[],()) x183,x184,()),())))
theorem Zk (a0:Fd)(a1:Int)(a2:Nd):Io.run tt LR dr wj jB Tryz.f90 ((a0,a1,a2,()),())=HY a0 a1 a2:=by kernel_rfl
theorem YJ (rvCut:HcOk prog 90 (ah jB (zf aG))):HcOk prog 90 (ah jB (zf (aG+1))):=by
 refine aj (n:=400) hm (cs:=FH) (.cons rvCut (.cons qf (.cons uG .nil))) (lp:=wj) (fn:=Tryz.f90) (by kernel_rfl) (by kernel_rfl) (by kernel_rfl) jB (.step (h0:=aN iZ yl) (by kernel_rfl) (aw (n:=400) hm (cs:=FH) (.cons rvCut (.cons qf (.cons uG .nil))) (lp:=wj) (fn:=Tryz.f90) (.done (by kernel_rfl)) iZ yl ?_) (.step (h0:=aN gv tF) (by kernel_rfl) (aw (n:=400) hm (cs:=FH) (.cons rvCut (.cons qf (.cons uG .nil))) (lp:=wj) (fn:=Tryz.f90) (.done (by kernel_rfl)) gv tF ?_) (.done (by kernel_rfl)))) (zf (aG+1)) ?_
 ·rintro ⟨⟨(v:Int),(o:List Nd),(t:Bool),(i:Int),⟨⟩⟩,⟨⟨(nm:List Int),(k':Int),(lo:Int),(hi:Int),(fs:List Fd),⟨⟩⟩,⟨(a:Int),(b:Int),(z:Bool),(x:List Int),(ks:List Nd),⟨⟩⟩,⟨(a':Int),(b':Int),(z':Bool),(x':List Int),(l':List Nd),⟨⟩⟩,⟨⟩⟩⟩ y hw hy
  obtain ⟨hg,hy⟩:=Tr.guard hy
  simp only[Bool.and_eq_true,decide_eq_true_eq] at hg
  obtain ⟨h1,⟨h2,h7⟩,⟨h3,h4⟩,h5,h6⟩:=hg
  have h1:i=0:=h1
  have h2:o=[]:=List.eq_nil_of_length_eq_zero h2
  have h7:t=true:=h7
  have h3:fs.length≠0:=h3
  have h4:bq fs=true:=h4
  have h5:aI ks<aG:=h5
  have h6:aI ks≤4294967296:=h6
  subst h1
  subst h2
  subst h7
  obtain ⟨f0,fs,rfl⟩:∃f0 fs',fs=f0::fs':=by cases fs with | nil=>exact absurd rfl h3 | cons a b=>exact ⟨a,b,rfl⟩
  refine ⟨ks.length+1,(L1 (jK h4 (by simp)) h5 h6 nm k' lo hi a b z x a' b' z' x' l' (ks.length+1) 0 [] true (by omega) (by omega) (by simp)).trans ?_⟩
  rw[← hy,List.drop_zero]
  rfl
 ·rintro ⟨⟨(v:Int),(o:List Nd),(t:Bool),(i:Int),⟨⟩⟩,⟨⟨(nm:List Int),(k':Int),(lo:Int),(hi:Int),(fs:List Fd),⟨⟩⟩,⟨(a:Int),(b:Int),(z:Bool),(x:List Int),(ks:List Nd),⟨⟩⟩,⟨(a':Int),(b':Int),(z':Bool),(x':List Int),(l':List Nd),⟨⟩⟩,⟨⟩⟩⟩ y hw hy
  obtain ⟨hg,hy⟩:=Tr.guard hy
  simp only[Bool.and_eq_true,decide_eq_true_eq] at hg
  obtain ⟨h1,⟨h2,h7⟩,h4,h5,h6⟩:=hg
  have h1:i=0:=h1
  have h2:o=[]:=List.eq_nil_of_length_eq_zero h2
  have h7:t=true:=h7
  have h4:bq fs=true:=h4
  have h5:aI ks<aG:=h5
  have h6:aI ks≤4294967296:=h6
  subst h1
  subst h2
  subst h7
  refine ⟨ks.length+1,(I1 h4 h5 h6 nm k' lo hi a b z x a' b' z' x' l' (ks.length+1) 0 [] true (by omega) (by omega) (by simp)).trans ?_⟩
  rw[← hy,List.drop_zero,List.drop_zero]
  rfl
 ·rintro ⟨⟨(f:Fd),(v:Int),(n:Nd),⟨⟩⟩,⟨⟩⟩ out hw ho
  obtain ⟨hg,ho⟩:=Tr.guard ho
  simp only[Bool.and_eq_true,decide_eq_true_eq] at hg
  obtain ⟨hk,ha,hb⟩:=hg
  have hk:aP n<aG+1:=hk
  have ha:dM f=true:=ha
  have hb:aP n≤4294967296:=hb
  cases ho
  refine (Zk f v n).trans ?_
  unfold HY
  show _=some (Out.ret (((ba f v n).1,((ba f v n).2,())),()))
  obtain ⟨⟨(nm:List Int),(k':Int),(lo:Int),(hi:Int),⟨⟩⟩,(fs:List Fd)⟩:=f
  obtain ⟨⟨(a:Int),(b:Int),(z:Bool),(x:List Int),⟨⟩⟩,(ks:List Nd)⟩:=n
  have hwf:=cC (Tre.mk (a,(b,(z,(x,())))) ks)
  have hwf:aP (Tre.mk (a,(b,(z,(x,())))) ks)=1+x.length+aI ks:=hwf
  have hk:1+x.length+aI ks<aG+1:=by rw[← hwf];exact hk
  have hb:1+x.length+aI ks≤4294967296:=by rw[← hwf];exact hb
  rw[Bv] at ha
  simp only[Bool.and_eq_true] at ha
  obtain ⟨⟨ha1,ha3⟩,ha2⟩:=ha
  have ha2:bq fs=true:=ha2
  rw[ba]
  by_cases h9:k'=9
  ·rw[if_pos h9]
   refine (aa (by simpa using h9) _ _).trans ?_
   have h0:fs.length≠0:=by
    rcases Bool.or_eq_true _ _▸ha1 with h | h
    ·exact absurd h9 (of_decide_eq_true h)
    ·exact of_decide_eq_true h
   obtain ⟨f0,fs,rfl⟩:∃f0 fs',fs=f0::fs':=by cases fs with | nil=>exact absurd rfl h0 | cons a b=>exact ⟨a,b,rfl⟩
   have c1:(decide ((0:Int)=0)&&((decide (([]:List Nd).length=0)&&true)&&((decide ((f0::fs).length≠0)&&bq (f0::fs))&&(decide (aI ks<aG)&&decide (aI ks≤4294967296)))))=true:=by
    rw[ha2];simp;omega
   exact aa c1 _ _
  rw[if_neg h9]
  refine (ab (by simpa using h9) _ _).trans ?_
  by_cases h10:k'=10
  ·rw[if_pos h10]
   refine (ab (by simpa using h10) _ _).trans ?_
   have c1:(decide ((0:Int)=0)&&((decide (([]:List Nd).length=0)&&true)&&(bq fs&&(decide (aI ks<aG)&&decide (aI ks≤4294967296)))))=true:=by
    rw[ha2];simp;omega
   exact aa c1 _ _
  ·rw[if_neg h10]
   exact aa (by simpa using h10) _ _
end
theorem YI (n:Nat):HcOk prog 90 (ah jB (zf n)):=by
 induction n with
 |zero=>exact HcOk.none (fn:=Tryz.f90) (by kernel_rfl) (by kernel_rfl) (by kernel_rfl) _ _ fun d out h=>by cases h
 |succ n ih=>
  have:=@YJ ⟨⟨n⟩⟩ (by rw[FuT.val];exact ih)
  rw[FuT.val] at this
  exact this
theorem abl:HcOk prog 90 (ah jB ZU):=by
 refine HcOk.lim YI fun d=>⟨aP d.1.2.2.1+1,fun out h=>?_⟩
 obtain ⟨hg,h⟩:=Tr.guard h
 exact (aa (by rw[hg];simp) _ _).trans h
section
variable [Inhabited FuT]
abbrev DY:Lo:=⟨⟨(.any::.one (.hol (.int IntKind.i64))::.any::.one (.ptr 3 0)::.any::.one (.ptr 5 0)::.one (.ptr 6 0)::.one (.onl 91 (((Ty.int IntKind.i64).prod ((Ty.int IntKind.i64).prod (Ty.bool.prod ((Ty.sl 5 (Ty.int IntKind.u8)).prod Ty.unit)))).tree 91) 15)::.one (.hol (.int IntKind.i64))::.any::ai (ai (ai (ai (ai (bh [])))))),[none,none,none,some [.hol .str,.hol (.int IntKind.i64),.hol (.int IntKind.i64),.hol (.int IntKind.i64),.hol (.sl 160 eE)],none,some [.hol (.int IntKind.i64),.hol (.int IntKind.i64),.hol .bool,.hol (.sl 5 (Ty.int IntKind.u8)),.hol (.sl 91 (((Ty.int IntKind.i64).prod ((Ty.int IntKind.i64).prod (Ty.bool.prod ((Ty.sl 5 (Ty.int IntKind.u8)).prod Ty.unit)))).tree 91))],some [.hol (.int IntKind.i64),.hol (.int IntKind.i64),.hol .bool,.onl 5 (Ty.int IntKind.u8) 3080,.onl 91 (((Ty.int IntKind.i64).prod ((Ty.int IntKind.i64).prod (Ty.bool.prod ((Ty.sl 5 (Ty.int IntKind.u8)).prod Ty.unit)))).tree 91) 3082]]⟩,[(.exit 0,⟨(bQ (bh (.one (.ptr 6 0)::.one (.onl 91 (((Ty.int IntKind.i64).prod ((Ty.int IntKind.i64).prod (Ty.bool.prod ((Ty.sl 5 (Ty.int IntKind.u8)).prod Ty.unit)))).tree 91) 15)::ai (ai (ai (ai (ai (bQ [])))))))),[none,none,none,none,none,none,some [.hol (.int IntKind.i64),.hol (.int IntKind.i64),.hol .bool,.onl 5 (Ty.int IntKind.u8) 3080,.onl 91 (((Ty.int IntKind.i64).prod ((Ty.int IntKind.i64).prod (Ty.bool.prod ((Ty.sl 5 (Ty.int IntKind.u8)).prod Ty.unit)))).tree 91) 3082]]⟩)]⟩
abbrev AM:Lo:=⟨⟨(.any::.one (.hol (.int IntKind.i64))::.any::.one (.ptr 3 0)::.any::.one (.ptr 5 0)::.one (.ptr 6 0)::.one (.onl 91 (((Ty.int IntKind.i64).prod ((Ty.int IntKind.i64).prod (Ty.bool.prod ((Ty.sl 5 (Ty.int IntKind.u8)).prod Ty.unit)))).tree 91) 15)::.any::.one (.hol (.int IntKind.i64))::.one (.hol (.int IntKind.i64))::.any::ai (ai (ai (ai (ai []))))),[none,none,none,some [.hol .str,.hol (.int IntKind.i64),.hol (.int IntKind.i64),.hol (.int IntKind.i64),.hol (.sl 160 eE)],none,some [.hol (.int IntKind.i64),.hol (.int IntKind.i64),.hol .bool,.hol (.sl 5 (Ty.int IntKind.u8)),.hol (.sl 91 (((Ty.int IntKind.i64).prod ((Ty.int IntKind.i64).prod (Ty.bool.prod ((Ty.sl 5 (Ty.int IntKind.u8)).prod Ty.unit)))).tree 91))],some [.hol (.int IntKind.i64),.hol (.int IntKind.i64),.hol .bool,.onl 5 (Ty.int IntKind.u8) 3080,.onl 91 (((Ty.int IntKind.i64).prod ((Ty.int IntKind.i64).prod (Ty.bool.prod ((Ty.sl 5 (Ty.int IntKind.u8)).prod Ty.unit)))).tree 91) 3082]]⟩,[(.exit 2,⟨(bQ (bh (.one (.ptr 6 0)::.one (.onl 91 (((Ty.int IntKind.i64).prod ((Ty.int IntKind.i64).prod (Ty.bool.prod ((Ty.sl 5 (Ty.int IntKind.u8)).prod Ty.unit)))).tree 91) 15)::ai (ai (ai (ai (ai (bQ [])))))))),[none,none,none,none,none,none,some [.hol (.int IntKind.i64),.hol (.int IntKind.i64),.hol .bool,.onl 5 (Ty.int IntKind.u8) 3080,.onl 91 (((Ty.int IntKind.i64).prod ((Ty.int IntKind.i64).prod (Ty.bool.prod ((Ty.sl 5 (Ty.int IntKind.u8)).prod Ty.unit)))).tree 91) 3082]]⟩)]⟩
def ab8 (d:DY.st.den):Tr (aD DY.xs):=
 .ite (decide (d.1.2.2.1=0)&&(decide (d.1.2.1.length=0)&&((decide (d.2.1.2.2.2.2.1.length≠0)&&bq d.2.1.2.2.2.2.1)&&(decide (aI d.2.2.1.2.2.2.2.1<aG)&&decide (aI d.2.2.1.2.2.2.2.1≤4294967296)))))
  (.ret (.ret ((),((BF (d.2.1.2.2.2.2.1.headD (.mk ([],(0,(0,(0,())))) [])) d.1.1 d.2.2.1.2.2.2.2.1,()),(d.2.2.2.1,()))))) .no
def abS (d:AM.st.den):Tr (aD AM.xs):=
 .ite ((decide (d.1.2.2.1=0)&&decide (d.1.2.2.2.1=0))&&(decide (d.1.2.1.length=0)&&((decide (d.2.1.2.2.2.2.1.length≤16)&&bq d.2.1.2.2.2.2.1)&&(decide (aI d.2.2.1.2.2.2.2.1<aG)&&decide (aI d.2.2.1.2.2.2.2.1≤4294967296)))))
  (.ret (.ret ((),((BG d.1.1 d.2.1.2.2.2.2.1 d.2.2.1.2.2.2.2.1,()),(d.2.2.2.1,()))))) .no
end
abbrev mD:Io:=⟨[dS,dI,dI,dI],[],[],[LL],none⟩
def Fl (d:mD.In):Tr mD.Res:=.ret (.ret ((.mk (d.1.1,(d.1.2.1,(d.1.2.2.1,(d.1.2.2.2.1,())))) [],()),()))
abbrev Oo:List (Nat×Hc):=[]
def Yc:Hd:=bA Oo
def O9:Lp:=bv []
def PK (a0:List Int)(a1 a2 a3:Int):Option mD.Res:=some (Out.ret ((Tre.mk (a0,a1,a2,a3,()) [],()),()))
theorem Wr (a0:List Int)(a1 a2 a3:Int):Io.run tt Yc dr O9 mD Tryz.f187 ((a0,a1,a2,a3,()),())=PK a0 a1 a2 a3:=by kernel_rfl
theorem Pn:HcOk prog 187 (ah mD Fl):=by
 refine aj (n:=400) hm (cs:=Oo) HcsOk.nil (lp:=O9) (fn:=Tryz.f187) (by kernel_rfl) (by kernel_rfl) (by kernel_rfl) mD (.done (by kernel_rfl)) Fl ?_
 rintro ⟨⟨(a:List Int),(b:Int),(c:Int),(e:Int),⟨⟩⟩,⟨⟩⟩ out hw ho
 cases ho
 exact Wr a b c e
abbrev il:Io:=⟨[xl],[],[],[LL],none⟩
abbrev cp (s:List Int)(k lo hi:Int)(e:List Fd):Fd:=Tre.mk (s,(k,(lo,(hi,())))) e
def cy (part:List Fd):Fd:=cp [116,111,112,105,99,115] 9 0 3 [cp [116,111,112,105,99] 10 0 3 [cp [110,97,109,101] 5 0 3 [],cp [112,97,114,116,115] 9 0 3 [cp [112,97,114,116] 10 0 3 part]]]
def vE (d:il.In):Tr il.Res:=.ret (.ret ((cy d.1.1,()),()))
abbrev z6:List (Nat×Hc):=[(187,ah mD Fl)]
def LQ:Hd:=bA z6
def AU:Lp:=bv []
def FA (a0:List eE.den):Option il.Res:=some (Out.ret ((Tre.mk ([116,111,112,105,99,115],9,0,3,()) [Tre.mk ([116,111,112,105,99],10,0,3,()) [Tre.mk ([110,97,109,101],5,0,3,()) [],Tre.mk ([112,97,114,116,115],9,0,3,()) [Tre.mk ([112,97,114,116],10,0,3,()) a0]]],()),()))
theorem J0 (a0:List eE.den):Io.run tt LQ dr AU il Tryz.f188 ((a0,()),())=FA a0:=by kernel_rfl
theorem Mf:HcOk prog 188 (ah il vE):=by
 refine aj (n:=400) hm (cs:=z6) (.cons Pn .nil) (lp:=AU) (fn:=Tryz.f188) (by kernel_rfl) (by kernel_rfl) (by kernel_rfl) il (.done (by kernel_rfl)) vE ?_
 rintro ⟨⟨(a:List Fd),⟨⟩⟩,⟨⟩⟩ out hw ho
 cases ho
 exact J0 a
abbrev jA:Io:=⟨[K1,dB],[],[],[xl,dI],none⟩
def uU:List Fd:=[cp [116,120,110] 6 3 3 [],cp [97,99,107,115] 2 0 3 [],cp [119,97,105,116] 3 0 3 [],cy [cp [105,110,100,101,120] 3 0 3 [],cp [114,101,99,115] 8 0 3 []]]
def acO:List Fd:=[cy [cp [105,110,100,101,120] 3 0 3 [],cp [99,111,100,101] 2 0 3 [],cp [98,97,115,101] 4 0 3 [],cp [116,105,109,101] 4 2 3 [],cp [115,116,97,114,116] 4 3 3 []],cp [116,104,114,111,116,116,108,101] 3 1 3 []]
def uV:List Fd:=[cp [114,101,112,108,105,99,97] 3 0 3 [],cp [119,97,105,116] 3 0 3 [],cp [109,105,110] 3 0 3 [],cp [109,97,120] 3 1 3 [],cp [108,101,118,101,108] 1 2 3 [],cy [cp [105,110,100,101,120] 3 0 3 [],cp [101,112,111,99,104] 3 3 3 [],cp [111,102,102,115,101,116] 4 0 3 [],cp [109,97,120] 3 0 3 []]]
def acP:List Fd:=[cp [116,104,114,111,116,116,108,101] 3 1 3 [],cy [cp [105,110,100,101,120] 3 0 3 [],cp [99,111,100,101] 2 0 3 [],cp [104,105,103,104] 4 0 3 [],cp [115,116,97,98,108,101] 4 2 3 [],cp [115,116,97,114,116] 4 3 3 [],cp [114,101,99,115] 8 0 3 []]]
def uX:List Fd:=[cp [114,101,112,108,105,99,97] 3 0 3 [],cp [108,101,118,101,108] 1 2 3 [],cy [cp [105,110,100,101,120] 3 0 3 [],cp [101,112,111,99,104] 3 3 3 [],cp [116,105,109,101] 4 0 3 [],cp [109,111,115,116] 3 0 0 []]]
def uW:List Fd:=[cp [116,104,114,111,116,116,108,101] 3 2 3 [],cy [cp [105,110,100,101,120] 3 0 3 [],cp [99,111,100,101] 2 0 3 [],cp [111,102,102,115,101,116,115] 9 0 0 [cp [111,102,102,115,101,116] 4 0 0 []],cp [116,105,109,101] 4 1 3 [],cp [111,102,102,115,101,116] 4 1 3 [],cp [101,112,111,99,104] 3 3 3 []]]
def eQ (k:Int)(r:Bool):List Fd×Int:=
 if k=0 then (if r=false then (uU,0) else (acO,0)) else if k=1 then (if r=false then (uV,0) else (acP,0)) else if k=2 then (if r=false then (uX,0) else (uW,0)) else ([],160)
def ze (d:jA.In):Tr jA.Res:=.ret (.ret (((eQ d.1.1 d.1.2.1).1,((eQ d.1.1 d.1.2.1).2,())),()))
abbrev DL:List (Nat×Hc):=[(187,ah mD Fl),(188,ah il vE)]
def Qc:Hd:=bA DL
def Ee:Lp:=bv []
def xc (a0:Int)(a1:Bool):Option jA.Res:=bif a0 == 0 then bif !a1 then some (Out.ret (([Tre.mk ([116,120,110],6,3,3,()) [],Tre.mk ([97,99,107,115],2,0,3,()) [],Tre.mk ([119,97,105,116],3,0,3,()) [],Tre.mk ([116,111,112,105,99,115],9,0,3,()) [Tre.mk ([116,111,112,105,99],10,0,3,()) [Tre.mk ([110,97,109,101],5,0,3,()) [],Tre.mk ([112,97,114,116,115],9,0,3,()) [Tre.mk ([112,97,114,116],10,0,3,()) [Tre.mk ([105,110,100,101,120],3,0,3,()) [],Tre.mk ([114,101,99,115],8,0,3,()) []]]]]],0,()),())) else bif a0 == 0 then some (Out.ret (([Tre.mk ([116,111,112,105,99,115],9,0,3,()) [Tre.mk ([116,111,112,105,99],10,0,3,()) [Tre.mk ([110,97,109,101],5,0,3,()) [],Tre.mk ([112,97,114,116,115],9,0,3,()) [Tre.mk ([112,97,114,116],10,0,3,()) [Tre.mk ([105,110,100,101,120],3,0,3,()) [],Tre.mk ([99,111,100,101],2,0,3,()) [],Tre.mk ([98,97,115,101],4,0,3,()) [],Tre.mk ([116,105,109,101],4,2,3,()) [],Tre.mk ([115,116,97,114,116],4,3,3,()) []]]]],Tre.mk ([116,104,114,111,116,116,108,101],3,1,3,()) []],0,()),())) else bif a0 == 1 then bif !a1 then some (Out.ret (([Tre.mk ([114,101,112,108,105,99,97],3,0,3,()) [],Tre.mk ([119,97,105,116],3,0,3,()) [],Tre.mk ([109,105,110],3,0,3,()) [],Tre.mk ([109,97,120],3,1,3,()) [],Tre.mk ([108,101,118,101,108],1,2,3,()) [],Tre.mk ([116,111,112,105,99,115],9,0,3,()) [Tre.mk ([116,111,112,105,99],10,0,3,()) [Tre.mk ([110,97,109,101],5,0,3,()) [],Tre.mk ([112,97,114,116,115],9,0,3,()) [Tre.mk ([112,97,114,116],10,0,3,()) [Tre.mk ([105,110,100,101,120],3,0,3,()) [],Tre.mk ([101,112,111,99,104],3,3,3,()) [],Tre.mk ([111,102,102,115,101,116],4,0,3,()) [],Tre.mk ([109,97,120],3,0,3,()) []]]]]],0,()),())) else bif a0 == 1 then some (Out.ret (([Tre.mk ([116,104,114,111,116,116,108,101],3,1,3,()) [],Tre.mk ([116,111,112,105,99,115],9,0,3,()) [Tre.mk ([116,111,112,105,99],10,0,3,()) [Tre.mk ([110,97,109,101],5,0,3,()) [],Tre.mk ([112,97,114,116,115],9,0,3,()) [Tre.mk ([112,97,114,116],10,0,3,()) [Tre.mk ([105,110,100,101,120],3,0,3,()) [],Tre.mk ([99,111,100,101],2,0,3,()) [],Tre.mk ([104,105,103,104],4,0,3,()) [],Tre.mk ([115,116,97,98,108,101],4,2,3,()) [],Tre.mk ([115,116,97,114,116],4,3,3,()) [],Tre.mk ([114,101,99,115],8,0,3,()) []]]]]],0,()),())) else bif a0 == 2 then bif !a1 then some (Out.ret (([Tre.mk ([114,101,112,108,105,99,97],3,0,3,()) [],Tre.mk ([108,101,118,101,108],1,2,3,()) [],Tre.mk ([116,111,112,105,99,115],9,0,3,()) [Tre.mk ([116,111,112,105,99],10,0,3,()) [Tre.mk ([110,97,109,101],5,0,3,()) [],Tre.mk ([112,97,114,116,115],9,0,3,()) [Tre.mk ([112,97,114,116],10,0,3,()) [Tre.mk ([105,110,100,101,120],3,0,3,()) [],Tre.mk ([101,112,111,99,104],3,3,3,()) [],Tre.mk ([116,105,109,101],4,0,3,()) [],Tre.mk ([109,111,115,116],3,0,0,()) []]]]]],0,()),())) else bif a0 == 2 then some (Out.ret (([Tre.mk ([116,104,114,111,116,116,108,101],3,2,3,()) [],Tre.mk ([116,111,112,105,99,115],9,0,3,()) [Tre.mk ([116,111,112,105,99],10,0,3,()) [Tre.mk ([110,97,109,101],5,0,3,()) [],Tre.mk ([112,97,114,116,115],9,0,3,()) [Tre.mk ([112,97,114,116],10,0,3,()) [Tre.mk ([105,110,100,101,120],3,0,3,()) [],Tre.mk ([99,111,100,101],2,0,3,()) [],Tre.mk ([111,102,102,115,101,116,115],9,0,0,()) [Tre.mk ([111,102,102,115,101,116],4,0,0,()) []],Tre.mk ([116,105,109,101],4,1,3,()) [],Tre.mk ([111,102,102,115,101,116],4,1,3,()) [],Tre.mk ([101,112,111,99,104],3,3,3,()) []]]]]],0,()),())) else some (Out.ret (([],160,()),())) else bif a0 == 2 then some (Out.ret (([Tre.mk ([116,104,114,111,116,116,108,101],3,2,3,()) [],Tre.mk ([116,111,112,105,99,115],9,0,3,()) [Tre.mk ([116,111,112,105,99],10,0,3,()) [Tre.mk ([110,97,109,101],5,0,3,()) [],Tre.mk ([112,97,114,116,115],9,0,3,()) [Tre.mk ([112,97,114,116],10,0,3,()) [Tre.mk ([105,110,100,101,120],3,0,3,()) [],Tre.mk ([99,111,100,101],2,0,3,()) [],Tre.mk ([111,102,102,115,101,116,115],9,0,0,()) [Tre.mk ([111,102,102,115,101,116],4,0,0,()) []],Tre.mk ([116,105,109,101],4,1,3,()) [],Tre.mk ([111,102,102,115,101,116],4,1,3,()) [],Tre.mk ([101,112,111,99,104],3,3,3,()) []]]]]],0,()),())) else some (Out.ret (([],160,()),())) else bif a0 == 1 then some (Out.ret (([Tre.mk ([116,104,114,111,116,116,108,101],3,1,3,()) [],Tre.mk ([116,111,112,105,99,115],9,0,3,()) [Tre.mk ([116,111,112,105,99],10,0,3,()) [Tre.mk ([110,97,109,101],5,0,3,()) [],Tre.mk ([112,97,114,116,115],9,0,3,()) [Tre.mk ([112,97,114,116],10,0,3,()) [Tre.mk ([105,110,100,101,120],3,0,3,()) [],Tre.mk ([99,111,100,101],2,0,3,()) [],Tre.mk ([104,105,103,104],4,0,3,()) [],Tre.mk ([115,116,97,98,108,101],4,2,3,()) [],Tre.mk ([115,116,97,114,116],4,3,3,()) [],Tre.mk ([114,101,99,115],8,0,3,()) []]]]]],0,()),())) else bif a0 == 2 then bif !a1 then some (Out.ret (([Tre.mk ([114,101,112,108,105,99,97],3,0,3,()) [],Tre.mk ([108,101,118,101,108],1,2,3,()) [],Tre.mk ([116,111,112,105,99,115],9,0,3,()) [Tre.mk ([116,111,112,105,99],10,0,3,()) [Tre.mk ([110,97,109,101],5,0,3,()) [],Tre.mk ([112,97,114,116,115],9,0,3,()) [Tre.mk ([112,97,114,116],10,0,3,()) [Tre.mk ([105,110,100,101,120],3,0,3,()) [],Tre.mk ([101,112,111,99,104],3,3,3,()) [],Tre.mk ([116,105,109,101],4,0,3,()) [],Tre.mk ([109,111,115,116],3,0,0,()) []]]]]],0,()),())) else bif a0 == 2 then some (Out.ret (([Tre.mk ([116,104,114,111,116,116,108,101],3,2,3,()) [],Tre.mk ([116,111,112,105,99,115],9,0,3,()) [Tre.mk ([116,111,112,105,99],10,0,3,()) [Tre.mk ([110,97,109,101],5,0,3,()) [],Tre.mk ([112,97,114,116,115],9,0,3,()) [Tre.mk ([112,97,114,116],10,0,3,()) [Tre.mk ([105,110,100,101,120],3,0,3,()) [],Tre.mk ([99,111,100,101],2,0,3,()) [],Tre.mk ([111,102,102,115,101,116,115],9,0,0,()) [Tre.mk ([111,102,102,115,101,116],4,0,0,()) []],Tre.mk ([116,105,109,101],4,1,3,()) [],Tre.mk ([111,102,102,115,101,116],4,1,3,()) [],Tre.mk ([101,112,111,99,104],3,3,3,()) []]]]]],0,()),())) else some (Out.ret (([],160,()),())) else bif a0 == 2 then some (Out.ret (([Tre.mk ([116,104,114,111,116,116,108,101],3,2,3,()) [],Tre.mk ([116,111,112,105,99,115],9,0,3,()) [Tre.mk ([116,111,112,105,99],10,0,3,()) [Tre.mk ([110,97,109,101],5,0,3,()) [],Tre.mk ([112,97,114,116,115],9,0,3,()) [Tre.mk ([112,97,114,116],10,0,3,()) [Tre.mk ([105,110,100,101,120],3,0,3,()) [],Tre.mk ([99,111,100,101],2,0,3,()) [],Tre.mk ([111,102,102,115,101,116,115],9,0,0,()) [Tre.mk ([111,102,102,115,101,116],4,0,0,()) []],Tre.mk ([116,105,109,101],4,1,3,()) [],Tre.mk ([111,102,102,115,101,116],4,1,3,()) [],Tre.mk ([101,112,111,99,104],3,3,3,()) []]]]]],0,()),())) else some (Out.ret (([],160,()),())) else bif a0 == 0 then some (Out.ret (([Tre.mk ([116,111,112,105,99,115],9,0,3,()) [Tre.mk ([116,111,112,105,99],10,0,3,()) [Tre.mk ([110,97,109,101],5,0,3,()) [],Tre.mk ([112,97,114,116,115],9,0,3,()) [Tre.mk ([112,97,114,116],10,0,3,()) [Tre.mk ([105,110,100,101,120],3,0,3,()) [],Tre.mk ([99,111,100,101],2,0,3,()) [],Tre.mk ([98,97,115,101],4,0,3,()) [],Tre.mk ([116,105,109,101],4,2,3,()) [],Tre.mk ([115,116,97,114,116],4,3,3,()) []]]]],Tre.mk ([116,104,114,111,116,116,108,101],3,1,3,()) []],0,()),())) else bif a0 == 1 then bif !a1 then some (Out.ret (([Tre.mk ([114,101,112,108,105,99,97],3,0,3,()) [],Tre.mk ([119,97,105,116],3,0,3,()) [],Tre.mk ([109,105,110],3,0,3,()) [],Tre.mk ([109,97,120],3,1,3,()) [],Tre.mk ([108,101,118,101,108],1,2,3,()) [],Tre.mk ([116,111,112,105,99,115],9,0,3,()) [Tre.mk ([116,111,112,105,99],10,0,3,()) [Tre.mk ([110,97,109,101],5,0,3,()) [],Tre.mk ([112,97,114,116,115],9,0,3,()) [Tre.mk ([112,97,114,116],10,0,3,()) [Tre.mk ([105,110,100,101,120],3,0,3,()) [],Tre.mk ([101,112,111,99,104],3,3,3,()) [],Tre.mk ([111,102,102,115,101,116],4,0,3,()) [],Tre.mk ([109,97,120],3,0,3,()) []]]]]],0,()),())) else bif a0 == 1 then some (Out.ret (([Tre.mk ([116,104,114,111,116,116,108,101],3,1,3,()) [],Tre.mk ([116,111,112,105,99,115],9,0,3,()) [Tre.mk ([116,111,112,105,99],10,0,3,()) [Tre.mk ([110,97,109,101],5,0,3,()) [],Tre.mk ([112,97,114,116,115],9,0,3,()) [Tre.mk ([112,97,114,116],10,0,3,()) [Tre.mk ([105,110,100,101,120],3,0,3,()) [],Tre.mk ([99,111,100,101],2,0,3,()) [],Tre.mk ([104,105,103,104],4,0,3,()) [],Tre.mk ([115,116,97,98,108,101],4,2,3,()) [],Tre.mk ([115,116,97,114,116],4,3,3,()) [],Tre.mk ([114,101,99,115],8,0,3,()) []]]]]],0,()),())) else bif a0 == 2 then bif !a1 then some (Out.ret (([Tre.mk ([114,101,112,108,105,99,97],3,0,3,()) [],Tre.mk ([108,101,118,101,108],1,2,3,()) [],Tre.mk ([116,111,112,105,99,115],9,0,3,()) [Tre.mk ([116,111,112,105,99],10,0,3,()) [Tre.mk ([110,97,109,101],5,0,3,()) [],Tre.mk ([112,97,114,116,115],9,0,3,()) [Tre.mk ([112,97,114,116],10,0,3,()) [Tre.mk ([105,110,100,101,120],3,0,3,()) [],Tre.mk ([101,112,111,99,104],3,3,3,()) [],Tre.mk ([116,105,109,101],4,0,3,()) [],Tre.mk ([109,111,115,116],3,0,0,()) []]]]]],0,()),())) else bif a0 == 2 then some (Out.ret (([Tre.mk ([116,104,114,111,116,116,108,101],3,2,3,()) [],Tre.mk ([116,111,112,105,99,115],9,0,3,()) [Tre.mk ([116,111,112,105,99],10,0,3,()) [Tre.mk ([110,97,109,101],5,0,3,()) [],Tre.mk ([112,97,114,116,115],9,0,3,()) [Tre.mk ([112,97,114,116],10,0,3,()) [Tre.mk ([105,110,100,101,120],3,0,3,()) [],Tre.mk ([99,111,100,101],2,0,3,()) [],Tre.mk ([111,102,102,115,101,116,115],9,0,0,()) [Tre.mk ([111,102,102,115,101,116],4,0,0,()) []],Tre.mk ([116,105,109,101],4,1,3,()) [],Tre.mk ([111,102,102,115,101,116],4,1,3,()) [],Tre.mk ([101,112,111,99,104],3,3,3,()) []]]]]],0,()),())) else some (Out.ret (([],160,()),())) else bif a0 == 2 then some (Out.ret (([Tre.mk ([116,104,114,111,116,116,108,101],3,2,3,()) [],Tre.mk ([116,111,112,105,99,115],9,0,3,()) [Tre.mk ([116,111,112,105,99],10,0,3,()) [Tre.mk ([110,97,109,101],5,0,3,()) [],Tre.mk ([112,97,114,116,115],9,0,3,()) [Tre.mk ([112,97,114,116],10,0,3,()) [Tre.mk ([105,110,100,101,120],3,0,3,()) [],Tre.mk ([99,111,100,101],2,0,3,()) [],Tre.mk ([111,102,102,115,101,116,115],9,0,0,()) [Tre.mk ([111,102,102,115,101,116],4,0,0,()) []],Tre.mk ([116,105,109,101],4,1,3,()) [],Tre.mk ([111,102,102,115,101,116],4,1,3,()) [],Tre.mk ([101,112,111,99,104],3,3,3,()) []]]]]],0,()),())) else some (Out.ret (([],160,()),())) else bif a0 == 1 then some (Out.ret (([Tre.mk ([116,104,114,111,116,116,108,101],3,1,3,()) [],Tre.mk ([116,111,112,105,99,115],9,0,3,()) [Tre.mk ([116,111,112,105,99],10,0,3,()) [Tre.mk ([110,97,109,101],5,0,3,()) [],Tre.mk ([112,97,114,116,115],9,0,3,()) [Tre.mk ([112,97,114,116],10,0,3,()) [Tre.mk ([105,110,100,101,120],3,0,3,()) [],Tre.mk ([99,111,100,101],2,0,3,()) [],Tre.mk ([104,105,103,104],4,0,3,()) [],Tre.mk ([115,116,97,98,108,101],4,2,3,()) [],Tre.mk ([115,116,97,114,116],4,3,3,()) [],Tre.mk ([114,101,99,115],8,0,3,()) []]]]]],0,()),())) else bif a0 == 2 then bif !a1 then some (Out.ret (([Tre.mk ([114,101,112,108,105,99,97],3,0,3,()) [],Tre.mk ([108,101,118,101,108],1,2,3,()) [],Tre.mk ([116,111,112,105,99,115],9,0,3,()) [Tre.mk ([116,111,112,105,99],10,0,3,()) [Tre.mk ([110,97,109,101],5,0,3,()) [],Tre.mk ([112,97,114,116,115],9,0,3,()) [Tre.mk ([112,97,114,116],10,0,3,()) [Tre.mk ([105,110,100,101,120],3,0,3,()) [],Tre.mk ([101,112,111,99,104],3,3,3,()) [],Tre.mk ([116,105,109,101],4,0,3,()) [],Tre.mk ([109,111,115,116],3,0,0,()) []]]]]],0,()),())) else bif a0 == 2 then some (Out.ret (([Tre.mk ([116,104,114,111,116,116,108,101],3,2,3,()) [],Tre.mk ([116,111,112,105,99,115],9,0,3,()) [Tre.mk ([116,111,112,105,99],10,0,3,()) [Tre.mk ([110,97,109,101],5,0,3,()) [],Tre.mk ([112,97,114,116,115],9,0,3,()) [Tre.mk ([112,97,114,116],10,0,3,()) [Tre.mk ([105,110,100,101,120],3,0,3,()) [],Tre.mk ([99,111,100,101],2,0,3,()) [],Tre.mk ([111,102,102,115,101,116,115],9,0,0,()) [Tre.mk ([111,102,102,115,101,116],4,0,0,()) []],Tre.mk ([116,105,109,101],4,1,3,()) [],Tre.mk ([111,102,102,115,101,116],4,1,3,()) [],Tre.mk ([101,112,111,99,104],3,3,3,()) []]]]]],0,()),())) else some (Out.ret (([],160,()),())) else bif a0 == 2 then some (Out.ret (([Tre.mk ([116,104,114,111,116,116,108,101],3,2,3,()) [],Tre.mk ([116,111,112,105,99,115],9,0,3,()) [Tre.mk ([116,111,112,105,99],10,0,3,()) [Tre.mk ([110,97,109,101],5,0,3,()) [],Tre.mk ([112,97,114,116,115],9,0,3,()) [Tre.mk ([112,97,114,116],10,0,3,()) [Tre.mk ([105,110,100,101,120],3,0,3,()) [],Tre.mk ([99,111,100,101],2,0,3,()) [],Tre.mk ([111,102,102,115,101,116,115],9,0,0,()) [Tre.mk ([111,102,102,115,101,116],4,0,0,()) []],Tre.mk ([116,105,109,101],4,1,3,()) [],Tre.mk ([111,102,102,115,101,116],4,1,3,()) [],Tre.mk ([101,112,111,99,104],3,3,3,()) []]]]]],0,()),())) else some (Out.ret (([],160,()),()))
theorem ME (a0:Int)(a1:Bool):Io.run tt Qc dr Ee jA Tryz.f89 ((a0,a1,()),())=xc a0 a1:=by kernel_rfl
theorem QK:HcOk prog 89 (ah jA ze):=by
 refine aj (n:=400) hm (cs:=DL) (.cons Pn (.cons Mf .nil)) (lp:=Ee) (fn:=Tryz.f89) (by kernel_rfl) (by kernel_rfl) (by kernel_rfl) jA (.done (by kernel_rfl)) ze ?_
 rintro ⟨⟨(k:Int),(r:Bool),⟨⟩⟩,⟨⟩⟩ out hw ho
 cases ho
 refine (ME k r).trans ?_
 unfold xc
 show _=some (Out.ret (((eQ k r).1,((eQ k r).2,())),()))
 unfold eQ
 by_cases h0:k=0
 ·subst h0
  cases r <;> rfl
 by_cases h1:k=1
 ·subst h1
  cases r <;> rfl
 by_cases h2:k=2
 ·subst h2
  cases r <;> rfl
 rw[if_neg h0,if_neg h1,if_neg h2]
 simp only[beq_eq_false_iff_ne.2 h0,beq_eq_false_iff_ne.2 h1,beq_eq_false_iff_ne.2 h2]
 cases r <;> rfl
theorem WY (k:Int)(r:Bool):(eQ k r).2=0→dM (Tre.mk (([]:List Int),((10:Int),((0:Int),((0:Int),())))) (eQ k r).1)=true:=by
 unfold eQ
 intro h
 by_cases h0:k=0
 ·subst h0
  cases r <;> (unfold dM;rfl)
 by_cases h1:k=1
 ·subst h1
  cases r <;> (unfold dM;rfl)
 by_cases h2:k=2
 ·subst h2
  cases r <;> (unfold dM;rfl)
 rw[if_neg h0,if_neg h1,if_neg h2] at h
 cases h
theorem cG:aI []=0:=by unfold aI;rfl
theorem rC (v:Int)(l:List Nd):bF v [] l=([],true):=by rw[bF];simp
theorem RS (v:Int)(fs:List Fd):bF v fs []=([],true):=by rw[bF];simp
theorem WO (v:Int):∀(N:Nat) (f:Fd) (n:Nd),aP n≤N→aP (ba f v n).1≤aP n:=by
 intro N
 induction N with
 |zero=>intro f n h;have:=nH n;omega
 |succ N ih=>
  rintro f ⟨a,ks⟩ h
  rw[cC] at h
  rw[ba]
  have hi:∀(f:Fd) (l:List Nd),(∀k∈l,aP k≤N)→aI (bX f v l).1≤aI l:=by
   intro f l
   induction l with
   |nil=>intro _;rw[bX];exact Nat.le_refl _
   |cons k l ihl=>
    intro hk
    rw[bX,aM,aM]
    have:=ih f k (hk k (by simp))
    have:=ihl fun k' hk'=>hk k' (List.mem_cons_of_mem _ hk')
    omega
  have hz:∀(l:List Nd) (fs:List Fd),(∀k∈l,aP k≤N)→aI (bF v fs l).1≤aI l:=by
   intro l
   induction l with
   |nil=>intro fs _;rw[RS];exact Nat.le_refl _
   |cons k l ihl=>
    intro fs hk
    cases fs with
    |nil=>rw[rC];show aI []≤_;rw[cG];exact Nat.zero_le _
    |cons f fs=>
     rw[bF,aM]
     have h1:=ih f k (hk k (by simp))
     have h2:=ihl fs fun k' hk'=>hk k' (List.mem_cons_of_mem _ hk')
     split
     ·rw[aM];omega
     ·show aI (bF v fs l).1≤_;omega
  have hks:∀k∈ks,aP k≤N:=fun k hk=>by have:=cY hk;simp only at h;omega
  split
  ·rw[cC,cC]
   have:=hi (f.kids.headD f) ks hks
   simp only[List.length_nil];omega
  split
  ·rw[cC,cC]
   have:=hz ks f.kids hks
   simp only[List.length_nil];omega
  ·exact Nat.le_refl _
abbrev sK:Io:=⟨[K1,dB,dI,cQ],[],[],[dL,dI],none⟩
def fT (k:Int)(r:Bool)(v:Int)(n:Nd):List Int×Int:=if (eQ k r).2≠0 then ([],(eQ k r).2) else if v<0∨3<v then ([],8) else
 if (ba (Tre.mk (([]:List Int),((10:Int),((0:Int),((0:Int),())))) (eQ k r).1) v n).2=false then ([],7) else rX (eQ k r).1 v (ba (Tre.mk (([]:List Int),((10:Int),((0:Int),((0:Int),())))) (eQ k r).1) v n).1
def SL (d:sK.In):Tr sK.Res:=.ite (decide (8*aP d.1.2.2.2.1≤4294967296)) (.ret (.ret (((fT d.1.1 d.1.2.1 d.1.2.2.1 d.1.2.2.2.1).1,((fT d.1.1 d.1.2.1 d.1.2.2.1 d.1.2.2.2.1).2,())),()))) .no
abbrev TH:List (Nat×Hc):=[(89,ah jA ze),(90,ah jB ZU),(91,ah jC zg)]
def aa8:Hd:=bA TH
def U1:Lp:=bv []
def HX (a0:Int)(a1:Bool)(a2:Int)(a3:Nd):Option sK.Res:=bif (eQ a0 a1).2 != 0 then some (Out.ret (([],(eQ a0 a1).2,()),())) else bif decide (a2<0) then some (Out.ret (([],8,()),())) else bif decide (3<a2) then some (Out.ret (([],8,()),())) else bif dM (Tre.mk ([],10,0,0,()) (eQ a0 a1).1)&&decide (aP (Tre.mk a3.1 a3.2)≤4294967296) then bif !(ba (Tre.mk ([],10,0,0,()) (eQ a0 a1).1) a2 (Tre.mk a3.1 a3.2)).2 then some (Out.ret (([],7,()),())) else bif decide (8*aP (Tre.mk (ba (Tre.mk ([],10,0,0,()) (eQ a0 a1).1) a2 (Tre.mk a3.1 a3.2)).1.1 (ba (Tre.mk ([],10,0,0,()) (eQ a0 a1).1) a2 (Tre.mk a3.1 a3.2)).1.2)≤4294967296) then some (Out.ret (((rX (eQ a0 a1).1 a2 (Tre.mk (ba (Tre.mk ([],10,0,0,()) (eQ a0 a1).1) a2 (Tre.mk a3.1 a3.2)).1.1 (ba (Tre.mk ([],10,0,0,()) (eQ a0 a1).1) a2 (Tre.mk a3.1 a3.2)).1.2)).1,(rX (eQ a0 a1).1 a2 (Tre.mk (ba (Tre.mk ([],10,0,0,()) (eQ a0 a1).1) a2 (Tre.mk a3.1 a3.2)).1.1 (ba (Tre.mk ([],10,0,0,()) (eQ a0 a1).1) a2 (Tre.mk a3.1 a3.2)).1.2)).2,()),())) else none else none
theorem Zj (a0:Int)(a1:Bool)(a2:Int)(a3:Nd):Io.run tt aa8 dr U1 sK Tryz.f37 ((a0,a1,a2,a3,()),())=HX a0 a1 a2 a3:=by kernel_rfl
theorem VB:HcOk prog 37 (ah sK SL):=by
 refine aj (n:=400) hm (cs:=TH) (.cons QK (.cons abl (.cons QL .nil))) (lp:=U1) (fn:=Tryz.f37) (by kernel_rfl) (by kernel_rfl) (by kernel_rfl) sK (.done (by kernel_rfl)) SL ?_
 rintro ⟨⟨(k:Int),(r:Bool),(v:Int),(n:Nd),⟨⟩⟩,⟨⟩⟩ out hw ho
 obtain ⟨hg,ho⟩:=Tr.guard ho
 have hb:8*aP n≤4294967296:=of_decide_eq_true hg
 cases ho
 refine (Zj k r v n).trans ?_
 unfold HX
 show _=some (Out.ret (((fT k r v n).1,((fT k r v n).2,())),()))
 unfold fT
 have hok:=WY k r
 generalize eQ k r=t at hok ⊢
 obtain ⟨tb,te⟩:=t
 have hok:te=0→dM (Tre.mk (([]:List Int),((10:Int),((0:Int),((0:Int),())))) tb)=true:=hok
 by_cases h1:te=0
 ·rw[if_neg (by simpa using h1)]
  refine (ab (by simpa using h1) _ _).trans ?_
  by_cases h2:v<0
  ·rw[if_pos (.inl h2)]
   exact aa (decide_eq_true h2) _ _
  refine (ab (decide_eq_false h2) _ _).trans ?_
  by_cases h3:3<v
  ·rw[if_pos (.inr h3)]
   exact aa (decide_eq_true h3) _ _
  refine (ab (decide_eq_false h3) _ _).trans ?_
  rw[if_neg (by omega)]
  obtain ⟨nl,nk⟩:=n
  refine (aa (show (dM (Tre.mk (([]:List Int),((10:Int),((0:Int),((0:Int),())))) tb)&&decide (aP (Tre.mk nl nk)≤4294967296))=true by rw[hok h1];simp;omega) _ _).trans ?_
  have hcw:=WO v _ (Tre.mk (([]:List Int),((10:Int),((0:Int),((0:Int),())))) tb) (Tre.mk nl nk) (Nat.le_refl _)
  show (bif !(ba (Tre.mk (([]:List Int),((10:Int),((0:Int),((0:Int),())))) tb) v (Tre.mk nl nk)).2 then _ else _)=_
  by_cases h4:(ba (Tre.mk (([]:List Int),((10:Int),((0:Int),((0:Int),())))) tb) v (Tre.mk nl nk)).2=false
  ·rw[if_pos h4]
   exact aa (by rw[h4];rfl) _ _
  ·rw[if_neg h4]
   refine (ab (by simpa using h4) _ _).trans ?_
   generalize (ba (Tre.mk (([]:List Int),((10:Int),((0:Int),((0:Int),())))) tb) v (Tre.mk nl nk)).1=c at hcw ⊢
   obtain ⟨cl,ck⟩:=c
   exact aa (decide_eq_true (show 8*aP (Tre.mk cl ck)≤4294967296 by omega)) _ _
 ·rw[if_pos h1]
  exact aa (by simpa using h1) _ _
abbrev ga:Ty:=.prod (.int .i32) (.prod (.int .i16) (.prod (.int .i64) (.prod (.int .i64) (.prod (.int .i64) .unit))))
abbrev aV:Ty:=.prod .str (.prod (.sl 214 ga) .unit)
abbrev Hh:Ty:=.prod (.sl 212 aV) (.prod (.int .i32) .unit)
def cV (v lo hi x:Int)(n:Nat)(s:bc):bc:=if lo≤v∧v≤hi then ac x n s else s
theorem kZ {s:bc}(v lo hi x:Int)(n:Nat)(h:s.2.2.length≤130048):(cV v lo hi x n s).2.2.length≤130048:=by
 unfold cV
 split
 ·exact aE _ _ h
 ·exact h
def Sx (st cf:Nat)(T:Ty)(sps:Int→List T.den→bc→bc)(d:(hC st cf T).In):Tr (hC st cf T).Res:=.ite (mW d.2) (.ret (.ret ((),gZ d.2.1.2.1 (sps d.2.1.2.1 d.1.2.1 (mX d.2))))) .no
def gW (st cf:Nat)(T:Ty)(one:Int→T.den→bc→bc)(d:(bd st cf T).st.den):Tr (aD (bd st cf T).xs):=
 .ite (decide (d.1.2.2.1=0)&&(decide (d.1.2.1=(d.1.1.length:Int))&&(decide (d.2.2.1.2.1=130048)&&decide (d.2.2.1.1.length≤130048)))) (.ret (.ret ((),((),qW d.2.1.1 (d.1.1.foldl (fun s x=>one d.2.1.1 x s) (d.2.1.2.1,(d.2.1.2.2.1,d.2.2.1.1))))))) .no
def wN (st cf:Nat)(T:Ty)(one:Int→T.den→bc→bc){R:Type}(h6:List T.den)(h7 h8 h9 h10:Int)(h11:Bool)(h12:List Int)(h13:Int)(next:List T.den→Int→Int→Int→Int→Bool→List Int→Int→Option R)(out:aD (bd st cf T).xs→Option R):Option R:=bif decide (h8<h7) then bif decide (0≤h8)&&decide (h8<(h6.length:Int)) then bif decide (h13=130048)&&decide (h12.length≤130048) then next (h6) (h7) (IntKind.i64.wrap (h8+1)) (h9) ((one h9 (h6.getD h8.toNat T.zero) (h10,h11,h12)).1) ((one h9 (h6.getD h8.toNat T.zero) (h10,h11,h12)).2.1) ((one h9 (h6.getD h8.toNat T.zero) (h10,h11,h12)).2.2) (130048) else none else none else out (.ret ((),((),((h9,(h10,(h11,()))),((h12,(h13,())),((),()))))))
theorem Ql {st cf:Nat}{T:Ty}{one:Int→T.den→bc→bc}(hle:∀v x s,s.2.2.length≤130048→(one v x s).2.2.length≤130048)
  (it:Nat→List T.den→Int→Int→Int→Int→Bool→List Int→Int→Option (aD (bd st cf T).xs)) (hit:∀n h6 h7 h8 h9 h10 h11 h12 h13,it (n+1) h6 h7 h8 h9 h10 h11 h12 h13=wN st cf T one h6 h7 h8 h9 h10 h11 h12 h13 (it n) some)
  {xs:List T.den} (v:Int) (hl:xs.length≤maxLen):∀(k i:Nat) (s:bc),xs.length<i+k→i≤xs.length→s.2.2.length≤130048→
  it k xs (xs.length:Int) i v s.1 s.2.1 s.2.2 130048=some (.ret ((),((),qW v ((xs.drop i).foldl (fun s x=>one v x s) s)))):=by
 intro k
 induction k with
 |zero=>intro i s h;omega
 |succ k ih=>
  intro i s h1 h2 h3
  rw[hit]
  unfold wN
  by_cases hi:i<xs.length
  ·refine (aa (decide_eq_true (show (i:Int)<(xs.length:Int) by omega)) _ _).trans ?_
   refine (aa (by simpa using hi) _ _).trans ?_
   simp only[Int.toNat_natCast,aH hi,bp hi hl]
   have g:(decide ((130048:Int)=130048)&&decide (s.2.2.length≤130048))=true:=by
    simpa using h3
   refine (aa g _ _).trans ?_
   rw[List.drop_eq_getElem_cons hi]
   exact ih (i+1) (one v xs[i] s) (by omega) (by omega) (hle v _ s h3)
  ·refine (ab (by simp;omega) _ _).trans ?_
   rw[List.drop_of_length_le (by omega)]
   rfl
def CV (st cf:Nat)(T:Ty)(one:Int→T.den→bc→bc)(a0:List T.den)(a1 a2:Int)(a3:Bool)(a4:List Int)(a5:Int):Option (hC st cf T).Res:=bif decide (16<(a0.length:Int)) then bif decide (a5=130048)&&decide (a4.length≤130048) then some (Out.ret ((),((),a1,(bt 9 (a2,a3,a4)).1,(bt 9 (a2,a3,a4)).2.1,()),((bt 9 (a2,a3,a4)).2.2,130048,()),((),()),())) else none else bif decide (a5=130048)&&decide (a4.length≤130048) then (gW st cf T one ((a0,((a0.length:Int),(0,()))),((a1,((ac (IntKind.i32.wrap (a0.length:Int)) 4 (a2,a3,a4)).1,((ac (IntKind.i32.wrap (a0.length:Int)) 4 (a2,a3,a4)).2.1,()))),(((ac (IntKind.i32.wrap (a0.length:Int)) 4 (a2,a3,a4)).2.2,(130048,())),((),()))))).run fun y=>match y with | .ret ((),((),(x27,x28,x29,()),(x30,x31,()),(),()))=>(some (Out.ret ((),((),x27,x28,x29,()),(x30,x31,()),((),()),()))) else none
theorem q9 {st cf f:Nat}{T:Ty}{sps:Int→List T.den→bc→bc}{one:Int→T.den→bc→bc}(hs:∀v xs s,sps v xs s=br (one v) xs s)(hle:∀v x s,s.2.2.length≤130048→(one v x s).2.2.length≤130048)
  {cs:List (Nat×Hc)} (hcs:HcsOk prog cs) {fn:Func} (hf:prog.funcs[f]?=some fn) (hname:(fn.name == "runtime.NumGoroutine")=false) (hbody:fn.body.isNone=false)
  (hlp:bv [(5,aN (bd st cf T) (gW st cf T one))] (dP ((dT fn).getD 0 kd).2.1)=some (aN (bd st cf T) (gW st cf T one))) (h1:Nat.ble (Ss fn ((dT fn).getD 0 kd)).length 0=true) (h2:Nat.ble (dT fn).length (0+1)=true)
  (hit:∀(n:Nat) (h6:List T.den) (h7 h8 h9 h10:Int) (h11:Bool) (h12:List Int) (h13:Int),gd tt (bA cs) dr (bv [(5,aN (bd st cf T) (gW st cf T one))]) 3 fn ((dT fn).getD 0 kd) (n+1) ((bd st cf T).st.mk' ((h6,(h7,(h8,()))),((h9,(h10,(h11,()))),((h12,(h13,())),((),()))))) (bL (bd st cf T).xs)=
   wN st cf T one h6 h7 h8 h9 h10 h11 h12 h13 (fun h6 h7 h8 h9 h10 h11 h12 h13=>gd tt (bA cs) dr (bv [(5,aN (bd st cf T) (gW st cf T one))]) 3 fn ((dT fn).getD 0 kd) n ((bd st cf T).st.mk' ((h6,(h7,(h8,()))),((h9,(h10,(h11,()))),((h12,(h13,())),((),()))))) (bL (bd st cf T).xs)) some)
  (hrun:∀(a0:List T.den) (a1 a2:Int) (a3:Bool) (a4:List Int) (a5:Int),Io.run tt (bA cs) dr (bv [(5,aN (bd st cf T) (gW st cf T one))]) (hC st cf T) fn (((),a0,(),()),((),a1,a2,a3,()),(a4,a5,()),((),()),())=CV st cf T one a0 a1 a2 a3 a4 a5):
  HcOk prog f (ah (hC st cf T) (Sx st cf T sps)):=by
 refine aj (n:=400) hm (cs:=cs) hcs (lp:=bv [(5,aN (bd st cf T) (gW st cf T one))]) (fn:=fn) hf hname hbody (hC st cf T) (.step (h0:=aN (bd st cf T) (gW st cf T one)) hlp (aw (n:=400) hm (cs:=cs) hcs (lp:=bv [(5,aN (bd st cf T) (gW st cf T one))]) (fn:=fn) (.done h1) (bd st cf T) (gW st cf T one) ?_) (.done h2)) (Sx st cf T sps) ?_
 ·rintro ⟨⟨(xs:List T.den),(n:Int),(i:Int),⟨⟩⟩,⟨⟨(v:Int),(e:Int),(f:Bool),⟨⟩⟩,⟨(b:List Int),(m:Int),⟨⟩⟩,⟨⟨⟩,⟨⟩⟩⟩⟩ y hw hy
  obtain ⟨hg,hy⟩:=Tr.guard hy
  simp only[Bool.and_eq_true,decide_eq_true_eq] at hg
  obtain ⟨rfl,rfl,rfl,h4⟩:=hg
  have h4:b.length≤130048:=h4
  have hl:xs.length≤maxLen:=hw.1.1.1
  refine ⟨xs.length+1,(Ql (st:=st) (cf:=cf) hle (fun n h6 h7 h8 h9 h10 h11 h12 h13=>gd tt (bA cs) dr (bv [(5,aN (bd st cf T) (gW st cf T one))]) 3 fn ((dT fn).getD 0 kd) n ((bd st cf T).st.mk' ((h6,(h7,(h8,()))),((h9,(h10,(h11,()))),((h12,(h13,())),((),()))))) (bL (bd st cf T).xs)) hit v hl (xs.length+1) 0 (e,(f,b)) (by omega) (by omega) h4).trans ?_⟩
  rw[← hy];rfl
 ·rintro ⟨⟨⟨⟩,(xs:List T.den),⟨⟩,⟨⟩⟩,⟨⟨⟩,(v:Int),(e:Int),(f:Bool),⟨⟩⟩,⟨(b:List Int),(m:Int),⟨⟩⟩,⟨⟨⟩,⟨⟩⟩,⟨⟩⟩ out hw ho
  obtain ⟨hg,ho⟩:=Tr.guard ho
  obtain ⟨rfl,hb⟩:=bx (v:=v) (e:=e) (f:=f) hg
  cases ho
  refine (hrun xs v e f b 130048).trans ?_
  unfold CV
  have g:(decide ((130048:Int)=130048)&&decide (b.length≤130048))=true:=by simpa using hb
  show _=some (Out.ret ((),gZ v (sps v xs (e,f,b))))
  rw[hs]
  unfold br
  by_cases h:16<(xs.length:Int)
  ·rw[if_pos h]
   refine (aa (decide_eq_true h) _ _).trans ?_
   exact aa g _ _
  ·rw[if_neg h]
   refine (ab (decide_eq_false h) _ _).trans ?_
   refine (aa g _ _).trans ?_
   have hw32:IntKind.i32.wrap (xs.length:Int)=xs.length:=dd (by simp[ey,IntKind.min,IntKind.max,IntKind.signed,IntKind.bits];omega)
   rw[hw32]
   have c1:(decide ((0:Int)=0)&&(decide ((xs.length:Int)=(xs.length:Int))&&(decide ((130048:Int)=130048)&&decide ((ac xs.length 4 (e,f,b)).2.2.length≤130048))))=true:=by
    simpa using aE (s:=(e,f,b)) _ 4 hb
   have e1:gW st cf T one ((xs,((xs.length:Int),(0,()))),((v,((ac xs.length 4 (e,f,b)).1,((ac xs.length 4 (e,f,b)).2.1,()))),(((ac xs.length 4 (e,f,b)).2.2,(130048,())),((),()))))=
     .ite true (.ret (.ret ((),((),qW v (xs.foldl (fun s x=>one v x s) (ac xs.length 4 (e,f,b))))))) .no:=congrArg (fun c=>Tr.ite c _ _) c1
   rw[e1]
   rfl
def Zz (v:Int)(p:ga.den)(s:bc):bc:=ar v (p.2.2.2.2.1 == 0) 3 3 (ar v (p.2.2.2.1 == 0) 2 3 s)
def Kx (v:Int)(ps:List ga.den)(s:bc):bc:=ps.foldl (fun s p=>Zz v p s) s
def ZA (v:Int)(ts:List aV.den)(s:bc):bc:=ts.foldl (fun s t=>Kx v t.2.1 s) s
abbrev I9:Lo:=⟨⟨(.any::bh (.one (.ptr 3 0)::bh (.one (.ptr 6 0)::dR (bQ (.one (.hol (.sl 212 (Ty.str.prod ((Ty.sl 214 ((Ty.int IntKind.i32).prod ((Ty.int IntKind.i16).prod ((Ty.int IntKind.i64).prod ((Ty.int IntKind.i64).prod ((Ty.int IntKind.i64).prod Ty.unit)))))).prod Ty.unit))))::.one (.hol (.int IntKind.i64))::.one (.hol (.int IntKind.i64))::bQ (.one (.hol (.sl 214 ((Ty.int IntKind.i32).prod ((Ty.int IntKind.i16).prod ((Ty.int IntKind.i64).prod ((Ty.int IntKind.i64).prod ((Ty.int IntKind.i64).prod Ty.unit)))))))::.one (.hol (.int IntKind.i64))::.one (.hol (.int IntKind.i64))::ai (dR (bQ (bh []))))))))),[none,none,none,some [.hol (.sl 212 (Ty.str.prod ((Ty.sl 214 ((Ty.int IntKind.i32).prod ((Ty.int IntKind.i16).prod ((Ty.int IntKind.i64).prod ((Ty.int IntKind.i64).prod ((Ty.int IntKind.i64).prod Ty.unit)))))).prod Ty.unit))),.hol (.int IntKind.i32)],none,none,some [.ptr 12 0],none,none,none,none,none,some [.ptr 13 0,.hol (.int IntKind.i64),.hol (.int IntKind.i64),.hol .bool],some [.onl 5 (Ty.int IntKind.u8) 6658,.hol (.int IntKind.i64)]]⟩,[(.exit 2,⟨(.any::bh (.one (.ptr 3 0)::bh (.one (.ptr 6 0)::dR (bQ (.one (.hol (.sl 212 (Ty.str.prod ((Ty.sl 214 ((Ty.int IntKind.i32).prod ((Ty.int IntKind.i16).prod ((Ty.int IntKind.i64).prod ((Ty.int IntKind.i64).prod ((Ty.int IntKind.i64).prod Ty.unit)))))).prod Ty.unit))))::.one (.hol (.int IntKind.i64))::.one (.hol (.int IntKind.i64))::.any::ai (ai (bQ []))))))),[none,none,none,some [.hol (.sl 212 (Ty.str.prod ((Ty.sl 214 ((Ty.int IntKind.i32).prod ((Ty.int IntKind.i16).prod ((Ty.int IntKind.i64).prod ((Ty.int IntKind.i64).prod ((Ty.int IntKind.i64).prod Ty.unit)))))).prod Ty.unit))),.hol (.int IntKind.i32)],none,none,some [.ptr 12 0],none,none,none,none,none,some [.ptr 13 0,.hol (.int IntKind.i64),.hol (.int IntKind.i64),.hol .bool],some [.onl 5 (Ty.int IntKind.u8) 6658,.hol (.int IntKind.i64)]]⟩)]⟩
abbrev I8:Lo:=⟨⟨(.any::bh (.one (.ptr 3 0)::bh (.one (.ptr 6 0)::dR (bQ (.one (.hol (.sl 212 (Ty.str.prod ((Ty.sl 214 ((Ty.int IntKind.i32).prod ((Ty.int IntKind.i16).prod ((Ty.int IntKind.i64).prod ((Ty.int IntKind.i64).prod ((Ty.int IntKind.i64).prod Ty.unit)))))).prod Ty.unit))))::.one (.hol (.int IntKind.i64))::.one (.hol (.int IntKind.i64))::.any::ai (ai (bQ []))))))),[none,none,none,some [.hol (.sl 212 (Ty.str.prod ((Ty.sl 214 ((Ty.int IntKind.i32).prod ((Ty.int IntKind.i16).prod ((Ty.int IntKind.i64).prod ((Ty.int IntKind.i64).prod ((Ty.int IntKind.i64).prod Ty.unit)))))).prod Ty.unit))),.hol (.int IntKind.i32)],none,none,some [.ptr 12 0],none,none,none,none,none,some [.ptr 13 0,.hol (.int IntKind.i64),.hol (.int IntKind.i64),.hol .bool],some [.onl 5 (Ty.int IntKind.u8) 6658,.hol (.int IntKind.i64)]]⟩,[(.exit 0,⟨(.any::bh (.one (.ptr 3 0)::bh (.one (.ptr 6 0)::ai (ai (ai (bQ [])))))),[none,none,none,some [.hol (.sl 212 (Ty.str.prod ((Ty.sl 214 ((Ty.int IntKind.i32).prod ((Ty.int IntKind.i16).prod ((Ty.int IntKind.i64).prod ((Ty.int IntKind.i64).prod ((Ty.int IntKind.i64).prod Ty.unit)))))).prod Ty.unit))),.hol (.int IntKind.i32)],none,none,some [.ptr 12 0],none,none,none,none,none,some [.ptr 13 0,.hol (.int IntKind.i64),.hol (.int IntKind.i64),.hol .bool],some [.onl 5 (Ty.int IntKind.u8) 6658,.hol (.int IntKind.i64)]]⟩)]⟩
abbrev aaj (ts:List aV.den)(thr v:Int)(s:bc):(List aV.den×(Int×Unit))×(Unit×((Int×(Int×(Bool×Unit)))×((List Int×(Int×Unit))×Unit))):=((ts,(thr,())),((),((v,(s.1,(s.2.1,()))),((s.2.2,(130048,())),()))))
def acZ (d:I9.st.den):Tr (aD I9.xs):=
 .ite (decide (d.1.2.2.2.2.2.1=0)&&(decide (d.1.2.2.2.2.1=(d.1.2.2.2.1.length:Int))&&(decide (d.2.2.2.2.1.2.1=130048)&&decide (d.2.2.2.2.1.1.length≤130048)))) (.ret (.ret ((),((d.1.1,(d.1.2.1,(d.1.2.2.1,()))),aaj d.2.1.1 d.2.1.2.1 d.2.2.2.1.1 (Kx d.2.2.2.1.1 d.1.2.2.2.1 (d.2.2.2.1.2.1,(d.2.2.2.1.2.2.1,d.2.2.2.2.1.1))))))) .no
def acY (d:I8.st.den):Tr (aD I8.xs):=
 .ite (decide (d.1.2.2.1=0)&&(decide (d.1.2.1=(d.1.1.length:Int))&&(decide (d.2.2.2.2.1.2.1=130048)&&decide (d.2.2.2.2.1.1.length≤130048)))) (.ret (.ret ((),((),aaj d.2.1.1 d.2.1.2.1 d.2.2.2.1.1 (ZA d.2.2.2.1.1 d.1.1 (d.2.2.2.1.2.1,(d.2.2.2.1.2.2.1,d.2.2.2.2.1.1))))))) .no
def az (k:IntKind)(n:Nat)(v lo hi:Int)(b:List Int)(s:aQ):Int×aQ:=if bi v lo hi s.1=true then ae k n b s else (0,s)
theorem lJ {k:IntKind}{n:Nat}{v lo hi:Int}{b:List Int}{s:aQ}(h:av b s.2=true):av b (az k n v lo hi b s).2.2=true:=by
 unfold az
 split
 ·exact bJ _ _ h
 ·exact h
def Zx (b:List Int)(s:aQ):aQ:=(ae .i64 8 b (ae .i16 2 b (ae .i32 4 b s).2).2).2
@[irreducible] noncomputable def Px (v:Int)(b:List Int)(s:aQ):ga.den×aQ:=
 (((ae .i32 4 b s).1,((ae .i16 2 b (ae .i32 4 b s).2).1,((ae .i64 8 b (ae .i16 2 b (ae .i32 4 b s).2).2).1,((az .i64 8 v 2 3 b (Zx b s)).1,((az .i64 8 v 3 3 b (az .i64 8 v 2 3 b (Zx b s)).2).1,()))))),(az .i64 8 v 3 3 b (az .i64 8 v 2 3 b (Zx b s)).2).2)
end
end Go.Proofs.YtomeplopmndbgaaGreat.Sym
