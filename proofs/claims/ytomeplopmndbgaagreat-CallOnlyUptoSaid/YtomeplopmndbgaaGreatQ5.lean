/- produce.EncodeRep: what it writes. -/
import Derived.Test.YtomeplopmndbgaaGreatQ4

namespace Go.Proofs.YtomeplopmndbgaaGreat.Sym
open Go
set_option linter.unusedSimpArgs false
set_option linter.unusedVariables false
noncomputable section
abbrev cE:Ty:=.prod (.int .i32) (.prod (.int .i16) (.prod (.int .i64) (.prod (.int .i64) (.prod (.int .i64) .unit))))
abbrev aW:Ty:=.prod .str (.prod (.sl 214 cE) .unit)
abbrev tB:Ty:=.prod (.sl 212 aW) (.prod (.int .i32) .unit)
def bV (v lo hi x:Int)(n:Nat)(s:aV):aV:=if lo≤v∧v≤hi then ab x n s else s
def gf (v:Int)(p:cE.den)(s:aV):aV:=bV v 3 3 p.2.2.2.2.1 8 (bV v 2 3 p.2.2.2.1 8 (ab p.2.2.1 8 (ab p.2.1 2 (ab p.1 4 s))))
abbrev mR:Io:=⟨[.dat cE true false,.ptr 0 0],lI,[],[],none⟩
def GM (d:mR.In):Tr mR.Res:=.ite (dW d.2.2) (.ret (.ret ((),dw d.2.2.1.2.1 (gf d.2.2.1.2.1 d.1.1 (dX d.2.2))))) .no
abbrev Jl:List (Nat×Hc):=[(98,af cc dV),(97,af i9 tF),(111,af ja tG),(95,af e7 ly)]
def RX:Hd:=bR Jl
def JY:Lp:=bJ []
def zL (a0 a1 a2 a3 a4 a5 a6:Int)(a7:Bool)(a8:List Int)(a9:Int):Option mR.Res:=bif decide (a9=130048)&&decide (a8.length≤130048) then bif decide (130048=130048)&&decide ((ab a0 4 (a6,a7,a8)).2.2.length≤130048) then bif decide (130048=130048)&&decide ((ab a1 2 (ab a0 4 (a6,a7,a8))).2.2.length≤130048) then bif decide (130048=130048)&&decide ((ab a2 8 (ab a1 2 (ab a0 4 (a6,a7,a8)))).2.2.length≤130048) then bif decide (2≤a5)&&decide (a5≤3) then bif decide (130048=130048)&&decide ((ab a2 8 (ab a1 2 (ab a0 4 (a6,a7,a8)))).2.2.length≤130048) then bif decide (130048=130048)&&decide ((ab a3 8 (ab a2 8 (ab a1 2 (ab a0 4 (a6,a7,a8))))).2.2.length≤130048) then bif decide (3≤a5)&&decide (a5≤3) then bif decide (130048=130048)&&decide ((ab a3 8 (ab a2 8 (ab a1 2 (ab a0 4 (a6,a7,a8))))).2.2.length≤130048) then some (Out.ret ((),((),()),((),a5,(ab a4 8 (ab a3 8 (ab a2 8 (ab a1 2 (ab a0 4 (a6,a7,a8)))))).1,(ab a4 8 (ab a3 8 (ab a2 8 (ab a1 2 (ab a0 4 (a6,a7,a8)))))).2.1,()),((ab a4 8 (ab a3 8 (ab a2 8 (ab a1 2 (ab a0 4 (a6,a7,a8)))))).2.2,130048,()),())) else none else some (Out.ret ((),((),()),((),a5,(ab a3 8 (ab a2 8 (ab a1 2 (ab a0 4 (a6,a7,a8))))).1,(ab a3 8 (ab a2 8 (ab a1 2 (ab a0 4 (a6,a7,a8))))).2.1,()),((ab a3 8 (ab a2 8 (ab a1 2 (ab a0 4 (a6,a7,a8))))).2.2,130048,()),())) else none else none else bif decide (130048=130048)&&decide ((ab a2 8 (ab a1 2 (ab a0 4 (a6,a7,a8)))).2.2.length≤130048) then bif decide (3≤a5)&&decide (a5≤3) then bif decide (130048=130048)&&decide ((ab a2 8 (ab a1 2 (ab a0 4 (a6,a7,a8)))).2.2.length≤130048) then some (Out.ret ((),((),()),((),a5,(ab a4 8 (ab a2 8 (ab a1 2 (ab a0 4 (a6,a7,a8))))).1,(ab a4 8 (ab a2 8 (ab a1 2 (ab a0 4 (a6,a7,a8))))).2.1,()),((ab a4 8 (ab a2 8 (ab a1 2 (ab a0 4 (a6,a7,a8))))).2.2,130048,()),())) else none else some (Out.ret ((),((),()),((),a5,(ab a2 8 (ab a1 2 (ab a0 4 (a6,a7,a8)))).1,(ab a2 8 (ab a1 2 (ab a0 4 (a6,a7,a8)))).2.1,()),((ab a2 8 (ab a1 2 (ab a0 4 (a6,a7,a8)))).2.2,130048,()),())) else none else none else none else none else none
theorem Qi (a0 a1 a2 a3 a4 a5 a6:Int)(a7:Bool)(a8:List Int)(a9:Int):Io.run tt RX dr JY mR Tryz.f125 (((a0,a1,a2,a3,a4,()),(),()),((),()),((),a5,a6,a7,()),(a8,a9,()),())=zL a0 a1 a2 a3 a4 a5 a6 a7 a8 a9:=by kernel_rfl
theorem SF:HcOk prog 125 (af mR GM):=by
 refine ao (n:=400) hm (cs:=Jl) (.cons bN (.cons sX (.cons qr (.cons dR .nil)))) (lp:=JY) (fn:=Tryz.f125) (by kernel_rfl) (by kernel_rfl) (by kernel_rfl) mR (.done (by kernel_rfl)) GM ?_
 rintro ⟨⟨⟨(i:Int),(c:Int),(o:Int),(t:Int),(st:Int),⟨⟩⟩,⟨⟩,⟨⟩⟩,⟨⟨⟩,⟨⟩⟩,⟨⟨⟩,(v:Int),(e:Int),(f:Bool),⟨⟩⟩,⟨(b:List Int),(m:Int),⟨⟩⟩,⟨⟩⟩ out hw ho
 obtain ⟨hg,ho⟩:=Tr.guard ho
 obtain ⟨rfl,hb⟩:=bo (v:=v) (e:=e) (f:=f) hg
 cases ho
 refine (Qi i c o t st v e f b 130048).trans ?_
 unfold zL
 have hg:∀s:aV,s.2.2.length≤130048→(decide ((130048:Int)=130048)&&decide (s.2.2.length≤130048))=true:=fun s h=>by simpa using h
 have l1:=av (s:=(e,f,b)) i 4 hb
 have l2:=av c 2 l1
 have l3:=av o 8 l2
 have l4:=av t 8 l3
 show _=some (Out.ret ((),dw v (gf v (i,(c,(o,(t,(st,()))))) (e,f,b))))
 unfold gf bV
 refine (aa (hg (e,f,b) hb) _ _).trans ?_
 refine (aa (hg _ l1) _ _).trans ?_
 refine (aa (hg _ l2) _ _).trans ?_
 refine (aa (hg _ l3) _ _).trans ?_
 by_cases h2:2≤v∧v≤3
 ·refine (aa (by simpa using h2) _ _).trans ?_
  refine (aa (hg _ l3) _ _).trans ?_
  refine (aa (hg _ l4) _ _).trans ?_
  rw[if_pos h2]
  by_cases h3:3≤v∧v≤3
  ·refine (aa (by simpa using h3) _ _).trans ?_
   refine (aa (hg _ l4) _ _).trans ?_
   rw[if_pos h3]
  ·refine (ae (by simp;omega) _ _).trans ?_
   rw[if_neg h3]
 ·refine (ae (by simp;omega) _ _).trans ?_
  refine (aa (hg _ l3) _ _).trans ?_
  rw[if_neg h2]
  by_cases h3:3≤v∧v≤3
  ·omega
  ·refine (ae (by simp;omega) _ _).trans ?_
   rw[if_neg h3]
theorem eO {s:aV}(v lo hi x:Int)(n:Nat)(h:s.2.2.length≤130048):(bV v lo hi x n s).2.2.length≤130048:=by
 unfold bV
 split
 ·exact av _ _ h
 ·exact h
theorem pP {s:aV}(v:Int)(p:cE.den)(h:s.2.2.length≤130048):(gf v p s).2.2.length≤130048:=
 eO _ _ _ _ _ (eO _ _ _ _ _ (av _ _ (av _ _ (av _ _ h))))
def MO (st cf:Nat)(T:Ty)(sps:Int→List T.den→aV→aV)(d:(fU st cf T).In):Tr (fU st cf T).Res:=.ite (gt d.2) (.ret (.ret ((),d0 d.2.1.2.1 (sps d.2.1.2.1 d.1.2.1 (gu d.2))))) .no
def fS (st cf:Nat)(T:Ty)(one:Int→T.den→aV→aV)(d:(bi st cf T).st.den):Tr (aJ (bi st cf T).xs):=
 .ite (decide (d.1.2.2.1=0)&&(decide (d.1.2.1=(d.1.1.length:Int))&&(decide (d.2.2.1.2.1=130048)&&decide (d.2.2.1.1.length≤130048)))) (.ret (.ret ((),((),oP d.2.1.1 (d.1.1.foldl (fun s x=>one d.2.1.1 x s) (d.2.1.2.1,(d.2.1.2.2.1,d.2.2.1.1))))))) .no
def tA (st cf:Nat)(T:Ty)(one:Int→T.den→aV→aV){R:Type}(h6:List T.den)(h7 h8 h9 h10:Int)(h11:Bool)(h12:List Int)(h13:Int)(next:List T.den→Int→Int→Int→Int→Bool→List Int→Int→Option R)(out:aJ (bi st cf T).xs→Option R):Option R:=bif decide (h8<h7) then bif decide (0≤h8)&&decide (h8<(h6.length:Int)) then bif decide (h13=130048)&&decide (h12.length≤130048) then next (h6) (h7) (IntKind.i64.wrap (h8+1)) (h9) ((one h9 (h6.getD h8.toNat T.zero) (h10,h11,h12)).1) ((one h9 (h6.getD h8.toNat T.zero) (h10,h11,h12)).2.1) ((one h9 (h6.getD h8.toNat T.zero) (h10,h11,h12)).2.2) (130048) else none else none else out (.ret ((),((),((h9,(h10,(h11,()))),((h12,(h13,())),((),()))))))
theorem K6 {st cf:Nat}{T:Ty}{one:Int→T.den→aV→aV}(hle:∀v x s,s.2.2.length≤130048→(one v x s).2.2.length≤130048)
  (it:Nat→List T.den→Int→Int→Int→Int→Bool→List Int→Int→Option (aJ (bi st cf T).xs)) (hit:∀n h6 h7 h8 h9 h10 h11 h12 h13,it (n+1) h6 h7 h8 h9 h10 h11 h12 h13=tA st cf T one h6 h7 h8 h9 h10 h11 h12 h13 (it n) some)
  {xs:List T.den} (v:Int) (hl:xs.length≤maxLen):∀(k i:Nat) (s:aV),xs.length<i+k→i≤xs.length→s.2.2.length≤130048→
  it k xs (xs.length:Int) i v s.1 s.2.1 s.2.2 130048=some (.ret ((),((),oP v ((xs.drop i).foldl (fun s x=>one v x s) s)))):=by
 intro k
 induction k with
 |zero=>intro i s h;omega
 |succ k ih=>
  intro i s h1 h2 h3
  rw[hit]
  unfold tA
  by_cases hi:i<xs.length
  ·refine (aa (decide_eq_true (show (i:Int)<(xs.length:Int) by omega)) _ _).trans ?_
   refine (aa (by simpa using hi) _ _).trans ?_
   simp only[Int.toNat_natCast,bh hi,bM hi hl]
   have g:(decide ((130048:Int)=130048)&&decide (s.2.2.length≤130048))=true:=by
    simpa using h3
   refine (aa g _ _).trans ?_
   rw[List.drop_eq_getElem_cons hi]
   exact ih (i+1) (one v xs[i] s) (by omega) (by omega) (hle v _ s h3)
  ·refine (ae (by simp;omega) _ _).trans ?_
   rw[List.drop_of_length_le (by omega)]
   rfl
def zi (st cf:Nat)(T:Ty)(one:Int→T.den→aV→aV)(a0:List T.den)(a1 a2:Int)(a3:Bool)(a4:List Int)(a5:Int):Option (fU st cf T).Res:=bif decide (16<(a0.length:Int)) then bif decide (a5=130048)&&decide (a4.length≤130048) then some (Out.ret ((),((),a1,(bA 9 (a2,a3,a4)).1,(bA 9 (a2,a3,a4)).2.1,()),((bA 9 (a2,a3,a4)).2.2,130048,()),((),()),())) else none else bif decide (a5=130048)&&decide (a4.length≤130048) then (fS st cf T one ((a0,((a0.length:Int),(0,()))),((a1,((ab (IntKind.i32.wrap (a0.length:Int)) 4 (a2,a3,a4)).1,((ab (IntKind.i32.wrap (a0.length:Int)) 4 (a2,a3,a4)).2.1,()))),(((ab (IntKind.i32.wrap (a0.length:Int)) 4 (a2,a3,a4)).2.2,(130048,())),((),()))))).run fun y=>match y with | .ret ((),((),(x27,x28,x29,()),(x30,x31,()),(),()))=>(some (Out.ret ((),((),x27,x28,x29,()),(x30,x31,()),((),()),()))) else none
theorem kO {st cf f:Nat}{T:Ty}{sps:Int→List T.den→aV→aV}{one:Int→T.den→aV→aV}(hs:∀v xs s,sps v xs s=bk (one v) xs s)(hle:∀v x s,s.2.2.length≤130048→(one v x s).2.2.length≤130048)
  {cs:List (Nat×Hc)} (hcs:HcsOk prog cs) {fn:Func} (hf:prog.funcs[f]?=some fn) (hname:(fn.name == "runtime.NumGoroutine")=false) (hbody:fn.body.isNone=false)
  (hlp:bJ [(5,bv (bi st cf T) (fS st cf T one))] (dn ((gT fn).getD 0 iX).2.1)=some (bv (bi st cf T) (fS st cf T one))) (h1:Nat.ble (MD fn ((gT fn).getD 0 iX)).length 0=true) (h2:Nat.ble (gT fn).length (0+1)=true)
  (hit:∀(n:Nat) (h6:List T.den) (h7 h8 h9 h10:Int) (h11:Bool) (h12:List Int) (h13:Int),lD tt (bR cs) dr (bJ [(5,bv (bi st cf T) (fS st cf T one))]) 3 fn ((gT fn).getD 0 iX) (n+1) ((bi st cf T).st.mk' ((h6,(h7,(h8,()))),((h9,(h10,(h11,()))),((h12,(h13,())),((),()))))) (dc (bi st cf T).xs)=
   tA st cf T one h6 h7 h8 h9 h10 h11 h12 h13 (fun h6 h7 h8 h9 h10 h11 h12 h13=>lD tt (bR cs) dr (bJ [(5,bv (bi st cf T) (fS st cf T one))]) 3 fn ((gT fn).getD 0 iX) n ((bi st cf T).st.mk' ((h6,(h7,(h8,()))),((h9,(h10,(h11,()))),((h12,(h13,())),((),()))))) (dc (bi st cf T).xs)) some)
  (hrun:∀(a0:List T.den) (a1 a2:Int) (a3:Bool) (a4:List Int) (a5:Int),Io.run tt (bR cs) dr (bJ [(5,bv (bi st cf T) (fS st cf T one))]) (fU st cf T) fn (((),a0,(),()),((),a1,a2,a3,()),(a4,a5,()),((),()),())=zi st cf T one a0 a1 a2 a3 a4 a5):
  HcOk prog f (af (fU st cf T) (MO st cf T sps)):=by
 refine ao (n:=400) hm (cs:=cs) hcs (lp:=bJ [(5,bv (bi st cf T) (fS st cf T one))]) (fn:=fn) hf hname hbody (fU st cf T) (.step (h0:=bv (bi st cf T) (fS st cf T one)) hlp (aQ (n:=400) hm (cs:=cs) hcs (lp:=bJ [(5,bv (bi st cf T) (fS st cf T one))]) (fn:=fn) (.done h1) (bi st cf T) (fS st cf T one) ?_) (.done h2)) (MO st cf T sps) ?_
 ·rintro ⟨⟨(xs:List T.den),(n:Int),(i:Int),⟨⟩⟩,⟨⟨(v:Int),(e:Int),(f:Bool),⟨⟩⟩,⟨(b:List Int),(m:Int),⟨⟩⟩,⟨⟨⟩,⟨⟩⟩⟩⟩ y hw hy
  obtain ⟨hg,hy⟩:=Tr.guard hy
  simp only[Bool.and_eq_true,decide_eq_true_eq] at hg
  obtain ⟨rfl,rfl,rfl,h4⟩:=hg
  have h4:b.length≤130048:=h4
  have hl:xs.length≤maxLen:=hw.1.1.1
  refine ⟨xs.length+1,(K6 (st:=st) (cf:=cf) hle (fun n h6 h7 h8 h9 h10 h11 h12 h13=>lD tt (bR cs) dr (bJ [(5,bv (bi st cf T) (fS st cf T one))]) 3 fn ((gT fn).getD 0 iX) n ((bi st cf T).st.mk' ((h6,(h7,(h8,()))),((h9,(h10,(h11,()))),((h12,(h13,())),((),()))))) (dc (bi st cf T).xs)) hit v hl (xs.length+1) 0 (e,(f,b)) (by omega) (by omega) h4).trans ?_⟩
  rw[← hy];rfl
 ·rintro ⟨⟨⟨⟩,(xs:List T.den),⟨⟩,⟨⟩⟩,⟨⟨⟩,(v:Int),(e:Int),(f:Bool),⟨⟩⟩,⟨(b:List Int),(m:Int),⟨⟩⟩,⟨⟨⟩,⟨⟩⟩,⟨⟩⟩ out hw ho
  obtain ⟨hg,ho⟩:=Tr.guard ho
  obtain ⟨rfl,hb⟩:=bo (v:=v) (e:=e) (f:=f) hg
  cases ho
  refine (hrun xs v e f b 130048).trans ?_
  unfold zi
  have g:(decide ((130048:Int)=130048)&&decide (b.length≤130048))=true:=by simpa using hb
  show _=some (Out.ret ((),d0 v (sps v xs (e,f,b))))
  rw[hs]
  unfold bk
  by_cases h:16<(xs.length:Int)
  ·rw[if_pos h]
   refine (aa (decide_eq_true h) _ _).trans ?_
   exact aa g _ _
  ·rw[if_neg h]
   refine (ae (decide_eq_false h) _ _).trans ?_
   refine (aa g _ _).trans ?_
   have hw32:IntKind.i32.wrap (xs.length:Int)=xs.length:=dP (by simp[cT,IntKind.min,IntKind.max,IntKind.signed,IntKind.bits];omega)
   rw[hw32]
   have c1:(decide ((0:Int)=0)&&(decide ((xs.length:Int)=(xs.length:Int))&&(decide ((130048:Int)=130048)&&decide ((ab xs.length 4 (e,f,b)).2.2.length≤130048))))=true:=by
    simpa using av (s:=(e,f,b)) _ 4 hb
   have e1:fS st cf T one ((xs,((xs.length:Int),(0,()))),((v,((ab xs.length 4 (e,f,b)).1,((ab xs.length 4 (e,f,b)).2.1,()))),(((ab xs.length 4 (e,f,b)).2.2,(130048,())),((),()))))=
     .ite true (.ret (.ret ((),((),oP v (xs.foldl (fun s x=>one v x s) (ab xs.length 4 (e,f,b))))))) .no:=congrArg (fun c=>Tr.ite c _ _) c1
   rw[e1]
   rfl
def lQ (v:Int)(xs:List cE.den)(s:aV):aV:=bk (gf v) xs s
abbrev rs:Io:=⟨[.ptr 0 0,.dat (.sl 214 cE) false false,.fnc 125 false [2]],jh,[],[],none⟩
def IN (d:rs.In):Tr rs.Res:=.ite (gt d.2) (.ret (.ret ((),d0 d.2.1.2.1 (lQ d.2.1.2.1 d.1.2.1 (gu d.2))))) .no
abbrev NQ:List (Nat×Hc):=[(194,af b9 d4),(98,af cc dV),(125,af mR GM)]
theorem PI:HcOk prog 124 (af rs IN):=
 kO (one:=gf) (sps:=lQ) (fun _ _ _=>rfl) (fun v _ _ h3=>pP v _ h3) (cs:=NQ) (.cons c7 (.cons bN (.cons SF .nil))) (fn:=Tryz.f124) (by kernel_rfl) (by kernel_rfl) (by kernel_rfl) (by kernel_rfl) (by kernel_rfl) (by kernel_rfl) (by intros;kernel_rfl) (by intros;kernel_rfl)
def rV (v:Int)(t:aW.den)(s:aV):aV:=lQ v t.2.1 (bn t.1 s)
abbrev mS:Io:=⟨[.dat aW true false,.ptr 0 0],lI,[],[],none⟩
def GN (d:mS.In):Tr mS.Res:=.ite (dW d.2.2) (.ret (.ret ((),dw d.2.2.1.2.1 (rV d.2.2.1.2.1 d.1.1 (dX d.2.2))))) .no
abbrev Jm:List (Nat×Hc):=[(101,af hY qP),(124,af rs IN)]
def RY:Hd:=bR Jm
def JZ:Lp:=bJ []
def zM (a0:List Int)(a1:List cE.den)(a2 a3:Int)(a4:Bool)(a5:List Int)(a6:Int):Option mS.Res:=bif decide (a6=130048)&&decide (a5.length≤130048) then bif decide (130048=130048)&&decide ((bn a0 (a3,a4,a5)).2.2.length≤130048) then some (Out.ret ((),((),()),((),a2,(lQ a2 a1 (bn a0 (a3,a4,a5))).1,(lQ a2 a1 (bn a0 (a3,a4,a5))).2.1,()),((lQ a2 a1 (bn a0 (a3,a4,a5))).2.2,130048,()),())) else none else none
theorem Qj (a0:List Int)(a1:List cE.den)(a2 a3:Int)(a4:Bool)(a5:List Int)(a6:Int):Io.run tt RY dr JZ mS Tryz.f123 (((a0,a1,()),(),()),((),()),((),a2,a3,a4,()),(a5,a6,()),())=zM a0 a1 a2 a3 a4 a5 a6:=by kernel_rfl
theorem SG:HcOk prog 123 (af mS GN):=by
 refine ao (n:=400) hm (cs:=Jm) (.cons qs (.cons PI .nil)) (lp:=JZ) (fn:=Tryz.f123) (by kernel_rfl) (by kernel_rfl) (by kernel_rfl) mS (.done (by kernel_rfl)) GN ?_
 rintro ⟨⟨⟨(t:List Int),(ps:List cE.den),⟨⟩⟩,⟨⟩,⟨⟩⟩,⟨⟨⟩,⟨⟩⟩,⟨⟨⟩,(v:Int),(e:Int),(f:Bool),⟨⟩⟩,⟨(b:List Int),(m:Int),⟨⟩⟩,⟨⟩⟩ out hw ho
 obtain ⟨hg,ho⟩:=Tr.guard ho
 obtain ⟨rfl,hb⟩:=bo (v:=v) (e:=e) (f:=f) hg
 cases ho
 refine (Qj t ps v e f b 130048).trans ?_
 unfold zM
 refine (aa (by simpa using hb) _ _).trans ?_
 refine (aa (by simpa using dd (s:=(e,f,b)) t hb) _ _).trans ?_
 rfl
theorem xU {s:aV}(v:Int)(t:aW.den)(h:s.2.2.length≤130048):(rV v t s).2.2.length≤130048:=bF (fun x s=>pP v x) _ (dd _ h)
def ee (v:Int)(xs:List aW.den)(s:aV):aV:=bk (rV v) xs s
abbrev rt:Io:=⟨[.ptr 0 0,.dat (.sl 212 aW) false false,.fnc 123 false [2]],jh,[],[],none⟩
def IO (d:rt.In):Tr rt.Res:=.ite (gt d.2) (.ret (.ret ((),d0 d.2.1.2.1 (ee d.2.1.2.1 d.1.2.1 (gu d.2))))) .no
abbrev NR:List (Nat×Hc):=[(194,af b9 d4),(98,af cc dV),(123,af mS GN)]
theorem xp:HcOk prog 122 (af rt IO):=
 kO (one:=rV) (sps:=ee) (fun _ _ _=>rfl) (fun v _ _ h3=>xU v _ h3) (cs:=NR) (.cons c7 (.cons bN (.cons SG .nil))) (fn:=Tryz.f122) (by kernel_rfl) (by kernel_rfl) (by kernel_rfl) (by kernel_rfl) (by kernel_rfl) (by kernel_rfl) (by intros;kernel_rfl) (by intros;kernel_rfl)
def nb (v:Int)(p:cE.den)(s:aV):aV:=ap v (p.2.2.2.2.1 == 0) 3 3 (ap v (p.2.2.2.1 == 0) 2 3 s)
def eg (v:Int)(ps:List cE.den)(s:aV):aV:=ps.foldl (fun s p=>nb v p s) s
def nc (v:Int)(ts:List aW.den)(s:aV):aV:=ts.foldl (fun s t=>eg v t.2.1 s) s
def gI (v:Int)(m:tB.den):aV:=
 bV v 1 3 m.2.1 4 (ee v m.1 (nc v m.1 (ap v (m.2.1 == 0) 1 3 (aH v,(false,([]:List Int))))))
abbrev ql:Io:=⟨[dI,.dat tB true false],[],[],[dO,dI],none⟩
def TW (d:ql.In):Tr ql.Res:=.ret (.ret ((bj (gI d.1.1 d.1.2.1),(aM (gI d.1.1 d.1.2.1),())),()))
abbrev BW:List (Nat×Hc):=[(93,af jb tH),(94,af d5 jk),(95,af e7 ly),(98,af cc dV),(122,af rt IO),(105,af fW nF)]
def Hm:Hd:=bR BW
abbrev gF:Lo:=⟨⟨(.any::bt (.one (.ptr 3 0)::bt (.one (.ptr 6 0)::dq (bQ (.one (.hol (.sl 212 (Ty.str.prod ((Ty.sl 214 ((Ty.int IntKind.i32).prod ((Ty.int IntKind.i16).prod ((Ty.int IntKind.i64).prod ((Ty.int IntKind.i64).prod ((Ty.int IntKind.i64).prod Ty.unit)))))).prod Ty.unit))))::.one (.hol (.int IntKind.i64))::.one (.hol (.int IntKind.i64))::bQ (.one (.hol (.sl 214 ((Ty.int IntKind.i32).prod ((Ty.int IntKind.i16).prod ((Ty.int IntKind.i64).prod ((Ty.int IntKind.i64).prod ((Ty.int IntKind.i64).prod Ty.unit)))))))::.one (.hol (.int IntKind.i64))::.one (.hol (.int IntKind.i64))::ag (dq (bQ (bt []))))))))),[none,none,none,some [.hol (.sl 212 (Ty.str.prod ((Ty.sl 214 ((Ty.int IntKind.i32).prod ((Ty.int IntKind.i16).prod ((Ty.int IntKind.i64).prod ((Ty.int IntKind.i64).prod ((Ty.int IntKind.i64).prod Ty.unit)))))).prod Ty.unit))),.hol (.int IntKind.i32)],none,none,some [.ptr 12 0],none,none,none,none,none,some [.ptr 13 0,.hol (.int IntKind.i64),.hol (.int IntKind.i64),.hol .bool],some [.onl 5 (Ty.int IntKind.u8) 6658,.hol (.int IntKind.i64)]]⟩,[(.exit 2,⟨(.any::bt (.one (.ptr 3 0)::bt (.one (.ptr 6 0)::dq (bQ (.one (.hol (.sl 212 (Ty.str.prod ((Ty.sl 214 ((Ty.int IntKind.i32).prod ((Ty.int IntKind.i16).prod ((Ty.int IntKind.i64).prod ((Ty.int IntKind.i64).prod ((Ty.int IntKind.i64).prod Ty.unit)))))).prod Ty.unit))))::.one (.hol (.int IntKind.i64))::.one (.hol (.int IntKind.i64))::.any::ag (ag (bQ []))))))),[none,none,none,some [.hol (.sl 212 (Ty.str.prod ((Ty.sl 214 ((Ty.int IntKind.i32).prod ((Ty.int IntKind.i16).prod ((Ty.int IntKind.i64).prod ((Ty.int IntKind.i64).prod ((Ty.int IntKind.i64).prod Ty.unit)))))).prod Ty.unit))),.hol (.int IntKind.i32)],none,none,some [.ptr 12 0],none,none,none,none,none,some [.ptr 13 0,.hol (.int IntKind.i64),.hol (.int IntKind.i64),.hol .bool],some [.onl 5 (Ty.int IntKind.u8) 6658,.hol (.int IntKind.i64)]]⟩)]⟩
abbrev gE:Lo:=⟨⟨(.any::bt (.one (.ptr 3 0)::bt (.one (.ptr 6 0)::dq (bQ (.one (.hol (.sl 212 (Ty.str.prod ((Ty.sl 214 ((Ty.int IntKind.i32).prod ((Ty.int IntKind.i16).prod ((Ty.int IntKind.i64).prod ((Ty.int IntKind.i64).prod ((Ty.int IntKind.i64).prod Ty.unit)))))).prod Ty.unit))))::.one (.hol (.int IntKind.i64))::.one (.hol (.int IntKind.i64))::.any::ag (ag (bQ []))))))),[none,none,none,some [.hol (.sl 212 (Ty.str.prod ((Ty.sl 214 ((Ty.int IntKind.i32).prod ((Ty.int IntKind.i16).prod ((Ty.int IntKind.i64).prod ((Ty.int IntKind.i64).prod ((Ty.int IntKind.i64).prod Ty.unit)))))).prod Ty.unit))),.hol (.int IntKind.i32)],none,none,some [.ptr 12 0],none,none,none,none,none,some [.ptr 13 0,.hol (.int IntKind.i64),.hol (.int IntKind.i64),.hol .bool],some [.onl 5 (Ty.int IntKind.u8) 6658,.hol (.int IntKind.i64)]]⟩,[(.exit 0,⟨(.any::bt (.one (.ptr 3 0)::bt (.one (.ptr 6 0)::ag (ag (ag (bQ [])))))),[none,none,none,some [.hol (.sl 212 (Ty.str.prod ((Ty.sl 214 ((Ty.int IntKind.i32).prod ((Ty.int IntKind.i16).prod ((Ty.int IntKind.i64).prod ((Ty.int IntKind.i64).prod ((Ty.int IntKind.i64).prod Ty.unit)))))).prod Ty.unit))),.hol (.int IntKind.i32)],none,none,some [.ptr 12 0],none,none,none,none,none,some [.ptr 13 0,.hol (.int IntKind.i64),.hol (.int IntKind.i64),.hol .bool],some [.onl 5 (Ty.int IntKind.u8) 6658,.hol (.int IntKind.i64)]]⟩)]⟩
abbrev AL (ts:List aW.den)(thr v:Int)(s:aV):(List aW.den×(Int×Unit))×(Unit×((Int×(Int×(Bool×Unit)))×((List Int×(Int×Unit))×Unit))):=((ts,(thr,())),((),((v,(s.1,(s.2.1,()))),((s.2.2,(130048,())),()))))
def qT (d:gF.st.den):Tr (aJ gF.xs):=
 .ite (decide (d.1.2.2.2.2.2.1=0)&&(decide (d.1.2.2.2.2.1=(d.1.2.2.2.1.length:Int))&&(decide (d.2.2.2.2.1.2.1=130048)&&decide (d.2.2.2.2.1.1.length≤130048)))) (.ret (.ret ((),((d.1.1,(d.1.2.1,(d.1.2.2.1,()))),AL d.2.1.1 d.2.1.2.1 d.2.2.2.1.1 (eg d.2.2.2.1.1 d.1.2.2.2.1 (d.2.2.2.1.2.1,(d.2.2.2.1.2.2.1,d.2.2.2.2.1.1))))))) .no
def qS (d:gE.st.den):Tr (aJ gE.xs):=
 .ite (decide (d.1.2.2.1=0)&&(decide (d.1.2.1=(d.1.1.length:Int))&&(decide (d.2.2.2.2.1.2.1=130048)&&decide (d.2.2.2.2.1.1.length≤130048)))) (.ret (.ret ((),((),AL d.2.1.1 d.2.1.2.1 d.2.2.2.1.1 (nc d.2.2.2.1.1 d.1.1 (d.2.2.2.1.2.1,(d.2.2.2.1.2.2.1,d.2.2.2.2.1.1))))))) .no
def sT:Lp:=bJ [(5,bv gE qS),(8,bv gF qT)]
def yy {R:Type}(h13:List aW.den)(h14 h15:Int)(h16:List cE.den)(h17 h18:Int)(h19:List aW.den)(h20 h21 h22:Int)(h23:Bool)(h24:List Int)(h25:Int)(next:List aW.den→Int→Int→List cE.den→Int→Int→List aW.den→Int→Int→Int→Bool→List Int→Int→Option R)(out:aJ gF.xs→Option R):Option R:=bif decide (h18<h17) then bif decide (0≤h18)&&decide (h18<(↑h16.length:Int)) then bif decide (h25=130048)&&decide (h24.length≤130048) then bif decide (130048=130048)&&decide ((ap h21 ((h16.getD h18.toNat (0,0,0,0,0,())).2.2.2.1 == 0) 2 3 (h22,h23,h24)).2.2.length≤130048) then next (h13) (h14) (h15) (h16) (h17) (IntKind.i64.wrap (h18+1)) (h19) (h20) (h21) ((ap h21 ((h16.getD h18.toNat (0,0,0,0,0,())).2.2.2.2.1 == 0) 3 3 (ap h21 ((h16.getD h18.toNat (0,0,0,0,0,())).2.2.2.1 == 0) 2 3 (h22,h23,h24))).1) ((ap h21 ((h16.getD h18.toNat (0,0,0,0,0,())).2.2.2.2.1 == 0) 3 3 (ap h21 ((h16.getD h18.toNat (0,0,0,0,0,())).2.2.2.1 == 0) 2 3 (h22,h23,h24))).2.1) ((ap h21 ((h16.getD h18.toNat (0,0,0,0,0,())).2.2.2.2.1 == 0) 3 3 (ap h21 ((h16.getD h18.toNat (0,0,0,0,0,())).2.2.2.1 == 0) 2 3 (h22,h23,h24))).2.2) (130048) else none else none else none else out (.ret ((),((h13,(h14,(h15,()))),((h19,(h20,())),((),((h21,(h22,(h23,()))),((h24,(h25,())),())))))))
def wO (n:Nat)(h13:List aW.den)(h14 h15:Int)(h16:List cE.den)(h17 h18:Int)(h19:List aW.den)(h20 h21 h22:Int)(h23:Bool)(h24:List Int)(h25:Int):Option (aJ gF.xs):=lD tt Hm dr sT 0 Tryz.f58 (Gw Tryz.f58 (gQ Tryz.f58 0) 0) n (gF.st.mk' ((h13,(h14,(h15,(h16,(h17,(h18,())))))),((h19,(h20,())),((),((h21,(h22,(h23,()))),((h24,(h25,())),())))))) (dc gF.xs)
theorem QA (n:Nat)(h13:List aW.den)(h14 h15:Int)(h16:List cE.den)(h17 h18:Int)(h19:List aW.den)(h20 h21 h22:Int)(h23:Bool)(h24:List Int)(h25:Int):wO (n+1) h13 h14 h15 h16 h17 h18 h19 h20 h21 h22 h23 h24 h25=yy h13 h14 h15 h16 h17 h18 h19 h20 h21 h22 h23 h24 h25 (wO n) some:=by kernel_rfl
def yx {R:Type}(h3:List aW.den)(h4 h5:Int)(h6:List aW.den)(h7 h8 h9:Int)(h10:Bool)(h11:List Int)(h12:Int)(next:List aW.den→Int→Int→List aW.den→Int→Int→Int→Bool→List Int→Int→Option R)(out:aJ gE.xs→Option R):Option R:=bif decide (h5<h4) then bif decide (0≤h5)&&decide (h5<(↑h3.length:Int)) then (qT ((h3,(h4,(h5,((h3.getD h5.toNat ([],[],())).2.1,((↑(List.length (h3.getD h5.toNat ([],[],())).2.1):Int),(0,())))))),((h6,(h7,())),((),((h8,(h9,(h10,()))),((h11,(h12,())),())))))).run fun y=>match y with | .ret ((),((x49,x50,x51,()),(x52,x53,()),(),(x54,x55,x56,()),(x57,x58,()),()))=>(next (x49) (x50) (IntKind.i64.wrap (x51+1)) (x52) (x53) (x54) (x55) (x56) (x57) (x58)) else none else out (.ret ((),((),((h6,(h7,())),((),((h8,(h9,(h10,()))),((h11,(h12,())),())))))))
def rz (n:Nat)(h3:List aW.den)(h4 h5:Int)(h6:List aW.den)(h7 h8 h9:Int)(h10:Bool)(h11:List Int)(h12:Int):Option (aJ gE.xs):=lD tt Hm dr sT 0 Tryz.f58 (gQ Tryz.f58 0) n (gE.st.mk' ((h3,(h4,(h5,()))),((h6,(h7,())),((),((h8,(h9,(h10,()))),((h11,(h12,())),())))))) (dc gE.xs)
theorem Qz (n:Nat)(h3:List aW.den)(h4 h5:Int)(h6:List aW.den)(h7 h8 h9:Int)(h10:Bool)(h11:List Int)(h12:Int):rz (n+1) h3 h4 h5 h6 h7 h8 h9 h10 h11 h12=yx h3 h4 h5 h6 h7 h8 h9 h10 h11 h12 (rz n) some:=by kernel_rfl
theorem xV {s:aV}(v:Int)(p:cE.den)(h:s.2.2.length≤130048):(nb v p s).2.2.length≤130048:=ba _ _ _ _ (ba _ _ _ _ h)
theorem ur {s:aV}(v:Int)(ps:List cE.den)(h:s.2.2.length≤130048):(eg v ps s).2.2.length≤130048:=eH (fun x s=>xV v x) ps s h
theorem Ii {s:aV}(v:Int)(ts:List aW.den)(h:s.2.2.length≤130048):(nc v ts s).2.2.length≤130048:=eH (one:=fun (t:aW.den) (s:aV)=>eg v t.2.1 s) (fun x s h=>ur v x.2.1 h) ts s h
theorem Ht (ts:List aW.den)(n i:Int)(ts':List aW.den)(thr v:Int){ps:List cE.den}(hl:ps.length≤maxLen):∀(k j:Nat) (s:aV),ps.length<j+k→j≤ps.length→s.2.2.length≤130048→
  wO k ts n i ps (ps.length:Int) j ts' thr v s.1 s.2.1 s.2.2 130048=some (.ret ((),((ts,(n,(i,()))),AL ts' thr v ((ps.drop j).foldl (fun s p=>nb v p s) s)))):=by
 intro k
 induction k with
 |zero=>intro j s h;omega
 |succ k ih=>
  intro j s h1 h2 h3
  rw[QA]
  unfold yy
  by_cases hi:j<ps.length
  ·refine (aa (decide_eq_true (show (j:Int)<(ps.length:Int) by omega)) _ _).trans ?_
   refine (aa (by simpa using hi) _ _).trans ?_
   simp only[Int.toNat_natCast,bh hi,bM hi hl]
   refine (aa (by simpa using h3) _ _).trans ?_
   refine (aa (by simpa using ba (s:=s) v (ps[j].2.2.2.1 == 0) 2 3 h3) _ _).trans ?_
   rw[List.drop_eq_getElem_cons hi]
   exact ih (j+1) (nb v ps[j] s) (by omega) (by omega) (xV _ _ h3)
  ·refine (ae (by simp;omega) _ _).trans ?_
   rw[List.drop_of_length_le (by omega)]
   rfl
theorem Hs {ts:List aW.den}(ts':List aW.den)(thr v:Int)(hl:ts.length≤maxLen):∀(k j:Nat) (s:aV),ts.length<j+k→j≤ts.length→s.2.2.length≤130048→
  rz k ts (ts.length:Int) j ts' thr v s.1 s.2.1 s.2.2 130048=some (.ret ((),((),AL ts' thr v ((ts.drop j).foldl (fun s t=>eg v t.2.1 s) s)))):=by
 intro k
 induction k with
 |zero=>intro j s h;omega
 |succ k ih=>
  intro j s h1 h2 h3
  rw[Qz]
  unfold yx
  by_cases hi:j<ts.length
  ·refine (aa (decide_eq_true (show (j:Int)<(ts.length:Int) by omega)) _ _).trans ?_
   refine (aa (by simpa using hi) _ _).trans ?_
   simp only[Int.toNat_natCast,bh hi]
   have c1:(decide ((0:Int)=0)&&(decide ((ts[j].2.1.length:Int)=(ts[j].2.1.length:Int))&&(decide ((130048:Int)=130048)&&decide (s.2.2.length≤130048))))=true:=by simpa using h3
   have e1:qT ((ts,((ts.length:Int),((j:Int),(ts[j].2.1,((ts[j].2.1.length:Int),(0,())))))),((ts',(thr,())),((),((v,(s.1,(s.2.1,()))),((s.2.2,(130048,())),())))))=
     .ite true (.ret (.ret ((),((ts,((ts.length:Int),((j:Int),()))),AL ts' thr v (eg v ts[j].2.1 s))))) .no:=congrArg (fun c=>Tr.ite c _ _) c1
   rw[e1]
   show rz k ts (ts.length:Int) (IntKind.i64.wrap ((j:Int)+1)) ts' thr v (eg v ts[j].2.1 s).1 (eg v ts[j].2.1 s).2.1 (eg v ts[j].2.1 s).2.2 130048=_
   rw[bM hi hl,List.drop_eq_getElem_cons hi]
   exact ih (j+1) (eg v ts[j].2.1 s) (by omega) (by omega) (ur _ _ h3)
  ·refine (ae (by simp;omega) _ _).trans ?_
   rw[List.drop_of_length_le (by omega)]
   rfl
def DW (a0:Int)(a1:List aW.den)(a2:Int):Option ql.Res:=(qS ((a1,((↑a1.length:Int),(0,()))),((a1,(a2,())),((),((a0,((ap a0 (a2 == 0) 1 3 (aH a0,false,[])).1,((ap a0 (a2 == 0) 1 3 (aH a0,false,[])).2.1,()))),(((ap a0 (a2 == 0) 1 3 (aH a0,false,[])).2.2,(130048,())),())))))).run fun y=>match y with | .ret ((),((),(x76,x77,()),(),(x78,x79,x80,()),(x81,x82,()),()))=>(bif decide (x82=130048)&&decide (x81.length≤130048) then bif decide (130048=130048)&&decide ((ee x78 x76 (x79,x80,x81)).2.2.length≤130048) then bif decide (1≤x78)&&decide (x78≤3) then bif decide (130048=130048)&&decide ((ee x78 x76 (x79,x80,x81)).2.2.length≤130048) then bif decide (130048=130048)&&decide ((ab x77 4 (ee x78 x76 (x79,x80,x81))).2.2.length≤130048) then some (Out.ret ((bj (ab x77 4 (ee x78 x76 (x79,x80,x81))),aM (ab x77 4 (ee x78 x76 (x79,x80,x81))),()),())) else none else none else bif decide (130048=130048)&&decide ((ee x78 x76 (x79,x80,x81)).2.2.length≤130048) then some (Out.ret ((bj (ee x78 x76 (x79,x80,x81)),aM (ee x78 x76 (x79,x80,x81)),()),())) else none else none else none)
theorem Tf (a0:Int)(a1:List aW.den)(a2:Int):Io.run tt Hm dr sT ql Tryz.f58 ((a0,(a1,a2,()),()),())=DW a0 a1 a2:=by kernel_rfl
theorem VB:HcOk prog 58 (af ql TW):=by
 refine ao (n:=400) hm (cs:=BW) (.cons fL (.cons cH (.cons dR (.cons bN (.cons xp (.cons d2 .nil)))))) (lp:=sT) (fn:=Tryz.f58) (by kernel_rfl) (by kernel_rfl) (by kernel_rfl) ql (.step (h0:=bv gE qS) (by kernel_rfl) (aQ (n:=400) hm (cs:=BW) (.cons fL (.cons cH (.cons dR (.cons bN (.cons xp (.cons d2 .nil)))))) (lp:=sT) (fn:=Tryz.f58) (.step (h0:=bv gF qT) (by kernel_rfl) (aQ (n:=400) hm (cs:=BW) (.cons fL (.cons cH (.cons dR (.cons bN (.cons xp (.cons d2 .nil)))))) (lp:=sT) (fn:=Tryz.f58) (.done (by kernel_rfl)) gF qT ?_) (.done (by kernel_rfl))) gE qS ?_) (.done (by kernel_rfl))) TW ?_
 ·rintro ⟨⟨(ts:List aW.den),(n:Int),(i:Int),(ps:List cE.den),(pn:Int),(pj:Int),⟨⟩⟩,⟨⟨(ts':List aW.den),(thr:Int),⟨⟩⟩,⟨⟩,⟨(v:Int),(e:Int),(f:Bool),⟨⟩⟩,⟨(b:List Int),(m:Int),⟨⟩⟩,⟨⟩⟩⟩ y hw hy
  obtain ⟨hg,hy⟩:=Tr.guard hy
  simp only[Bool.and_eq_true,decide_eq_true_eq] at hg
  obtain ⟨rfl,rfl,rfl,h4⟩:=hg
  have h4:b.length≤130048:=h4
  have hl:ps.length≤maxLen:=hw.1.2.2.2.1.1
  refine ⟨ps.length+1,(Ht ts n i ts' thr v hl (ps.length+1) 0 (e,(f,b)) (by omega) (by omega) h4).trans ?_⟩
  rw[← hy];rfl
 ·rintro ⟨⟨(ts:List aW.den),(n:Int),(i:Int),⟨⟩⟩,⟨⟨(ts':List aW.den),(thr:Int),⟨⟩⟩,⟨⟩,⟨(v:Int),(e:Int),(f:Bool),⟨⟩⟩,⟨(b:List Int),(m:Int),⟨⟩⟩,⟨⟩⟩⟩ y hw hy
  obtain ⟨hg,hy⟩:=Tr.guard hy
  simp only[Bool.and_eq_true,decide_eq_true_eq] at hg
  obtain ⟨rfl,rfl,rfl,h4⟩:=hg
  have h4:b.length≤130048:=h4
  have hl:ts.length≤maxLen:=hw.1.1.1
  refine ⟨ts.length+1,(Hs ts' thr v hl (ts.length+1) 0 (e,(f,b)) (by omega) (by omega) h4).trans ?_⟩
  rw[← hy];rfl
 ·rintro ⟨⟨(v:Int),⟨(ts:List aW.den),(thr:Int),⟨⟩⟩,⟨⟩⟩,⟨⟩⟩ out hw ho
  cases ho
  refine (Tf v ts thr).trans ?_
  unfold DW
  have hg:∀s:aV,s.2.2.length≤130048→(decide ((130048:Int)=130048)&&decide (s.2.2.length≤130048))=true:=fun s h=>by simpa using h
  have l0:(ap v (thr == 0) 1 3 (aH v,(false,([]:List Int)))).2.2.length≤130048:=ba _ _ _ _ (by simp)
  have c1:(decide ((0:Int)=0)&&(decide ((ts.length:Int)=(ts.length:Int))&&(decide ((130048:Int)=130048)&&decide ((ap v (thr == 0) 1 3 (aH v,(false,([]:List Int)))).2.2.length≤130048))))=true:=by simpa using l0
  have e1:qS ((ts,((ts.length:Int),(0,()))),((ts,(thr,())),((),((v,((ap v (thr == 0) 1 3 (aH v,(false,([]:List Int)))).1,((ap v (thr == 0) 1 3 (aH v,(false,([]:List Int)))).2.1,()))),(((ap v (thr == 0) 1 3 (aH v,(false,([]:List Int)))).2.2,(130048,())),())))))=
    .ite true (.ret (.ret ((),((),AL ts thr v (nc v ts (ap v (thr == 0) 1 3 (aH v,(false,([]:List Int))))))))) .no:=congrArg (fun c=>Tr.ite c _ _) c1
  rw[e1]
  have l1:=Ii v ts l0
  have l2:(ee v ts (nc v ts (ap v (thr == 0) 1 3 (aH v,(false,([]:List Int)))))).2.2.length≤130048:=bF (fun x s=>xU v x) _ l1
  refine (aa (hg _ l1) _ _).trans ?_
  refine (aa (hg _ l2) _ _).trans ?_
  show _=some (Out.ret ((bj (gI v (ts,(thr,()))),(aM (gI v (ts,(thr,()))),())),()))
  unfold gI bV
  by_cases h:1≤v∧v≤3
  ·rw[if_pos h]
   refine (aa (show (decide (1≤v)&&decide (v≤3))=true by simpa using h) _ _).trans ?_
   refine (aa (hg _ l2) _ _).trans ?_
   exact aa (hg _ (av _ _ l2)) _ _
  ·rw[if_neg h]
   refine (ae (show (decide (1≤v)&&decide (v≤3))=false by simp;omega) _ _).trans ?_
   exact aa (hg _ l2) _ _
def aq (k:IntKind)(n:Nat)(v lo hi:Int)(b:List Int)(s:aC):Int×aC:=if aS v lo hi s.1=true then ac k n b s else (0,s)
theorem ir {k:IntKind}{n:Nat}{v lo hi:Int}{b:List Int}{s:aC}(h:an b s.2=true):an b (aq k n v lo hi b s).2.2=true:=by
 unfold aq
 split
 ·exact aL _ _ h
 ·exact h
def Tu (b:List Int)(s:aC):aC:=(ac .i64 8 b (ac .i16 2 b (ac .i32 4 b s).2).2).2
@[irreducible] noncomputable def C1 (v:Int)(b:List Int)(s:aC):cE.den×aC:=
 (((ac .i32 4 b s).1,((ac .i16 2 b (ac .i32 4 b s).2).1,((ac .i64 8 b (ac .i16 2 b (ac .i32 4 b s).2).2).1,((aq .i64 8 v 2 3 b (Tu b s)).1,((aq .i64 8 v 3 3 b (aq .i64 8 v 2 3 b (Tu b s)).2).1,()))))),(aq .i64 8 v 3 3 b (aq .i64 8 v 2 3 b (Tu b s)).2).2)
@[irreducible] noncomputable def xK (v:Int)(b:List Int)(s:aC):List cE.den×aC:=eB (C1 v b) b s
@[irreducible] noncomputable def Kq (v:Int)(b:List Int)(s:aC):aW.den×aC:=(((bf b s).1,((xK v b (bf b s).2).1,())),(xK v b (bf b s).2).2)
abbrev aF (k n:Int):Nd:=.mk (k,(n,(false,(([]:List Int),())))) []
abbrev kh (s:List Int):Nd:=.mk (5,(0,(false,(s,())))) []
abbrev iK (x:cW.den):Nd:=.mk (6,(0,(x.1,(x.2.1,())))) []
abbrev lF (x:ni.den):Nd:=.mk (8,(0,(x.1,(x.2.1,())))) []
abbrev cj (l:List Nd):Nd:=.mk (10,(0,(false,(([]:List Int),())))) l
abbrev bw (l:List Nd):Nd:=.mk (9,(0,(false,(([]:List Int),())))) l
theorem fc {n:Int}(h:cT .i32 n):IntKind.i64.wrap n=n:=by
 simp only[cT,IntKind.min,IntKind.max,IntKind.signed,IntKind.bits] at h
 simp at h
 exact bx (by omega) (by omega)
theorem jq {n:Int}(h:cT .i16 n):IntKind.i64.wrap n=n:=by
 simp only[cT,IntKind.min,IntKind.max,IntKind.signed,IntKind.bits] at h
 simp at h
 exact bx (by omega) (by omega)
def fA (p:cX.den):Nd:=cj [aF 3 p.1,lF p.2.1]
theorem If {p:cX.den}(h:cX.wf p):cj [aF 3 (IntKind.i64.wrap p.1),lF p.2.1]=fA p:=by
 rw[fc h.1];rfl
def cL (t:aB.den):Nd:=cj [kh t.1,bw (t.2.1.map fA)]
@[irreducible] def cQ (m:iD.den):Nd:=cj [iK m.1,aF 2 m.2.1,aF 3 m.2.2.1,bw (m.2.2.2.1.map cL)]
def ox (x:Nd):cX.den:=(IntKind.i32.wrap (cJ x 0).lab.2.1,((cJ x 1).lab.2.2,()))
def lU (x:Nd):aB.den:=((cJ x 0).lab.2.2.2.1,((cJ x 1).kids.map ox,()))
@[irreducible] def Kr (n:Nd):iD.den:=(((cJ n 0).lab.2.2.1,((cJ n 0).lab.2.2.2.1,())),(IntKind.i16.wrap (cJ n 1).lab.2.1,(IntKind.i32.wrap (cJ n 2).lab.2.1,((cJ n 3).kids.map lU,()))))
def po (p:cE.den):Nd:=cj [aF 3 p.1,aF 2 p.2.1,aF 4 p.2.2.1,aF 4 p.2.2.2.1,aF 4 p.2.2.2.2.1]
def iL (t:aW.den):Nd:=cj [kh t.1,bw (t.2.1.map po)]
@[irreducible] def lR (m:tB.den):Nd:=cj [bw (m.1.map iL),aF 3 m.2.1]
def Gb (x:Nd):cE.den:=(IntKind.i32.wrap (cJ x 0).lab.2.1,(IntKind.i16.wrap (cJ x 1).lab.2.1,((cJ x 2).lab.2.1,((cJ x 3).lab.2.1,((cJ x 4).lab.2.1,())))))
def QO (x:Nd):aW.den:=((cJ x 0).lab.2.2.2.1,((cJ x 1).kids.map Gb,()))
abbrev ga:Io:=⟨[.dat iD true false],[],[],[np],none⟩
def fB (l:List aB.den):Bool:=decide (l.length≤4294967296)&&l.all fun t=>decide (t.2.1.length≤4294967296)
def sn (d:ga.In):Tr ga.Res:=.ite (fB d.1.1.2.2.2.1) (.ret (.ret ((cQ d.1.1,()),()))) .no
abbrev mq:List (Nat×Hc):=[(181,af mU Dt),(182,af ik vO),(180,af mW Du),(183,af jB vQ),(184,af jA vP),(185,af ke BK)]
def qe:Hd:=bR mq
abbrev c6:Lo:=⟨⟨(.any::.one (.ptr 1 0)::.one (.ptr 2 0)::.one (.onl 91 az 7)::.one (.hol (.int IntKind.i64))::.one (.onl 91 az 11)::.one (.hol (.int IntKind.i64))::.any::ag (ag (ag (ag (bQ (bt [])))))),[none,some [.hol .bool,.hol .str,.hol (.int IntKind.i16),.hol (.int IntKind.i32),.hol (.sl 172 aB)],some [.hol (.int IntKind.i64),.hol (.int IntKind.i64),.hol .bool,.onl 5 (Ty.int IntKind.u8) 1032,.onl 91 az 1034]]⟩,[(.exit 2,⟨(.any::.one (.ptr 1 0)::.one (.ptr 2 0)::.one (.onl 91 az 7)::.one (.hol (.int IntKind.i64))::.one (.onl 91 az 11)::ag (ag (ag (ag (dq []))))),[none,some [.hol .bool,.hol .str,.hol (.int IntKind.i16),.hol (.int IntKind.i32),.hol (.sl 172 aB)],some [.hol (.int IntKind.i64),.hol (.int IntKind.i64),.hol .bool,.onl 5 (Ty.int IntKind.u8) 1032,.onl 91 az 1034]]⟩)]⟩
abbrev c5:Lo:=⟨⟨(.any::.one (.ptr 1 0)::.one (.ptr 2 0)::.one (.onl 91 az 7)::.one (.hol (.int IntKind.i64))::.any::ag (ag (ag (ag (dq []))))),[none,some [.hol .bool,.hol .str,.hol (.int IntKind.i16),.hol (.int IntKind.i32),.hol (.sl 172 aB)],some [.hol (.int IntKind.i64),.hol (.int IntKind.i64),.hol .bool,.onl 5 (Ty.int IntKind.u8) 1032,.onl 91 az 1034]]⟩,[(.exit 0,⟨(.any::.one (.ptr 1 0)::.one (.ptr 2 0)::.one (.onl 91 az 7)::ag (ag (ag (ag (dq (bt [])))))),[none,some [.hol .bool,.hol .str,.hol (.int IntKind.i16),.hol (.int IntKind.i32),.hol (.sl 172 aB)],some [.hol (.int IntKind.i64),.hol (.int IntKind.i64),.hol .bool,.onl 5 (Ty.int IntKind.u8) 1032,.onl 91 az 1034]]⟩)]⟩
def kE (d:c6.st.den):Tr (aJ c6.xs):=
 .ite ((decide ((0:Int)≤d.1.2.1)&&decide (d.1.2.1<(d.2.1.2.2.2.2.1.length:Int)))&&((decide (d.1.2.2.1.length=0)&&decide (d.1.2.2.2.1=0))&&decide ((d.2.1.2.2.2.2.1.getD d.1.2.1.toNat aB.zero).2.1.length≤4294967296)))
  (.ret (.ret ((),((d.1.1,(d.1.2.1,((d.2.1.2.2.2.2.1.getD d.1.2.1.toNat aB.zero).2.1.map fA,()))),(d.2.1,(d.2.2.1,())))))) .no
def kD (d:c5.st.den):Tr (aJ c5.xs):=
 .ite ((decide (d.1.1.length=0)&&decide (d.1.2.1=0))&&fB d.2.1.2.2.2.2.1)
  (.ret (.ret ((),((d.2.1.2.2.2.2.1.map cL,()),(d.2.1,(d.2.2.1,())))))) .no
def ip:Lp:=bJ [(4,bv c5 kD),(8,bv c6 kE)]
def oJ {R:Type}(h17:List az.den)(h18:Int)(h19:List az.den)(h20:Int)(h21:Bool)(h22:List Int)(h23 h24:Int)(h25:List aB.den)(h26 h27:Int)(h28:Bool)(h29:List Int)(h30:List az.den)(next:List az.den→Int→List az.den→Int→Bool→List Int→Int→Int→List aB.den→Int→Int→Bool→List Int→List az.den→Option R)(out:aJ c6.xs→Option R):Option R:=bif decide (0≤h18)&&decide (h18<(↑h25.length:Int)) then bif decide (h20<(↑(List.length (h25.getD h18.toNat ([],[],())).2.1):Int)) then bif decide (0≤h18)&&decide (h18<(↑h25.length:Int)) then bif decide (0≤h20)&&decide (h20<(↑(List.length (h25.getD h18.toNat ([],[],())).2.1):Int)) then bif decide (h19.length+1≤4294967296) then next (h17) (h18) (h19++[Tre.mk (10,0,false,[],()) [Tre.mk (3,IntKind.i64.wrap (List.getD (h25.getD h18.toNat ([],[],())).2.1 h20.toNat (0,(false,[],()),())).1,false,[],()) [],Tre.mk (8,0,(List.getD (h25.getD h18.toNat ([],[],())).2.1 h20.toNat (0,(false,[],()),())).2.1) []]]) (IntKind.i64.wrap (h20+1)) (h21) (h22) (h23) (h24) (h25) (h26) (h27) (h28) (h29) (h30) else none else none else none else out (.ret ((),((h17,(h18,(h19,()))),((h21,(h22,(h23,(h24,(h25,()))))),((h26,(h27,(h28,(h29,(h30,()))))),()))))) else none
def jD (n:Nat)(h17:List az.den)(h18:Int)(h19:List az.den)(h20:Int)(h21:Bool)(h22:List Int)(h23 h24:Int)(h25:List aB.den)(h26 h27:Int)(h28:Bool)(h29:List Int)(h30:List az.den):Option (aJ c6.xs):=lD tt qe dr ip 0 Tryz.f84 (Gw Tryz.f84 (gQ Tryz.f84 0) 0) n (c6.st.mk' ((h17,(h18,(h19,(h20,())))),((h21,(h22,(h23,(h24,(h25,()))))),((h26,(h27,(h28,(h29,(h30,()))))),())))) (dc c6.xs)
theorem CY (n:Nat)(h17:List az.den)(h18:Int)(h19:List az.den)(h20:Int)(h21:Bool)(h22:List Int)(h23 h24:Int)(h25:List aB.den)(h26 h27:Int)(h28:Bool)(h29:List Int)(h30:List az.den):jD (n+1) h17 h18 h19 h20 h21 h22 h23 h24 h25 h26 h27 h28 h29 h30=oJ h17 h18 h19 h20 h21 h22 h23 h24 h25 h26 h27 h28 h29 h30 (jD n) some:=by kernel_rfl
def oI {R:Type}(h5:List az.den)(h6:Int)(h7:Bool)(h8:List Int)(h9 h10:Int)(h11:List aB.den)(h12 h13:Int)(h14:Bool)(h15:List Int)(h16:List az.den)(next:List az.den→Int→Bool→List Int→Int→Int→List aB.den→Int→Int→Bool→List Int→List az.den→Option R)(out:aJ c5.xs→Option R):Option R:=bif decide (h6<(↑h11.length:Int)) then (kE ((h5,(h6,([],(0,())))),((h7,(h8,(h9,(h10,(h11,()))))),((h12,(h13,(h14,(h15,(h16,()))))),())))).run fun y=>match y with | .ret ((),((x58,x59,x60,()),(x61,x62,x63,x64,x65,()),(x66,x67,x68,x69,x70,()),()))=>(bif decide (0≤x59)&&decide (x59<(↑x65.length:Int)) then bif decide (x58.length+1≤4294967296) then next (x58++[Tre.mk (10,0,false,[],()) [Tre.mk (5,0,false,(x65.getD x59.toNat ([],[],())).1,()) [],Tre.mk (9,0,false,[],()) x60]]) (IntKind.i64.wrap (x59+1)) (x61) (x62) (x63) (x64) (x65) (x66) (x67) (x68) (x69) (x70) else none else none) else out (.ret ((),((h5,()),((h7,(h8,(h9,(h10,(h11,()))))),((h12,(h13,(h14,(h15,(h16,()))))),())))))
def jC (n:Nat)(h5:List az.den)(h6:Int)(h7:Bool)(h8:List Int)(h9 h10:Int)(h11:List aB.den)(h12 h13:Int)(h14:Bool)(h15:List Int)(h16:List az.den):Option (aJ c5.xs):=lD tt qe dr ip 0 Tryz.f84 (gQ Tryz.f84 0) n (c5.st.mk' ((h5,(h6,())),((h7,(h8,(h9,(h10,(h11,()))))),((h12,(h13,(h14,(h15,(h16,()))))),())))) (dc c5.xs)
theorem CX (n:Nat)(h5:List az.den)(h6:Int)(h7:Bool)(h8:List Int)(h9 h10:Int)(h11:List aB.den)(h12 h13:Int)(h14:Bool)(h15:List Int)(h16:List az.den):jC (n+1) h5 h6 h7 h8 h9 h10 h11 h12 h13 h14 h15 h16=oI h5 h6 h7 h8 h9 h10 h11 h12 h13 h14 h15 h16 (jC n) some:=by kernel_rfl
theorem wV {ts:List aB.den}(hw:∀t∈ts,aB.wf t)(hl:ts.length≤maxLen){i:Nat}(hi:i<ts.length)(hp:(ts[i]).2.1.length≤4294967296)(acc:List Nd)(nz:Bool)(ns:List Int)(ak wt a' b':Int)(z':Bool)(x':List Int)(l':List Nd):∀(k j:Nat) (o:List Nd),(ts[i]).2.1.length<j+k→j≤(ts[i]).2.1.length→o.length≤j→
  jD k acc i o j nz ns ak wt ts a' b' z' x' l'=some (.ret ((),((acc,((i:Int),(o++((ts[i]).2.1.drop j).map fA,()))),((nz,(ns,(ak,(wt,(ts,()))))),((a',(b',(z',(x',(l',()))))),()))))):=by
 intro k
 induction k with
 |zero=>intro j o h1 h2;omega
 |succ k ih=>
  intro j o h1 h2 h3
  rw[CY]
  unfold oJ
  refine (aa (by simp;omega) _ _).trans ?_
  have hti:=hw _ (List.getElem_mem hi)
  simp only[Int.toNat_natCast,bh hi]
  generalize ts[i]=t at hp h1 h2 ih hti ⊢
  by_cases hj:j<t.2.1.length
  ·refine (aa (decide_eq_true (show (j:Int)<(t.2.1.length:Int) by omega)) _ _).trans ?_
   refine (aa (by simp;omega) _ _).trans ?_
   refine (aa (by simp;omega) _ _).trans ?_
   refine (aa (decide_eq_true (show o.length+1≤4294967296 by omega)) _ _).trans ?_
   have hpw:=hti.2.1.2 _ (List.getElem_mem hj)
   have ih':=ih (j+1) (o++[fA t.2.1[j]]) (by omega) (by omega) (by simp;omega)
   have hd:t.2.1.drop j=t.2.1[j]::t.2.1.drop (j+1):=List.drop_eq_getElem_cons hj
   rw[hd,bx (n:=(j:Int)+1) (by omega) (by omega)]
   have hgp:List.getD t.2.1 ((j:Int)).toNat cX.zero=t.2.1[j]:=by simp only[Int.toNat_natCast];exact bh hj
   refine Eq.trans ?_ (ih'.trans ?_)
   ·refine congrArg (fun x=>jD k acc i (o++[x]) _ nz ns ak wt ts a' b' z' x' l') ?_
    show cj [aF 3 (IntKind.i64.wrap (List.getD t.2.1 ((j:Int)).toNat cX.zero).1),lF (List.getD t.2.1 ((j:Int)).toNat cX.zero).2.1]=_
    rw[hgp]
    exact If hpw
   ·simp only[List.map_cons,List.append_assoc,List.singleton_append]
  ·refine (ae (decide_eq_false (show ¬(j:Int)<(t.2.1.length:Int) by omega)) _ _).trans ?_
   rw[List.drop_of_length_le (by omega)]
   simp
theorem wU {ts:List aB.den}(hw:∀t∈ts,aB.wf t)(hl:ts.length≤maxLen)(hs:fB ts=true)(nz:Bool)(ns:List Int)(ak wt a' b':Int)(z':Bool)(x':List Int)(l':List Nd):∀(k j:Nat) (o:List Nd),ts.length<j+k→j≤ts.length→o.length≤j→
  jC k o j nz ns ak wt ts a' b' z' x' l'=some (.ret ((),((o++(ts.drop j).map cL,()),((nz,(ns,(ak,(wt,(ts,()))))),((a',(b',(z',(x',(l',()))))),()))))):=by
 intro k
 have hs1:=(Bool.and_eq_true _ _▸hs).1
 have hs2:=(Bool.and_eq_true _ _▸hs).2
 have hs1:ts.length≤4294967296:=of_decide_eq_true hs1
 induction k with
 |zero=>intro j o h1 h2;omega
 |succ k ih=>
  intro j o h1 h2 h3
  rw[CX]
  unfold oI
  by_cases hj:j<ts.length
  ·refine (aa (decide_eq_true (show (j:Int)<(ts.length:Int) by omega)) _ _).trans ?_
   have hgp:ts.getD ((j:Int)).toNat aB.zero=ts[j]:=by simp only[Int.toNat_natCast];exact bh hj
   have hpl:(ts[j]).2.1.length≤4294967296:=of_decide_eq_true (List.all_eq_true.1 hs2 _ (List.getElem_mem hj))
   have c8:((decide ((0:Int)≤(j:Int))&&decide ((j:Int)<(ts.length:Int)))&&((decide (([]:List Nd).length=0)&&decide ((0:Int)=0))&&decide ((ts.getD ((j:Int)).toNat aB.zero).2.1.length≤4294967296)))=true:=by
    rw[hgp];simp;omega
   refine (aa c8 _ _).trans ?_
   refine (aa (by simp;omega) _ _).trans ?_
   refine (aa (decide_eq_true (show o.length+1≤4294967296 by omega)) _ _).trans ?_
   rw[bx (n:=(j:Int)+1) (by omega) (by omega)]
   have ih':=ih (j+1) (o++[cL ts[j]]) (by omega) (by omega) (by simp;omega)
   have hd:ts.drop j=ts[j]::ts.drop (j+1):=List.drop_eq_getElem_cons hj
   rw[hd]
   refine Eq.trans ?_ (ih'.trans ?_)
   ·refine congrArg (fun x=>jC k (o++[x]) _ nz ns ak wt ts a' b' z' x' l') ?_
    show (cj [kh (ts.getD ((j:Int)).toNat aB.zero).1,bw ((ts.getD ((j:Int)).toNat aB.zero).2.1.map fA)])=_
    rw[hgp];rfl
   ·simp only[List.map_cons,List.append_assoc,List.singleton_append]
  ·refine (ae (decide_eq_false (show ¬(j:Int)<(ts.length:Int) by omega)) _ _).trans ?_
   rw[List.drop_of_length_le (by omega)]
   simp
def q7 (a0:Bool)(a1:List Int)(a2 a3:Int)(a4:List aB.den):Option ga.Res:=(kD (([],(0,())),((a0,(a1,(a2,(a3,(a4,()))))),((0,(0,(false,([],([],()))))),())))).run fun y=>match y with | .ret ((),((x94,()),(x95,x96,x97,x98,x99,()),(x100,x101,x102,x103,x104,()),()))=>(some (Out.ret ((Tre.mk (10,0,false,[],()) [Tre.mk (6,0,x95,x96,()) [],Tre.mk (2,IntKind.i64.wrap x97,false,[],()) [],Tre.mk (3,IntKind.i64.wrap x98,false,[],()) [],Tre.mk (9,0,false,[],()) x94],()),())))
theorem FR (a0:Bool)(a1:List Int)(a2 a3:Int)(a4:List aB.den):Io.run tt qe dr ip ga Tryz.f84 ((((a0,a1,()),a2,a3,a4,()),()),())=q7 a0 a1 a2 a3 a4:=by kernel_rfl
theorem HG:HcOk prog 84 (af ga sn):=by
 refine ao (n:=400) hm (cs:=mq) (.cons m6 (.cons s4 (.cons m7 (.cons jH (.cons jG (.cons xq .nil)))))) (lp:=ip) (fn:=Tryz.f84) (by kernel_rfl) (by kernel_rfl) (by kernel_rfl) ga (.step (h0:=bv c5 kD) (by kernel_rfl) (aQ (n:=400) hm (cs:=mq) (.cons m6 (.cons s4 (.cons m7 (.cons jH (.cons jG (.cons xq .nil)))))) (lp:=ip) (fn:=Tryz.f84) (.step (h0:=bv c6 kE) (by kernel_rfl) (aQ (n:=400) hm (cs:=mq) (.cons m6 (.cons s4 (.cons m7 (.cons jH (.cons jG (.cons xq .nil)))))) (lp:=ip) (fn:=Tryz.f84) (.done (by kernel_rfl)) c6 kE ?_) (.done (by kernel_rfl))) c5 kD ?_) (.done (by kernel_rfl))) sn ?_
 ·rintro ⟨⟨(acc:List Nd),(i:Int),(o:List Nd),(j:Int),⟨⟩⟩,⟨⟨(nz:Bool),(ns:List Int),(ak:Int),(wt:Int),(ts:List aB.den),⟨⟩⟩,⟨(a':Int),(b':Int),(z':Bool),(x':List Int),(l':List Nd),⟨⟩⟩,⟨⟩⟩⟩ y hw hy
  obtain ⟨hg,hy⟩:=Tr.guard hy
  simp only[Bool.and_eq_true,decide_eq_true_eq] at hg
  obtain ⟨⟨h1,h2⟩,⟨h3,h4⟩,h5⟩:=hg
  have h1:0≤i:=h1
  have h2:i<(ts.length:Int):=h2
  have h3:o=[]:=List.eq_nil_of_length_eq_zero h3
  have h4:j=0:=h4
  obtain ⟨i,rfl⟩:=eM h1
  subst h3
  subst h4
  have hi:i<ts.length:=by omega
  have hgp:ts.getD ((i:Int)).toNat aB.zero=ts[i]:=by simp only[Int.toNat_natCast];exact bh hi
  have h5:(ts.getD ((i:Int)).toNat aB.zero).2.1.length≤4294967296:=h5
  rw[hgp] at h5
  have hwt:ts.length≤maxLen∧∀t∈ts,aB.wf t:=by have:=hw.2.1.2.2.2.2.1;exact this
  refine ⟨(ts[i]).2.1.length+1,(wV hwt.2 hwt.1 hi h5 acc nz ns ak wt a' b' z' x' l' ((ts[i]).2.1.length+1) 0 [] (by omega) (by omega) (by simp)).trans ?_⟩
  rw[← hy,← hgp,List.drop_zero]
  rfl
 ·rintro ⟨⟨(o:List Nd),(j:Int),⟨⟩⟩,⟨⟨(nz:Bool),(ns:List Int),(ak:Int),(wt:Int),(ts:List aB.den),⟨⟩⟩,⟨(a':Int),(b':Int),(z':Bool),(x':List Int),(l':List Nd),⟨⟩⟩,⟨⟩⟩⟩ y hw hy
  obtain ⟨hg,hy⟩:=Tr.guard hy
  simp only[Bool.and_eq_true,decide_eq_true_eq] at hg
  obtain ⟨⟨h3,h4⟩,h5⟩:=hg
  have h3:o=[]:=List.eq_nil_of_length_eq_zero h3
  have h4:j=0:=h4
  have h5:fB ts=true:=h5
  subst h3
  subst h4
  have hwt:ts.length≤maxLen∧∀t∈ts,aB.wf t:=by have:=hw.2.1.2.2.2.2.1;exact this
  refine ⟨ts.length+1,(wU hwt.2 hwt.1 h5 nz ns ak wt a' b' z' x' l' (ts.length+1) 0 [] (by omega) (by omega) (by simp)).trans ?_⟩
  rw[← hy,List.drop_zero]
  rfl
 ·rintro ⟨⟨⟨⟨(nz:Bool),(ns:List Int),⟨⟩⟩,(ak:Int),(wt:Int),(ts:List aB.den),⟨⟩⟩,⟨⟩⟩,⟨⟩⟩ out hw ho
  obtain ⟨hg,ho⟩:=Tr.guard ho
  have hg:fB ts=true:=hg
  cases ho
  refine (FR nz ns ak wt ts).trans ?_
  unfold q7
  have c1:((decide (([]:List Nd).length=0)&&decide ((0:Int)=0))&&fB ts)=true:=by rw[hg];rfl
  refine (aa c1 _ _).trans ?_
  show _=some (Out.ret ((cQ ((nz,(ns,())),(ak,(wt,(ts,())))),()),()))
  unfold cQ
  have h1:IntKind.i64.wrap ak=ak:=jq hw.1.1.2.1
  have h2:IntKind.i64.wrap wt=wt:=fc hw.1.1.2.2.1
  show some (Out.ret ((cj [iK (nz,(ns,())),aF 2 (IntKind.i64.wrap ak),aF 3 (IntKind.i64.wrap wt),bw (ts.map cL)],()),()))=_
  rw[h1,h2]
abbrev t9:Lo:=⟨⟨(bt (.one (.ptr 2 0)::.one (.ptr 3 0)::.one (.hol (.sl 91 az))::.one (.hol (.int IntKind.i64))::.one (.ptr 6 0)::.one (.hol (.sl 91 az))::.one (.hol (.int IntKind.i64))::.any::ag (ag (ag (ag (bt [])))))),[none,none,some [.hol .bool,.hol .str,.hol (.int IntKind.i16),.hol (.int IntKind.i32),.onl 172 aB 1034],some [.hol .bool,.hol .str,.hol (.int IntKind.i16),.hol (.int IntKind.i32),.onl 172 aB 1546],none,none,some [.hol .str,.onl 178 cX 3076]]⟩,[(.exit 2,⟨(bt (.one (.ptr 2 0)::.one (.ptr 3 0)::.one (.hol (.sl 91 az))::.one (.hol (.int IntKind.i64))::.one (.ptr 6 0)::.any::ag (ag (ag (ag (bQ [])))))),[none,none,some [.hol .bool,.hol .str,.hol (.int IntKind.i16),.hol (.int IntKind.i32),.onl 172 aB 1034],some [.hol .bool,.hol .str,.hol (.int IntKind.i16),.hol (.int IntKind.i32),.onl 172 aB 1546],none,none,some [.hol .str,.onl 178 cX 3076]]⟩)]⟩
abbrev w7:Lo:=⟨⟨(bt (.one (.ptr 2 0)::.one (.ptr 3 0)::.one (.hol (.sl 91 az))::.one (.hol (.int IntKind.i64))::ag (ag (ag (ag (bQ (bt []))))))),[none,none,some [.hol .bool,.hol .str,.hol (.int IntKind.i16),.hol (.int IntKind.i32),.onl 172 aB 1034],some [.hol .bool,.hol .str,.hol (.int IntKind.i16),.hol (.int IntKind.i32),.onl 172 aB 1546]]⟩,[(.exit 0,⟨(bt (.one (.ptr 2 0)::.one (.ptr 3 0)::ag (ag (ag (ag (dq [])))))),[none,none,some [.hol .bool,.hol .str,.hol (.int IntKind.i16),.hol (.int IntKind.i32),.onl 172 aB 1034],some [.hol .bool,.hol .str,.hol (.int IntKind.i16),.hol (.int IntKind.i32),.onl 172 aB 1546]]⟩)]⟩
def UN (d:t9.st.den):Tr (aJ t9.xs):=
 .ite ((decide (d.1.2.2.2.1=0)&&decide (d.2.2.2.1.2.1.length=0))&&decide (cO d.1.2.2.1≤4294967296))
  (.ret (.ret ((),((d.1.1,(d.1.2.1,())),(d.2.1,(d.2.2.1,((d.2.2.2.1.1,(d.1.2.2.1.map ox,())),()))))))) .no
def Wi (d:w7.st.den):Tr (aJ w7.xs):=
 .ite ((decide (d.1.2.1=0)&&decide (d.2.2.1.2.2.2.2.1.length=0))&&decide (cO d.1.1≤4294967296))
  (.ret (.ret ((),((),(d.2.1,((d.2.2.1.1,(d.2.2.1.2.1,(d.2.2.1.2.2.1,(d.2.2.1.2.2.2.1,(d.1.1.map lU,()))))),())))))) .no
def AQ (l:List aW.den):Bool:=decide (l.length≤4294967296)&&l.all fun t=>decide (t.2.1.length≤4294967296)
abbrev rD:Lo:=⟨⟨(.any::.one (.ptr 1 0)::.one (.ptr 2 0)::.one (.onl 91 az 7)::.one (.hol (.int IntKind.i64))::.one (.onl 91 az 11)::.one (.hol (.int IntKind.i64))::ag (ag (ag (ag (dq (bQ [])))))),[none,some [.hol (.sl 212 aW),.hol (.int IntKind.i32)],some [.hol (.int IntKind.i64),.hol (.int IntKind.i64),.hol .bool,.onl 5 (Ty.int IntKind.u8) 1032,.onl 91 az 1034]]⟩,[(.exit 2,⟨(.any::.one (.ptr 1 0)::.one (.ptr 2 0)::.one (.onl 91 az 7)::.one (.hol (.int IntKind.i64))::.one (.onl 91 az 11)::.any::ag (ag (ag (ag (dq (bQ [])))))),[none,some [.hol (.sl 212 aW),.hol (.int IntKind.i32)],some [.hol (.int IntKind.i64),.hol (.int IntKind.i64),.hol .bool,.onl 5 (Ty.int IntKind.u8) 1032,.onl 91 az 1034]]⟩)]⟩
abbrev rC:Lo:=⟨⟨(.any::.one (.ptr 1 0)::.one (.ptr 2 0)::.one (.onl 91 az 7)::.one (.hol (.int IntKind.i64))::ag (ag (ag (ag (dq (bQ (bt []))))))),[none,some [.hol (.sl 212 aW),.hol (.int IntKind.i32)],some [.hol (.int IntKind.i64),.hol (.int IntKind.i64),.hol .bool,.onl 5 (Ty.int IntKind.u8) 1032,.onl 91 az 1034]]⟩,[(.exit 0,⟨(.any::.one (.ptr 1 0)::.one (.ptr 2 0)::.one (.onl 91 az 7)::.any::ag (ag (ag (ag (dq (bQ (bt []))))))),[none,some [.hol (.sl 212 aW),.hol (.int IntKind.i32)],some [.hol (.int IntKind.i64),.hol (.int IntKind.i64),.hol .bool,.onl 5 (Ty.int IntKind.u8) 1032,.onl 91 az 1034]]⟩)]⟩
def TZ (d:rD.st.den):Tr (aJ rD.xs):=
 .ite ((decide ((0:Int)≤d.1.2.1)&&decide (d.1.2.1<(d.2.1.1.length:Int)))&&((decide (d.1.2.2.1.length=0)&&decide (d.1.2.2.2.1=0))&&decide ((d.2.1.1.getD d.1.2.1.toNat aW.zero).2.1.length≤4294967296)))
  (.ret (.ret ((),((d.1.1,(d.1.2.1,((d.2.1.1.getD d.1.2.1.toNat aW.zero).2.1.map po,()))),(d.2.1,(d.2.2.1,())))))) .no
def TY (d:rC.st.den):Tr (aJ rC.xs):=
 .ite ((decide (d.1.1.length=0)&&decide (d.1.2.1=0))&&AQ d.2.1.1)
  (.ret (.ret ((),((d.2.1.1.map iL,()),(d.2.1,(d.2.2.1,())))))) .no
abbrev t8:Lo:=⟨⟨(bt (.one (.ptr 2 0)::.one (.ptr 3 0)::.one (.hol (.sl 91 az))::.one (.hol (.int IntKind.i64))::.one (.ptr 6 0)::.one (.hol (.sl 91 az))::.one (.hol (.int IntKind.i64))::.any::ag (ag (ag (ag (dq [])))))),[none,none,some [.onl 212 aW 1026,.hol (.int IntKind.i32)],some [.onl 212 aW 1538,.hol (.int IntKind.i32)],none,none,some [.hol .str,.onl 214 cE 3076]]⟩,[(.exit 2,⟨(bt (.one (.ptr 2 0)::.one (.ptr 3 0)::.one (.hol (.sl 91 az))::.one (.hol (.int IntKind.i64))::.one (.ptr 6 0)::.any::ag (ag (ag (ag (dq (bt []))))))),[none,none,some [.onl 212 aW 1026,.hol (.int IntKind.i32)],some [.onl 212 aW 1538,.hol (.int IntKind.i32)],none,none,some [.hol .str,.onl 214 cE 3076]]⟩)]⟩
abbrev w6:Lo:=⟨⟨(bt (.one (.ptr 2 0)::.one (.ptr 3 0)::.one (.hol (.sl 91 az))::.one (.hol (.int IntKind.i64))::ag (ag (ag (ag (dq (bQ []))))))),[none,none,some [.onl 212 aW 1026,.hol (.int IntKind.i32)],some [.onl 212 aW 1538,.hol (.int IntKind.i32)]]⟩,[(.exit 0,⟨(bt (.one (.ptr 2 0)::.one (.ptr 3 0)::ag (ag (ag (ag (dq (bQ (bt [])))))))),[none,none,some [.onl 212 aW 1026,.hol (.int IntKind.i32)],some [.onl 212 aW 1538,.hol (.int IntKind.i32)]]⟩)]⟩
def UM (d:t8.st.den):Tr (aJ t8.xs):=
 .ite ((decide (d.1.2.2.2.1=0)&&decide (d.2.2.2.1.2.1.length=0))&&decide (cO d.1.2.2.1≤4294967296))
  (.ret (.ret ((),((d.1.1,(d.1.2.1,())),(d.2.1,(d.2.2.1,((d.2.2.2.1.1,(d.1.2.2.1.map Gb,())),()))))))) .no
def Wh (d:w6.st.den):Tr (aJ w6.xs):=
 .ite ((decide (d.1.2.1=0)&&decide (d.2.2.1.1.length=0))&&decide (cO d.1.1≤4294967296))
  (.ret (.ret ((),((),(d.2.1,((d.1.1.map QO,(d.2.2.1.2.1,())),())))))) .no
end
end Go.Proofs.YtomeplopmndbgaaGreat.Sym
namespace Go.Proofs.YtomeplopmndbgaaGreat.Sym
open Go
set_option linter.unusedSimpArgs false
set_option linter.unusedVariables false
noncomputable section
theorem gV {n:Int}(h:cT .i32 n):IntKind.i32.wrap n=n:=by
 simp only[cT,IntKind.min,IntKind.max,IntKind.signed,IntKind.bits] at h
 exact dP (by simp[cT,IntKind.min,IntKind.max,IntKind.signed,IntKind.bits];simpa using h)
theorem Vu {n:Int}(h:cT .i16 n):IntKind.i16.wrap n=n:=by
 simp only[cT,IntKind.min,IntKind.max,IntKind.signed,IntKind.bits] at h
 exact dP (by simp[cT,IntKind.min,IntKind.max,IntKind.signed,IntKind.bits];simpa using h)
theorem jT {α:Type}{f:α→α}{l:List α}(h:∀x∈l,f x=x):l.map f=l:=by
 conv=>rhs;rw[← List.map_id l]
 exact List.map_congr_left h
theorem yP {p:cX.den}(h:cX.wf p):ox (fA p)=p:=by
 obtain ⟨a,⟨z,x,⟨⟩⟩,⟨⟩⟩:=p
 show (IntKind.i32.wrap a,_,_)=_
 rw[gV h.1];rfl
theorem x4 {t:aB.den}(h:aB.wf t):lU (cL t)=t:=by
 obtain ⟨n,l,⟨⟩⟩:=t
 show (n,((l.map fA).map ox,()))=_
 rw[List.map_map,jT (f:=ox ∘ fA) (l:=l) fun p hp=>yP (h.2.1.2 p hp)]
theorem rY {m:iD.den}(h:iD.wf m):Kr (cQ m)=m:=by
 obtain ⟨⟨z,s,⟨⟩⟩,a,w,l,⟨⟩⟩:=m
 unfold Kr cQ
 show ((z,(s,())),(IntKind.i16.wrap a,(IntKind.i32.wrap w,((l.map cL).map lU,()))))=_
 rw[Vu (n:=a) h.2.1,gV (n:=w) h.2.2.1,List.map_map,jT (f:=lU ∘ cL) (l:=l) fun t ht=>x4 (h.2.2.2.1.2 t ht)]
open Classical in
def pQ {α:Type}(a b:α):Bool:=if a=b then true else false
theorem tf {α:Type}{a b:α}:pQ a b=true↔a=b:=by unfold pQ;split <;> simp_all
@[irreducible] noncomputable def dT (v:Int)(m:iD.den):List Int×Int:=qC 0 false v (cQ m)
@[irreducible] noncomputable def fa (v:Int)(m:tB.den):List Int×Int:=qC 0 true v (lR m)
def aI (a b:List Int×Int):List Int×Int:=if a.2≠0 then ([],a.2) else if b.2≠0 then ([],b.2) else (a.1++b.1,0)
mutual
def pv (f:Fd)(v:Int):Nd→List Int×Int
 |.mk a ks=>if f.lab.2.1=9 then (if 16<ks.length then ([],9) else aI (aE ks.length 4,0) (gK (f.kids.headD f) v ks)) else if f.lab.2.1=10 then bT v f.kids ks else i3 f v (.mk a ks)
termination_by n=>(SizeOf.sizeOf n,0)
def gK (f:Fd)(v:Int):List Nd→List Int×Int
 |[]=>([],0)
 |k::ks=>aI (pv f v k) (gK f v ks)
termination_by l=>(SizeOf.sizeOf l,0)
def bT (v:Int):List Fd→List Nd→List Int×Int
 |f::fs,k::ks=>if nx f v=true then aI (pv f v k) (bT v fs ks) else bT v fs ks
 |_,_=>([],0)
termination_by fs l=>(SizeOf.sizeOf l,0)
end
mutual
def eC (f:Fd):Nd→Prop
 |.mk a ks=>(f.lab.2.1=9→kv (f.kids.headD f) ks)∧(f.lab.2.1=10→ks.length=f.kids.length∧cN f.kids ks)
termination_by n=>(SizeOf.sizeOf n,0)
def kv (f:Fd):List Nd→Prop
 |[]=>True
 |k::ks=>eC f k∧kv f ks
termination_by l=>(SizeOf.sizeOf l,0)
def cN:List Fd→List Nd→Prop
 |f::fs,k::ks=>eC f k∧cN fs ks
 |_,_=>True
termination_by fs l=>(SizeOf.sizeOf l,0)
end
theorem bL (v:Int)(l:List Nd):bT v [] l=([],0):=by rw[bT];simp
theorem Mr (v:Int)(l:List Nd):ku v [] l=([],0):=by rw[ku];simp
theorem rS (f:Fd)(v:Int):∀ks:List Nd,(dj f v ks).1.length=ks.length
 |[]=>by rw[dj]
 |k::ks=>by rw[dj,List.length_cons,List.length_cons,rS f v ks]
theorem uq (f:Fd)(fs:List Fd)(v:Int):li (f::fs) v=if nx f v=true then f::li fs v else li fs v:=by
 unfold li;rw[List.filter_cons]
theorem xJ (v:Int):∀(fs:List Fd) (ks:List Nd),ks.length=fs.length→(bS v fs ks).1.length=(li fs v).length
 |[],ks,_=>by rw[te];rfl
 |f::fs,[],h=>by simp at h
 |f::fs,k::ks,h=>by
  have ih:=xJ v fs ks (by simpa using h)
  rw[bS,uq]
  split
  ·rw[List.length_cons,List.length_cons,ih]
  ·exact ih
theorem rZ (k:Int)(l:List Nd)(h:8<k):kV k (Tre.mk (k,(0,(false,(([]:List Int),())))) l)=true:=by
 unfold kV
 simp;omega
theorem TB (v:Int):∀(N:Nat) (f:Fd) (n:Nd),r8 n≤N→eC f n→i3 f v (db f v n).1=pv f v n:=by
 intro N
 induction N with
 |zero=>intro f n h;have:=QW n;omega
 |succ N ih=>
  rintro f ⟨a,ks⟩ h hw
  rw[Da] at h
  have hks:∀k∈ks,r8 k≤N:=fun k hk=>by have:=Gm hk;simp only at h;omega
  rw[eC] at hw
  rw[db,pv]
  have hi:∀(f:Fd) (l:List Nd),(∀k∈l,r8 k≤N)→kv f l→eL f v (dj f v l).1=gK f v l:=by
   intro f l
   induction l with
   |nil=>intro _ _;rw[dj,eL,gK]
   |cons k l ihl=>
    intro hk hw
    rw[kv] at hw
    rw[dj,eL,gK,ih f k (hk k (by simp)) hw.1,ihl (fun k' hk'=>hk k' (List.mem_cons_of_mem _ hk')) hw.2]
    rfl
  have hz:∀(l:List Nd) (fs:List Fd),(∀k∈l,r8 k≤N)→l.length=fs.length→cN fs l→ku v (li fs v) (bS v fs l).1=bT v fs l:=by
   intro l
   induction l with
   |nil=>
    intro fs _ hl _
    cases fs with
    |nil=>rw[te,bL];exact Mr _ _
    |cons f fs=>simp at hl
   |cons k l ihl=>
    intro fs hk hl hw
    cases fs with
    |nil=>simp at hl
    |cons f fs=>
     rw[cN] at hw
     have ih2:=ihl fs (fun k' hk'=>hk k' (List.mem_cons_of_mem _ hk')) (by simpa using hl) hw.2
     rw[bS,bT,uq]
     by_cases hh:nx f v=true
     ·rw[if_pos hh,if_pos hh,if_pos hh,ku,ih f k (hk k (by simp)) hw.1,ih2]
      rfl
     ·rw[if_neg hh,if_neg hh,if_neg hh]
      exact ih2
  by_cases h9:f.lab.2.1=9
  ·rw[if_pos h9,if_pos h9,i3,h9,rZ 9 _ (by omega)]
   rw[if_neg (by decide),if_neg (by decide),if_pos rfl,rS,hi _ ks hks (hw.1 h9)]
   split
   ·rfl
   ·unfold aI;simp
  ·rw[if_neg h9,if_neg h9]
   by_cases h10:f.lab.2.1=10
   ·rw[if_pos h10,if_pos h10,i3,h10,rZ 10 _ (by omega)]
    rw[if_neg (by decide),if_neg (by decide),if_neg (by decide),if_pos rfl,kt,xJ v _ _ (hw.2 h10).1,if_neg (by simp),hz ks _ hks (hw.2 h10).1 (hw.2 h10).2]
   ·rw[if_neg h10,if_neg h10]
theorem jJ {k:Int}{r:Bool}{v:Int}{t:List Fd}{ks:List Nd}(ht:AU k r=(t,0))(hc:pO t=0)(hl:ks.length=t.length)(hw:cN t ks):
  qC k r v (cj ks)=if v<0∨3<v then ([],8) else if (bS v t ks).2=false then ([],7) else if (bT v t ks).2≠0 then ([],(bT v t ks).2) else if 130048<(bT v t ks).1.length then ([],4) else ((bT v t ks).1,0):=by
 have hd:eC (Tre.mk (([]:List Int),((10:Int),((0:Int),((0:Int),())))) t) (cj ks):=by
  rw[eC]
  exact ⟨fun h=>absurd (show (10:Int)=9 from h) (by decide),fun _=>⟨hl,hw⟩⟩
 have hcut:=TB v _ _ _ (Nat.le_refl _) hd
 have ecut:db (Tre.mk (([]:List Int),((10:Int),((0:Int),((0:Int),())))) t) v (cj ks)=(cj (bS v t ks).1,(bS v t ks).2):=by
  rw[db];exact (if_neg (show ¬((10:Int)=9) by decide)).trans (if_pos rfl)
 have eW:pv (Tre.mk (([]:List Int),((10:Int),((0:Int),((0:Int),())))) t) v (cj ks)=bT v t ks:=by
  rw[pv];exact (if_neg (show ¬((10:Int)=9) by decide)).trans (if_pos rfl)
 have eV:∀l,i3 (Tre.mk (([]:List Int),((10:Int),((0:Int),((0:Int),())))) t) v (cj l)=kt t v (cj l):=fun l=>by
  rw[i3]
  refine (if_neg ?_).trans ((if_neg (show ¬(10:Int)≤4 by decide)).trans ((if_neg (show ¬(10:Int)=9 by decide)).trans (if_pos rfl)))
  show ¬ kV 10 (cj l)=false
  rw[rZ 10 _ (by omega)];decide
 rw[eW,ecut,eV] at hcut
 unfold qC
 rw[ht]
 simp only
 rw[if_neg (by simp)]
 by_cases hv:v<0∨3<v
 ·rw[if_pos hv,if_pos hv]
 rw[if_neg hv,if_neg hv,ecut]
 by_cases h7:(bS v t ks).2=false
 ·rw[if_pos h7,if_pos h7]
 rw[if_neg h7,if_neg h7]
 unfold QL
 have hb:Ko t v=0:=by unfold Ko;rw[if_neg hv,hc]
 rw[hb,rZ 10 _ (by omega),if_neg (by simp),if_neg (by decide),hcut]
def Wri (r:List Int×Int)(f:aV→aV):Prop:=∀s:aV,s.2.2.length≤130048→
 (s.1≠0→(f s).1=s.1)∧(s.1=0→(f s).1=r.2)∧((f s).1=0→(((f s).2.1=false↔s.2.1=false∧s.2.2.length+r.1.length≤130048)∧((f s).2.1=false→(f s).2.2=s.2.2++r.1)))∧(f s).2.2.length≤130048
theorem Wri.seq {r1 r2:List Int×Int}{f g:aV→aV}(hf:Wri r1 f)(hg:Wri r2 g):Wri (aI r1 r2) fun s=>g (f s):=by
 intro s hs
 obtain ⟨f1,f2,f3,f4⟩:=hf s hs
 obtain ⟨g1,g2,g3,g4⟩:=hg (f s) f4
 unfold aI
 refine ⟨fun h=>?_,fun h=>?_,fun h=>?_,g4⟩
 ·have:=f1 h
  rw[g1 (by rw[this];exact h),this]
 ·have:=f2 h
  by_cases h1:r1.2=0
  ·rw[g2 (by rw[this];exact h1)]
   by_cases h2:r2.2=0
   ·simp[h1,h2]
   ·simp[h1,h2]
  ·rw[g1 (by rw[this];exact h1),this]
   simp[h1]
 ·by_cases h0:(f s).1=0
  ·have hs0:s.1=0:=by
    rcases Classical.em (s.1=0) with h' | h'
    ·exact h'
    ·rw[f1 h'] at h0;exact absurd h0 h'
   have h1:r1.2=0:=by rw[← f2 hs0];exact h0
   have h2:r2.2=0:=by rw[← g2 h0];exact h
   obtain ⟨a1,a2⟩:=f3 h0
   obtain ⟨b1,b2⟩:=g3 h
   simp only[h1,h2,ne_eq,not_true_eq_false,if_false,List.length_append]
   constructor
   ·constructor
    ·intro hx
     obtain ⟨c1,c2⟩:=b1.1 hx
     obtain ⟨c3,c4⟩:=a1.1 c1
     rw[a2 c1,List.length_append] at c2
     exact ⟨c3,by omega⟩
    ·rintro ⟨c1,c2⟩
     have c3:=a1.2 ⟨c1,by omega⟩
     exact b1.2 ⟨c3,by rw[a2 c3,List.length_append];omega⟩
   ·intro hx
    have c1:=(b1.1 hx).1
    rw[b2 hx,a2 c1,List.append_assoc]
  ·rw[g1 h0] at h;exact absurd h h0
theorem Wri.fail {e:Int}(he:e≠0):Wri ([],e) (bA e):=by
 intro s hs
 unfold bA
 refine ⟨fun h=>by rw[if_neg h],fun h=>by rw[if_pos h],fun h=>?_,by split <;> exact hs⟩
 split at h
 ·exact absurd h he
 ·rename_i h';exact absurd h h'
theorem Wri.put (x:Int)(n:Nat):Wri (aE x n,0) (ab x n):=by
 intro s hs
 refine ⟨fun h=>by unfold ab;split <;> rfl,fun h=>by unfold ab;split <;> exact h,fun h=>?_,av _ _ hs⟩
 unfold ab
 rw[di]
 split
 ·constructor
  ·constructor
   ·intro h';cases h'
   ·rintro ⟨_,h'⟩;omega
  ·intro h';cases h'
 ·constructor
  ·constructor
   ·intro h';exact ⟨h',by omega⟩
   ·rintro ⟨h',_⟩;exact h'
  ·intro _;rfl
theorem Wri.raw (p:List Int):Wri (p,0) (iw p):=by
 intro s hs
 refine ⟨fun h=>by unfold iw;split <;> rfl,fun h=>by unfold iw;split <;> exact h,fun h=>?_,tl _ hs⟩
 have hp:(p,(0:Int)).1.length=p.length:=rfl
 rw[hp]
 unfold iw
 split
 ·constructor
  ·constructor
   ·intro h';cases h'
   ·rintro ⟨_,h'⟩;omega
  ·intro h';cases h'
 ·constructor
  ·constructor
   ·intro h';exact ⟨h',by omega⟩
   ·rintro ⟨h',_⟩;exact h'
  ·intro _;rfl
theorem Wri.ofEq {r r':List Int×Int}{f:aV→aV}(h:Wri r f)(e:r=r'):Wri r' f:=e▸h
theorem Wri.nop:Wri ([],0) fun s=>s:=by
 intro s hs
 exact ⟨fun _=>rfl,fun h=>h,fun _=>⟨⟨fun h=>⟨h,by simpa using hs⟩,fun h=>h.1⟩,fun _=>by simp⟩,hs⟩
def gr (t:List Int):List Int×Int:=if (cM t).2=false then ([],6) else if 255<t.length then ([],4) else (aE t.length 2++t,0)
theorem Wri.str (t:List Int):Wri (gr t) (bn t):=by
 unfold gr
 by_cases h1:(cM t).2=false
 ·rw[if_pos h1]
  have:bn t=bA 6:=funext fun s=>by unfold bn;rw[if_pos h1]
  rw[this];exact Wri.fail (by decide)
 ·rw[if_neg h1]
  by_cases h2:255<t.length
  ·rw[if_pos h2]
   have:bn t=bA 4:=funext fun s=>by unfold bn;rw[if_neg h1,if_pos (by omega)]
   rw[this];exact Wri.fail (by decide)
  ·rw[if_neg h2]
   have:bn t=fun s=>iw t (ab t.length 2 s):=funext fun s=>by unfold bn;rw[if_neg h1,if_neg (by omega)]
   rw[this]
   exact ((Wri.put _ _).seq (Wri.raw _)).ofEq (by unfold aI;simp)
def pS (n:Bool×(List Int×Unit)):List Int×Int:=if n.1=true then (if n.2.1.length=0 then (aE (-1) 2,0) else ([],70)) else gr n.2.1
theorem Wri.name (n:Bool×(List Int×Unit)):Wri (pS n) (cR n):=by
 unfold pS
 by_cases h1:n.1=true
 ·rw[if_pos h1]
  by_cases h2:n.2.1=[]
  ·rw[if_pos (by rw[h2];rfl)]
   have:cR n=ab (-1) 2:=funext fun s=>by unfold cR;rw[if_neg (fun h=>h.2 h2),if_pos h1]
   rw[this];exact Wri.put _ _
  ·rw[if_neg (fun h=>h2 (List.eq_nil_of_length_eq_zero h))]
   have:cR n=bA 70:=funext fun s=>by unfold cR;rw[if_pos ⟨h1,h2⟩]
   rw[this];exact Wri.fail (by decide)
 ·rw[if_neg h1]
  have:cR n=bn n.2.1:=funext fun s=>by unfold cR;rw[if_neg (fun h=>h1 h.1),if_neg h1]
  rw[this];exact Wri.str _
def pN (n:Bool×(List Int×Unit)):List Int×Int:=if n.1=true then (if n.2.1.length=0 then (aE (-1) 4,0) else ([],70)) else (aE n.2.1.length 4++n.2.1,0)
theorem Wri.blob (n:Bool×(List Int×Unit))(hn:n.2.1.length≤2147483647):Wri (pN n) (bP n):=by
 unfold pN
 by_cases h1:n.1=true
 ·rw[if_pos h1]
  by_cases h2:n.2.1.length=0
  ·rw[if_pos h2]
   have:bP n=ab (-1) 4:=funext fun s=>by unfold bP;rw[if_neg (fun h=>by omega),if_pos h1]
   rw[this];exact Wri.put _ _
  ·rw[if_neg h2]
   have:bP n=bA 70:=funext fun s=>by unfold bP;rw[if_pos ⟨h1,by omega⟩]
   rw[this];exact Wri.fail (by decide)
 ·rw[if_neg h1]
  have hwr:IntKind.i32.wrap (n.2.1.length:Int)=n.2.1.length:=dP (by simp[cT,IntKind.min,IntKind.max,IntKind.signed,IntKind.bits];omega)
  have:bP n=fun s=>iw n.2.1 (ab n.2.1.length 4 s):=funext fun s=>by unfold bP;rw[if_neg (fun h=>h1 h.1),if_neg h1,hwr]
  rw[this]
  exact ((Wri.put _ _).seq (Wri.raw _)).ofEq (by unfold aI;simp)
def kk {α:Type}(one:α→List Int×Int):List α→List Int×Int
 |[]=>([],0)
 |x::xs=>aI (one x) (kk one xs)
theorem Wri.fold {α:Type}{one:α→List Int×Int}{f:α→aV→aV}:∀{xs:List α},(∀x∈xs,Wri (one x) (f x))→Wri (kk one xs) fun s=>xs.foldl (fun s x=>f x s) s
 |[],_=>Wri.nop
 |x::xs,h=>(h x (by simp)).seq (Wri.fold fun y hy=>h y (List.mem_cons_of_mem _ hy))
def cr {α:Type}(one:α→List Int×Int)(xs:List α):List Int×Int:=if 16<xs.length then ([],9) else aI (aE xs.length 4,0) (kk one xs)
theorem Wri.items {α:Type}{one:α→List Int×Int}{f:α→aV→aV}{xs:List α}(h:∀x∈xs,Wri (one x) (f x)):Wri (cr one xs) (bk f xs):=by
 unfold cr
 by_cases h1:16<xs.length
 ·rw[if_pos h1]
  have:bk f xs=bA 9:=funext fun s=>by unfold bk;rw[if_pos (by omega)]
  rw[this];exact Wri.fail (by decide)
 ·rw[if_neg h1]
  have:bk f xs=fun s=>xs.foldl (fun s x=>f x s) (ab xs.length 4 s):=funext fun s=>by unfold bk;rw[if_neg (by omega)]
  rw[this]
  exact (Wri.put _ _).seq (Wri.fold h)
theorem Wri.hasE (v lo hi x:Int)(n:Nat):Wri (if lo≤v∧v≤hi then (aE x n,0) else ([],0)) (bV v lo hi x n):=by
 by_cases h:lo≤v∧v≤hi
 ·rw[if_pos h]
  have:bV v lo hi x n=ab x n:=funext fun s=>by unfold bV;rw[if_pos h]
  rw[this];exact Wri.put _ _
 ·rw[if_neg h]
  have:bV v lo hi x n=fun s=>s:=funext fun s=>by unfold bV;rw[if_neg h]
  rw[this];exact Wri.nop
theorem Wri.done {r:List Int×Int}{f:aV→aV}(h:Wri r f)(e:Int):(bj (f (e,(false,[]))),aM (f (e,(false,[]))))=if e≠0 then ([],e) else if r.2≠0 then ([],r.2) else if 130048<r.1.length then ([],4) else (r.1,0):=by
 obtain ⟨h1,h2,h3,_⟩:=h (e,(false,[])) (by simp)
 by_cases he:e=0
 ·subst he
  have h2:=h2 rfl
  by_cases hr:r.2=0
  ·have h0:(f (0,(false,[]))).1=0:=by rw[h2];exact hr
   obtain ⟨h4,h5⟩:=h3 h0
   have h4:(f (0,(false,[]))).2.1=false↔r.1.length≤130048:=
    ⟨fun hx=>by have:=(h4.1 hx).2;simpa using this,fun hx=>h4.2 ⟨rfl,by simpa using hx⟩⟩
   by_cases hl:130048<r.1.length
   ·have hf:(f (0,(false,[]))).2.1=true:=by
     cases hx:(f (0,(false,[]))).2.1 with
     |true=>rfl
     |false=>have:=h4.1 hx;omega
    simp[bj,aM,h0,hf,hr,hl]
   ·have hf:=h4.2 (by omega)
    have h6:=h5 hf
    simp[bj,aM,h0,hf,hr,hl,h6]
  ·have h0:¬(f (0,(false,[]))).1=0:=by rw[h2];exact hr
   simp[bj,aM,h2,hr]
 ·have h1:=h1 he
  simp[bj,aM,h1,he]
theorem AP {n:Int}(h:cT .i8 n):km n 1=true:=by
 simp only[cT,IntKind.min,IntKind.max,IntKind.signed,IntKind.bits] at h
 simp at h
 unfold km
 rw[if_neg (by decide),if_pos]
 simp;omega
theorem ko {n:Int}(h:cT .i16 n):km n 2=true:=by
 simp only[cT,IntKind.min,IntKind.max,IntKind.signed,IntKind.bits] at h
 simp at h
 unfold km
 rw[if_neg (by decide),if_pos]
 simp;omega
theorem bD {n:Int}(h:cT .i32 n):km n 4=true:=by
 simp only[cT,IntKind.min,IntKind.max,IntKind.signed,IntKind.bits] at h
 simp at h
 unfold km
 rw[if_neg (by decide),if_pos]
 simp;omega
theorem dk (n:Int):km n 8=true:=by unfold km;rw[if_pos (by decide)]
theorem r7 {nm:List Int}{k lo hi:Int}{e:List Fd}{v:Int}{n:Nd}(h9:k≠9)(h10:k≠10):pv (bY nm k lo hi e) v n=i3 (bY nm k lo hi e) v n:=by
 obtain ⟨a,ks⟩:=n
 rw[pv]
 exact (if_neg h9).trans (if_neg h10)
theorem aD {nm:List Int}{k lo hi:Int}{e:List Fd}{v:Int}{n:Nd}(h9:k≠9)(h10:k≠10):(db (bY nm k lo hi e) v n).2=true:=by
 obtain ⟨a,ks⟩:=n
 rw[db]
 exact congrArg Prod.snd ((if_neg h9).trans (if_neg h10))
theorem aA {nm:List Int}{k lo hi:Int}{e:List Fd}{n:Nd}(h9:k≠9)(h10:k≠10):eC (bY nm k lo hi e) n:=by
 obtain ⟨a,ks⟩:=n
 rw[eC]
 exact ⟨fun h=>absurd h h9,fun h=>absurd h h10⟩
theorem QR {k n:Int}(h:k<5):kV k (aF k n)=true:=by
 unfold kV
 simp;omega
theorem bq {nm:List Int}{k lo hi n w:Int}{e:List Fd}{v:Int}(hk:k≤4)(hw:AY k=w)(hf:km n w=true):pv (bY nm k lo hi e) v (aF k n)=(aE n w.toNat,0):=by
 rw[r7 (by omega) (by omega),i3]
 refine (if_neg ?_).trans ((if_pos hk).trans ?_)
 ·show ¬ kV k (aF k n)=false
  rw[QR (by omega)];decide
 ·show (if km n (AY k)=true then _ else _)=_
  rw[hw,if_pos hf]
theorem lV {nm:List Int}{lo hi:Int}{e:List Fd}{v:Int}(s:List Int):pv (bY nm 5 lo hi e) v (kh s)=gr s:=by
 rw[r7 (by decide) (by decide),i3]
 refine (if_neg ?_).trans ((if_neg (show ¬(5:Int)≤4 by decide)).trans ((if_neg (show ¬(5:Int)=9 by decide)).trans ((if_neg (show ¬(5:Int)=10 by decide)).trans ((if_neg (show ¬(false=true) by decide)).trans ?_))))
 ·show ¬ kV 5 (kh s)=false
  unfold kV;simp
 ·unfold gr
  by_cases h1:(cM s).2=false
  ·rw[if_pos h1];exact if_pos ⟨(show (5:Int)≤6 by decide),h1⟩
  ·rw[if_neg h1]
   refine (if_neg (fun h=>h1 h.2)).trans ?_
   by_cases h2:255<s.length
   ·rw[if_pos h2];exact if_pos ⟨(show (5:Int)≤6 by decide),h2⟩
   ·rw[if_neg h2];exact if_neg (fun h=>h2 h.2)
theorem AW {nm:List Int}{lo hi:Int}{e:List Fd}{v:Int}(n:cW.den):pv (bY nm 6 lo hi e) v (iK n)=pS n:=by
 obtain ⟨z,s,⟨⟩⟩:=n
 rw[r7 (by decide) (by decide),i3]
 refine (if_neg ?_).trans ((if_neg (show ¬(6:Int)≤4 by decide)).trans ((if_neg (show ¬(6:Int)=9 by decide)).trans ((if_neg (show ¬(6:Int)=10 by decide)).trans ?_)))
 ·show ¬ kV 6 (iK (z,(s,())))=false
  unfold kV;simp
 ·unfold pS
  by_cases hz:z=true
  ·refine (if_pos hz).trans ?_
   rw[if_pos hz];rfl
  ·refine (if_neg hz).trans ?_
   rw[if_neg hz]
   unfold gr
   by_cases h1:(cM s).2=false
   ·rw[if_pos h1];exact if_pos ⟨(show (6:Int)≤6 by decide),h1⟩
   ·rw[if_neg h1]
    refine (if_neg (fun h=>h1 h.2)).trans ?_
    by_cases h2:255<List.length s
    ·rw[if_pos h2];exact if_pos ⟨(show (6:Int)≤6 by decide),h2⟩
    ·rw[if_neg h2];exact if_neg (fun h=>h2 h.2)
theorem x7 {nm:List Int}{lo hi:Int}{e:List Fd}{v:Int}(n:ni.den):pv (bY nm 8 lo hi e) v (lF n)=pN n:=by
 obtain ⟨z,s,⟨⟩⟩:=n
 rw[r7 (by decide) (by decide),i3]
 refine (if_neg ?_).trans ((if_neg (show ¬(8:Int)≤4 by decide)).trans ((if_neg (show ¬(8:Int)=9 by decide)).trans ((if_neg (show ¬(8:Int)=10 by decide)).trans ?_)))
 ·show ¬ kV 8 (lF (z,(s,())))=false
  unfold kV;simp
 ·unfold pN
  by_cases hz:z=true
  ·refine (if_pos hz).trans ?_
   rw[if_pos hz];rfl
  ·refine (if_neg hz).trans ?_
   rw[if_neg hz]
   exact (if_neg (fun h=>absurd (show (8:Int)≤6 from h.1) (by decide))).trans (if_neg (fun h=>absurd (show (8:Int)≤6 from h.1) (by decide)))
theorem dH {α:Type}{nm:List Int}{lo hi:Int}{g:Fd}{v:Int}(F:α→Nd)(l:List α):pv (bY nm 9 lo hi [g]) v (bw (l.map F))=cr (fun x=>pv g v (F x)) l:=by
 rw[pv]
 refine (if_pos rfl).trans ?_
 unfold cr
 have:∀l:List α,gK g v (l.map F)=kk (fun x=>pv g v (F x)) l:=by
  intro l
  induction l with
  |nil=>rw[List.map_nil,gK];rfl
  |cons x l ih=>rw[List.map_cons,gK,ih];rfl
 rw[List.length_map]
 show (if 16<l.length then _ else aI _ (gK g v (l.map F)))=_
 rw[this]
theorem fY {nm:List Int}{lo hi:Int}{fs:List Fd}{v:Int}(ks:List Nd):pv (bY nm 10 lo hi fs) v (cj ks)=bT v fs ks:=by
 rw[pv];exact (if_neg (show ¬((10:Int)=9) by decide)).trans (if_pos rfl)
theorem cw {α:Type}{nm:List Int}{lo hi:Int}{g:Fd}{v:Int}(F:α→Nd)(l:List α):(db (bY nm 9 lo hi [g]) v (bw (l.map F))).2=l.all fun x=>(db g v (F x)).2:=by
 rw[db]
 refine (congrArg Prod.snd (if_pos rfl)).trans ?_
 show (dj g v (l.map F)).2=_
 induction l with
 |nil=>rw[List.map_nil,dj];rfl
 |cons x l ih=>rw[List.map_cons,dj,List.all_cons,ih]
theorem dv {nm:List Int}{lo hi:Int}{fs:List Fd}{v:Int}(ks:List Nd):(db (bY nm 10 lo hi fs) v (cj ks)).2=(bS v fs ks).2:=by
 rw[db];exact congrArg Prod.snd ((if_neg (show ¬((10:Int)=9) by decide)).trans (if_pos rfl))
theorem bW {α:Type}{nm:List Int}{lo hi:Int}{g:Fd}(F:α→Nd)(l:List α)(h:∀x,eC g (F x)):eC (bY nm 9 lo hi [g]) (bw (l.map F)):=by
 rw[eC]
 refine ⟨fun _=>?_,fun h=>absurd (show (9:Int)=10 from h) (by decide)⟩
 show kv g (l.map F)
 induction l with
 |nil=>rw[List.map_nil,kv];trivial
 |cons x l ih=>rw[List.map_cons,kv];exact ⟨h x,ih⟩
theorem cA {nm:List Int}{lo hi:Int}{fs:List Fd}{ks:List Nd}(hl:ks.length=fs.length)(h:cN fs ks):eC (bY nm 10 lo hi fs) (cj ks):=by
 rw[eC]
 exact ⟨fun h=>absurd (show (10:Int)=9 from h) (by decide),fun _=>⟨hl,h⟩⟩
theorem bE:cN [] []:=by rw[cN];trivial;simp
theorem ar {f:Fd}{fs:List Fd}{k:Nd}{ks:List Nd}(h1:eC f k)(h2:cN fs ks):cN (f::fs) (k::ks):=by rw[cN];exact ⟨h1,h2⟩
theorem aP {f:Fd}{fs:List Fd}{k:Nd}{ks:List Nd}{v:Int}(h:nx f v=true):bT v (f::fs) (k::ks)=aI (pv f v k) (bT v fs ks):=by rw[bT,if_pos h]
theorem Gj {f:Fd}{fs:List Fd}{k:Nd}{ks:List Nd}{v:Int}(h:nx f v=false):bT v (f::fs) (k::ks)=bT v fs ks:=by rw[bT,if_neg (by rw[h];decide)]
theorem aR {f:Fd}{fs:List Fd}{k:Nd}{ks:List Nd}{v:Int}(h:nx f v=true):(bS v (f::fs) (k::ks)).2=((db f v k).2&&(bS v fs ks).2):=by rw[bS,if_pos h]
theorem QF {f:Fd}{fs:List Fd}{k:Nd}{ks:List Nd}{v:Int}(h:nx f v=false):(bS v (f::fs) (k::ks)).2=(dJ k&&(bS v fs ks).2):=by rw[bS,if_neg (by rw[h];decide)]
theorem aw {nm:List Int}{k lo hi v:Int}{e:List Fd}(h1:lo≤v)(h2:v≤hi):nx (bY nm k lo hi e) v=true:=if_pos ⟨h1,h2⟩
theorem tg {nm:List Int}{k lo hi v:Int}{e:List Fd}(h:v<lo∨hi<v):nx (bY nm k lo hi e) v=false:=if_neg (by show ¬(lo≤v∧v≤hi);omega)
theorem oB {nm:List Int}{k lo hi:Int}{e fs:List Fd}{n:Nd}{ks:List Nd}{v:Int}:bT v (bY nm k lo hi e::fs) (n::ks)=if lo≤v∧v≤hi then aI (pv (bY nm k lo hi e) v n) (bT v fs ks) else bT v fs ks:=by
 by_cases h:lo≤v∧v≤hi
 ·rw[if_pos h,aP (aw h.1 h.2)]
 ·rw[if_neg h,Gj (tg (by omega))]
theorem cv {nm:List Int}{k lo hi:Int}{e fs:List Fd}{n:Nd}{ks:List Nd}{v:Int}:(bS v (bY nm k lo hi e::fs) (n::ks)).2=((if lo≤v∧v≤hi then (db (bY nm k lo hi e) v n).2 else dJ n)&&(bS v fs ks).2):=by
 by_cases h:lo≤v∧v≤hi
 ·rw[if_pos h,aR (aw h.1 h.2)]
 ·rw[if_neg h,QF (tg (by omega))]
theorem ct {v:Int}:(bS v [] []).2=true:=by rw[te]
theorem bI {k n:Int}:dJ (aF k n)=(n == 0):=by unfold dJ;by_cases h:n=0 <;> simp[h]
theorem r9 {n:cW.den}:dJ (iK n)=(n.1 == false&&decide (n.2.1=[])):=by
 obtain ⟨z,s,⟨⟩⟩:=n
 unfold dJ
 cases z <;> simp
def Xv:Nat→Int→Fd→Bool
 |0,_,_=>false
 |n+1,d,.mk a ks=>!(decide (a.1.length=0))&&(!(decide (a.2.2.1<0))&&(!(decide (3<a.2.2.2.1))&&(!(decide (a.2.2.2.1<a.2.2.1))&&(!(decide (a.2.1<1))&&(!(decide (10<a.2.1)) &&
   (if a.2.1<9 then decide (ks.length=0) else
    (!(decide (ks.length<1))&&(!(decide (16<ks.length))&&(!(decide (8<d+1))&&(xQ ks 0 ks&&ks.all fun k=>Xv n (d+1) k))))&&(C8 ks 5 a.2.2.1 a.2.2.2.1&&(decide (a.2.1=10) || decide (ks.length=1)))))))))
theorem kl {d:Int}:∀{l:List Fd},(∀k∈l,pp d k=true)→iv d l=true
 |[],_=>by rw[iv]
 |k::l,h=>by rw[iv,h k (by simp),kl (l:=l) fun k' hk'=>h k' (List.mem_cons_of_mem _ hk')];rfl
theorem AE:∀(n:Nat) (d:Int) (f:Fd),Xv n d f=true→pp d f=true
 |0,_,_,h=>by cases h
 |n+1,d,.mk a ks,h=>by
  rw[Xv] at h
  simp only[Bool.and_eq_true,Bool.not_eq_true',decide_eq_false_iff_not] at h
  obtain ⟨h1,h2,h3,h4,h5,h6,h7⟩:=h
  rw[pp,if_neg h1,if_neg h2,if_neg h3,if_neg h4,if_neg h5,if_neg h6]
  by_cases h9:a.2.1<9
  ·rw[if_pos h9] at h7 ⊢
   rw[if_pos (of_decide_eq_true h7)]
  ·rw[if_neg h9] at h7 ⊢
   simp only[Bool.and_eq_true,Bool.not_eq_true',decide_eq_false_iff_not,Bool.or_eq_true,decide_eq_true_eq,List.all_eq_true] at h7
   obtain ⟨⟨g1,g2,g3,g4,g5⟩,g6,g7⟩:=h7
   have hl:ov (d+1) ks=true:=by
    rw[ov,if_neg g1,if_neg g2,if_neg g3,g4,kl fun k hk=>AE n _ k (g5 k hk)];rfl
   rw[hl,if_neg (by decide),g6,if_neg (by decide)]
   split
   ·rfl
   ·rename_i h10
    rw[if_pos (g7.resolve_left h10)]
theorem lO {t:List Fd}(h:(!(decide (t.length<1))&&(!(decide (16<t.length))&&(xQ t 0 t&&t.all fun k=>Xv 9 1 k)))=true):pO t=0:=by
 simp only[Bool.and_eq_true,Bool.not_eq_true',decide_eq_false_iff_not,List.all_eq_true] at h
 obtain ⟨g1,g2,g4,g5⟩:=h
 unfold pO
 rw[if_pos]
 rw[ov,if_neg g1,if_neg g2,if_neg (by decide),g4,kl fun k hk=>AE 9 _ k (g5 k hk)];rfl
theorem F3:pO kW=0:=lO rfl
theorem QH:pO r4=0:=lO rfl
theorem F4:pO pV=0:=lO rfl
theorem QI:pO r5=0:=lO rfl
theorem F5:pO pW=0:=lO rfl
theorem QJ:pO r6=0:=lO rfl
theorem iY (k:Int)(r:Bool)(v:Int)(n:Nd):(qC k r v n).1.length≤130048:=by
 unfold qC QL
 repeat' split
 all_goals first | (simp;done) | (dsimp only;omega)
theorem pR {e v lo hi:Int}{z:Bool}:ap v z lo hi (e,(false,([]:List Int)))=((if e≠0 then e else if z=false∧(v<lo∨hi<v) then 7 else 0),(false,[])):=by
 unfold ap bA
 by_cases h:z=false∧(v<lo∨hi<v)
 ·rw[if_pos h]
  by_cases he:e=0
  ·simp[he,h]
  ·simp[he]
 ·rw[if_neg h]
  by_cases he:e=0
  ·simp[he,h]
  ·simp[he]
def Br (p:cX.den):List Int×Int:=aI (aE p.1 4,0) (aI (pN p.2.1) ([],0))
def nj (t:aB.den):List Int×Int:=aI (gr t.1) (aI (cr Br t.2.1) ([],0))
theorem Wri.part (p:cX.den)(h:xB p=true):Wri (Br p) (iO p):=(Wri.put _ _).seq ((Wri.blob _ (of_decide_eq_true h)).seq Wri.nop)
theorem Wri.topic (t:aB.den)(h:pB t=true):Wri (nj t) (dG t):=(Wri.str _).seq ((Wri.items fun p hp=>Wri.part p (List.all_eq_true.1 h p hp)).seq Wri.nop)
theorem QV {v:Int}{p:cX.den}(hv:0≤v∧v≤3)(h:cX.wf p):pv (bY [112,97,114,116] 10 0 3 [bY [105,110,100,101,120] 3 0 3 [],bY [114,101,99,115] 8 0 3 []]) v (fA p)=Br p:=by
 unfold fA Br
 rw[fY,aP (aw hv.1 hv.2),aP (aw hv.1 hv.2),bL,bq (by decide) (w:=4) rfl (bD h.1),x7]
 rfl
theorem bO {α:Type}{f g:α→List Int×Int}{l:List α}(h:∀x∈l,f x=g x):cr f l=cr g l:=by
 have:kk f l=kk g l:=by
  induction l with
  |nil=>rfl
  |cons x l ih=>
   rw[kk,kk,h x (by simp),ih fun y hy=>h y (List.mem_cons_of_mem _ hy)]
 unfold cr
 rw[this]
theorem AX {v:Int}{t:aB.den}(hv:0≤v∧v≤3)(h:aB.wf t):pv (bY [116,111,112,105,99] 10 0 3 [bY [110,97,109,101] 5 0 3 [],bY [112,97,114,116,115] 9 0 3 [bY [112,97,114,116] 10 0 3 [bY [105,110,100,101,120] 3 0 3 [],bY [114,101,99,115] 8 0 3 []]]]) v (cL t)=nj t:=by
 unfold cL nj
 rw[fY,aP (aw hv.1 hv.2),aP (aw hv.1 hv.2),bL,lV,dH,bO fun p hp=>QV hv (h.2.1.2 p hp)]
theorem Ia {v:Int}{p:cX.den}(hv:0≤v∧v≤3):(db (bY [112,97,114,116] 10 0 3 [bY [105,110,100,101,120] 3 0 3 [],bY [114,101,99,115] 8 0 3 []]) v (fA p)).2=true:=by
 unfold fA
 rw[dv,aR (aw hv.1 hv.2),aR (aw hv.1 hv.2),ct,aD (by decide) (by decide),aD (by decide) (by decide)];rfl
theorem uo {v:Int}{t:aB.den}(hv:0≤v∧v≤3):(db (bY [116,111,112,105,99] 10 0 3 [bY [110,97,109,101] 5 0 3 [],bY [112,97,114,116,115] 9 0 3 [bY [112,97,114,116] 10 0 3 [bY [105,110,100,101,120] 3 0 3 [],bY [114,101,99,115] 8 0 3 []]]]) v (cL t)).2=true:=by
 unfold cL
 rw[dv,aR (aw hv.1 hv.2),aR (aw hv.1 hv.2),ct,aD (by decide) (by decide),cw]
 rw[List.all_eq_true.2 fun p _=>Ia hv];rfl
theorem uu (m:iD.den):cN kW [iK m.1,aF 2 m.2.1,aF 3 m.2.2.1,bw (m.2.2.2.1.map cL)]:=by
 unfold kW bH
 refine ar (aA (by decide) (by decide)) (ar (aA (by decide) (by decide)) (ar (aA (by decide) (by decide)) (ar ?_ bE)))
 refine bW _ _ fun t=>cA rfl (ar (aA (by decide) (by decide)) (ar ?_ bE))
 exact bW _ _ fun p=>cA rfl (ar (aA (by decide) (by decide)) (ar (aA (by decide) (by decide)) bE))
theorem SM {v:Int}{m:iD.den}(hm:iD.wf m)(hok:ci m.2.2.2.1=true):(bj (nd v m),aM (nd v m))=dT v m:=by
 unfold dT cQ
 rw[jJ (t:=kW) rfl F3 rfl (uu m)]
 unfold nd
 rw[pR]
 have hitems:Wri (cr nj m.2.2.2.1) (bk dG m.2.2.2.1):=Wri.items fun t ht=>Wri.topic t (List.all_eq_true.1 hok t ht)
 unfold aH
 by_cases hv:v<0∨3<v
 ·rw[if_pos hv,if_pos hv]
  have hr:=(Wri.put m.2.1 2).seq ((Wri.put m.2.2.1 4).seq hitems)
  have ht:∀s,ng v m.1 s=s:=fun s=>by unfold ng;rw[if_neg (by omega)]
  rw[ht]
  exact (hr.done _).trans (if_pos (by simp))
 rw[if_neg hv,if_neg hv]
 have hv':0≤v∧v≤3:=by omega
 have hcz:(bS v kW [iK m.1,aF 2 m.2.1,aF 3 m.2.2.1,bw (m.2.2.2.1.map cL)]).2=(if 3≤v∧v≤3 then true else (m.1.1 == false&&decide (m.1.2.1=[]))):=by
  unfold kW bH
  rw[cv,aR (aw hv'.1 hv'.2),aR (aw hv'.1 hv'.2),aR (aw hv'.1 hv'.2),ct,aD (by decide) (by decide),aD (by decide) (by decide),aD (by decide) (by decide),cw,r9]
  rw[List.all_eq_true.2 fun p _=>uo hv']
  simp
 have hwz:bT v kW [iK m.1,aF 2 m.2.1,aF 3 m.2.2.1,bw (m.2.2.2.1.map cL)]=if 3≤v∧v≤3 then aI (pS m.1) (aI (aE m.2.1 2,0) (aI (aE m.2.2.1 4,0) (aI (cr nj m.2.2.2.1) ([],0)))) else aI (aE m.2.1 2,0) (aI (aE m.2.2.1 4,0) (aI (cr nj m.2.2.2.1) ([],0))):=by
  unfold kW bH
  rw[oB,aP (aw hv'.1 hv'.2),aP (aw hv'.1 hv'.2),aP (aw hv'.1 hv'.2),bL,AW,bq (by decide) (w:=2) rfl (ko hm.2.1),bq (by decide) (w:=4) rfl (bD hm.2.2.1),dH,bO fun t ht=>AX hv' (hm.2.2.2.1.2 t ht)]
  rfl
 rw[hcz,hwz]
 by_cases h3:v=3
 ·have e:3≤v∧v≤3:=by omega
  rw[if_pos e,if_pos e]
  have hr:=(Wri.name m.1).seq ((Wri.put m.2.1 2).seq ((Wri.put m.2.2.1 4).seq (hitems.seq Wri.nop)))
  have ht:∀s,ng v m.1 s=cR m.1 s:=fun s=>by unfold ng;rw[if_pos h3]
  rw[ht]
  refine (hr.done _).trans ?_
  have e0:(if (0:Int)≠0 then (0:Int) else if (m.1.1 == false&&decide (m.1.2.1=[]))=false∧(v<3∨3<v) then 7 else 0)=0:=by
   rw[if_neg (by simp),if_neg (by omega)]
  rw[e0]
  exact (if_neg (by decide)).trans (if_neg (by decide)).symm
 ·have e:¬(3≤v∧v≤3):=by omega
  rw[if_neg e,if_neg e]
  have hr:=(Wri.put m.2.1 2).seq ((Wri.put m.2.2.1 4).seq (hitems.seq Wri.nop))
  have ht:∀s,ng v m.1 s=s:=fun s=>by unfold ng;rw[if_neg h3]
  rw[ht]
  refine (hr.done _).trans ?_
  by_cases hz:(m.1.1 == false&&decide (m.1.2.1=[]))=false
  ·have e0:(if (0:Int)≠0 then (0:Int) else if (m.1.1 == false&&decide (m.1.2.1=[]))=false∧(v<3∨3<v) then 7 else 0)=7:=by
    rw[if_neg (by simp),if_pos ⟨hz,by omega⟩]
   rw[e0,if_pos (by simp),if_pos hz]
  ·have e0:(if (0:Int)≠0 then (0:Int) else if (m.1.1 == false&&decide (m.1.2.1=[]))=false∧(v<3∨3<v) then 7 else 0)=0:=by
    rw[if_neg (by simp),if_neg (fun h=>hz h.1)]
   rw[e0,if_neg (by simp),if_neg hz]
theorem Wri.opt {r:List Int×Int}{g:aV→aV}(v lo hi x:Int)(n:Nat)(hg:Wri r g):Wri (if lo≤v∧v≤hi then aI (aE x n,0) r else r) (fun s=>g (bV v lo hi x n s)):=by
 by_cases h:lo≤v∧v≤hi
 ·rw[if_pos h]
  have:(fun s=>g (bV v lo hi x n s))=fun s=>g (ab x n s):=funext fun s=>by unfold bV;rw[if_pos h]
  rw[this];exact (Wri.put x n).seq hg
 ·rw[if_neg h]
  have:(fun s=>g (bV v lo hi x n s))=g:=funext fun s=>by unfold bV;rw[if_neg h]
  rw[this];exact hg
def GA (v:Int)(p:cE.den):List Int×Int:=aI (aE p.1 4,0) (aI (aE p.2.1 2,0) (aI (aE p.2.2.1 8,0)
 (if 2≤v∧v≤3 then aI (aE p.2.2.2.1 8,0) (if 3≤v∧v≤3 then aI (aE p.2.2.2.2.1 8,0) ([],0) else ([],0)) else (if 3≤v∧v≤3 then aI (aE p.2.2.2.2.1 8,0) ([],0) else ([],0)))))
def Bq (v:Int)(t:aW.den):List Int×Int:=aI (gr t.1) (aI (cr (GA v) t.2.1) ([],0))
theorem Wri.donep (v:Int)(p:cE.den):Wri (GA v p) (gf v p):=(Wri.put _ _).seq ((Wri.put _ _).seq ((Wri.put _ _).seq (Wri.opt v 2 3 p.2.2.2.1 8 (Wri.opt v 3 3 p.2.2.2.2.1 8 Wri.nop))))
theorem Wri.gone (v:Int)(t:aW.den):Wri (Bq v t) (rV v t):=(Wri.str _).seq ((Wri.items fun p _=>Wri.donep v p).seq Wri.nop)
abbrev Oa:Fd:=bY [112,97,114,116] 10 0 3 [bY [105,110,100,101,120] 3 0 3 [],bY [99,111,100,101] 2 0 3 [],bY [98,97,115,101] 4 0 3 [],bY [116,105,109,101] 4 2 3 [],bY [115,116,97,114,116] 4 3 3 []]
abbrev Ub:Fd:=bY [116,111,112,105,99] 10 0 3 [bY [110,97,109,101] 5 0 3 [],bY [112,97,114,116,115] 9 0 3 [Oa]]
theorem QS {v:Int}{p:cE.den}(hv:0≤v∧v≤3)(h:cE.wf p):pv Oa v (po p)=GA v p:=by
 unfold po GA
 rw[fY,aP (aw hv.1 hv.2),aP (aw hv.1 hv.2),aP (aw hv.1 hv.2),oB,oB,bL,bq (by decide) (w:=4) rfl (bD h.1),bq (by decide) (w:=2) rfl (ko h.2.1),
  bq (by decide) (w:=8) rfl (dk _),bq (by decide) (w:=8) rfl (dk _),bq (by decide) (w:=8) rfl (dk _)]
 rfl
theorem QT {v:Int}{t:aW.den}(hv:0≤v∧v≤3)(h:aW.wf t):pv Ub v (iL t)=Bq v t:=by
 unfold iL Bq
 rw[fY,aP (aw hv.1 hv.2),aP (aw hv.1 hv.2),bL,lV,dH,bO fun p hp=>QS hv (h.2.1.2 p hp)]
def gb (v:Int)(p:cE.den):Bool:=(if 2≤v∧v≤3 then true else (p.2.2.2.1 == 0))&&(if 3≤v∧v≤3 then true else (p.2.2.2.2.1 == 0))
theorem H7 {v:Int}{p:cE.den}(hv:0≤v∧v≤3):(db Oa v (po p)).2=gb v p:=by
 unfold po gb
 rw[dv,aR (aw hv.1 hv.2),aR (aw hv.1 hv.2),aR (aw hv.1 hv.2),cv,cv,ct,aD (by decide) (by decide),aD (by decide) (by decide),aD (by decide) (by decide),aD (by decide) (by decide),aD (by decide) (by decide),bI,bI]
 simp
theorem H8 {v:Int}{t:aW.den}(hv:0≤v∧v≤3):(db Ub v (iL t)).2=t.2.1.all (gb v):=by
 unfold iL
 rw[dv,aR (aw hv.1 hv.2),aR (aw hv.1 hv.2),ct,aD (by decide) (by decide),cw]
 simp only[H7 hv,Bool.true_and,Bool.and_true]
theorem Gk (m:tB.den):cN r4 [bw (m.1.map iL),aF 3 m.2.1]:=by
 unfold r4 bH
 refine ar ?_ (ar (aA (by decide) (by decide)) bE)
 refine bW _ _ fun t=>cA rfl (ar (aA (by decide) (by decide)) (ar ?_ bE))
 exact bW _ _ fun p=>cA rfl (ar (aA (by decide) (by decide)) (ar (aA (by decide) (by decide)) (ar (aA (by decide) (by decide)) (ar (aA (by decide) (by decide)) (ar (aA (by decide) (by decide)) bE)))))
def eX (e:Int)(ok:Bool):Int:=if e≠0 then e else if ok=false then 7 else 0
theorem ce (e:Int)(a b:Bool):eX (eX e a) b=eX e (a&&b):=by
 unfold eX
 by_cases he:e=0
 ·subst he;cases a <;> cases b <;> simp
 ·simp[he]
theorem eP (e:Int):eX e true=e:=by unfold eX;by_cases h:e=0 <;> simp[h]
theorem b8 {e v lo hi:Int}{z:Bool}:ap v z lo hi (e,(false,([]:List Int)))=(eX e (if lo≤v∧v≤hi then true else z),(false,[])):=by
 rw[pR]
 unfold eX
 by_cases he:e=0
 ·subst he
  by_cases h:lo≤v∧v≤hi
  ·rw[if_pos h]
   have:¬(z=false∧(v<lo∨hi<v)):=by rintro ⟨_,h'⟩;omega
   simp[this]
  ·rw[if_neg h]
   have:v<lo∨hi<v:=by omega
   simp[this]
 ·simp[he]
theorem Ih {e v:Int}{p:cE.den}:nb v p (e,(false,([]:List Int)))=(eX e (gb v p),(false,[])):=by
 unfold nb gb
 rw[b8,b8,ce]
theorem ut {v:Int}:∀{ps:List cE.den} {e:Int},eg v ps (e,(false,([]:List Int)))=(eX e (ps.all (gb v)),(false,[]))
 |[],e=>by rw[List.all_nil,eP];rfl
 |p::ps,e=>by
  show eg v ps (nb v p (e,(false,[])))=_
  rw[Ih,ut,ce,List.all_cons]
theorem xW {v:Int}:∀{ts:List aW.den} {e:Int},nc v ts (e,(false,([]:List Int)))=(eX e (ts.all fun t=>t.2.1.all (gb v)),(false,[]))
 |[],e=>by rw[List.all_nil,eP];rfl
 |t::ts,e=>by
  show nc v ts (eg v t.2.1 (e,(false,[])))=_
  rw[ut,xW,ce,List.all_cons]
theorem Kl {v:Int}{m:tB.den}(hm:tB.wf m):(bj (gI v m),aM (gI v m))=fa v m:=by
 unfold fa lR
 rw[jJ (t:=r4) rfl QH rfl (Gk m)]
 unfold gI
 rw[b8,xW,ce]
 have hitems:Wri (cr (Bq v) m.1) (ee v m.1):=Wri.items fun t _=>Wri.gone v t
 have hr:=hitems.seq (Wri.opt v 1 3 m.2.1 4 Wri.nop)
 refine (hr.done _).trans ?_
 unfold aH
 by_cases hv:v<0∨3<v
 ·rw[if_pos hv,if_pos hv]
  exact if_pos (by simp[eX])
 rw[if_neg hv,if_neg hv]
 have hv':0≤v∧v≤3:=by omega
 have hcz:(bS v r4 [bw (m.1.map iL),aF 3 m.2.1]).2=((m.1.all fun t=>t.2.1.all (gb v))&&(if 1≤v∧v≤3 then true else (m.2.1 == 0))):=by
  unfold r4 bH
  rw[aR (aw hv'.1 hv'.2),cv,ct,cw,aD (by decide) (by decide),bI,Bool.and_true]
  simp only[H8 hv']
 have hwz:bT v r4 [bw (m.1.map iL),aF 3 m.2.1]=aI (cr (Bq v) m.1) (if 1≤v∧v≤3 then aI (aE m.2.1 4,0) ([],0) else ([],0)):=by
  unfold r4 bH
  rw[aP (aw hv'.1 hv'.2),oB,bL,bq (by decide) (w:=4) rfl (bD hm.2.1),dH,bO fun t ht=>QT hv' (hm.1.2 t ht)]
  rfl
 rw[hcz,hwz]
 rw[Bool.and_comm]
 by_cases hz:((m.1.all fun t=>t.2.1.all (gb v))&&(if 1≤v∧v≤3 then true else (m.2.1 == 0)))=false
 ·rw[hz]
  exact (if_pos (by decide)).trans (by rfl)
 ·have hz:((m.1.all fun t=>t.2.1.all (gb v))&&(if 1≤v∧v≤3 then true else (m.2.1 == 0)))=true:=by
   cases hx:((m.1.all fun t=>t.2.1.all (gb v))&&(if 1≤v∧v≤3 then true else (m.2.1 == 0))) with
   |true=>rfl
   |false=>exact absurd hx hz
  rw[hz]
  exact (if_neg (by decide)).trans (if_neg (by decide)).symm
theorem HcOk.weakW {f:Nat}{io:Io}{Fn Fn':io.In→Tr io.Res}(h:HcOk prog f (af io Fn))(hF:∀d y,io.wf d→(Fn' d).val=some y→(Fn d).val=some y):HcOk prog f (af io Fn'):=by
 intro R args id A K r F G ts cst w vals hid hc Rl hv
 unfold af at hc
 cases h1:ug io.args args (List.replicate io.obs.length Option.none) with
 |none=>rw[h1] at hc;cases hc
 |some p=>
  obtain ⟨a,β1⟩:=p
  rw[h1] at hc
  simp only at hc
  cases h2:K8 A.ob io.obs 0 β1 with
  |none=>rw[h2] at hc;cases hc
  |some q=>
   obtain ⟨o,β⟩:=q
   rw[h2] at hc
   simp only at hc
   have hn:=fun y=>hF (a,o) y ⟨Co h1 hv,Hw Rl.ob h2⟩
   refine h R args id A K r F G ts cst w vals hid ?_ Rl hv
   unfold af
   rw[h1]
   simp only[h2]
   revert hc
   cases bZ ((jc (dY 0) io.args args 0++lM A.ob β (mj io.obs.length 0) io.obs 0).map (·.2))&&(bZ ((jc (dY 0) io.args args 0++lM A.ob β (mj io.obs.length 0) io.obs 0).map (·.1))&&io.ok) with
   |false=>intro hc;cases hc
   |true=>
    intro hc
    obtain ⟨out,ho,hk⟩:=Tr.run_val hc
    exact (Tr.val_run (hn out ho)).trans hk
abbrev vd:Io:=qk
def MZ (d:vd.In):Tr vd.Res:=.ite (ci d.1.2.1.2.2.2.1) (.ret (.ret (((dT d.1.1 d.1.2.1).1,((dT d.1.1 d.1.2.1).2,())),()))) .no
theorem SE:HcOk prog 43 (af vd MZ):=by
 refine HcOk.weakW VA ?_
 rintro ⟨⟨(v:Int),m,⟨⟩⟩,⟨⟩⟩ y hw hy
 obtain ⟨hg,hy⟩:=Tr.guard hy
 refine (aa hg _ _).trans ?_
 rw[← hy]
 have h:=SM (v:=v) (m:=m) hw.1.2.1 hg
 show some (Out.ret ((bj (nd v m),(aM (nd v m),())),()))=some (Out.ret (((dT v m).1,((dT v m).2,())),()))
 rw[← h]
abbrev ve:Io:=ql
def M0 (d:ve.In):Tr ve.Res:=.ret (.ret (((fa d.1.1 d.1.2.1).1,((fa d.1.1 d.1.2.1).2,())),()))
theorem SH:HcOk prog 58 (af ve M0):=by
 refine HcOk.weakW VB ?_
 rintro ⟨⟨(v:Int),m,⟨⟩⟩,⟨⟩⟩ y hw hy
 rw[← hy]
 have h:=Kl (v:=v) (m:=m) hw.1.2.1
 show some (Out.ret ((bj (gI v m),(aM (gI v m),())),()))=some (Out.ret (((fa v m).1,((fa v m).2,())),()))
 rw[← h]
theorem Gx {k:IntKind}:∀b:List Int,(List.map (GB (.int k)) b).sum=b.length
 |[]=>rfl
 |c::b=>by
  have:=Gx (k:=k) b
  rw[List.map_cons,List.sum_cons,this,List.length_cons]
  show 1+_=_
  omega
theorem UU (b:List Int):GB bs b=b.length+1:=by
 show (List.map (GB (.int .u8)) b).sum+1=_
 rw[Gx]
abbrev d8:Sh:=.dat (.int .i8) false false
abbrev wJ:Io:=⟨[.ptr 0 0,d8],[Sn],[],[dI],none⟩
def UL (d:wJ.In):Tr wJ.Res:=
 .ite (bc d.2.1.1 d.2.1.2.1) (.ret (.ret (((ay d.2.1.1 d.2.1.2.1 d.1.2.1 1).1,()),(((ay d.2.1.1 d.2.1.2.1 d.1.2.1 1).2,(d.2.1.2.1,())),())))) .no
abbrev T7:List (Nat×Hc):=[(116,af eN lA)]
def W2:Hd:=bR T7
def Uk:Lp:=bJ []
def IZ (a0:Int)(a1:List Int)(a2:Int):Option wJ.Res:=bif bc a1 a2&&(decide (0≤1)&&decide (1≤8)) then some (Out.ret (((ay a1 a2 (IntKind.u64.wrap a0) (Int.toNat 1)).1,()),((ay a1 a2 (IntKind.u64.wrap a0) (Int.toNat 1)).2,a2,()),())) else none
theorem VO (a0:Int)(a1:List Int)(a2:Int):Io.run tt W2 dr Uk wJ Tryz.f196 (((),a0,()),(a1,a2,()),())=IZ a0 a1 a2:=by kernel_rfl
theorem Xc:HcOk prog 196 (af wJ UL):=by
 refine ao (n:=400) hm (cs:=T7) (.cons pk .nil) (lp:=Uk) (fn:=Tryz.f196) (by kernel_rfl) (by kernel_rfl) (by kernel_rfl) wJ (.done (by kernel_rfl)) UL ?_
 rintro ⟨⟨⟨⟩,(v:Int),⟨⟩⟩,⟨⟨(b:List Int),(m:Int),⟨⟩⟩,⟨⟩⟩⟩ out hw ho
 obtain ⟨hg,ho⟩:=Tr.guard ho
 have hg:bc b m=true:=hg
 cases ho
 refine (VO v b m).trans ?_
 unfold IZ
 have e:ay b m (IntKind.u64.wrap v) 1=ay b m v 1:=by unfold ay;rw[rP v (by decide)]
 simp[hg,e]
abbrev t4:Io:=⟨[.ptr 0 0,d8],pD,[],[],none⟩
def Rn (d:t4.In):Tr t4.Res:=.ite (dW d.2) (.ret (.ret ((),cb d.2.1.2.1 (ab d.1.2.1 1 (dX d.2))))) .no
abbrev T6:List (Nat×Hc):=[(196,af wJ UL),(195,af eI kC)]
def W1:Hd:=bR T6
def Uj:Lp:=bJ []
def Rr (a0 a1 a2:Int)(a3:Bool)(a4:List Int)(a5:Int):Option t4.Res:=bif bc a4 a5 then bif decide (a5=130048)&&decide ((ay a4 a5 a0 1).2.length≤130048) then some (Out.ret ((),((),a1,a2,a3 || decide ((ay a4 a5 a0 1).1≠0),()),((ay a4 a5 a0 1).2,130048,()),())) else none else none
theorem VM (a0 a1 a2:Int)(a3:Bool)(a4:List Int)(a5:Int):Io.run tt W1 dr Uj t4 Tryz.f106 (((),a0,()),((),a1,a2,a3,()),(a4,a5,()),())=Rr a0 a1 a2 a3 a4 a5:=by kernel_rfl
theorem AH:HcOk prog 106 (af t4 Rn):=by
 refine ao (n:=400) hm (cs:=T6) (.cons Xc (.cons lJ .nil)) (lp:=Uj) (fn:=Tryz.f106) (by kernel_rfl) (by kernel_rfl) (by kernel_rfl) t4 (.done (by kernel_rfl)) Rn ?_
 rintro ⟨⟨⟨⟩,(x:Int),⟨⟩⟩,⟨⟨⟨⟩,(v:Int),(e:Int),(f:Bool),⟨⟩⟩,⟨(b:List Int),(m:Int),⟨⟩⟩,⟨⟩⟩⟩ out hw ho
 obtain ⟨hg,ho⟩:=Tr.guard ho
 obtain ⟨rfl,hb⟩:=bo hg
 cases ho
 refine (VM x v e f b 130048).trans ?_
 exact B2 1 x hb
abbrev qm:Io:=⟨[.ptr 0 0],[ML],[],[d8,dI],none⟩
def M1 (d:qm.In):Tr qm.Res:=
 .ite (bg d.2.1.1 d.2.1.2.1) (.ret (.ret ((IntKind.i8.wrap (am d.2.1.1 d.2.1.2.1 1).1,((am d.2.1.1 d.2.1.2.1 1).2.2,())),((d.2.1.1,((am d.2.1.1 d.2.1.2.1 1).2.1,())),())))) .no
abbrev NS:List (Nat×Hc):=[(166,af dQ jQ)]
def Vm:Hd:=bR NS
def Pe:Lp:=bJ []
def DX (a0:List Int)(a1:Int):Option qm.Res:=bif bg a0 a1&&(decide (0≤1)&&decide (1≤8)) then some (Out.ret ((IntKind.i8.wrap (am a0 a1 (Int.toNat 1)).1,(am a0 a1 (Int.toNat 1)).2.2,()),(a0,(am a0 a1 (Int.toNat 1)).2.1,()),())) else none
theorem Tg (a0:List Int)(a1:Int):Io.run tt Vm dr Pe qm Tryz.f205 (((),()),(a0,a1,()),())=DX a0 a1:=by kernel_rfl
theorem VC:HcOk prog 205 (af qm M1):=by
 refine ao (n:=400) hm (cs:=NS) (.cons m5 .nil) (lp:=Pe) (fn:=Tryz.f205) (by kernel_rfl) (by kernel_rfl) (by kernel_rfl) qm (.done (by kernel_rfl)) M1 ?_
 rintro ⟨⟨⟨⟩,⟨⟩⟩,⟨⟨(b:List Int),(p:Int),⟨⟩⟩,⟨⟩⟩⟩ out hw ho
 obtain ⟨hg,ho⟩:=Tr.guard ho
 have hg:bg b p=true:=hg
 cases ho
 refine (Tg b p).trans ?_
 unfold DX
 rw[aa (by simp[hg])]
 rfl
abbrev wE:Io:=⟨[.ptr 0 0,.fnc 205 true [1]],lH,[],[d8],none⟩
def UD (d:wE.In):Tr wE.Res:=.ite (lB d.2) (.ret (.ret ((IntKind.i8.wrap (am d.2.2.1.1 d.2.2.1.2.1 1).1,()),cB d.2.1.2.1 d.2.2.1.1 ((am d.2.2.1.1 d.2.2.1.2.1 1).2.2,(am d.2.2.1.1 d.2.2.1.2.1 1).2.1)))) .no
abbrev T3:List (Nat×Hc):=[(205,af qm M1)]
def WY:Hd:=bR T3
def Ug:Lp:=bJ []
def IU (a0 a1:Int)(a2:List Int)(a3:Int):Option wE.Res:=bif bg a2 a3 then some (Out.ret ((IntKind.i8.wrap (am a2 a3 1).1,()),((),a0,(am a2 a3 1).2.2,()),(a2,(am a2 a3 1).2.1,()),())) else none
theorem VI (a0 a1:Int)(a2:List Int)(a3:Int):Io.run tt WY dr Ug wE Tryz.f204 (((),(),()),((),a0,a1,()),(a2,a3,()),())=IU a0 a1 a2 a3:=by kernel_rfl
theorem W7:HcOk prog 204 (af wE UD):=by
 refine ao (n:=400) hm (cs:=T3) (.cons VC .nil) (lp:=Ug) (fn:=Tryz.f204) (by kernel_rfl) (by kernel_rfl) (by kernel_rfl) wE (.done (by kernel_rfl)) UD ?_
 rintro ⟨⟨⟨⟩,⟨⟩,⟨⟩⟩,⟨⟨⟩,(v:Int),(e:Int),⟨⟩⟩,⟨(b:List Int),(p:Int),⟨⟩⟩,⟨⟩⟩ out hw ho
 obtain ⟨hg,ho⟩:=Tr.guard ho
 have hg:an b p=true:=hg
 cases ho
 refine (VI v e b p).trans ?_
 unfold IU
 exact aa (oy hg) _ _
abbrev t3:Io:=⟨[.ptr 0 0],lH,[],[d8],none⟩
def Rm (d:t3.In):Tr t3.Res:=.ite (lB d.2) (.ret (.ret (((ac .i8 1 d.2.2.1.1 (cx d.2)).1,()),cB d.2.1.2.1 d.2.2.1.1 (ac .i8 1 d.2.2.1.1 (cx d.2)).2))) .no
abbrev T2:List (Nat×Hc):=[(204,af wE UD)]
def WX:Hd:=bR T2
def Uf:Lp:=bJ []
def IT (a0 a1:Int)(a2:List Int)(a3:Int):Option t3.Res:=bif a1 != 0 then some (Out.ret ((0,()),((),a0,a1,()),(a2,a3,()),())) else bif an a2 a3 then some (Out.ret ((IntKind.i8.wrap (am a2 a3 1).1,()),((),a0,(am a2 a3 1).2.2,()),(a2,(am a2 a3 1).2.1,()),())) else none
theorem VH (a0 a1:Int)(a2:List Int)(a3:Int):Io.run tt WX dr Uf t3 Tryz.f151 (((),()),((),a0,a1,()),(a2,a3,()),())=IT a0 a1 a2 a3:=by kernel_rfl
theorem Un:HcOk prog 151 (af t3 Rm):=by
 refine ao (n:=400) hm (cs:=T2) (.cons W7 .nil) (lp:=Uf) (fn:=Tryz.f151) (by kernel_rfl) (by kernel_rfl) (by kernel_rfl) t3 (.done (by kernel_rfl)) Rm ?_
 rintro ⟨⟨⟨⟩,⟨⟩⟩,⟨⟨⟩,(v:Int),(e:Int),⟨⟩⟩,⟨(b:List Int),(p:Int),⟨⟩⟩,⟨⟩⟩ out hw ho
 obtain ⟨hg,ho⟩:=Tr.guard ho
 have hg:an b p=true:=hg
 cases ho
 refine (VH v e b p).trans ?_
 unfold IT
 show _=some (Out.ret (((ac .i8 1 b (e,p)).1,()),cB v b (ac .i8 1 b (e,p)).2))
 unfold ac
 by_cases h:e=0
 ·rw[if_pos h]
  refine (ae (by simpa using h) _ _).trans ?_
  exact aa hg _ _
 ·rw[if_neg h]
  exact aa (by simpa using h) _ _
abbrev nW:Io:=⟨[.ptr 0 0],uj,[],[d8],none⟩
def II (d:nW.In):Tr nW.Res:=.ite (decide (d.2.1.2.2.1≠0)) (.ret (.ret ((0,()),d.2))) .no
abbrev Nz:List (Nat×Hc):=[]
def U8:Hd:=bR Nz
def O0:Lp:=bJ []
def DL (a0 a1:Int):Option nW.Res:=bif a1 != 0 then some (Out.ret ((0,()),((),a0,a1,()),())) else none
theorem SY (a0 a1:Int):Io.run tt U8 dr O0 nW Tryz.f151 (((),()),((),a0,a1,()),())=DL a0 a1:=by kernel_rfl
theorem Pv:HcOk prog 151 (af nW II):=by
 refine ao (n:=400) hm (cs:=Nz) HcsOk.nil (lp:=O0) (fn:=Tryz.f151) (by kernel_rfl) (by kernel_rfl) (by kernel_rfl) nW (.done (by kernel_rfl)) II ?_
 rintro ⟨⟨⟨⟩,⟨⟩⟩,⟨⟨⟩,(v:Int),(e:Int),⟨⟩⟩,⟨⟩⟩ out hw ho
 obtain ⟨hg,ho⟩:=Tr.guard ho
 have hg:e≠0:=of_decide_eq_true hg
 cases ho
 refine (SY v e).trans ?_
 unfold DL
 exact aa (by simpa using hg) _ _
theorem bp {v lo hi x:Int}{n:Nat}{s:aV}(h:lo≤v∧v≤hi):bV v lo hi x n s=ab x n s:=by unfold bV;rw[if_pos h]
theorem aX {v lo hi x:Int}{n:Nat}{s:aV}(h:¬(lo≤v∧v≤hi)):bV v lo hi x n s=s:=by unfold bV;rw[if_neg h]
theorem EG (x:Int):∀(n:Nat) (v:Int),(aE x n).foldl (fun v c=>v*256+c) v=v*256 ^ n+x % 256 ^ n
 |0,v=>by simp[aE]
 |n+1,v=>by
  rw[aE,List.foldl_cons,EG x n]
  have h1:x % 256 ^ (n+1)=x % 256 ^ n+256 ^ n*((x / 256 ^ n) % 256):=by
   have hq:(0:Int)<256 ^ n:=Int.pow_pos (by decide)
   rw[Int.pow_succ]
   have hx:=Int.emod_add_mul_ediv x (256 ^ n)
   have hy:=Int.emod_add_mul_ediv (x / 256 ^ n) 256
   have h1:=Int.emod_nonneg x (Int.ne_of_gt hq)
   have h2:=Int.emod_lt_of_pos x hq
   have h3:0≤(x / 256 ^ n) % 256:=Int.emod_nonneg _ (by decide)
   have h4:(x / 256 ^ n) % 256<256:=Int.emod_lt_of_pos _ (by decide)
   generalize x % 256 ^ n=r at hx h1 h2 ⊢
   generalize hd:x / 256 ^ n=d at hx hy h3 h4 ⊢
   generalize d % 256=c at hy h3 h4 ⊢
   generalize d / 256=e at hy
   generalize (256:Int) ^ n=q at hq hx h2 ⊢
   refine ((Int.ediv_emod_unique (q:=e) (by omega)).2 ⟨?_,?_,?_⟩).2
   ·rw[← hx,← hy,Int.mul_add,Int.mul_assoc];omega
   ·have:=Int.mul_nonneg (Int.le_of_lt hq) h3;omega
   ·have:q*c≤q*255:=Int.mul_le_mul_of_nonneg_left (by omega) (Int.le_of_lt hq);omega
  rw[h1,Int.pow_succ,Int.add_mul,Int.mul_assoc,Int.mul_comm 256 (256 ^ n),Int.mul_comm ((x / 256 ^ n) % 256)]
  omega
theorem rQ (x:Int)(n:Nat):bC (aE x n)=x % 256 ^ n:=by
 unfold bC
 rw[EG];omega
theorem Bs {x:Int}(h:cT .i8 x):IntKind.i8.wrap (bC (aE x 1))=x:=by
 rw[rQ]
 simp only[cT,IntKind.min,IntKind.max,IntKind.signed,IntKind.bits] at h
 simp at h
 simp[IntKind.wrap,IntKind.min,IntKind.max,IntKind.signed,IntKind.bits]
 omega
theorem gk {x:Int}(h:cT .i16 x):IntKind.i16.wrap (bC (aE x 2))=x:=by
 rw[rQ]
 simp only[cT,IntKind.min,IntKind.max,IntKind.signed,IntKind.bits] at h
 simp at h
 simp[IntKind.wrap,IntKind.min,IntKind.max,IntKind.signed,IntKind.bits]
 omega
theorem bG {x:Int}(h:cT .i32 x):IntKind.i32.wrap (bC (aE x 4))=x:=by
 rw[rQ]
 simp only[cT,IntKind.min,IntKind.max,IntKind.signed,IntKind.bits] at h
 simp at h
 simp[IntKind.wrap,IntKind.min,IntKind.max,IntKind.signed,IntKind.bits]
 omega
theorem dm {x:Int}(h:cT .i64 x):IntKind.i64.wrap (bC (aE x 8))=x:=by
 rw[rQ]
 simp only[cT,IntKind.min,IntKind.max,IntKind.signed,IntKind.bits] at h
 simp at h
 simp[IntKind.wrap,IntKind.min,IntKind.max,IntKind.signed,IntKind.bits]
 omega
structure Rea {α:Type} (b:List Int) (x:α) (r:List Int) (f:aC→α×aC):Prop where
 full:∀(p:Nat) (rest:List Int),p≤b.length→b.drop p=r++rest→f (0,(p:Int))=(x,(0,((p+r.length:Nat):Int)))
 short:∀(p:Nat) (t:List Int),p≤b.length→t≠[]→b.drop p++t=r→(f (0,(p:Int))).2.1=1
 dead:∀s,s.1≠0→(f s).2.1=s.1
theorem lC {b r rest:List Int}{p:Nat}(hp:p≤b.length)(h:b.drop p=r++rest):p+r.length≤b.length∧b.drop (p+r.length)=rest:=by
 have h1:=congrArg List.length h
 simp only[List.length_drop,List.length_append] at h1
 refine ⟨by omega,?_⟩
 rw[← List.drop_drop,h,List.drop_left]
theorem Rea.seq {α β γ:Type}{b r1 r2:List Int}{x:α}{y:β}{f:aC→α×aC}{g:aC→β×aC}(c:α→β→γ)(hf:Rea b x r1 f)(hg:Rea b y r2 g):
  Rea b (c x y) (r1++r2) fun s=>(c (f s).1 (g (f s).2).1,(g (f s).2).2) where
 full:=fun p rest hp h=>by
  rw[List.append_assoc] at h
  obtain ⟨h1,h2⟩:=lC hp h
  simp only[hf.full p _ hp h,hg.full _ rest h1 h2,List.length_append,Nat.add_assoc]
 short:=fun p t hp ht h=>by
  by_cases hl:r1.length≤(b.drop p).length
  ·have h1:b.drop p=r1++(b.drop p).drop r1.length:=by
    have:(b.drop p).take r1.length=r1:=by
     have:=congrArg (List.take r1.length) h
     rwa [List.take_append_of_le_length hl,List.take_left] at this
    conv=>lhs;rw[← List.take_append_drop r1.length (b.drop p),this]
   obtain ⟨h3,h4⟩:=lC hp h1
   rw[h1,List.append_assoc] at h
   have h5:=List.append_cancel_left h
   simp only[hf.full p _ hp h1]
   exact hg.short _ t h3 ht (by rw[h4];exact h5)
  ·have h1:r1=b.drop p++r1.drop (b.drop p).length:=by
    have:r1.take (b.drop p).length=b.drop p:=by
     have:=congrArg (List.take (b.drop p).length) h
     rw[List.take_left,List.take_append_of_le_length (by omega)] at this
     exact this.symm
    conv=>lhs;rw[← List.take_append_drop (b.drop p).length r1,this]
   have h2:=hf.short p (r1.drop (b.drop p).length) hp (by intro e;have:=congrArg List.length e;simp only[List.length_drop,List.length_nil] at this hl;omega) h1.symm
   have h3:=hg.dead (f (0,(p:Int))).2 (by rw[h2];decide)
   exact h3.trans h2
 dead:=fun s hs=>by
  have h1:=hf.dead s hs
  exact (hg.dead _ (by rw[h1];exact hs)).trans h1
theorem Rea.nop {α:Type}(b:List Int)(x:α){f:aC→α×aC}(hf:∀p:Nat,f (0,(p:Int))=(x,(0,(p:Int))))(hd:∀s,s.1≠0→(f s).2.1=s.1):Rea b x [] f where
 full:=fun p rest hp h=>by rw[hf];rfl
 short:=fun p t hp ht h=>absurd (List.append_eq_nil_iff.1 h).2 ht
 dead:=hd
theorem Rea.congr {α:Type}{b r:List Int}{x:α}{f g:aC→α×aC}(h:Rea b x r f)(e:∀s,g s=f s):Rea b x r g:=by
 have:g=f:=funext e
 rw[this];exact h
theorem iu (k:IntKind)(n:Nat)(b:List Int){s:aC}(h:s.1≠0):ac k n b s=(0,s):=by unfold ac;rw[if_neg h]
theorem Rea.num {b:List Int}{k:IntKind}{n:Nat}{x:Int}(hx:k.wrap (bC (aE x n))=x):Rea b x (aE x n) (ac k n b) where
 full:=fun p rest hp h=>by
  obtain ⟨h1,h2⟩:=lC hp h
  rw[di] at h1 ⊢
  unfold ac
  rw[if_pos rfl]
  have hr:am b (p:Int) n=(bC (aE x n),((p:Int)+n,0)):=by
   unfold am
   rw[if_neg (by omega)]
   have:((b.drop ((p:Int)).toNat).take n)=aE x n:=by
    rw[Int.toNat_natCast,h]
    have:=List.take_left (l₁:=aE x n) (l₂:=rest)
    rw[di] at this
    exact this
   rw[this]
  simp only[hr,hx]
  simp
 short:=fun p t hp ht h=>by
  have hl:=congrArg List.length h
  rw[List.length_append,List.length_drop,di] at hl
  have:0<t.length:=List.length_pos_iff.2 ht
  unfold ac
  rw[if_pos rfl]
  unfold am
  rw[if_pos (by omega)]
 dead:=fun s hs=>by rw[iu _ _ _ hs]
theorem jI (b:List Int)(n:Int){s:aC}(h:s.1≠0):bz b n s=([],s):=by unfold bz;rw[if_neg h]
theorem Rea.take {b:List Int}(t:List Int):Rea b t t (bz b t.length) where
 full:=fun p rest hp h=>by
  obtain ⟨h1,h2⟩:=lC hp h
  unfold bz
  rw[if_pos rfl,if_neg (by omega)]
  have hr:aG b (p:Int) (t.length:Int)=(t,((p:Int)+t.length,0)):=by
   unfold aG
   rw[if_neg (by omega),if_neg (by omega),Int.toNat_natCast,Int.toNat_natCast,h,List.take_left]
  simp only[hr]
  simp
 short:=fun p u hp ht h=>by
  have hl:=congrArg List.length h
  rw[List.length_append,List.length_drop] at hl
  have:0<u.length:=List.length_pos_iff.2 ht
  unfold bz
  rw[if_pos rfl,if_neg (by omega)]
  unfold aG
  rw[if_neg (by omega),if_pos (by omega)]
 dead:=fun s hs=>by rw[jI _ _ hs]
theorem Rea.bind {α β:Type}{b r1 r2:List Int}{x:α}{y:β}{f:aC→α×aC}{g:α→aC→β×aC}(hf:Rea b x r1 f)(hg:Rea b y r2 (g x))(a0:α)(hz:∀s,(f s).2.1≠0→(f s).1=a0)(hd:∀s,s.1≠0→(g a0 s).2.1=s.1):
  Rea b y (r1++r2) fun s=>g (f s).1 (f s).2 where
 full:=fun p rest hp h=>by
  rw[List.append_assoc] at h
  obtain ⟨h1,h2⟩:=lC hp h
  simp only[hf.full p _ hp h,hg.full _ rest h1 h2,List.length_append,Nat.add_assoc]
 short:=fun p t hp ht h=>by
  by_cases hl:r1.length≤(b.drop p).length
  ·have h1:b.drop p=r1++(b.drop p).drop r1.length:=by
    have:(b.drop p).take r1.length=r1:=by
     have:=congrArg (List.take r1.length) h
     rwa [List.take_append_of_le_length hl,List.take_left] at this
    conv=>lhs;rw[← List.take_append_drop r1.length (b.drop p),this]
   obtain ⟨h3,h4⟩:=lC hp h1
   rw[h1,List.append_assoc] at h
   have h5:=List.append_cancel_left h
   simp only[hf.full p _ hp h1]
   exact hg.short _ t h3 ht (by rw[h4];exact h5)
  ·have h1:r1=b.drop p++r1.drop (b.drop p).length:=by
    have:r1.take (b.drop p).length=b.drop p:=by
     have:=congrArg (List.take (b.drop p).length) h
     rw[List.take_left,List.take_append_of_le_length (by omega)] at this
     exact this.symm
    conv=>lhs;rw[← List.take_append_drop (b.drop p).length r1,this]
   have h2:=hf.short p (r1.drop (b.drop p).length) hp (by intro e;have:=congrArg List.length e;simp only[List.length_drop,List.length_nil] at this hl;omega) h1.symm
   have h3:=hd (f (0,(p:Int))).2 (by rw[h2];decide)
   rw[← hz (0,(p:Int)) (by rw[h2];decide)] at h3
   exact h3.trans h2
 dead:=fun s hs=>by
  have h1:=hf.dead s hs
  have h3:=hd (f s).2 (by rw[h1];exact hs)
  rw[← hz s (by rw[h1];exact hs)] at h3
  exact h3.trans h1
theorem AV:(cM []).2=true:=by rfl
theorem m9 (b:List Int)(n:Int){s:aC}(h:s.1≠0)(hn:n≤255):bU b n s=([],s):=by
 have e:d3 n s=s:=by unfold d3;rw[if_neg (by omega)]
 unfold bU
 rw[e,jI b n h,if_pos AV]
theorem Rea.text {b:List Int}(t:List Int)(hl:t.length≤255)(hu:(cM t).2=true):Rea b t t (bU b t.length):=by
 have e:∀s,d3 (t.length:Int) s=s:=fun s=>by unfold d3;rw[if_neg (by omega)]
 have ht:=Rea.take (b:=b) t
 refine ⟨fun p rest hp h=>?_,fun p u hp hu' h=>?_,fun s hs=>?_⟩
 ·have h1:=ht.full p rest hp h
  unfold bU
  rw[e,h1,if_pos hu]
 ·have h1:=ht.short p u hp hu' h
  unfold bU
  rw[e]
  have h0:(bz b (t.length:Int) (0,(p:Int))).1=[]:=by
   unfold bz at h1 ⊢
   rw[if_pos rfl,if_neg (by omega)] at h1 ⊢
   simp only at h1 ⊢
   unfold aG at h1 ⊢
   split
   ·rfl
   ·split
    ·rfl
    ·rename_i h2 h3
     rw[if_neg h2,if_neg h3] at h1
     cases h1
  rw[h0,if_pos AV];exact h1
 ·rw[m9 b _ hs (by omega)]
theorem Xn (k:IntKind):k.wrap 0=0:=by cases k <;> rfl
theorem jU (k:IntKind)(n:Nat)(b:List Int)(s:aC)(h:(ac k n b s).2.1≠0):(ac k n b s).1=0:=by
 unfold ac at h ⊢
 split
 ·rename_i h0
  rw[if_pos h0] at h
  unfold am at h ⊢
  split
  ·exact Xn k
  ·rename_i h1
   rw[if_neg h1] at h
   exact absurd rfl h
 ·rfl
theorem Rea.str {b:List Int}(t:List Int)(hl:t.length≤255)(hu:(cM t).2=true):Rea b t (aE t.length 2++t) (bf b):=
 Rea.bind (g:=bU b) (Rea.num (b:=b) (k:=.i16) (n:=2) (x:=(t.length:Int)) (gk (by simp[cT,IntKind.min,IntKind.max,IntKind.signed,IntKind.bits];omega))) (Rea.text t hl hu) 0 (jU _ _ _) fun s hs=>by
  rw[m9 b _ hs (by decide)]
def Rd {α:Type}(b:List Int)(x:α)(w:List Int×Int)(f:aC→α×aC):Prop:=w.2=0→Rea b x w.1 f
theorem xZ {a b:List Int×Int}(h:(aI a b).2=0):a.2=0∧b.2=0∧(aI a b).1=a.1++b.1:=by
 unfold aI at h ⊢
 by_cases h1:a.2=0
 ·by_cases h2:b.2=0
  ·refine ⟨h1,h2,?_⟩
   simp[h1,h2]
  ·simp[h1,h2] at h
 ·simp[h1] at h
theorem Rd.seq {α β γ:Type}{b:List Int}{w1 w2:List Int×Int}{x:α}{y:β}{f:aC→α×aC}{g:aC→β×aC}(c:α→β→γ)(hf:Rd b x w1 f)(hg:Rd b y w2 g):
  Rd b (c x y) (aI w1 w2) fun s=>(c (f s).1 (g (f s).2).1,(g (f s).2).2):=by
 intro h
 obtain ⟨h1,h2,h3⟩:=xZ h
 rw[h3]
 exact (hf h1).seq c (hg h2)
theorem Rd.num {b:List Int}{k:IntKind}{n:Nat}{x:Int}(hx:k.wrap (bC (aE x n))=x):Rd b x (aE x n,0) (ac k n b):=fun _=>Rea.num hx
theorem Rd.nop {α:Type}(b:List Int)(x:α):Rd b x ([],0) fun s=>(x,s):=fun _=>Rea.nop b x (fun p=>rfl) fun s _=>rfl
theorem Rd.txt {b:List Int}(t:List Int):Rd b t (gr t) (bf b):=by
 intro h
 unfold gr at h ⊢
 split at h
 ·cases h
 ·rename_i h1
  split at h
  ·cases h
  ·rename_i h2
   rw[if_neg h1,if_neg h2]
   exact Rea.str t (by omega) (by simpa using h1)
theorem Rea.map {α β:Type}{b r:List Int}{x:α}{f:aC→α×aC}(c:α→β)(h:Rea b x r f):Rea b (c x) r fun s=>(c (f s).1,(f s).2):=
 ⟨fun p rest hp hd=>by simp only[h.full p rest hp hd],fun p t hp ht hd=>h.short p t hp ht hd,fun s hs=>h.dead s hs⟩
def Um (b:List Int)(a:Int)(s:aC):cW.den×aC:=if a = -1 then ((true,(([]:List Int),())),s) else ((false,((bU b a s).1,())),(bU b a s).2)
theorem Rd.nam {b:List Int}(n:cW.den):Rd b n (pS n) (ch b):=by
 have e:∀s,ch b s=Um b (ac .i16 2 b s).1 (ac .i16 2 b s).2:=fun s=>rfl
 have hd:∀s:aC,s.1≠0→(Um b 0 s).2.1=s.1:=fun s hs=>by
  unfold Um
  rw[if_neg (by decide),m9 b _ hs (by decide)]
 obtain ⟨z,t,⟨⟩⟩:=n
 intro hh
 have h:(if z=true then (if t.length=0 then (aE (-1) 2,0) else ([],70)) else gr t:List Int×Int).2=0:=hh
 clear hh
 show Rea b _ (if z=true then (if t.length=0 then (aE (-1) 2,0) else ([],70)) else gr t:List Int×Int).1 _
 by_cases hz:z=true
 ·rw[if_pos hz] at h ⊢
  by_cases h0:List.length t=0
  ·rw[if_pos h0] at h ⊢
   have ht:t=[]:=List.eq_nil_of_length_eq_zero h0
   subst ht
   subst hz
   have hg:Rea b (true,(([]:List Int),())) [] (Um b (-1)):=Rea.nop b _ (fun p=>by unfold Um;rw[if_pos rfl]) fun s hs=>by unfold Um;rw[if_pos rfl]
   have:=(Rea.bind (Rea.num (b:=b) (k:=.i16) (n:=2) (x:=-1) (gk (by simp[cT,IntKind.min,IntKind.max,IntKind.signed,IntKind.bits]))) hg 0 (jU _ _ _) hd).congr e
   rw[List.append_nil] at this
   exact this
  ·rw[if_neg h0] at h
   cases h
 ·rw[if_neg hz] at h ⊢
  have hz:z=false:=by simpa using hz
  subst hz
  unfold gr at h ⊢
  by_cases h1:(cM t).2=false
  ·rw[if_pos h1] at h;cases h
  rw[if_neg h1] at h ⊢
  by_cases h2:255<t.length
  ·rw[if_pos h2] at h;cases h
  rw[if_neg h2] at h ⊢
  have hg:Rea b (false,(t,())) t (Um b t.length):=((Rea.text (b:=b) t (by omega) (by simpa using h1)).map fun x=>(false,(x,()))).congr fun s=>by unfold Um;rw[if_neg (by omega)]
  exact (Rea.bind (Rea.num (b:=b) (k:=.i16) (n:=2) (x:=(t.length:Int)) (gk (by simp[cT,IntKind.min,IntKind.max,IntKind.signed,IntKind.bits];omega))) hg 0 (jU _ _ _) hd).congr e
def T1 (b:List Int)(a:Int)(s:aC):ni.den×aC:=if a = -1 then ((true,(([]:List Int),())),s) else ((false,((bz b a s).1,())),(bz b a s).2)
theorem Rd.blo {b:List Int}(n:ni.den)(hn:n.2.1.length≤2147483647):Rd b n (pN n) (cP b):=by
 have e:∀s,cP b s=T1 b (ac .i32 4 b s).1 (ac .i32 4 b s).2:=fun s=>rfl
 have hd:∀s:aC,s.1≠0→(T1 b 0 s).2.1=s.1:=fun s hs=>by
  unfold T1
  rw[if_neg (by decide),jI b _ hs]
 obtain ⟨z,t,⟨⟩⟩:=n
 have hn:t.length≤2147483647:=hn
 intro hh
 have h:(if z=true then (if t.length=0 then (aE (-1) 4,0) else ([],70)) else (aE t.length 4++t,0):List Int×Int).2=0:=hh
 clear hh
 show Rea b _ (if z=true then (if t.length=0 then (aE (-1) 4,0) else ([],70)) else (aE t.length 4++t,0):List Int×Int).1 _
 by_cases hz:z=true
 ·rw[if_pos hz] at h ⊢
  by_cases h0:List.length t=0
  ·rw[if_pos h0] at h ⊢
   have ht:t=[]:=List.eq_nil_of_length_eq_zero h0
   subst ht
   subst hz
   have hg:Rea b (true,(([]:List Int),())) [] (T1 b (-1)):=Rea.nop b _ (fun p=>by unfold T1;rw[if_pos rfl]) fun s hs=>by unfold T1;rw[if_pos rfl]
   have:=(Rea.bind (Rea.num (b:=b) (k:=.i32) (n:=4) (x:=-1) (bG (by simp[cT,IntKind.min,IntKind.max,IntKind.signed,IntKind.bits]))) hg 0 (jU _ _ _) hd).congr e
   rw[List.append_nil] at this
   exact this
  ·rw[if_neg h0] at h
   cases h
 ·rw[if_neg hz] at h ⊢
  have hz:z=false:=by simpa using hz
  subst hz
  have hg:Rea b (false,(t,())) t (T1 b t.length):=((Rea.take (b:=b) t).map fun x=>(false,(x,()))).congr fun s=>by unfold T1;rw[if_neg (by omega)]
  exact (Rea.bind (Rea.num (b:=b) (k:=.i32) (n:=4) (x:=(t.length:Int)) (bG (by simp[cT,IntKind.min,IntKind.max,IntKind.signed,IntKind.bits];omega))) hg 0 (jU _ _ _) hd).congr e
theorem Rd.rep {α:Type}{b:List Int}{w:α→List Int×Int}{one:aC→α×aC}:∀{xs:List α},(∀x∈xs,Rd b x (w x) one)→Rd b xs (kk w xs) (cS one xs.length)
 |[],_=>fun _=>Rea.nop b _ (fun p=>rfl) fun s hs=>rfl
 |x::xs,h=>by
  intro hz
  have hs:=(Rd.seq List.cons (h x (by simp)) (Rd.rep fun y hy=>h y (List.mem_cons_of_mem _ hy))) hz
  refine ⟨fun p rest hp hd=>?_,fun p t hp ht hd=>?_,fun s hs=>?_⟩
  ·rw[List.length_cons,cS,if_pos rfl]
   exact hs.full p rest hp hd
  ·rw[List.length_cons,cS,if_pos rfl]
   exact hs.short p t hp ht hd
  ·rw[List.length_cons,cS,if_neg hs]
theorem Rd.list {α:Type}{b:List Int}{w:α→List Int×Int}{one:aC→α×aC}{xs:List α}(h:∀x∈xs,Rd b x (w x) one):Rd b xs (cr w xs) (eB one b):=by
 intro hz
 unfold cr at hz ⊢
 by_cases h1:16<xs.length
 ·rw[if_pos h1] at hz;cases hz
 rw[if_neg h1] at hz ⊢
 obtain ⟨_,h2,h3⟩:=xZ hz
 rw[h3]
 have hr:=Rd.rep h h2
 have hg:Rea b xs (kk w xs).1 (fun s=>cS one ((xs.length:Int)).toNat (kr xs.length s)):=hr.congr fun s=>by
  rw[Int.toNat_natCast]
  have:kr (xs.length:Int) s=s:=by
   unfold kr
   split
   ·rw[if_neg (by omega),if_neg (by omega)]
   ·rfl
  rw[this]
 exact Rea.bind (g:=fun a s=>cS one a.toNat (kr a s)) (Rea.num (b:=b) (k:=.i32) (n:=4) (x:=(xs.length:Int)) (bG (by simp[cT,IntKind.min,IntKind.max,IntKind.signed,IntKind.bits];omega))) hg 0 (jU _ _ _) fun s hs=>by
  show (kr 0 s).1=s.1
  unfold kr
  rw[if_neg hs]
theorem Rd.congr {α:Type}{b:List Int}{x:α}{w:List Int×Int}{f g:aC→α×aC}(h:Rd b x w f)(e:∀s,g s=f s):Rd b x w g:=fun hz=>(h hz).congr e
theorem lP {v lo hi:Int}(h:lo≤v∧v≤hi):aS v lo hi 0=true:=if_pos ⟨rfl,h⟩
theorem ge {v lo hi e:Int}(h:¬(lo≤v∧v≤hi)):aS v lo hi e=false:=if_neg fun h'=>h h'.2
theorem qA {v lo hi e:Int}(h:e≠0):aS v lo hi e=false:=if_neg fun h'=>h h'.1
theorem Rd.opt {b:List Int}{k:IntKind}{n:Nat}{x v lo hi:Int}(hx:k.wrap (bC (aE x n))=x)(h0:¬(lo≤v∧v≤hi)→x=0):Rd b x (if lo≤v∧v≤hi then (aE x n,0) else ([],0)) (aq k n v lo hi b):=by
 intro _
 by_cases h:lo≤v∧v≤hi
 ·rw[if_pos h]
  have hn:=Rea.num (b:=b) hx
  refine ⟨fun p rest hp hd=>?_,fun p t hp ht hd=>?_,fun s hs=>?_⟩
  ·unfold aq
   rw[if_pos (lP h)];exact hn.full p rest hp hd
  ·unfold aq
   rw[if_pos (lP h)];exact hn.short p t hp ht hd
  ·unfold aq
   rw[if_neg (by rw[qA hs];decide)]
 ·rw[if_neg h]
  have hx0:=h0 h
  subst hx0
  refine Rea.nop b _ (fun p=>?_) fun s hs=>?_
  ·unfold aq
   rw[if_neg (by rw[ge h];decide)]
  ·unfold aq
   rw[if_neg (by rw[ge h];decide)]
theorem Rd.part {b:List Int}{p:cX.den}(h:cX.wf p)(hb:p.2.1.2.1.length≤2147483647):Rd b p (Br p) (fy b):=
 (Rd.seq (fun a r=>(a,r)) (Rd.num (bG h.1)) (Rd.seq (fun a r=>(a,r)) (Rd.blo p.2.1 hb) (Rd.nop b ()))).congr fun s=>by unfold fy;rfl
theorem Rd.topic {b:List Int}{t:aB.den}(h:aB.wf t)(hb:pB t=true):Rd b t (nj t) (eb b):=
 (Rd.seq (fun a r=>(a,r)) (Rd.txt t.1) (Rd.seq (fun a r=>(a,r)) (Rd.list fun p hp=>Rd.part (h.2.1.2 p hp) (of_decide_eq_true (List.all_eq_true.1 hb p hp))) (Rd.nop b ()))).congr fun s=>by unfold eb d9;rfl
theorem Rd.txn {b:List Int}{n:cW.den}{v:Int}(h0:¬(3≤v∧v≤3)→n=(false,([],()))):Rd b n (if 3≤v∧v≤3 then pS n else ([],0)) (cn v b):=by
 by_cases h:3≤v∧v≤3
 ·rw[if_pos h]
  intro hz
  have hn:=Rd.nam (b:=b) n hz
  refine ⟨fun p rest hp hd=>?_,fun p t hp ht hd=>?_,fun s hs=>?_⟩
  ·unfold cn;rw[if_pos ⟨rfl,h⟩];exact hn.full p rest hp hd
  ·unfold cn;rw[if_pos ⟨rfl,h⟩];exact hn.short p t hp ht hd
  ·unfold cn;rw[if_neg fun h'=>hs h'.1]
 ·rw[if_neg h,h0 h]
  intro _
  refine Rea.nop b _ (fun p=>?_) fun s hs=>?_
  ·unfold cn;rw[if_neg fun h'=>h h'.2]
  ·unfold cn;rw[if_neg fun h'=>h h'.2]
def TO (v:Int)(m:iD.den):List Int×Int:=aI (if 3≤v∧v≤3 then pS m.1 else ([],0)) (aI (aE m.2.1 2,0) (aI (aE m.2.2.1 4,0) (aI (cr nj m.2.2.2.1) ([],0))))
theorem Rd.req {b:List Int}{m:iD.den}{v:Int}(h:iD.wf m)(hb:ci m.2.2.2.1=true)(h0:¬(3≤v∧v≤3)→m.1=(false,([],()))):Rd b m (TO v m) fun s=>
  (((cn v b s).1,((ac .i16 2 b (cn v b s).2).1,((ac .i32 4 b (ac .i16 2 b (cn v b s).2).2).1,((bK b (ac .i32 4 b (ac .i16 2 b (cn v b s).2).2).2).1,())))),(bK b (ac .i32 4 b (ac .i16 2 b (cn v b s).2).2).2).2):=
 (Rd.seq (fun a r=>(a,r)) (Rd.txn h0) (Rd.seq (fun a r=>(a,r)) (Rd.num (gk h.2.1)) (Rd.seq (fun a r=>(a,r)) (Rd.num (bG h.2.2.1)) (Rd.seq (fun a r=>(a,r)) (Rd.list fun t ht=>Rd.topic (h.2.2.2.1.2 t ht) (List.all_eq_true.1 hb t ht)) (Rd.nop b ()))))).congr fun s=>by unfold bK;rfl
theorem Im {a b:List Int×Int}(h:(aI a b).2≠0):(aI a b).1=[]:=by
 unfold aI at h ⊢
 split
 ·rfl
 ·split
  ·rfl
  ·rename_i h1 h2
   rw[if_neg h1,if_neg h2] at h
   exact absurd rfl h
theorem AR (a b:List Int×Int):aI ([],0) (aI a b)=aI a b:=by
 by_cases h:(aI a b).2=0
 ·have e:aI a b=((aI a b).1,0):=by rw[← h]
  rw[e];unfold aI;simp
 ·have:=Im h
  have e:aI a b=([],(aI a b).2):=by rw[← this]
  generalize aI a b=c at h e ⊢
  rw[e]
  unfold aI
  simp only[List.nil_append]
  rw[if_neg (by simp),if_pos h]
theorem Rd.optSeq {β γ:Type}{b:List Int}{k:IntKind}{n:Nat}{x v lo hi:Int}{R:List Int×Int}{y:β}{g:aC→β×aC}(c:Int→β→γ)(hx:k.wrap (bC (aE x n))=x)(h0:¬(lo≤v∧v≤hi)→x=0)(hg:Rd b y R g):
  Rd b (c x y) (if lo≤v∧v≤hi then aI (aE x n,0) R else R) fun s=>(c (aq k n v lo hi b s).1 (g (aq k n v lo hi b s).2).1,(g (aq k n v lo hi b s).2).2):=by
 by_cases h:lo≤v∧v≤hi
 ·rw[if_pos h]
  have:=Rd.seq c (Rd.opt (b:=b) (k:=k) (n:=n) (v:=v) (lo:=lo) (hi:=hi) hx h0) hg
  rw[if_pos h] at this
  exact this
 ·rw[if_neg h]
  have hx0:=h0 h
  subst hx0
  intro hz
  have hr:=hg hz
  exact (hr.map (c 0)).congr fun s=>by
   have:aq k n v lo hi b s=(0,s):=by unfold aq;rw[if_neg (by rw[ge h];decide)]
   rw[this]
theorem xl {v:Int}{p:cE.den}(h:gb v p=true):(¬(2≤v∧v≤3)→p.2.2.2.1=0)∧(¬(3≤v∧v≤3)→p.2.2.2.2.1=0):=by
 unfold gb at h
 simp only[Bool.and_eq_true] at h
 refine ⟨fun hv=>?_,fun hv=>?_⟩
 ·have:=h.1;rw[if_neg hv] at this;simpa using this
 ·have:=h.2;rw[if_neg hv] at this;simpa using this
theorem Rd.done {b:List Int}{p:cE.den}{v:Int}(h:cE.wf p)(hk:gb v p=true):Rd b p (GA v p) (C1 v b):=
 (Rd.seq (fun a r=>(a,r)) (Rd.num (bG h.1)) (Rd.seq (fun a r=>(a,r)) (Rd.num (gk h.2.1)) (Rd.seq (fun a r=>(a,r)) (Rd.num (dm h.2.2.1))
  (Rd.optSeq (fun a r=>(a,r)) (dm h.2.2.2.1) (xl hk).1 (Rd.optSeq (fun a r=>(a,r)) (dm h.2.2.2.2.1) (xl hk).2 (Rd.nop b ())))))).congr fun s=>by unfold C1 Tu;rfl
theorem Rd.gone {b:List Int}{t:aW.den}{v:Int}(h:aW.wf t)(hk:t.2.1.all (gb v)=true):Rd b t (Bq v t) (Kq v b):=
 (Rd.seq (fun a r=>(a,r)) (Rd.txt t.1) (Rd.seq (fun a r=>(a,r)) (Rd.list fun p hp=>Rd.done (h.2.1.2 p hp) (List.all_eq_true.1 hk p hp)) (Rd.nop b ()))).congr fun s=>by unfold Kq xK;rfl
theorem OI {n:Int}(h:cT .i8 n):IntKind.i64.wrap n=n:=by
 simp only[cT,IntKind.min,IntKind.max,IntKind.signed,IntKind.bits] at h
 simp at h
 exact bx (by omega) (by omega)
theorem Ue {n:Int}(h:cT .i8 n):IntKind.i8.wrap n=n:=by
 simp only[cT,IntKind.min,IntKind.max,IntKind.signed,IntKind.bits] at h
 exact dP (by simp[cT,IntKind.min,IntKind.max,IntKind.signed,IntKind.bits];simpa using h)
theorem Ip {v:Int}(fs:List Fd)(ks:List Nd):aI ([],0) (bT v fs ks)=bT v fs ks:=by
 induction fs generalizing ks with
 |nil=>rw[bL];rfl
 |cons f fs ih=>
  cases ks with
  |nil=>rw[bT];rfl;all_goals simp
  |cons k ks=>
   rw[bT]
   split
   ·exact AR _ _
   ·exact ih ks
theorem gL {nm:List Int}{k lo hi:Int}{e fs:List Fd}{n:Nd}{ks:List Nd}{v:Int}:bT v (bY nm k lo hi e::fs) (n::ks)=aI (if lo≤v∧v≤hi then pv (bY nm k lo hi e) v n else ([],0)) (bT v fs ks):=by
 by_cases h:lo≤v∧v≤hi
 ·rw[if_pos h,aP (aw h.1 h.2)]
 ·rw[if_neg h,Gj (tg (by omega)),Ip]
theorem Rd.map {α β:Type}{b:List Int}{x:α}{w:List Int×Int}{f:aC→α×aC}(c:α→β)(h:Rd b x w f):Rd b (c x) w fun s=>(c (f s).1,(f s).2):=fun hz=>(h hz).map c
abbrev aT:Ty:=.prod (.int .i32) (.prod (.int .i64) (.prod (.int .i32) (.prod (.int .i32) .unit)))
abbrev al:Ty:=.prod .str (.prod (.sl 187 aT) .unit)
abbrev bX:Ty:=.prod (.int .i32) (.prod (.int .i32) (.prod (.int .i32) (.prod (.int .i32) (.prod (.int .i8) (.prod (.sl 185 al) .unit)))))
def oE (v:Int)(p:aT.den)(s:aV):aV:=ab p.2.2.2.1 4 (ab p.2.1 8 (bV v 3 3 p.2.2.1 4 (ab p.1 4 (s))))
theorem A5 {s:aV}(v:Int)(p:aT.den)(h:s.2.2.length≤130048):(oE v p s).2.2.length≤130048:=
 av _ _ (av _ _ (eO _ _ _ _ _ (av _ _ (h))))
abbrev j6:Io:=⟨[.dat aT true false,.ptr 0 0],lI,[],[],none⟩
def BC (d:j6.In):Tr j6.Res:=.ite (dW d.2.2) (.ret (.ret ((),dw d.2.2.1.2.1 (oE d.2.2.1.2.1 d.1.1 (dX d.2.2))))) .no
abbrev En:List (Nat×Hc):=[(98,af cc dV),(111,af ja tG),(95,af e7 ly)]
def Ov:Hd:=bR En
def Fb:Lp:=bJ []
def wc (a0 a1 a2 a3 a4 a5:Int)(a6:Bool)(a7:List Int)(a8:Int):Option j6.Res:=bif decide (a8=130048)&&decide (a7.length≤130048) then bif decide (130048=130048)&&decide ((ab a0 4 (a5,a6,a7)).2.2.length≤130048) then bif decide (3≤a4)&&decide (a4≤3) then bif decide (130048=130048)&&decide ((ab a0 4 (a5,a6,a7)).2.2.length≤130048) then bif decide (130048=130048)&&decide ((ab a2 4 (ab a0 4 (a5,a6,a7))).2.2.length≤130048) then bif decide (130048=130048)&&decide ((ab a1 8 (ab a2 4 (ab a0 4 (a5,a6,a7)))).2.2.length≤130048) then some (Out.ret ((),((),()),((),a4,(ab a3 4 (ab a1 8 (ab a2 4 (ab a0 4 (a5,a6,a7))))).1,(ab a3 4 (ab a1 8 (ab a2 4 (ab a0 4 (a5,a6,a7))))).2.1,()),((ab a3 4 (ab a1 8 (ab a2 4 (ab a0 4 (a5,a6,a7))))).2.2,130048,()),())) else none else none else none else bif decide (130048=130048)&&decide ((ab a0 4 (a5,a6,a7)).2.2.length≤130048) then bif decide (130048=130048)&&decide ((ab a1 8 (ab a0 4 (a5,a6,a7))).2.2.length≤130048) then some (Out.ret ((),((),()),((),a4,(ab a3 4 (ab a1 8 (ab a0 4 (a5,a6,a7)))).1,(ab a3 4 (ab a1 8 (ab a0 4 (a5,a6,a7)))).2.1,()),((ab a3 4 (ab a1 8 (ab a0 4 (a5,a6,a7)))).2.2,130048,()),())) else none else none else none else none
theorem LR (a0 a1 a2 a3 a4 a5:Int)(a6:Bool)(a7:List Int)(a8:Int):Io.run tt Ov dr Fb j6 Tryz.f110 (((a0,a1,a2,a3,()),(),()),((),()),((),a4,a5,a6,()),(a7,a8,()),())=wc a0 a1 a2 a3 a4 a5 a6 a7 a8:=by kernel_rfl
theorem PB:HcOk prog 110 (af j6 BC):=by
 refine ao (n:=400) hm (cs:=En) (.cons bN (.cons qr (.cons dR .nil))) (lp:=Fb) (fn:=Tryz.f110) (by kernel_rfl) (by kernel_rfl) (by kernel_rfl) j6 (.done (by kernel_rfl)) BC ?_
 rintro ⟨⟨⟨(ix:Int),(fo:Int),(ep:Int),(mx:Int),⟨⟩⟩,⟨⟩,⟨⟩⟩,⟨⟨⟩,⟨⟩⟩,⟨⟨⟩,(v:Int),(e:Int),(f:Bool),⟨⟩⟩,⟨(b:List Int),(m:Int),⟨⟩⟩,⟨⟩⟩ out hw ho
 obtain ⟨hg,ho⟩:=Tr.guard ho
 obtain ⟨rfl,hb⟩:=bo (v:=v) (e:=e) (f:=f) hg
 cases ho
 refine (LR ix fo ep mx v e f b 130048).trans ?_
 unfold wc
 have hg:∀s:aV,s.2.2.length≤130048→(decide ((130048:Int)=130048)&&decide (s.2.2.length≤130048))=true:=fun s h=>by simpa using h
 have hb:(e,(f,b)).2.2.length≤130048:=hb
 show _=some (Out.ret ((),dw v (oE v (ix,(fo,(ep,(mx,())))) (e,f,b))))
 refine (aa (hg _ hb) _ _).trans ?_
 have l0_1:=av ix 4 hb
 refine (aa (hg _ l0_1) _ _).trans ?_
 by_cases h1_1:3≤v∧v≤3
 ·refine (aa (by simpa using h1_1) _ _).trans ?_
  refine (aa (hg _ l0_1) _ _).trans ?_
  have l1_1:=av ep 4 l0_1
  refine (aa (hg _ l1_1) _ _).trans ?_
  have l2_2:=av fo 8 l1_1
  refine (aa (hg _ l2_2) _ _).trans ?_
  have l3_2:=av mx 4 l2_2
  simp only[oE,bp h1_1]
 ·refine (ae (Bool.eq_false_iff.2 fun h'=>h1_1 (by simpa using h')) _ _).trans ?_
  refine (aa (hg _ l0_1) _ _).trans ?_
  have l2_2:=av fo 8 l0_1
  refine (aa (hg _ l2_2) _ _).trans ?_
  have l3_2:=av mx 4 l2_2
  simp only[oE,aX h1_1]
def px (v:Int)(xs:List aT.den)(s:aV):aV:=bk (oE v) xs s
abbrev oU:Io:=⟨[.ptr 0 0,.dat (.sl 187 aT) false false,.fnc 110 false [2]],jh,[],[],none⟩
def Dm (d:oU.In):Tr oU.Res:=.ite (gt d.2) (.ret (.ret ((),d0 d.2.1.2.1 (px d.2.1.2.1 d.1.2.1 (gu d.2))))) .no
abbrev KI:List (Nat×Hc):=[(194,af b9 d4),(98,af cc dV),(110,af j6 BC)]
theorem Lk:HcOk prog 109 (af oU Dm):=
 kO (one:=oE) (sps:=px) (fun _ _ _=>rfl) (fun v _ _ h3=>A5 v _ h3) (cs:=KI) (.cons c7 (.cons bN (.cons PB .nil))) (fn:=Tryz.f109) (by kernel_rfl) (by kernel_rfl) (by kernel_rfl) (by kernel_rfl) (by kernel_rfl) (by kernel_rfl) (by intros;kernel_rfl) (by intros;kernel_rfl)
def yf (v:Int)(t:al.den)(s:aV):aV:=px v t.2.1 (bn t.1 s)
abbrev ic:Io:=⟨[.dat al true false,.ptr 0 0],lI,[],[],none⟩
def vG (d:ic.In):Tr ic.Res:=.ite (dW d.2.2) (.ret (.ret ((),dw d.2.2.1.2.1 (yf d.2.2.1.2.1 d.1.1 (dX d.2.2))))) .no
abbrev zY:List (Nat×Hc):=[(101,af hY qP),(109,af oU Dm)]
def KX:Hd:=bR zY
def Au:Lp:=bJ []
def tN (a0:List Int)(a1:List aT.den)(a2 a3:Int)(a4:Bool)(a5:List Int)(a6:Int):Option ic.Res:=bif decide (a6=130048)&&decide (a5.length≤130048) then bif decide (130048=130048)&&decide ((bn a0 (a3,a4,a5)).2.2.length≤130048) then some (Out.ret ((),((),()),((),a2,(px a2 a1 (bn a0 (a3,a4,a5))).1,(px a2 a1 (bn a0 (a3,a4,a5))).2.1,()),((px a2 a1 (bn a0 (a3,a4,a5))).2.2,130048,()),())) else none else none
theorem HT (a0:List Int)(a1:List aT.den)(a2 a3:Int)(a4:Bool)(a5:List Int)(a6:Int):Io.run tt KX dr Au ic Tryz.f108 (((a0,a1,()),(),()),((),()),((),a2,a3,a4,()),(a5,a6,()),())=tN a0 a1 a2 a3 a4 a5 a6:=by kernel_rfl
theorem Ll:HcOk prog 108 (af ic vG):=by
 refine ao (n:=400) hm (cs:=zY) (.cons qs (.cons Lk .nil)) (lp:=Au) (fn:=Tryz.f108) (by kernel_rfl) (by kernel_rfl) (by kernel_rfl) ic (.done (by kernel_rfl)) vG ?_
 rintro ⟨⟨⟨(t:List Int),(ps:List aT.den),⟨⟩⟩,⟨⟩,⟨⟩⟩,⟨⟨⟩,⟨⟩⟩,⟨⟨⟩,(v:Int),(e:Int),(f:Bool),⟨⟩⟩,⟨(b:List Int),(m:Int),⟨⟩⟩,⟨⟩⟩ out hw ho
 obtain ⟨hg,ho⟩:=Tr.guard ho
 obtain ⟨rfl,hb⟩:=bo (v:=v) (e:=e) (f:=f) hg
 cases ho
 refine (HT t ps v e f b 130048).trans ?_
 unfold tN
 refine (aa (by simpa using hb) _ _).trans ?_
 refine (aa (by simpa using dd (s:=(e,f,b)) t hb) _ _).trans ?_
 rfl
theorem lX {s:aV}(v:Int)(t:al.den)(h:s.2.2.length≤130048):(yf v t s).2.2.length≤130048:=bF (fun x s=>A5 v x) _ (dd _ h)
def eD (v:Int)(xs:List al.den)(s:aV):aV:=bk (yf v) xs s
abbrev mI:Io:=⟨[.ptr 0 0,.dat (.sl 185 al) false false,.fnc 108 false [2]],jh,[],[],none⟩
def y6 (d:mI.In):Tr mI.Res:=.ite (gt d.2) (.ret (.ret ((),d0 d.2.1.2.1 (eD d.2.1.2.1 d.1.2.1 (gu d.2))))) .no
abbrev G9:List (Nat×Hc):=[(194,af b9 d4),(98,af cc dV),(108,af ic vG)]
theorem qt:HcOk prog 107 (af mI y6):=
 kO (one:=yf) (sps:=eD) (fun _ _ _=>rfl) (fun v _ _ h3=>lX v _ h3) (cs:=G9) (.cons c7 (.cons bN (.cons Ll .nil))) (fn:=Tryz.f107) (by kernel_rfl) (by kernel_rfl) (by kernel_rfl) (by kernel_rfl) (by kernel_rfl) (by kernel_rfl) (by intros;kernel_rfl) (by intros;kernel_rfl)
def qF (v:Int)(p:aT.den)(s:aV):aV:=ap v (p.2.2.1 == 0) 3 3 (s)
def fC (v:Int)(ps:List aT.den)(s:aV):aV:=ps.foldl (fun s p=>qF v p s) s
def tp (v:Int)(ts:List al.den)(s:aV):aV:=ts.foldl (fun s t=>fC v t.2.1 s) s
def oD (v:Int)(m:bX.den):aV:=eD v m.2.2.2.2.2.1 (bV v 2 3 m.2.2.2.2.1 1 (bV v 1 3 m.2.2.2.1 4 (ab m.2.2.1 4 (ab m.2.1 4 (ab m.1 4 (tp v m.2.2.2.2.2.1 (ap v (m.2.2.2.2.1 == 0) 2 3 (ap v (m.2.2.2.1 == 0) 1 3 (aH v,(false,([]:List Int)))))))))))
abbrev mH:Io:=⟨[dI,.dat bX true false],[],[],[dO,dI],none⟩
def MU (d:mH.In):Tr mH.Res:=.ret (.ret ((bj (oD d.1.1 d.1.2.1),(aM (oD d.1.1 d.1.2.1),())),()))
abbrev uX:List (Nat×Hc):=[(93,af jb tH),(94,af d5 jk),(95,af e7 ly),(98,af cc dV),(106,af t4 Rn),(107,af mI y6),(105,af fW nF)]
def B9:Hd:=bR uX
abbrev fg:Lo:=⟨⟨(.any::bt (.one (.ptr 3 0)::bt (.one (.ptr 6 0)::.any::ag (.one (.hol (.sl 185 al))::.one (.hol (.int IntKind.i64))::.one (.hol (.int IntKind.i64))::bQ (.one (.hol (.sl 187 aT))::.one (.hol (.int IntKind.i64))::.one (.hol (.int IntKind.i64))::.any::ag (ag (dq (bt [])))))))),[none,none,none,some [.hol (.int IntKind.i32),.hol (.int IntKind.i32),.hol (.int IntKind.i32),.hol (.int IntKind.i32),.hol (.int IntKind.i8),.hol (.sl 185 al)],none,none,some [.ptr 12 0],none,none,none,none,none,some [.ptr 13 0,.hol (.int IntKind.i64),.hol (.int IntKind.i64),.hol .bool],some [.onl 5 (Ty.int IntKind.u8) 6658,.hol (.int IntKind.i64)]]⟩,[(.exit 2,⟨(.any::bt (.one (.ptr 3 0)::bt (.one (.ptr 6 0)::.any::ag (.one (.hol (.sl 185 al))::.one (.hol (.int IntKind.i64))::.one (.hol (.int IntKind.i64))::ag (ag (ag (bt []))))))),[none,none,none,some [.hol (.int IntKind.i32),.hol (.int IntKind.i32),.hol (.int IntKind.i32),.hol (.int IntKind.i32),.hol (.int IntKind.i8),.hol (.sl 185 al)],none,none,some [.ptr 12 0],none,none,none,none,none,some [.ptr 13 0,.hol (.int IntKind.i64),.hol (.int IntKind.i64),.hol .bool],some [.onl 5 (Ty.int IntKind.u8) 6658,.hol (.int IntKind.i64)]]⟩)]⟩
abbrev ff:Lo:=⟨⟨(.any::bt (.one (.ptr 3 0)::bt (.one (.ptr 6 0)::.any::ag (.one (.hol (.sl 185 al))::.one (.hol (.int IntKind.i64))::.one (.hol (.int IntKind.i64))::ag (ag (ag (bt []))))))),[none,none,none,some [.hol (.int IntKind.i32),.hol (.int IntKind.i32),.hol (.int IntKind.i32),.hol (.int IntKind.i32),.hol (.int IntKind.i8),.hol (.sl 185 al)],none,none,some [.ptr 12 0],none,none,none,none,none,some [.ptr 13 0,.hol (.int IntKind.i64),.hol (.int IntKind.i64),.hol .bool],some [.onl 5 (Ty.int IntKind.u8) 6658,.hol (.int IntKind.i64)]]⟩,[(.exit 0,⟨(.any::bt (.one (.ptr 3 0)::bt (.one (.ptr 6 0)::ag (ag (ag (ag (bQ (bt [])))))))),[none,none,none,some [.hol (.int IntKind.i32),.hol (.int IntKind.i32),.hol (.int IntKind.i32),.hol (.int IntKind.i32),.hol (.int IntKind.i8),.hol (.sl 185 al)],none,none,some [.ptr 12 0],none,none,none,none,none,some [.ptr 13 0,.hol (.int IntKind.i64),.hol (.int IntKind.i64),.hol .bool],some [.onl 5 (Ty.int IntKind.u8) 6658,.hol (.int IntKind.i64)]]⟩)]⟩
abbrev s5 (re' wt' mi' mb' lv':Int)(ts':List al.den)(v:Int)(s:aV):(Int×(Int×(Int×(Int×(Int×(List al.den×Unit))))))×(Unit×((Int×(Int×(Bool×Unit)))×((List Int×(Int×Unit))×Unit))):=((re',(wt',(mi',(mb',(lv',(ts',())))))),((),((v,(s.1,(s.2.1,()))),((s.2.2,(130048,())),()))))
def nH (d:fg.st.den):Tr (aJ fg.xs):=
 .ite (decide (d.1.2.2.2.2.2.1=0)&&(decide (d.1.2.2.2.2.1=(d.1.2.2.2.1.length:Int))&&(decide (d.2.2.2.2.1.2.1=130048)&&decide (d.2.2.2.2.1.1.length≤130048)))) (.ret (.ret ((),((d.1.1,(d.1.2.1,(d.1.2.2.1,()))),s5 d.2.1.1 d.2.1.2.1 d.2.1.2.2.1 d.2.1.2.2.2.1 d.2.1.2.2.2.2.1 d.2.1.2.2.2.2.2.1 d.2.2.2.1.1 (fC d.2.2.2.1.1 d.1.2.2.2.1 (d.2.2.2.1.2.1,(d.2.2.2.1.2.2.1,d.2.2.2.2.1.1))))))) .no
def nG (d:ff.st.den):Tr (aJ ff.xs):=
 .ite (decide (d.1.2.2.1=0)&&(decide (d.1.2.1=(d.1.1.length:Int))&&(decide (d.2.2.2.2.1.2.1=130048)&&decide (d.2.2.2.2.1.1.length≤130048)))) (.ret (.ret ((),((),s5 d.2.1.1 d.2.1.2.1 d.2.1.2.2.1 d.2.1.2.2.2.1 d.2.1.2.2.2.2.1 d.2.1.2.2.2.2.2.1 d.2.2.2.1.1 (tp d.2.2.2.1.1 d.1.1 (d.2.2.2.1.2.1,(d.2.2.2.1.2.2.1,d.2.2.2.2.1.1))))))) .no
def o6:Lp:=bJ [(6,bv ff nG),(9,bv fg nH)]
def uz {R:Type}(h21:List al.den)(h22 h23:Int)(h24:List aT.den)(h25 h26 h27 h28 h29 h30 h31:Int)(h32:List al.den)(h33 h34:Int)(h35:Bool)(h36:List Int)(h37:Int)(next:List al.den→Int→Int→List aT.den→Int→Int→Int→Int→Int→Int→Int→List al.den→Int→Int→Bool→List Int→Int→Option R)(out:aJ fg.xs→Option R):Option R:=bif decide (h26<h25) then bif decide (0≤h26)&&decide (h26<(↑h24.length:Int)) then bif decide (h37=130048)&&decide (h36.length≤130048) then next (h21) (h22) (h23) (h24) (h25) (IntKind.i64.wrap (h26+1)) (h27) (h28) (h29) (h30) (h31) (h32) (h33) ((ap h33 ((h24.getD h26.toNat (0,0,0,0,())).2.2.1 == 0) 3 3 (h34,h35,h36)).1) ((ap h33 ((h24.getD h26.toNat (0,0,0,0,())).2.2.1 == 0) 3 3 (h34,h35,h36)).2.1) ((ap h33 ((h24.getD h26.toNat (0,0,0,0,())).2.2.1 == 0) 3 3 (h34,h35,h36)).2.2) (130048) else none else none else out (.ret ((),((h21,(h22,(h23,()))),((h27,(h28,(h29,(h30,(h31,(h32,())))))),((),((h33,(h34,(h35,()))),((h36,(h37,())),())))))))
def sO (n:Nat)(h21:List al.den)(h22 h23:Int)(h24:List aT.den)(h25 h26 h27 h28 h29 h30 h31:Int)(h32:List al.den)(h33 h34:Int)(h35:Bool)(h36:List Int)(h37:Int):Option (aJ fg.xs):=lD tt B9 dr o6 0 Tryz.f44 (Gw Tryz.f44 (gQ Tryz.f44 0) 0) n (fg.st.mk' ((h21,(h22,(h23,(h24,(h25,(h26,())))))),((h27,(h28,(h29,(h30,(h31,(h32,())))))),((),((h33,(h34,(h35,()))),((h36,(h37,())),())))))) (dc fg.xs)
theorem L7 (n:Nat)(h21:List al.den)(h22 h23:Int)(h24:List aT.den)(h25 h26 h27 h28 h29 h30 h31:Int)(h32:List al.den)(h33 h34:Int)(h35:Bool)(h36:List Int)(h37:Int):sO (n+1) h21 h22 h23 h24 h25 h26 h27 h28 h29 h30 h31 h32 h33 h34 h35 h36 h37=uz h21 h22 h23 h24 h25 h26 h27 h28 h29 h30 h31 h32 h33 h34 h35 h36 h37 (sO n) some:=by kernel_rfl
def uy {R:Type}(h7:List al.den)(h8 h9 h10 h11 h12 h13 h14:Int)(h15:List al.den)(h16 h17:Int)(h18:Bool)(h19:List Int)(h20:Int)(next:List al.den→Int→Int→Int→Int→Int→Int→Int→List al.den→Int→Int→Bool→List Int→Int→Option R)(out:aJ ff.xs→Option R):Option R:=bif decide (h9<h8) then bif decide (0≤h9)&&decide (h9<(↑h7.length:Int)) then (nH ((h7,(h8,(h9,((h7.getD h9.toNat ([],[],())).2.1,((↑(List.length (h7.getD h9.toNat ([],[],())).2.1):Int),(0,())))))),((h10,(h11,(h12,(h13,(h14,(h15,())))))),((),((h16,(h17,(h18,()))),((h19,(h20,())),())))))).run fun y=>match y with | .ret ((),((x69,x70,x71,()),(x72,x73,x74,x75,x76,x77,()),(),(x78,x79,x80,()),(x81,x82,()),()))=>(next (x69) (x70) (IntKind.i64.wrap (x71+1)) (x72) (x73) (x74) (x75) (x76) (x77) (x78) (x79) (x80) (x81) (x82)) else none else out (.ret ((),((),((h10,(h11,(h12,(h13,(h14,(h15,())))))),((),((h16,(h17,(h18,()))),((h19,(h20,())),())))))))
def o1 (n:Nat)(h7:List al.den)(h8 h9 h10 h11 h12 h13 h14:Int)(h15:List al.den)(h16 h17:Int)(h18:Bool)(h19:List Int)(h20:Int):Option (aJ ff.xs):=lD tt B9 dr o6 0 Tryz.f44 (gQ Tryz.f44 0) n (ff.st.mk' ((h7,(h8,(h9,()))),((h10,(h11,(h12,(h13,(h14,(h15,())))))),((),((h16,(h17,(h18,()))),((h19,(h20,())),())))))) (dc ff.xs)
theorem L6 (n:Nat)(h7:List al.den)(h8 h9 h10 h11 h12 h13 h14:Int)(h15:List al.den)(h16 h17:Int)(h18:Bool)(h19:List Int)(h20:Int):o1 (n+1) h7 h8 h9 h10 h11 h12 h13 h14 h15 h16 h17 h18 h19 h20=uy h7 h8 h9 h10 h11 h12 h13 h14 h15 h16 h17 h18 h19 h20 (o1 n) some:=by kernel_rfl
theorem AZ {s:aV}(v:Int)(p:aT.den)(h:s.2.2.length≤130048):(qF v p s).2.2.length≤130048:=ba _ _ _ _ h
theorem yc {s:aV}(v:Int)(ps:List aT.den)(h:s.2.2.length≤130048):(fC v ps s).2.2.length≤130048:=eH (fun x s=>AZ v x) ps s h
theorem Mu {s:aV}(v:Int)(ts:List al.den)(h:s.2.2.length≤130048):(tp v ts s).2.2.length≤130048:=eH (one:=fun (t:al.den) (s:aV)=>fC v t.2.1 s) (fun x s h=>yc v x.2.1 h) ts s h
theorem EN (us:List al.den)(n i re' wt' mi' mb' lv':Int)(ts':List al.den)(v:Int){ps:List aT.den}(hl:ps.length≤maxLen):∀(k j:Nat) (s:aV),ps.length<j+k→j≤ps.length→s.2.2.length≤130048→
  sO k us n i ps (ps.length:Int) j re' wt' mi' mb' lv' ts' v s.1 s.2.1 s.2.2 130048=some (.ret ((),((us,(n,(i,()))),s5 re' wt' mi' mb' lv' ts' v ((ps.drop j).foldl (fun s p=>qF v p s) s)))):=by
 intro k
 have hg:∀s:aV,s.2.2.length≤130048→(decide ((130048:Int)=130048)&&decide (s.2.2.length≤130048))=true:=fun s h=>by simpa using h
 induction k with
 |zero=>intro j s h;omega
 |succ k ih=>
  intro j s h1 h2 q0
  rw[L7]
  unfold uz
  by_cases hi:j<ps.length
  ·refine (aa (decide_eq_true (show (j:Int)<(ps.length:Int) by omega)) _ _).trans ?_
   refine (aa (by simpa using hi) _ _).trans ?_
   simp only[Int.toNat_natCast,bh hi,bM hi hl]
   refine (aa (hg _ q0) _ _).trans ?_
   have q1:=ba (s:=s) v (ps[j].2.2.1 == 0) 3 3 q0
   rw[List.drop_eq_getElem_cons hi]
   exact ih (j+1) (qF v ps[j] s) (by omega) (by omega) (AZ _ _ q0)
  ·refine (ae (by simp;omega) _ _).trans ?_
   rw[List.drop_of_length_le (by omega)]
   rfl
theorem EM {us:List al.den}(re' wt' mi' mb' lv':Int)(ts':List al.den)(v:Int)(hl:us.length≤maxLen):∀(k j:Nat) (s:aV),us.length<j+k→j≤us.length→s.2.2.length≤130048→
  o1 k us (us.length:Int) j re' wt' mi' mb' lv' ts' v s.1 s.2.1 s.2.2 130048=some (.ret ((),((),s5 re' wt' mi' mb' lv' ts' v ((us.drop j).foldl (fun s t=>fC v t.2.1 s) s)))):=by
 intro k
 induction k with
 |zero=>intro j s h;omega
 |succ k ih=>
  intro j s h1 h2 h3
  rw[L6]
  unfold uy
  by_cases hi:j<us.length
  ·refine (aa (decide_eq_true (show (j:Int)<(us.length:Int) by omega)) _ _).trans ?_
   refine (aa (by simpa using hi) _ _).trans ?_
   simp only[Int.toNat_natCast,bh hi]
   have c1:(decide ((0:Int)=0)&&(decide ((us[j].2.1.length:Int)=(us[j].2.1.length:Int))&&(decide ((130048:Int)=130048)&&decide (s.2.2.length≤130048))))=true:=by simpa using h3
   have e1:nH ((us,((us.length:Int),((j:Int),(us[j].2.1,((us[j].2.1.length:Int),(0,())))))),((re',(wt',(mi',(mb',(lv',(ts',())))))),((),((v,(s.1,(s.2.1,()))),((s.2.2,(130048,())),())))))=
     .ite true (.ret (.ret ((),((us,((us.length:Int),((j:Int),()))),s5 re' wt' mi' mb' lv' ts' v (fC v us[j].2.1 s))))) .no:=congrArg (fun c=>Tr.ite c _ _) c1
   rw[e1]
   show o1 k us (us.length:Int) (IntKind.i64.wrap ((j:Int)+1)) re' wt' mi' mb' lv' ts' v (fC v us[j].2.1 s).1 (fC v us[j].2.1 s).2.1 (fC v us[j].2.1 s).2.2 130048=_
   rw[bM hi hl,List.drop_eq_getElem_cons hi]
   exact ih (j+1) (fC v us[j].2.1 s) (by omega) (by omega) (yc _ _ h3)
  ·refine (ae (by simp;omega) _ _).trans ?_
   rw[List.drop_of_length_le (by omega)]
   rfl
def zF (a0 a1 a2 a3 a4 a5:Int)(a6:List al.den):Option mH.Res:=bif decide (130048=130048)&&decide ((ap a0 (a4 == 0) 1 3 (aH a0,false,[])).2.2.length≤130048) then (nG ((a6,((↑a6.length:Int),(0,()))),((a1,(a2,(a3,(a4,(a5,(a6,())))))),((),((a0,((ap a0 (a5 == 0) 2 3 (ap a0 (a4 == 0) 1 3 (aH a0,false,[]))).1,((ap a0 (a5 == 0) 2 3 (ap a0 (a4 == 0) 1 3 (aH a0,false,[]))).2.1,()))),(((ap a0 (a5 == 0) 2 3 (ap a0 (a4 == 0) 1 3 (aH a0,false,[]))).2.2,(130048,())),())))))).run fun y=>match y with | .ret ((),((),(x108,x109,x110,x111,x112,x113,()),(),(x114,x115,x116,()),(x117,x118,()),()))=>(bif decide (x118=130048)&&decide (x117.length≤130048) then bif decide (130048=130048)&&decide ((ab x108 4 (x115,x116,x117)).2.2.length≤130048) then bif decide (130048=130048)&&decide ((ab x109 4 (ab x108 4 (x115,x116,x117))).2.2.length≤130048) then bif decide (130048=130048)&&decide ((ab x110 4 (ab x109 4 (ab x108 4 (x115,x116,x117)))).2.2.length≤130048) then bif decide (1≤x114)&&decide (x114≤3) then bif decide (130048=130048)&&decide ((ab x110 4 (ab x109 4 (ab x108 4 (x115,x116,x117)))).2.2.length≤130048) then bif decide (130048=130048)&&decide ((ab x111 4 (ab x110 4 (ab x109 4 (ab x108 4 (x115,x116,x117))))).2.2.length≤130048) then bif decide (2≤x114)&&decide (x114≤3) then bif decide (130048=130048)&&decide ((ab x111 4 (ab x110 4 (ab x109 4 (ab x108 4 (x115,x116,x117))))).2.2.length≤130048) then bif decide (130048=130048)&&decide ((ab x112 1 (ab x111 4 (ab x110 4 (ab x109 4 (ab x108 4 (x115,x116,x117)))))).2.2.length≤130048) then bif decide (130048=130048)&&decide ((eD x114 x113 (ab x112 1 (ab x111 4 (ab x110 4 (ab x109 4 (ab x108 4 (x115,x116,x117))))))).2.2.length≤130048) then some (Out.ret ((bj (eD x114 x113 (ab x112 1 (ab x111 4 (ab x110 4 (ab x109 4 (ab x108 4 (x115,x116,x117))))))),aM (eD x114 x113 (ab x112 1 (ab x111 4 (ab x110 4 (ab x109 4 (ab x108 4 (x115,x116,x117))))))),()),())) else none else none else none else bif decide (130048=130048)&&decide ((ab x111 4 (ab x110 4 (ab x109 4 (ab x108 4 (x115,x116,x117))))).2.2.length≤130048) then bif decide (130048=130048)&&decide ((eD x114 x113 (ab x111 4 (ab x110 4 (ab x109 4 (ab x108 4 (x115,x116,x117)))))).2.2.length≤130048) then some (Out.ret ((bj (eD x114 x113 (ab x111 4 (ab x110 4 (ab x109 4 (ab x108 4 (x115,x116,x117)))))),aM (eD x114 x113 (ab x111 4 (ab x110 4 (ab x109 4 (ab x108 4 (x115,x116,x117)))))),()),())) else none else none else none else none else bif decide (130048=130048)&&decide ((ab x110 4 (ab x109 4 (ab x108 4 (x115,x116,x117)))).2.2.length≤130048) then bif decide (2≤x114)&&decide (x114≤3) then bif decide (130048=130048)&&decide ((ab x110 4 (ab x109 4 (ab x108 4 (x115,x116,x117)))).2.2.length≤130048) then bif decide (130048=130048)&&decide ((ab x112 1 (ab x110 4 (ab x109 4 (ab x108 4 (x115,x116,x117))))).2.2.length≤130048) then bif decide (130048=130048)&&decide ((eD x114 x113 (ab x112 1 (ab x110 4 (ab x109 4 (ab x108 4 (x115,x116,x117)))))).2.2.length≤130048) then some (Out.ret ((bj (eD x114 x113 (ab x112 1 (ab x110 4 (ab x109 4 (ab x108 4 (x115,x116,x117)))))),aM (eD x114 x113 (ab x112 1 (ab x110 4 (ab x109 4 (ab x108 4 (x115,x116,x117)))))),()),())) else none else none else none else bif decide (130048=130048)&&decide ((ab x110 4 (ab x109 4 (ab x108 4 (x115,x116,x117)))).2.2.length≤130048) then bif decide (130048=130048)&&decide ((eD x114 x113 (ab x110 4 (ab x109 4 (ab x108 4 (x115,x116,x117))))).2.2.length≤130048) then some (Out.ret ((bj (eD x114 x113 (ab x110 4 (ab x109 4 (ab x108 4 (x115,x116,x117))))),aM (eD x114 x113 (ab x110 4 (ab x109 4 (ab x108 4 (x115,x116,x117))))),()),())) else none else none else none else none else none else none else none) else none
theorem Qb (a0 a1 a2 a3 a4 a5:Int)(a6:List al.den):Io.run tt B9 dr o6 mH Tryz.f44 ((a0,(a1,a2,a3,a4,a5,a6,()),()),())=zF a0 a1 a2 a3 a4 a5 a6:=by kernel_rfl
theorem Sx:HcOk prog 44 (af mH MU):=by
 refine ao (n:=400) hm (cs:=uX) (.cons fL (.cons cH (.cons dR (.cons bN (.cons AH (.cons qt (.cons d2 .nil))))))) (lp:=o6) (fn:=Tryz.f44) (by kernel_rfl) (by kernel_rfl) (by kernel_rfl) mH (.step (h0:=bv ff nG) (by kernel_rfl) (aQ (n:=400) hm (cs:=uX) (.cons fL (.cons cH (.cons dR (.cons bN (.cons AH (.cons qt (.cons d2 .nil))))))) (lp:=o6) (fn:=Tryz.f44) (.step (h0:=bv fg nH) (by kernel_rfl) (aQ (n:=400) hm (cs:=uX) (.cons fL (.cons cH (.cons dR (.cons bN (.cons AH (.cons qt (.cons d2 .nil))))))) (lp:=o6) (fn:=Tryz.f44) (.done (by kernel_rfl)) fg nH ?_) (.done (by kernel_rfl))) ff nG ?_) (.done (by kernel_rfl))) MU ?_
 ·rintro ⟨⟨(us:List al.den),(n:Int),(i:Int),(ps:List aT.den),(pn:Int),(pj:Int),⟨⟩⟩,⟨⟨(re':Int),(wt':Int),(mi':Int),(mb':Int),(lv':Int),(ts':List al.den),⟨⟩⟩,⟨⟩,⟨(v:Int),(e:Int),(f:Bool),⟨⟩⟩,⟨(b:List Int),(m:Int),⟨⟩⟩,⟨⟩⟩⟩ y hw hy
  obtain ⟨hg,hy⟩:=Tr.guard hy
  simp only[Bool.and_eq_true,decide_eq_true_eq] at hg
  obtain ⟨rfl,rfl,rfl,h4⟩:=hg
  have h4:b.length≤130048:=h4
  have hl:ps.length≤maxLen:=hw.1.2.2.2.1.1
  refine ⟨ps.length+1,(EN us n i re' wt' mi' mb' lv' ts' v hl (ps.length+1) 0 (e,(f,b)) (by omega) (by omega) h4).trans ?_⟩
  rw[← hy];rfl
 ·rintro ⟨⟨(us:List al.den),(n:Int),(i:Int),⟨⟩⟩,⟨⟨(re':Int),(wt':Int),(mi':Int),(mb':Int),(lv':Int),(ts':List al.den),⟨⟩⟩,⟨⟩,⟨(v:Int),(e:Int),(f:Bool),⟨⟩⟩,⟨(b:List Int),(m:Int),⟨⟩⟩,⟨⟩⟩⟩ y hw hy
  obtain ⟨hg,hy⟩:=Tr.guard hy
  simp only[Bool.and_eq_true,decide_eq_true_eq] at hg
  obtain ⟨rfl,rfl,rfl,h4⟩:=hg
  have h4:b.length≤130048:=h4
  have hl:us.length≤maxLen:=hw.1.1.1
  refine ⟨us.length+1,(EM re' wt' mi' mb' lv' ts' v hl (us.length+1) 0 (e,(f,b)) (by omega) (by omega) h4).trans ?_⟩
  rw[← hy];rfl
 ·rintro ⟨⟨(v:Int),⟨(re:Int),(wt:Int),(mi:Int),(mb:Int),(lv:Int),(ts:List al.den),⟨⟩⟩,⟨⟩⟩,⟨⟩⟩ out hw ho
  cases ho
  refine (Qb v re wt mi mb lv ts).trans ?_
  unfold zF
  have hg:∀s:aV,s.2.2.length≤130048→(decide ((130048:Int)=130048)&&decide (s.2.2.length≤130048))=true:=fun s h=>by simpa using h
  have q0:(aH v,(false,([]:List Int))).2.2.length≤130048:=by simp
  have q1:=ba (s:=(aH v,(false,([]:List Int)))) v (mb == 0) 1 3 q0
  refine (aa (hg _ q1) _ _).trans ?_
  have q2:=ba (s:=ap v (mb == 0) 1 3 (aH v,(false,([]:List Int)))) v (lv == 0) 2 3 q1
  have c1:(decide ((0:Int)=0)&&(decide ((ts.length:Int)=(ts.length:Int))&&(decide ((130048:Int)=130048)&&decide ((ap v (lv == 0) 2 3 (ap v (mb == 0) 1 3 (aH v,(false,([]:List Int))))).2.2.length≤130048))))=true:=by simpa using q2
  have e1:nG ((ts,((ts.length:Int),(0,()))),((re,(wt,(mi,(mb,(lv,(ts,())))))),((),((v,((ap v (lv == 0) 2 3 (ap v (mb == 0) 1 3 (aH v,(false,([]:List Int))))).1,((ap v (lv == 0) 2 3 (ap v (mb == 0) 1 3 (aH v,(false,([]:List Int))))).2.1,()))),(((ap v (lv == 0) 2 3 (ap v (mb == 0) 1 3 (aH v,(false,([]:List Int))))).2.2,(130048,())),())))))=
    .ite true (.ret (.ret ((),((),s5 re wt mi mb lv ts v (tp v ts (ap v (lv == 0) 2 3 (ap v (mb == 0) 1 3 (aH v,(false,([]:List Int)))))))))) .no:=congrArg (fun c=>Tr.ite c _ _) c1
  rw[e1]
  have r0:=Mu v ts q2
  refine (aa (hg _ r0) _ _).trans ?_
  have l0_0:=av re 4 r0
  refine (aa (hg _ l0_0) _ _).trans ?_
  have l1_0:=av wt 4 l0_0
  refine (aa (hg _ l1_0) _ _).trans ?_
  have l2_0:=av mi 4 l1_0
  refine (aa (hg _ l2_0) _ _).trans ?_
  by_cases h3_0:1≤v∧v≤3
  ·refine (aa (by simpa using h3_0) _ _).trans ?_
   refine (aa (hg _ l2_0) _ _).trans ?_
   have l3_0:=av mb 4 l2_0
   refine (aa (hg _ l3_0) _ _).trans ?_
   by_cases h4_1:2≤v∧v≤3
   ·refine (aa (by simpa using h4_1) _ _).trans ?_
    refine (aa (hg _ l3_0) _ _).trans ?_
    have l4_1:=av lv 1 l3_0
    refine (aa (hg _ l4_1) _ _).trans ?_
    have l5_2:=bF (fun x s=>lX v x) ts l4_1
    refine (aa (hg _ l5_2) _ _).trans ?_
    simp only[oD,bp h3_0,bp h4_1]
   ·refine (ae (Bool.eq_false_iff.2 fun h'=>h4_1 (by simpa using h')) _ _).trans ?_
    refine (aa (hg _ l3_0) _ _).trans ?_
    have l5_2:=bF (fun x s=>lX v x) ts l3_0
    refine (aa (hg _ l5_2) _ _).trans ?_
    simp only[oD,bp h3_0,aX h4_1]
  ·refine (ae (Bool.eq_false_iff.2 fun h'=>h3_0 (by simpa using h')) _ _).trans ?_
   refine (aa (hg _ l2_0) _ _).trans ?_
   by_cases h4_1:2≤v∧v≤3
   ·refine (aa (by simpa using h4_1) _ _).trans ?_
    refine (aa (hg _ l2_0) _ _).trans ?_
    have l4_1:=av lv 1 l2_0
    refine (aa (hg _ l4_1) _ _).trans ?_
    have l5_2:=bF (fun x s=>lX v x) ts l4_1
    refine (aa (hg _ l5_2) _ _).trans ?_
    simp only[oD,aX h3_0,bp h4_1]
   ·refine (ae (Bool.eq_false_iff.2 fun h'=>h4_1 (by simpa using h')) _ _).trans ?_
    refine (aa (hg _ l2_0) _ _).trans ?_
    have l5_2:=bF (fun x s=>lX v x) ts l2_0
    refine (aa (hg _ l5_2) _ _).trans ?_
    simp only[oD,aX h3_0,aX h4_1]
@[irreducible] noncomputable def iy (v:Int)(b:List Int)(s:aC):aT.den×aC:=
 (((ac .i32 4 b s).1,((ac .i64 8 b (aq .i32 4 v 3 3 b (ac .i32 4 b s).2).2).1,((aq .i32 4 v 3 3 b (ac .i32 4 b s).2).1,((ac .i32 4 b (ac .i64 8 b (aq .i32 4 v 3 3 b (ac .i32 4 b s).2).2).2).1,())))),(ac .i32 4 b (ac .i64 8 b (aq .i32 4 v 3 3 b (ac .i32 4 b s).2).2).2).2)
theorem A4 {v:Int}{b:List Int}{s:aC}(h:an b s.2=true):an b (iy v b s).2.2=true:=by
 unfold iy
 exact aL _ _ (aL _ _ (ir (aL _ _ (h))))
abbrev gZ:Io:=⟨[.ptr 0 0],rJ,[],[.dat aT true false],none⟩
def vx (d:gZ.In):Tr gZ.Res:=.ite (an d.2.2.2.1.1 d.2.2.2.1.2.1) (.ret (.ret (((iy d.2.2.1.2.1 d.2.2.2.1.1 (cx d.2.2)).1,()),dZ d.2.2.1.2.1 d.2.2.2.1.1 (iy d.2.2.1.2.1 d.2.2.2.1.1 (cx d.2.2)).2))) .no
abbrev zV:List (Nat×Hc):=[(143,af cC eT),(156,af k8 yW),(140,af gY qN)]
def KU:Hd:=bR zV
def Aq:Lp:=bJ []
def tK (a0 a1:Int)(a2:List Int)(a3:Int):Option gZ.Res:=bif an a2 a3 then bif aS a0 3 3 (ac IntKind.i32 4 a2 (a1,a3)).2.1 then bif an a2 (ac IntKind.i32 4 a2 (a1,a3)).2.2 then bif an a2 (ac IntKind.i32 4 a2 (ac IntKind.i32 4 a2 (a1,a3)).2).2.2 then bif an a2 (ac IntKind.i64 8 a2 (ac IntKind.i32 4 a2 (ac IntKind.i32 4 a2 (a1,a3)).2).2).2.2 then some (Out.ret ((((ac IntKind.i32 4 a2 (a1,a3)).1,(ac IntKind.i64 8 a2 (ac IntKind.i32 4 a2 (ac IntKind.i32 4 a2 (a1,a3)).2).2).1,(ac IntKind.i32 4 a2 (ac IntKind.i32 4 a2 (a1,a3)).2).1,(ac IntKind.i32 4 a2 (ac IntKind.i64 8 a2 (ac IntKind.i32 4 a2 (ac IntKind.i32 4 a2 (a1,a3)).2).2).2).1,()),()),((),()),((),a0,(ac IntKind.i32 4 a2 (ac IntKind.i64 8 a2 (ac IntKind.i32 4 a2 (ac IntKind.i32 4 a2 (a1,a3)).2).2).2).2.1,()),(a2,(ac IntKind.i32 4 a2 (ac IntKind.i64 8 a2 (ac IntKind.i32 4 a2 (ac IntKind.i32 4 a2 (a1,a3)).2).2).2).2.2,()),())) else none else none else none else bif an a2 (ac IntKind.i32 4 a2 (a1,a3)).2.2 then bif an a2 (ac IntKind.i64 8 a2 (ac IntKind.i32 4 a2 (a1,a3)).2).2.2 then some (Out.ret ((((ac IntKind.i32 4 a2 (a1,a3)).1,(ac IntKind.i64 8 a2 (ac IntKind.i32 4 a2 (a1,a3)).2).1,0,(ac IntKind.i32 4 a2 (ac IntKind.i64 8 a2 (ac IntKind.i32 4 a2 (a1,a3)).2).2).1,()),()),((),()),((),a0,(ac IntKind.i32 4 a2 (ac IntKind.i64 8 a2 (ac IntKind.i32 4 a2 (a1,a3)).2).2).2.1,()),(a2,(ac IntKind.i32 4 a2 (ac IntKind.i64 8 a2 (ac IntKind.i32 4 a2 (a1,a3)).2).2).2.2,()),())) else none else none else none
theorem HQ (a0 a1:Int)(a2:List Int)(a3:Int):Io.run tt KU dr Aq gZ Tryz.f155 (((),()),((),()),((),a0,a1,()),(a2,a3,()),())=tK a0 a1 a2 a3:=by kernel_rfl
theorem Lf:HcOk prog 155 (af gZ vx):=by
 refine ao (n:=400) hm (cs:=zV) (.cons dg (.cons xm (.cons qq .nil))) (lp:=Aq) (fn:=Tryz.f155) (by kernel_rfl) (by kernel_rfl) (by kernel_rfl) gZ (.done (by kernel_rfl)) vx ?_
 rintro ⟨⟨⟨⟩,⟨⟩⟩,⟨⟨⟩,⟨⟩⟩,⟨⟨⟩,(v:Int),(e:Int),⟨⟩⟩,⟨(b:List Int),(p:Int),⟨⟩⟩,⟨⟩⟩ out hw ho
 obtain ⟨hg,ho⟩:=Tr.guard ho
 have hg:an b p=true:=hg
 cases ho
 refine (HQ v e b p).trans ?_
 unfold tK
 show _=some (Out.ret (((iy v b (e,p)).1,()),dZ v b (iy v b (e,p)).2))
 unfold iy
 have hg:an b ((e,p):aC).2=true:=hg
 refine (aa hg _ _).trans ?_
 have g0:an b (ac .i32 4 b ((e,p):aC)).2.2=true:=aL .i32 4 (s:=((e,p):aC)) hg
 show (bif aS v 3 3 (ac .i32 4 b ((e,p):aC)).2.1 then _ else _)=_
 cases h1:aS v 3 3 (ac .i32 4 b ((e,p):aC)).2.1
 ·have e1:aq .i32 4 v 3 3 b (ac .i32 4 b ((e,p):aC)).2=(0,(ac .i32 4 b ((e,p):aC)).2):=by unfold aq;rw[if_neg (by rw[h1];decide)]
  rw[e1]
  refine (aa g0 _ _).trans ?_
  have gf2:an b (ac .i64 8 b (ac .i32 4 b ((e,p):aC)).2).2.2=true:=aL .i64 8 (s:=(ac .i32 4 b ((e,p):aC)).2) g0
  refine (aa gf2 _ _).trans ?_
  have gf3:an b (ac .i32 4 b (ac .i64 8 b (ac .i32 4 b ((e,p):aC)).2).2).2.2=true:=aL .i32 4 (s:=(ac .i64 8 b (ac .i32 4 b ((e,p):aC)).2).2) gf2
  rfl
 ·have e1:aq .i32 4 v 3 3 b (ac .i32 4 b ((e,p):aC)).2=ac .i32 4 b (ac .i32 4 b ((e,p):aC)).2:=by unfold aq;rw[if_pos h1]
  rw[e1]
  refine (aa g0 _ _).trans ?_
  have g1:an b (ac .i32 4 b (ac .i32 4 b ((e,p):aC)).2).2.2=true:=aL .i32 4 (s:=(ac .i32 4 b ((e,p):aC)).2) g0
  refine (aa g1 _ _).trans ?_
  have gt2:an b (ac .i64 8 b (ac .i32 4 b (ac .i32 4 b ((e,p):aC)).2).2).2.2=true:=aL .i64 8 (s:=(ac .i32 4 b (ac .i32 4 b ((e,p):aC)).2).2) g1
  refine (aa gt2 _ _).trans ?_
  have gt3:an b (ac .i32 4 b (ac .i64 8 b (ac .i32 4 b (ac .i32 4 b ((e,p):aC)).2).2).2).2.2=true:=aL .i32 4 (s:=(ac .i64 8 b (ac .i32 4 b (ac .i32 4 b ((e,p):aC)).2).2).2) gt2
  rfl
@[irreducible] noncomputable def fD (v:Int)(b:List Int)(s:aC):List aT.den×aC:=eB (iy v b) b s
theorem Iu {v:Int}{b:List Int}{s:aC}(h:an b s.2=true):an b (fD v b s).2.2=true:=by
 unfold fD
 exact gq (fun s h=>A4 h) h
abbrev mD:Io:=⟨[.ptr 0 0,.fnc 155 false [2]],n6,[],[.dat (.sl 187 aT) false false],none⟩
def yZ (d:mD.In):Tr mD.Res:=.ite (an d.2.2.1.1 d.2.2.1.2.1) (.ret (.ret (((fD d.2.1.2.1 d.2.2.1.1 (eQ d.2)).1,()),iF d.2.1.2.1 d.2.2.1.1 (fD d.2.1.2.1 d.2.2.1.1 (eQ d.2)).2))) .no
abbrev G6:List (Nat×Hc):=[(143,af cC eT),(155,af gZ vx)]
theorem Hz:HcOk prog 154 (af mD yZ):=
 n4 (one:=iy) (sps:=fD) (fun _ _ _=>by unfold fD;rfl) (fun _ _ _ h4=>A4 h4) (cs:=G6) (.cons dg (.cons Lf .nil)) (fn:=Tryz.f154) (by kernel_rfl) (by kernel_rfl) (by kernel_rfl) (by kernel_rfl) (by kernel_rfl) (by kernel_rfl) (by intros;kernel_rfl) (by intros;kernel_rfl)
@[irreducible] noncomputable def iz (v:Int)(b:List Int)(s:aC):al.den×aC:=(((bf b s).1,((fD v b (bf b s).2).1,())),(fD v b (bf b s).2).2)
theorem A6 {v:Int}{b:List Int}{s:aC}(h:an b s.2=true):an b (iz v b s).2.2=true:=by
 unfold iz
 exact Iu (fz h)
abbrev f5:Io:=⟨[.ptr 0 0],rJ,[],[.dat al true false],none⟩
def sj (d:f5.In):Tr f5.Res:=.ite (an d.2.2.2.1.1 d.2.2.2.1.2.1) (.ret (.ret (((iz d.2.2.1.2.1 d.2.2.2.1.1 (cx d.2.2)).1,()),dZ d.2.2.1.2.1 d.2.2.2.1.1 (iz d.2.2.1.2.1 d.2.2.2.1.1 (cx d.2.2)).2))) .no
abbrev wr:List (Nat×Hc):=[(146,af la yY),(154,af mD yZ)]
def Hj:Hd:=bR wr
def xf:Lp:=bJ []
def q3 (a0 a1:Int)(a2:List Int)(a3:Int):Option f5.Res:=bif an a2 a3 then bif an a2 (bf a2 (a1,a3)).2.2 then some (Out.ret ((((bf a2 (a1,a3)).1,(fD a0 a2 (bf a2 (a1,a3)).2).1,()),()),((),()),((),a0,(fD a0 a2 (bf a2 (a1,a3)).2).2.1,()),(a2,(fD a0 a2 (bf a2 (a1,a3)).2).2.2,()),())) else none else none
theorem FN (a0 a1:Int)(a2:List Int)(a3:Int):Io.run tt Hj dr xf f5 Tryz.f153 (((),()),((),()),((),a0,a1,()),(a2,a3,()),())=q3 a0 a1 a2 a3:=by kernel_rfl
theorem HA:HcOk prog 153 (af f5 sj):=by
 refine ao (n:=400) hm (cs:=wr) (.cons CD (.cons Hz .nil)) (lp:=xf) (fn:=Tryz.f153) (by kernel_rfl) (by kernel_rfl) (by kernel_rfl) f5 (.done (by kernel_rfl)) sj ?_
 rintro ⟨⟨⟨⟩,⟨⟩⟩,⟨⟨⟩,⟨⟩⟩,⟨⟨⟩,(v:Int),(e:Int),⟨⟩⟩,⟨(b:List Int),(p:Int),⟨⟩⟩,⟨⟩⟩ out hw ho
 obtain ⟨hg,ho⟩:=Tr.guard ho
 have hg:an b p=true:=hg
 cases ho
 refine (FN v e b p).trans ?_
 unfold q3
 show _=some (Out.ret (((iz v b (e,p)).1,()),dZ v b (iz v b (e,p)).2))
 unfold iz
 refine (aa hg _ _).trans ?_
 exact aa (fz (s:=(e,p)) hg) _ _
@[irreducible] noncomputable def bd (v:Int)(b:List Int)(s:aC):List al.den×aC:=eB (iz v b) b s
theorem nh {v:Int}{b:List Int}{s:aC}(h:an b s.2=true):an b (bd v b s).2.2=true:=by
 unfold bd
 exact gq (fun s h=>A6 h) h
abbrev kI:Io:=⟨[.ptr 0 0,.fnc 153 false [2]],n6,[],[.dat (.sl 185 al) false false],none⟩
def vy (d:kI.In):Tr kI.Res:=.ite (an d.2.2.1.1 d.2.2.1.2.1) (.ret (.ret (((bd d.2.1.2.1 d.2.2.1.1 (eQ d.2)).1,()),iF d.2.1.2.1 d.2.2.1.1 (bd d.2.1.2.1 d.2.2.1.1 (eQ d.2)).2))) .no
abbrev Eg:List (Nat×Hc):=[(143,af cC eT),(153,af f5 sj)]
theorem Fw:HcOk prog 152 (af kI vy):=
 n4 (one:=iz) (sps:=bd) (fun _ _ _=>by unfold bd;rfl) (fun _ _ _ h4=>A6 h4) (cs:=Eg) (.cons dg (.cons HA .nil)) (fn:=Tryz.f152) (by kernel_rfl) (by kernel_rfl) (by kernel_rfl) (by kernel_rfl) (by kernel_rfl) (by kernel_rfl) (by intros;kernel_rfl) (by intros;kernel_rfl)
abbrev jv:Io:=⟨[.ptr 0 0,.fnc 153 false [1]],xk,[],[.dat (.sl 185 al) false false],none⟩
def tC (d:jv.In):Tr jv.Res:=.ite (decide (d.2.1.2.2.1≠0)) (.ret (.ret ((([]:List al.den),()),d.2))) .no
abbrev BT:List (Nat×Hc):=[(143,eR de (af er jY) (af cC eT))]
theorem CF:HcOk prog 152 (af jv tC):=
 vf (cs:=BT) (.cons (aZ jF dg) .nil) (fn:=Tryz.f152) (by kernel_rfl) (by kernel_rfl) (by kernel_rfl) (by kernel_rfl) (by kernel_rfl) (by kernel_rfl) (by intros;kernel_rfl) (by intros;kernel_rfl)
def Ut:bX.den:=(0,(0,(0,(0,(0,(([]:List al.den),()))))))
def lj (v:Int)(b:List Int)(s:aC):bX.den×aC:=
 (((ac .i32 4 b s).1,((ac .i32 4 b (ac .i32 4 b s).2).1,((ac .i32 4 b (ac .i32 4 b (ac .i32 4 b s).2).2).1,((aq .i32 4 v 1 3 b (ac .i32 4 b (ac .i32 4 b (ac .i32 4 b s).2).2).2).1,((aq .i8 1 v 2 3 b (aq .i32 4 v 1 3 b (ac .i32 4 b (ac .i32 4 b (ac .i32 4 b s).2).2).2).2).1,((bd v b (aq .i8 1 v 2 3 b (aq .i32 4 v 1 3 b (ac .i32 4 b (ac .i32 4 b (ac .i32 4 b s).2).2).2).2).2).1,())))))),(bd v b (aq .i8 1 v 2 3 b (aq .i32 4 v 1 3 b (ac .i32 4 b (ac .i32 4 b (ac .i32 4 b s).2).2).2).2).2).2)
def gM (v:Int)(b:List Int):bX.den×Int:=if 0≤v∧v≤3∧(b.length:Int)≤130048 then (if aK b (lj v b (0,0)).2=0 then ((lj v b (0,0)).1,0) else (Ut,aK b (lj v b (0,0)).2)) else (Ut,bB v)
abbrev j4:Io:=⟨[dI,dL],[],[],[.dat bX true false,dI],none⟩
def By (d:j4.In):Tr j4.Res:=.ret (.ret (((gM d.1.1 d.1.2.1).1,((gM d.1.1 d.1.2.1).2,())),()))
abbrev Ef:List (Nat×Hc):=[(139,eR Cu (af iJ nE) (af k9 yX)),(140,eR de (af iI si) (af gY qN)),(143,eR de (af er jY) (af cC eT)),(151,eR de (af nW II) (af t3 Rm)),(152,eR de (af jv tC) (af kI vy)),(150,eR de (af iH sh) (af k6 yU))]
def Oo:Hd:=bR Ef
def E6:Lp:=bJ []
def v7 (a0:Int)(a1:List Int):Option j4.Res:=bif !(decide (0≤a0)&&(decide (a0≤3)&&decide ((↑a1.length:Int)≤130048))) then bif decide (0≤a0)&&(decide (a0≤3)&&decide ((↑a1.length:Int)≤130048)) then none else bif decide (bB a0≠0) then bif decide (bB a0≠0) then bif decide (bB a0≠0) then bif decide (bB a0≠0) then bif decide (bB a0≠0) then bif decide (bB a0≠0) then bif decide (bB a0≠0) then bif bB a0 != 0 then some (Out.ret (((0,0,0,0,0,[],()),bB a0,()),())) else some (Out.ret (((0,0,0,0,0,[],()),0,()),())) else none else none else none else none else none else none else none else bif decide (0≤a0)&&(decide (a0≤3)&&decide ((↑a1.length:Int)≤130048)) then bif an a1 0 then bif an a1 (am a1 0 4).2.1 then bif an a1 (ac IntKind.i32 4 a1 ((am a1 0 4).2.2,(am a1 0 4).2.1)).2.2 then bif aS a0 1 3 (ac IntKind.i32 4 a1 (ac IntKind.i32 4 a1 ((am a1 0 4).2.2,(am a1 0 4).2.1)).2).2.1 then bif an a1 (ac IntKind.i32 4 a1 (ac IntKind.i32 4 a1 ((am a1 0 4).2.2,(am a1 0 4).2.1)).2).2.2 then bif aS a0 2 3 (ac IntKind.i32 4 a1 (ac IntKind.i32 4 a1 (ac IntKind.i32 4 a1 ((am a1 0 4).2.2,(am a1 0 4).2.1)).2).2).2.1 then bif an a1 (ac IntKind.i32 4 a1 (ac IntKind.i32 4 a1 (ac IntKind.i32 4 a1 ((am a1 0 4).2.2,(am a1 0 4).2.1)).2).2).2.2 then bif an a1 (ac IntKind.i8 1 a1 (ac IntKind.i32 4 a1 (ac IntKind.i32 4 a1 (ac IntKind.i32 4 a1 ((am a1 0 4).2.2,(am a1 0 4).2.1)).2).2).2).2.2 then bif aK a1 (bd a0 a1 (ac IntKind.i8 1 a1 (ac IntKind.i32 4 a1 (ac IntKind.i32 4 a1 (ac IntKind.i32 4 a1 ((am a1 0 4).2.2,(am a1 0 4).2.1)).2).2).2).2).2 != 0 then some (Out.ret (((0,0,0,0,0,[],()),aK a1 (bd a0 a1 (ac IntKind.i8 1 a1 (ac IntKind.i32 4 a1 (ac IntKind.i32 4 a1 (ac IntKind.i32 4 a1 ((am a1 0 4).2.2,(am a1 0 4).2.1)).2).2).2).2).2,()),())) else some (Out.ret (((IntKind.i32.wrap (am a1 0 4).1,(ac IntKind.i32 4 a1 ((am a1 0 4).2.2,(am a1 0 4).2.1)).1,(ac IntKind.i32 4 a1 (ac IntKind.i32 4 a1 ((am a1 0 4).2.2,(am a1 0 4).2.1)).2).1,(ac IntKind.i32 4 a1 (ac IntKind.i32 4 a1 (ac IntKind.i32 4 a1 ((am a1 0 4).2.2,(am a1 0 4).2.1)).2).2).1,(ac IntKind.i8 1 a1 (ac IntKind.i32 4 a1 (ac IntKind.i32 4 a1 (ac IntKind.i32 4 a1 ((am a1 0 4).2.2,(am a1 0 4).2.1)).2).2).2).1,(bd a0 a1 (ac IntKind.i8 1 a1 (ac IntKind.i32 4 a1 (ac IntKind.i32 4 a1 (ac IntKind.i32 4 a1 ((am a1 0 4).2.2,(am a1 0 4).2.1)).2).2).2).2).1,()),0,()),())) else none else none else bif an a1 (ac IntKind.i32 4 a1 (ac IntKind.i32 4 a1 (ac IntKind.i32 4 a1 ((am a1 0 4).2.2,(am a1 0 4).2.1)).2).2).2.2 then bif aK a1 (bd a0 a1 (ac IntKind.i32 4 a1 (ac IntKind.i32 4 a1 (ac IntKind.i32 4 a1 ((am a1 0 4).2.2,(am a1 0 4).2.1)).2).2).2).2 != 0 then some (Out.ret (((0,0,0,0,0,[],()),aK a1 (bd a0 a1 (ac IntKind.i32 4 a1 (ac IntKind.i32 4 a1 (ac IntKind.i32 4 a1 ((am a1 0 4).2.2,(am a1 0 4).2.1)).2).2).2).2,()),())) else some (Out.ret (((IntKind.i32.wrap (am a1 0 4).1,(ac IntKind.i32 4 a1 ((am a1 0 4).2.2,(am a1 0 4).2.1)).1,(ac IntKind.i32 4 a1 (ac IntKind.i32 4 a1 ((am a1 0 4).2.2,(am a1 0 4).2.1)).2).1,(ac IntKind.i32 4 a1 (ac IntKind.i32 4 a1 (ac IntKind.i32 4 a1 ((am a1 0 4).2.2,(am a1 0 4).2.1)).2).2).1,0,(bd a0 a1 (ac IntKind.i32 4 a1 (ac IntKind.i32 4 a1 (ac IntKind.i32 4 a1 ((am a1 0 4).2.2,(am a1 0 4).2.1)).2).2).2).1,()),0,()),())) else none else none else bif aS a0 2 3 (ac IntKind.i32 4 a1 (ac IntKind.i32 4 a1 ((am a1 0 4).2.2,(am a1 0 4).2.1)).2).2.1 then bif an a1 (ac IntKind.i32 4 a1 (ac IntKind.i32 4 a1 ((am a1 0 4).2.2,(am a1 0 4).2.1)).2).2.2 then bif an a1 (ac IntKind.i8 1 a1 (ac IntKind.i32 4 a1 (ac IntKind.i32 4 a1 ((am a1 0 4).2.2,(am a1 0 4).2.1)).2).2).2.2 then bif aK a1 (bd a0 a1 (ac IntKind.i8 1 a1 (ac IntKind.i32 4 a1 (ac IntKind.i32 4 a1 ((am a1 0 4).2.2,(am a1 0 4).2.1)).2).2).2).2 != 0 then some (Out.ret (((0,0,0,0,0,[],()),aK a1 (bd a0 a1 (ac IntKind.i8 1 a1 (ac IntKind.i32 4 a1 (ac IntKind.i32 4 a1 ((am a1 0 4).2.2,(am a1 0 4).2.1)).2).2).2).2,()),())) else some (Out.ret (((IntKind.i32.wrap (am a1 0 4).1,(ac IntKind.i32 4 a1 ((am a1 0 4).2.2,(am a1 0 4).2.1)).1,(ac IntKind.i32 4 a1 (ac IntKind.i32 4 a1 ((am a1 0 4).2.2,(am a1 0 4).2.1)).2).1,0,(ac IntKind.i8 1 a1 (ac IntKind.i32 4 a1 (ac IntKind.i32 4 a1 ((am a1 0 4).2.2,(am a1 0 4).2.1)).2).2).1,(bd a0 a1 (ac IntKind.i8 1 a1 (ac IntKind.i32 4 a1 (ac IntKind.i32 4 a1 ((am a1 0 4).2.2,(am a1 0 4).2.1)).2).2).2).1,()),0,()),())) else none else none else bif an a1 (ac IntKind.i32 4 a1 (ac IntKind.i32 4 a1 ((am a1 0 4).2.2,(am a1 0 4).2.1)).2).2.2 then bif aK a1 (bd a0 a1 (ac IntKind.i32 4 a1 (ac IntKind.i32 4 a1 ((am a1 0 4).2.2,(am a1 0 4).2.1)).2).2).2 != 0 then some (Out.ret (((0,0,0,0,0,[],()),aK a1 (bd a0 a1 (ac IntKind.i32 4 a1 (ac IntKind.i32 4 a1 ((am a1 0 4).2.2,(am a1 0 4).2.1)).2).2).2,()),())) else some (Out.ret (((IntKind.i32.wrap (am a1 0 4).1,(ac IntKind.i32 4 a1 ((am a1 0 4).2.2,(am a1 0 4).2.1)).1,(ac IntKind.i32 4 a1 (ac IntKind.i32 4 a1 ((am a1 0 4).2.2,(am a1 0 4).2.1)).2).1,0,0,(bd a0 a1 (ac IntKind.i32 4 a1 (ac IntKind.i32 4 a1 ((am a1 0 4).2.2,(am a1 0 4).2.1)).2).2).1,()),0,()),())) else none else none else none else none else none
theorem LL (a0:Int)(a1:List Int):Io.run tt Oo dr E6 j4 Tryz.f66 ((a0,a1,()),())=v7 a0 a1:=by kernel_rfl
theorem Pw:HcOk prog 66 (af j4 By):=by
 refine ao (n:=400) hm (cs:=Ef) (.cons (aZ vm CC) (.cons (aZ vj qq) (.cons (aZ jF dg) (.cons (aZ Pv Un) (.cons (aZ CF Fw) (.cons (aZ vi Cz) .nil)))))) (lp:=E6) (fn:=Tryz.f66) (by kernel_rfl) (by kernel_rfl) (by kernel_rfl) j4 (.done (by kernel_rfl)) By ?_
 rintro ⟨⟨(v:Int),(b:List Int),⟨⟩⟩,⟨⟩⟩ out hw ho
 cases ho
 refine (LL v b).trans ?_
 unfold v7
 show _=some (Out.ret (((gM v b).1,((gM v b).2,())),()))
 by_cases h:0≤v∧v≤3∧(b.length:Int)≤130048
 ·have hc:(decide (0≤v)&&(decide (v≤3)&&decide ((b.length:Int)≤130048)))=true:=by simpa using h
  refine (ae (by rw[hc];rfl) _ _).trans ?_
  refine (aa hc _ _).trans ?_
  have hg:an b ((0,0):aC).2=true:=by simp[an];omega
  unfold gM lj
  rw[if_pos h]
  refine (aa hg _ _).trans ?_
  have g0:an b (ac .i32 4 b ((0,0):aC)).2.2=true:=aL .i32 4 (s:=((0,0):aC)) hg
  refine (aa g0 _ _).trans ?_
  have g1:an b (ac .i32 4 b (ac .i32 4 b ((0,0):aC)).2).2.2=true:=aL .i32 4 (s:=(ac .i32 4 b ((0,0):aC)).2) g0
  refine (aa g1 _ _).trans ?_
  have g2:an b (ac .i32 4 b (ac .i32 4 b (ac .i32 4 b ((0,0):aC)).2).2).2.2=true:=aL .i32 4 (s:=(ac .i32 4 b (ac .i32 4 b ((0,0):aC)).2).2) g1
  show (bif aS v 1 3 (ac .i32 4 b (ac .i32 4 b (ac .i32 4 b ((0,0):aC)).2).2).2.1 then _ else _)=_
  cases h3:aS v 1 3 (ac .i32 4 b (ac .i32 4 b (ac .i32 4 b ((0,0):aC)).2).2).2.1
  ·have e3:aq .i32 4 v 1 3 b (ac .i32 4 b (ac .i32 4 b (ac .i32 4 b ((0,0):aC)).2).2).2=(0,(ac .i32 4 b (ac .i32 4 b (ac .i32 4 b ((0,0):aC)).2).2).2):=by unfold aq;rw[if_neg (by rw[h3];decide)]
   rw[e3]
   show (bif aS v 2 3 (ac .i32 4 b (ac .i32 4 b (ac .i32 4 b ((0,0):aC)).2).2).2.1 then _ else _)=_
   cases hf4:aS v 2 3 (ac .i32 4 b (ac .i32 4 b (ac .i32 4 b ((0,0):aC)).2).2).2.1
   ·have ef4:aq .i8 1 v 2 3 b (ac .i32 4 b (ac .i32 4 b (ac .i32 4 b ((0,0):aC)).2).2).2=(0,(ac .i32 4 b (ac .i32 4 b (ac .i32 4 b ((0,0):aC)).2).2).2):=by unfold aq;rw[if_neg (by rw[hf4];decide)]
    rw[ef4]
    refine (aa g2 _ _).trans ?_
    have gff5:an b (bd v b (ac .i32 4 b (ac .i32 4 b (ac .i32 4 b ((0,0):aC)).2).2).2).2.2=true:=nh (s:=(ac .i32 4 b (ac .i32 4 b (ac .i32 4 b ((0,0):aC)).2).2).2) g2
    show _=some (Out.ret (((if aK b (bd v b (ac .i32 4 b (ac .i32 4 b (ac .i32 4 b ((0,0):aC)).2).2).2).2=0 then _ else _:bX.den×Int).1,_),()))
    by_cases hE:aK b (bd v b (ac .i32 4 b (ac .i32 4 b (ac .i32 4 b ((0,0):aC)).2).2).2).2=0
    ·rw[if_pos hE]
     exact ae (show (aK b (bd v b (ac .i32 4 b (ac .i32 4 b (ac .i32 4 b ((0,0):aC)).2).2).2).2 != 0)=false by simpa using hE) _ _
    ·rw[if_neg hE]
     exact aa (show (aK b (bd v b (ac .i32 4 b (ac .i32 4 b (ac .i32 4 b ((0,0):aC)).2).2).2).2 != 0)=true by simpa using hE) _ _
   ·have ef4:aq .i8 1 v 2 3 b (ac .i32 4 b (ac .i32 4 b (ac .i32 4 b ((0,0):aC)).2).2).2=ac .i8 1 b (ac .i32 4 b (ac .i32 4 b (ac .i32 4 b ((0,0):aC)).2).2).2:=by unfold aq;rw[if_pos hf4]
    rw[ef4]
    refine (aa g2 _ _).trans ?_
    have gf4:an b (ac .i8 1 b (ac .i32 4 b (ac .i32 4 b (ac .i32 4 b ((0,0):aC)).2).2).2).2.2=true:=aL .i8 1 (s:=(ac .i32 4 b (ac .i32 4 b (ac .i32 4 b ((0,0):aC)).2).2).2) g2
    refine (aa gf4 _ _).trans ?_
    have gft5:an b (bd v b (ac .i8 1 b (ac .i32 4 b (ac .i32 4 b (ac .i32 4 b ((0,0):aC)).2).2).2).2).2.2=true:=nh (s:=(ac .i8 1 b (ac .i32 4 b (ac .i32 4 b (ac .i32 4 b ((0,0):aC)).2).2).2).2) gf4
    show _=some (Out.ret (((if aK b (bd v b (ac .i8 1 b (ac .i32 4 b (ac .i32 4 b (ac .i32 4 b ((0,0):aC)).2).2).2).2).2=0 then _ else _:bX.den×Int).1,_),()))
    by_cases hE:aK b (bd v b (ac .i8 1 b (ac .i32 4 b (ac .i32 4 b (ac .i32 4 b ((0,0):aC)).2).2).2).2).2=0
    ·rw[if_pos hE]
     exact ae (show (aK b (bd v b (ac .i8 1 b (ac .i32 4 b (ac .i32 4 b (ac .i32 4 b ((0,0):aC)).2).2).2).2).2 != 0)=false by simpa using hE) _ _
    ·rw[if_neg hE]
     exact aa (show (aK b (bd v b (ac .i8 1 b (ac .i32 4 b (ac .i32 4 b (ac .i32 4 b ((0,0):aC)).2).2).2).2).2 != 0)=true by simpa using hE) _ _
  ·have e3:aq .i32 4 v 1 3 b (ac .i32 4 b (ac .i32 4 b (ac .i32 4 b ((0,0):aC)).2).2).2=ac .i32 4 b (ac .i32 4 b (ac .i32 4 b (ac .i32 4 b ((0,0):aC)).2).2).2:=by unfold aq;rw[if_pos h3]
   rw[e3]
   refine (aa g2 _ _).trans ?_
   have g3:an b (ac .i32 4 b (ac .i32 4 b (ac .i32 4 b (ac .i32 4 b ((0,0):aC)).2).2).2).2.2=true:=aL .i32 4 (s:=(ac .i32 4 b (ac .i32 4 b (ac .i32 4 b ((0,0):aC)).2).2).2) g2
   show (bif aS v 2 3 (ac .i32 4 b (ac .i32 4 b (ac .i32 4 b (ac .i32 4 b ((0,0):aC)).2).2).2).2.1 then _ else _)=_
   cases ht4:aS v 2 3 (ac .i32 4 b (ac .i32 4 b (ac .i32 4 b (ac .i32 4 b ((0,0):aC)).2).2).2).2.1
   ·have et4:aq .i8 1 v 2 3 b (ac .i32 4 b (ac .i32 4 b (ac .i32 4 b (ac .i32 4 b ((0,0):aC)).2).2).2).2=(0,(ac .i32 4 b (ac .i32 4 b (ac .i32 4 b (ac .i32 4 b ((0,0):aC)).2).2).2).2):=by unfold aq;rw[if_neg (by rw[ht4];decide)]
    rw[et4]
    refine (aa g3 _ _).trans ?_
    have gtf5:an b (bd v b (ac .i32 4 b (ac .i32 4 b (ac .i32 4 b (ac .i32 4 b ((0,0):aC)).2).2).2).2).2.2=true:=nh (s:=(ac .i32 4 b (ac .i32 4 b (ac .i32 4 b (ac .i32 4 b ((0,0):aC)).2).2).2).2) g3
    show _=some (Out.ret (((if aK b (bd v b (ac .i32 4 b (ac .i32 4 b (ac .i32 4 b (ac .i32 4 b ((0,0):aC)).2).2).2).2).2=0 then _ else _:bX.den×Int).1,_),()))
    by_cases hE:aK b (bd v b (ac .i32 4 b (ac .i32 4 b (ac .i32 4 b (ac .i32 4 b ((0,0):aC)).2).2).2).2).2=0
    ·rw[if_pos hE]
     exact ae (show (aK b (bd v b (ac .i32 4 b (ac .i32 4 b (ac .i32 4 b (ac .i32 4 b ((0,0):aC)).2).2).2).2).2 != 0)=false by simpa using hE) _ _
    ·rw[if_neg hE]
     exact aa (show (aK b (bd v b (ac .i32 4 b (ac .i32 4 b (ac .i32 4 b (ac .i32 4 b ((0,0):aC)).2).2).2).2).2 != 0)=true by simpa using hE) _ _
   ·have et4:aq .i8 1 v 2 3 b (ac .i32 4 b (ac .i32 4 b (ac .i32 4 b (ac .i32 4 b ((0,0):aC)).2).2).2).2=ac .i8 1 b (ac .i32 4 b (ac .i32 4 b (ac .i32 4 b (ac .i32 4 b ((0,0):aC)).2).2).2).2:=by unfold aq;rw[if_pos ht4]
    rw[et4]
    refine (aa g3 _ _).trans ?_
    have gt4:an b (ac .i8 1 b (ac .i32 4 b (ac .i32 4 b (ac .i32 4 b (ac .i32 4 b ((0,0):aC)).2).2).2).2).2.2=true:=aL .i8 1 (s:=(ac .i32 4 b (ac .i32 4 b (ac .i32 4 b (ac .i32 4 b ((0,0):aC)).2).2).2).2) g3
    refine (aa gt4 _ _).trans ?_
    have gtt5:an b (bd v b (ac .i8 1 b (ac .i32 4 b (ac .i32 4 b (ac .i32 4 b (ac .i32 4 b ((0,0):aC)).2).2).2).2).2).2.2=true:=nh (s:=(ac .i8 1 b (ac .i32 4 b (ac .i32 4 b (ac .i32 4 b (ac .i32 4 b ((0,0):aC)).2).2).2).2).2) gt4
    show _=some (Out.ret (((if aK b (bd v b (ac .i8 1 b (ac .i32 4 b (ac .i32 4 b (ac .i32 4 b (ac .i32 4 b ((0,0):aC)).2).2).2).2).2).2=0 then _ else _:bX.den×Int).1,_),()))
    by_cases hE:aK b (bd v b (ac .i8 1 b (ac .i32 4 b (ac .i32 4 b (ac .i32 4 b (ac .i32 4 b ((0,0):aC)).2).2).2).2).2).2=0
    ·rw[if_pos hE]
     exact ae (show (aK b (bd v b (ac .i8 1 b (ac .i32 4 b (ac .i32 4 b (ac .i32 4 b (ac .i32 4 b ((0,0):aC)).2).2).2).2).2).2 != 0)=false by simpa using hE) _ _
    ·rw[if_neg hE]
     exact aa (show (aK b (bd v b (ac .i8 1 b (ac .i32 4 b (ac .i32 4 b (ac .i32 4 b (ac .i32 4 b ((0,0):aC)).2).2).2).2).2).2 != 0)=true by simpa using hE) _ _
 ·have hc:(decide (0≤v)&&(decide (v≤3)&&decide ((b.length:Int)≤130048)))=false:=by
   rw[Bool.eq_false_iff]
   intro h'
   simp only[Bool.and_eq_true,decide_eq_true_eq] at h'
   exact h h'
  have hn:bB v≠0:=by unfold bB;split <;> decide
  unfold gM
  rw[if_neg h]
  refine (aa (by rw[hc];rfl) _ _).trans ?_
  refine (ae hc _ _).trans ?_
  repeat refine (aa (decide_eq_true hn) _ _).trans ?_
  exact aa (by simpa using hn) _ _
def lW (p:aT.den):Nd:=cj [aF 3 p.1,aF 3 p.2.2.1,aF 4 p.2.1,aF 3 p.2.2.2.1]
theorem QZ {p:aT.den}(h:aT.wf p):cj [aF 3 (IntKind.i64.wrap p.1),aF 3 (IntKind.i64.wrap p.2.2.1),aF 4 p.2.1,aF 3 (IntKind.i64.wrap p.2.2.2.1)]=lW p:=by
 rw[fc (n:=p.1) h.1,fc (n:=p.2.2.1) h.2.2.1,fc (n:=p.2.2.2.1) h.2.2.2.1];rfl
def gi (t:al.den):Nd:=cj [kh t.1,bw (t.2.1.map lW)]
@[irreducible] def dK (m:bX.den):Nd:=cj [aF 3 m.1,aF 3 m.2.1,aF 3 m.2.2.1,aF 3 m.2.2.2.1,aF 1 m.2.2.2.2.1,bw (m.2.2.2.2.2.1.map gi)]
def Gp (x:Nd):aT.den:=(IntKind.i32.wrap (cJ x 0).lab.2.1,((cJ x 2).lab.2.1,(IntKind.i32.wrap (cJ x 1).lab.2.1,(IntKind.i32.wrap (cJ x 3).lab.2.1,()))))
def ye (x:Nd):al.den:=((cJ x 0).lab.2.2.2.1,((cJ x 1).kids.map Gp,()))
@[irreducible] def Q0 (n:Nd):bX.den:=(IntKind.i32.wrap (cJ n 0).lab.2.1,(IntKind.i32.wrap (cJ n 1).lab.2.1,(IntKind.i32.wrap (cJ n 2).lab.2.1,(IntKind.i32.wrap (cJ n 3).lab.2.1,(IntKind.i8.wrap (cJ n 4).lab.2.1,((cJ n 5).kids.map ye,()))))))
theorem It {p:aT.den}(h:aT.wf p):Gp (lW p)=p:=by
 obtain ⟨(ix:Int),(fo:Int),(ep:Int),(mx:Int),⟨⟩⟩:=p
 show (IntKind.i32.wrap ix,(fo,(IntKind.i32.wrap ep,(IntKind.i32.wrap mx,()))))=_
 rw[gV (n:=ix) h.1,gV (n:=ep) h.2.2.1,gV (n:=mx) h.2.2.2.1]
 try rfl
theorem Gq {t:al.den}(h:al.wf t):ye (gi t)=t:=by
 obtain ⟨n,l,⟨⟩⟩:=t
 show (n,((l.map lW).map Gp,()))=_
 rw[List.map_map,jT (f:=Gp ∘ lW) (l:=l) fun p hp=>It (h.2.1.2 p hp)]
theorem uv {m:bX.den}(h:bX.wf m):Q0 (dK m)=m:=by
 obtain ⟨(re:Int),(wt:Int),(mi:Int),(mb:Int),(lv:Int),(ts:List al.den),⟨⟩⟩:=m
 unfold Q0 dK
 show (IntKind.i32.wrap re,(IntKind.i32.wrap wt,(IntKind.i32.wrap mi,(IntKind.i32.wrap mb,(IntKind.i8.wrap lv,((ts.map gi).map ye,()))))))=_
 rw[gV (n:=re) h.1,gV (n:=wt) h.2.1,gV (n:=mi) h.2.2.1,gV (n:=mb) h.2.2.2.1,Ue (n:=lv) h.2.2.2.2.1,List.map_map,jT (f:=ye ∘ gi) (l:=ts) fun t ht=>Gq (h.2.2.2.2.2.1.2 t ht)]
abbrev il:Io:=⟨[.dat bX true false],[],[],[np],none⟩
def gN (l:List al.den):Bool:=decide (l.length≤4294967296)&&l.all fun t=>decide (t.2.1.length≤4294967296)
def vS (d:il.In):Tr il.Res:=.ite (gN d.1.1.2.2.2.2.2.1) (.ret (.ret ((dK d.1.1,()),()))) .no
abbrev oN:List (Nat×Hc):=[(181,af mU Dt),(180,af mW Du),(183,af jB vQ),(184,af jA vP)]
def sH:Hd:=bR oN
abbrev dA:Lo:=⟨⟨(.any::.one (.ptr 1 0)::.one (.ptr 2 0)::.one (.onl 91 az 7)::.one (.hol (.int IntKind.i64))::.one (.onl 91 az 11)::.one (.hol (.int IntKind.i64))::.any::ag (ag (ag (ag (ag (ag (bQ []))))))),[none,some [.hol (.int IntKind.i32),.hol (.int IntKind.i32),.hol (.int IntKind.i32),.hol (.int IntKind.i32),.hol (.int IntKind.i8),.hol (.sl 185 al)],some [.hol (.int IntKind.i64),.hol (.int IntKind.i64),.hol .bool,.onl 5 (Ty.int IntKind.u8) 1032,.onl 91 az 1034]]⟩,[(.exit 2,⟨(.any::.one (.ptr 1 0)::.one (.ptr 2 0)::.one (.onl 91 az 7)::.one (.hol (.int IntKind.i64))::.one (.onl 91 az 11)::ag (ag (ag (ag (ag (ag (bQ (bt [])))))))),[none,some [.hol (.int IntKind.i32),.hol (.int IntKind.i32),.hol (.int IntKind.i32),.hol (.int IntKind.i32),.hol (.int IntKind.i8),.hol (.sl 185 al)],some [.hol (.int IntKind.i64),.hol (.int IntKind.i64),.hol .bool,.onl 5 (Ty.int IntKind.u8) 1032,.onl 91 az 1034]]⟩)]⟩
abbrev dz:Lo:=⟨⟨(.any::.one (.ptr 1 0)::.one (.ptr 2 0)::.one (.onl 91 az 7)::.one (.hol (.int IntKind.i64))::.any::ag (ag (ag (ag (ag (ag (bQ (bt [])))))))),[none,some [.hol (.int IntKind.i32),.hol (.int IntKind.i32),.hol (.int IntKind.i32),.hol (.int IntKind.i32),.hol (.int IntKind.i8),.hol (.sl 185 al)],some [.hol (.int IntKind.i64),.hol (.int IntKind.i64),.hol .bool,.onl 5 (Ty.int IntKind.u8) 1032,.onl 91 az 1034]]⟩,[(.exit 0,⟨(.any::.one (.ptr 1 0)::.one (.ptr 2 0)::.one (.onl 91 az 7)::ag (ag (ag (ag (ag (ag (dq []))))))),[none,some [.hol (.int IntKind.i32),.hol (.int IntKind.i32),.hol (.int IntKind.i32),.hol (.int IntKind.i32),.hol (.int IntKind.i8),.hol (.sl 185 al)],some [.hol (.int IntKind.i64),.hol (.int IntKind.i64),.hol .bool,.onl 5 (Ty.int IntKind.u8) 1032,.onl 91 az 1034]]⟩)]⟩
def me (d:dA.st.den):Tr (aJ dA.xs):=
 .ite ((decide ((0:Int)≤d.1.2.1)&&decide (d.1.2.1<(d.2.1.2.2.2.2.2.1.length:Int)))&&((decide (d.1.2.2.1.length=0)&&decide (d.1.2.2.2.1=0))&&decide ((d.2.1.2.2.2.2.2.1.getD d.1.2.1.toNat al.zero).2.1.length≤4294967296)))
  (.ret (.ret ((),((d.1.1,(d.1.2.1,((d.2.1.2.2.2.2.2.1.getD d.1.2.1.toNat al.zero).2.1.map lW,()))),(d.2.1,(d.2.2.1,())))))) .no
def mc (d:dz.st.den):Tr (aJ dz.xs):=
 .ite ((decide (d.1.1.length=0)&&decide (d.1.2.1=0))&&gN d.2.1.2.2.2.2.2.1)
  (.ret (.ret ((),((d.2.1.2.2.2.2.2.1.map gi,()),(d.2.1,(d.2.2.1,())))))) .no
def jR:Lp:=bJ [(4,bv dz mc),(8,bv dA me)]
def pZ {R:Type}(h19:List az.den)(h20:Int)(h21:List az.den)(h22 h23 h24 h25 h26 h27:Int)(h28:List al.den)(h29 h30:Int)(h31:Bool)(h32:List Int)(h33:List az.den)(next:List az.den→Int→List az.den→Int→Int→Int→Int→Int→Int→List al.den→Int→Int→Bool→List Int→List az.den→Option R)(out:aJ dA.xs→Option R):Option R:=bif decide (0≤h20)&&decide (h20<(↑h28.length:Int)) then bif decide (h22<(↑(List.length (h28.getD h20.toNat ([],[],())).2.1):Int)) then bif decide (0≤h20)&&decide (h20<(↑h28.length:Int)) then bif decide (0≤h22)&&decide (h22<(↑(List.length (h28.getD h20.toNat ([],[],())).2.1):Int)) then bif decide (h21.length+1≤4294967296) then next (h19) (h20) (h21++[Tre.mk (10,0,false,[],()) [Tre.mk (3,IntKind.i64.wrap (List.getD (h28.getD h20.toNat ([],[],())).2.1 h22.toNat (0,0,0,0,())).1,false,[],()) [],Tre.mk (3,IntKind.i64.wrap (List.getD (h28.getD h20.toNat ([],[],())).2.1 h22.toNat (0,0,0,0,())).2.2.1,false,[],()) [],Tre.mk (4,(List.getD (h28.getD h20.toNat ([],[],())).2.1 h22.toNat (0,0,0,0,())).2.1,false,[],()) [],Tre.mk (3,IntKind.i64.wrap (List.getD (h28.getD h20.toNat ([],[],())).2.1 h22.toNat (0,0,0,0,())).2.2.2.1,false,[],()) []]]) (IntKind.i64.wrap (h22+1)) (h23) (h24) (h25) (h26) (h27) (h28) (h29) (h30) (h31) (h32) (h33) else none else none else none else out (.ret ((),((h19,(h20,(h21,()))),((h23,(h24,(h25,(h26,(h27,(h28,())))))),((h29,(h30,(h31,(h32,(h33,()))))),()))))) else none
def kQ (n:Nat)(h19:List az.den)(h20:Int)(h21:List az.den)(h22 h23 h24 h25 h26 h27:Int)(h28:List al.den)(h29 h30:Int)(h31:Bool)(h32:List Int)(h33:List az.den):Option (aJ dA.xs):=lD tt sH dr jR 0 Tryz.f85 (Gw Tryz.f85 (gQ Tryz.f85 0) 0) n (dA.st.mk' ((h19,(h20,(h21,(h22,())))),((h23,(h24,(h25,(h26,(h27,(h28,())))))),((h29,(h30,(h31,(h32,(h33,()))))),())))) (dc dA.xs)
theorem FW (n:Nat)(h19:List az.den)(h20:Int)(h21:List az.den)(h22 h23 h24 h25 h26 h27:Int)(h28:List al.den)(h29 h30:Int)(h31:Bool)(h32:List Int)(h33:List az.den):kQ (n+1) h19 h20 h21 h22 h23 h24 h25 h26 h27 h28 h29 h30 h31 h32 h33=pZ h19 h20 h21 h22 h23 h24 h25 h26 h27 h28 h29 h30 h31 h32 h33 (kQ n) some:=by kernel_rfl
def pY {R:Type}(h6:List az.den)(h7 h8 h9 h10 h11 h12:Int)(h13:List al.den)(h14 h15:Int)(h16:Bool)(h17:List Int)(h18:List az.den)(next:List az.den→Int→Int→Int→Int→Int→Int→List al.den→Int→Int→Bool→List Int→List az.den→Option R)(out:aJ dz.xs→Option R):Option R:=bif decide (h7<(↑h13.length:Int)) then (me ((h6,(h7,([],(0,())))),((h8,(h9,(h10,(h11,(h12,(h13,())))))),((h14,(h15,(h16,(h17,(h18,()))))),())))).run fun y=>match y with | .ret ((),((x63,x64,x65,()),(x66,x67,x68,x69,x70,x71,()),(x72,x73,x74,x75,x76,()),()))=>(bif decide (0≤x64)&&decide (x64<(↑x71.length:Int)) then bif decide (x63.length+1≤4294967296) then next (x63++[Tre.mk (10,0,false,[],()) [Tre.mk (5,0,false,(x71.getD x64.toNat ([],[],())).1,()) [],Tre.mk (9,0,false,[],()) x65]]) (IntKind.i64.wrap (x64+1)) (x66) (x67) (x68) (x69) (x70) (x71) (x72) (x73) (x74) (x75) (x76) else none else none) else out (.ret ((),((h6,()),((h8,(h9,(h10,(h11,(h12,(h13,())))))),((h14,(h15,(h16,(h17,(h18,()))))),())))))
def kP (n:Nat)(h6:List az.den)(h7 h8 h9 h10 h11 h12:Int)(h13:List al.den)(h14 h15:Int)(h16:Bool)(h17:List Int)(h18:List az.den):Option (aJ dz.xs):=lD tt sH dr jR 0 Tryz.f85 (gQ Tryz.f85 0) n (dz.st.mk' ((h6,(h7,())),((h8,(h9,(h10,(h11,(h12,(h13,())))))),((h14,(h15,(h16,(h17,(h18,()))))),())))) (dc dz.xs)
theorem FV (n:Nat)(h6:List az.den)(h7 h8 h9 h10 h11 h12:Int)(h13:List al.den)(h14 h15:Int)(h16:Bool)(h17:List Int)(h18:List az.den):kP (n+1) h6 h7 h8 h9 h10 h11 h12 h13 h14 h15 h16 h17 h18=pY h6 h7 h8 h9 h10 h11 h12 h13 h14 h15 h16 h17 h18 (kP n) some:=by kernel_rfl
theorem yI {ts:List al.den}(hw:∀t∈ts,al.wf t)(hl:ts.length≤maxLen){i:Nat}(hi:i<ts.length)(hp:(ts[i]).2.1.length≤4294967296)(acc:List Nd)(re wt mi mb lv a' b':Int)(z':Bool)(x':List Int)(l':List Nd):∀(k j:Nat) (o:List Nd),(ts[i]).2.1.length<j+k→j≤(ts[i]).2.1.length→o.length≤j→
  kQ k acc i o j re wt mi mb lv ts a' b' z' x' l'=some (.ret ((),((acc,((i:Int),(o++((ts[i]).2.1.drop j).map lW,()))),((re,(wt,(mi,(mb,(lv,(ts,())))))),((a',(b',(z',(x',(l',()))))),()))))):=by
 intro k
 induction k with
 |zero=>intro j o h1 h2;omega
 |succ k ih=>
  intro j o h1 h2 h3
  rw[FW]
  unfold pZ
  refine (aa (by simp;omega) _ _).trans ?_
  have hti:=hw _ (List.getElem_mem hi)
  simp only[Int.toNat_natCast,bh hi]
  generalize ts[i]=t at hp h1 h2 ih hti ⊢
  by_cases hj:j<t.2.1.length
  ·refine (aa (decide_eq_true (show (j:Int)<(t.2.1.length:Int) by omega)) _ _).trans ?_
   refine (aa (by simp;omega) _ _).trans ?_
   refine (aa (by simp;omega) _ _).trans ?_
   refine (aa (decide_eq_true (show o.length+1≤4294967296 by omega)) _ _).trans ?_
   have hpw:=hti.2.1.2 _ (List.getElem_mem hj)
   have ih':=ih (j+1) (o++[lW t.2.1[j]]) (by omega) (by omega) (by simp;omega)
   have hd:t.2.1.drop j=t.2.1[j]::t.2.1.drop (j+1):=List.drop_eq_getElem_cons hj
   rw[hd,bx (n:=(j:Int)+1) (by omega) (by omega)]
   have hgp:List.getD t.2.1 ((j:Int)).toNat aT.zero=t.2.1[j]:=by simp only[Int.toNat_natCast];exact bh hj
   refine Eq.trans ?_ (ih'.trans ?_)
   ·refine congrArg (fun x=>kQ k acc i (o++[x]) _ re wt mi mb lv ts a' b' z' x' l') ?_
    show cj [aF 3 (IntKind.i64.wrap (List.getD t.2.1 ((j:Int)).toNat aT.zero).1),aF 3 (IntKind.i64.wrap (List.getD t.2.1 ((j:Int)).toNat aT.zero).2.2.1),aF 4 (List.getD t.2.1 ((j:Int)).toNat aT.zero).2.1,aF 3 (IntKind.i64.wrap (List.getD t.2.1 ((j:Int)).toNat aT.zero).2.2.2.1)]=_
    rw[hgp]
    exact QZ hpw
   ·simp only[List.map_cons,List.append_assoc,List.singleton_append]
  ·refine (ae (decide_eq_false (show ¬(j:Int)<(t.2.1.length:Int) by omega)) _ _).trans ?_
   rw[List.drop_of_length_le (by omega)]
   simp
theorem yH {ts:List al.den}(hw:∀t∈ts,al.wf t)(hl:ts.length≤maxLen)(hs:gN ts=true)(re wt mi mb lv a' b':Int)(z':Bool)(x':List Int)(l':List Nd):∀(k j:Nat) (o:List Nd),ts.length<j+k→j≤ts.length→o.length≤j→
  kP k o j re wt mi mb lv ts a' b' z' x' l'=some (.ret ((),((o++(ts.drop j).map gi,()),((re,(wt,(mi,(mb,(lv,(ts,())))))),((a',(b',(z',(x',(l',()))))),()))))):=by
 intro k
 have hs1:=(Bool.and_eq_true _ _▸hs).1
 have hs2:=(Bool.and_eq_true _ _▸hs).2
 have hs1:ts.length≤4294967296:=of_decide_eq_true hs1
 induction k with
 |zero=>intro j o h1 h2;omega
 |succ k ih=>
  intro j o h1 h2 h3
  rw[FV]
  unfold pY
  by_cases hj:j<ts.length
  ·refine (aa (decide_eq_true (show (j:Int)<(ts.length:Int) by omega)) _ _).trans ?_
   have hgp:ts.getD ((j:Int)).toNat al.zero=ts[j]:=by simp only[Int.toNat_natCast];exact bh hj
   have hpl:(ts[j]).2.1.length≤4294967296:=of_decide_eq_true (List.all_eq_true.1 hs2 _ (List.getElem_mem hj))
   have c8:((decide ((0:Int)≤(j:Int))&&decide ((j:Int)<(ts.length:Int)))&&((decide (([]:List Nd).length=0)&&decide ((0:Int)=0))&&decide ((ts.getD ((j:Int)).toNat al.zero).2.1.length≤4294967296)))=true:=by
    rw[hgp];simp;omega
   refine (aa c8 _ _).trans ?_
   refine (aa (by simp;omega) _ _).trans ?_
   refine (aa (decide_eq_true (show o.length+1≤4294967296 by omega)) _ _).trans ?_
   rw[bx (n:=(j:Int)+1) (by omega) (by omega)]
   have ih':=ih (j+1) (o++[gi ts[j]]) (by omega) (by omega) (by simp;omega)
   have hd:ts.drop j=ts[j]::ts.drop (j+1):=List.drop_eq_getElem_cons hj
   rw[hd]
   refine Eq.trans ?_ (ih'.trans ?_)
   ·refine congrArg (fun x=>kP k (o++[x]) _ re wt mi mb lv ts a' b' z' x' l') ?_
    show (cj [kh (ts.getD ((j:Int)).toNat al.zero).1,bw ((ts.getD ((j:Int)).toNat al.zero).2.1.map lW)])=_
    rw[hgp];rfl
   ·simp only[List.map_cons,List.append_assoc,List.singleton_append]
  ·refine (ae (decide_eq_false (show ¬(j:Int)<(ts.length:Int) by omega)) _ _).trans ?_
   rw[List.drop_of_length_le (by omega)]
   simp
def tU (a0 a1 a2 a3 a4:Int)(a5:List al.den):Option il.Res:=(mc (([],(0,())),((a0,(a1,(a2,(a3,(a4,(a5,())))))),((0,(0,(false,([],([],()))))),())))).run fun y=>match y with | .ret ((),((x102,()),(x103,x104,x105,x106,x107,x108,()),(x109,x110,x111,x112,x113,()),()))=>(some (Out.ret ((Tre.mk (10,0,false,[],()) ([Tre.mk (3,IntKind.i64.wrap x103,false,[],()) [],Tre.mk (3,IntKind.i64.wrap x104,false,[],()) [],Tre.mk (3,IntKind.i64.wrap x105,false,[],()) []]++[Tre.mk (3,IntKind.i64.wrap x106,false,[],()) []]++[Tre.mk (1,IntKind.i64.wrap x107,false,[],()) []]++[Tre.mk (9,0,false,[],()) x102]),()),())))
theorem H1 (a0 a1 a2 a3 a4:Int)(a5:List al.den):Io.run tt sH dr jR il Tryz.f85 (((a0,a1,a2,a3,a4,a5,()),()),())=tU a0 a1 a2 a3 a4 a5:=by kernel_rfl
theorem LB:HcOk prog 85 (af il vS):=by
 refine ao (n:=400) hm (cs:=oN) (.cons m6 (.cons m7 (.cons jH (.cons jG .nil)))) (lp:=jR) (fn:=Tryz.f85) (by kernel_rfl) (by kernel_rfl) (by kernel_rfl) il (.step (h0:=bv dz mc) (by kernel_rfl) (aQ (n:=400) hm (cs:=oN) (.cons m6 (.cons m7 (.cons jH (.cons jG .nil)))) (lp:=jR) (fn:=Tryz.f85) (.step (h0:=bv dA me) (by kernel_rfl) (aQ (n:=400) hm (cs:=oN) (.cons m6 (.cons m7 (.cons jH (.cons jG .nil)))) (lp:=jR) (fn:=Tryz.f85) (.done (by kernel_rfl)) dA me ?_) (.done (by kernel_rfl))) dz mc ?_) (.done (by kernel_rfl))) vS ?_
 ·rintro ⟨⟨(acc:List Nd),(i:Int),(o:List Nd),(j:Int),⟨⟩⟩,⟨⟨(re:Int),(wt:Int),(mi:Int),(mb:Int),(lv:Int),(ts:List al.den),⟨⟩⟩,⟨(a':Int),(b':Int),(z':Bool),(x':List Int),(l':List Nd),⟨⟩⟩,⟨⟩⟩⟩ y hw hy
  obtain ⟨hg,hy⟩:=Tr.guard hy
  simp only[Bool.and_eq_true,decide_eq_true_eq] at hg
  obtain ⟨⟨h1,h2⟩,⟨h3,h4⟩,h5⟩:=hg
  have h1:0≤i:=h1
  have h2:i<(ts.length:Int):=h2
  have h3:o=[]:=List.eq_nil_of_length_eq_zero h3
  have h4:j=0:=h4
  obtain ⟨i,rfl⟩:=eM h1
  subst h3
  subst h4
  have hi:i<ts.length:=by omega
  have hgp:ts.getD ((i:Int)).toNat al.zero=ts[i]:=by simp only[Int.toNat_natCast];exact bh hi
  have h5:(ts.getD ((i:Int)).toNat al.zero).2.1.length≤4294967296:=h5
  rw[hgp] at h5
  have hwt:ts.length≤maxLen∧∀t∈ts,al.wf t:=by have:=hw.2.1.2.2.2.2.2.1;exact this
  refine ⟨(ts[i]).2.1.length+1,(yI hwt.2 hwt.1 hi h5 acc re wt mi mb lv a' b' z' x' l' ((ts[i]).2.1.length+1) 0 [] (by omega) (by omega) (by simp)).trans ?_⟩
  rw[← hy,← hgp,List.drop_zero]
  rfl
 ·rintro ⟨⟨(o:List Nd),(j:Int),⟨⟩⟩,⟨⟨(re:Int),(wt:Int),(mi:Int),(mb:Int),(lv:Int),(ts:List al.den),⟨⟩⟩,⟨(a':Int),(b':Int),(z':Bool),(x':List Int),(l':List Nd),⟨⟩⟩,⟨⟩⟩⟩ y hw hy
  obtain ⟨hg,hy⟩:=Tr.guard hy
  simp only[Bool.and_eq_true,decide_eq_true_eq] at hg
  obtain ⟨⟨h3,h4⟩,h5⟩:=hg
  have h3:o=[]:=List.eq_nil_of_length_eq_zero h3
  have h4:j=0:=h4
  have h5:gN ts=true:=h5
  subst h3
  subst h4
  have hwt:ts.length≤maxLen∧∀t∈ts,al.wf t:=by have:=hw.2.1.2.2.2.2.2.1;exact this
  refine ⟨ts.length+1,(yH hwt.2 hwt.1 h5 re wt mi mb lv a' b' z' x' l' (ts.length+1) 0 [] (by omega) (by omega) (by simp)).trans ?_⟩
  rw[← hy,List.drop_zero]
  rfl
 ·rintro ⟨⟨⟨(re:Int),(wt:Int),(mi:Int),(mb:Int),(lv:Int),(ts:List al.den),⟨⟩⟩,⟨⟩⟩,⟨⟩⟩ out hw ho
  obtain ⟨hg,ho⟩:=Tr.guard ho
  have hg:gN ts=true:=hg
  cases ho
  refine (H1 re wt mi mb lv ts).trans ?_
  unfold tU
  have c1:((decide (([]:List Nd).length=0)&&decide ((0:Int)=0))&&gN ts)=true:=by rw[hg];rfl
  refine (aa c1 _ _).trans ?_
  show _=some (Out.ret ((dK (re,(wt,(mi,(mb,(lv,(ts,())))))),()),()))
  unfold dK
  have hre:IntKind.i64.wrap re=re:=fc hw.1.1.1
  have hwt:IntKind.i64.wrap wt=wt:=fc hw.1.1.2.1
  have hmi:IntKind.i64.wrap mi=mi:=fc hw.1.1.2.2.1
  have hmb:IntKind.i64.wrap mb=mb:=fc hw.1.1.2.2.2.1
  have hlv:IntKind.i64.wrap lv=lv:=OI hw.1.1.2.2.2.2.1
  show some (Out.ret ((cj [aF 3 (IntKind.i64.wrap re),aF 3 (IntKind.i64.wrap wt),aF 3 (IntKind.i64.wrap mi),aF 3 (IntKind.i64.wrap mb),aF 1 (IntKind.i64.wrap lv),bw (ts.map gi)],()),()))=_
  rw[hre,hwt,hmi,hmb,hlv]
abbrev w8:Lo:=⟨⟨(bt (.one (.ptr 2 0)::.one (.ptr 3 0)::.one (.hol (.sl 91 az))::.one (.hol (.int IntKind.i64))::.one (.ptr 6 0)::.one (.hol (.sl 91 az))::.one (.hol (.int IntKind.i64))::ag (ag (ag (ag (ag (ag ([])))))))),[none,none,some [.hol (.int IntKind.i32),.hol (.int IntKind.i32),.hol (.int IntKind.i32),.hol (.int IntKind.i32),.hol (.int IntKind.i8),.onl 185 al 1036],some [.hol (.int IntKind.i32),.hol (.int IntKind.i32),.hol (.int IntKind.i32),.hol (.int IntKind.i32),.hol (.int IntKind.i8),.onl 185 al 1548],none,none,some [.hol .str,.onl 187 aT 3076]]⟩,[(.exit 2,⟨(bt (.one (.ptr 2 0)::.one (.ptr 3 0)::.one (.hol (.sl 91 az))::.one (.hol (.int IntKind.i64))::.one (.ptr 6 0)::ag (ag (ag (ag (ag (ag (bt [])))))))),[none,none,some [.hol (.int IntKind.i32),.hol (.int IntKind.i32),.hol (.int IntKind.i32),.hol (.int IntKind.i32),.hol (.int IntKind.i8),.onl 185 al 1036],some [.hol (.int IntKind.i32),.hol (.int IntKind.i32),.hol (.int IntKind.i32),.hol (.int IntKind.i32),.hol (.int IntKind.i8),.onl 185 al 1548],none,none,some [.hol .str,.onl 187 aT 3076]]⟩)]⟩
abbrev Ak:Lo:=⟨⟨(bt (.one (.ptr 2 0)::.one (.ptr 3 0)::.one (.hol (.sl 91 az))::.one (.hol (.int IntKind.i64))::.any::ag (ag (ag (ag (ag (ag (bt [])))))))),[none,none,some [.hol (.int IntKind.i32),.hol (.int IntKind.i32),.hol (.int IntKind.i32),.hol (.int IntKind.i32),.hol (.int IntKind.i8),.onl 185 al 1036],some [.hol (.int IntKind.i32),.hol (.int IntKind.i32),.hol (.int IntKind.i32),.hol (.int IntKind.i32),.hol (.int IntKind.i8),.onl 185 al 1548]]⟩,[(.exit 0,⟨(bt (.one (.ptr 2 0)::.one (.ptr 3 0)::.any::ag (ag (ag (ag (ag (ag (bQ [])))))))),[none,none,some [.hol (.int IntKind.i32),.hol (.int IntKind.i32),.hol (.int IntKind.i32),.hol (.int IntKind.i32),.hol (.int IntKind.i8),.onl 185 al 1036],some [.hol (.int IntKind.i32),.hol (.int IntKind.i32),.hol (.int IntKind.i32),.hol (.int IntKind.i32),.hol (.int IntKind.i8),.onl 185 al 1548]]⟩)]⟩
def Wj (d:w8.st.den):Tr (aJ w8.xs):=
 .ite ((decide (d.1.2.2.2.1=0)&&decide (d.2.2.2.1.2.1.length=0))&&decide (cO d.1.2.2.1≤4294967296))
  (.ret (.ret ((),((d.1.1,(d.1.2.1,())),(d.2.1,(d.2.2.1,((d.2.2.2.1.1,(d.1.2.2.1.map Gp,())),()))))))) .no
def WB (d:Ak.st.den):Tr (aJ Ak.xs):=
 .ite ((decide (d.1.2.1=0)&&decide (d.2.2.1.2.2.2.2.2.1.length=0))&&decide (cO d.1.1≤4294967296))
  (.ret (.ret ((),((),(d.2.1,((d.2.2.1.1,(d.2.2.1.2.1,(d.2.2.1.2.2.1,(d.2.2.1.2.2.2.1,(d.2.2.1.2.2.2.2.1,(d.1.1.map ye,())))))),())))))) .no
@[irreducible] noncomputable def fQ (v:Int)(m:bX.den):List Int×Int:=qC 1 false v (dK m)
end
end Go.Proofs.YtomeplopmndbgaaGreat.Sym
