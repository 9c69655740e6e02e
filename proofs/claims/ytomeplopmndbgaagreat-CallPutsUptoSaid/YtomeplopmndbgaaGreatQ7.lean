/- A message's bulk bounds its tree. -/
import Derived.Test.YtomeplopmndbgaaGreatQ6

namespace Go.Proofs.YtomeplopmndbgaaGreat.Sym
open Go
set_option linter.unusedSimpArgs false
set_option linter.unusedVariables false
noncomputable section
theorem Or (p:aO.den):jR aO p=4:=rfl
theorem FM (t:ag.den):jR ag t=(t.1.length+1)+(((t.2.1.map (jR aO)).sum+1)+0):=rfl
theorem XD (m:cn.den):jR cn m=1+(1+(1+(1+(1+(((m.2.2.2.2.2.1.map (jR ag)).sum+1)+(0)))))):=rfl
theorem abN (p:aO.den):aP (kt p)≤3*jR aO p:=by
 rw[Or]
 show aP (bn [ay 3 p.1,ay 3 p.2.2.1,ay 4 p.2.1,ay 3 p.2.2.2.1])≤_
 rw[jb,aM,aM,aM,aM,cG,cL,cL,cL,cL]
 omega
theorem abO (t:ag.den):aP (fD t)≤3*jR ag t:=by
 have h:=pp (T:=aO) (F:=kt) (c:=3) (l:=t.2.1) fun p _=>abN p
 rw[FM]
 show aP (bn [fN t.1,bb (t.2.1.map kt)])≤_
 rw[jb,aM,aM,cG,wF,k7]
 omega
theorem XJ {m:cn.den}(h:jR cn m≤1048576):M9 m=true:=by
 have h1:=pp (T:=ag) (F:=fD) (c:=3) (l:=m.2.2.2.2.2.1) fun t _=>abO t
 have h2:=pl (T:=ag) (fun t=>by rw[FM];omega) m.2.2.2.2.2.1
 rw[XD] at h
 have hp:∀t∈m.2.2.2.2.2.1,t.2.1.length≤1048576:=fun t htm=>by
  have a1:=vq (T:=ag) htm
  rw[FM] at a1
  have a2:=pl (T:=aO) (fun p=>by rw[Or];omega) t.2.1
  omega
 unfold M9
 simp only[Bool.and_eq_true,decide_eq_true_eq]
 refine ⟨?_,?_⟩
 ·unfold dj
  simp only[Bool.and_eq_true,decide_eq_true_eq]
  refine ⟨by omega,List.all_eq_true.2 fun t htm=>decide_eq_true ?_⟩
  have:=hp t htm
  omega
 ·unfold bD
  show 8*aP (bn [ay 3 m.1,ay 3 m.2.1,ay 3 m.2.2.1,ay 3 m.2.2.2.1,ay 1 m.2.2.2.2.1,bb (m.2.2.2.2.2.1.map fD)])≤_
  rw[jb,aM,aM,aM,aM,aM,aM,cG,cL,cL,cL,cL,cL,k7]
  omega
abbrev aL:Ty:=.prod (.int .i32) (.prod (.int .i32) (.prod (.int .i64) (.prod (.int .i32) .unit)))
abbrev af:Ty:=.prod .str (.prod (.sl 198 aL) .unit)
abbrev bT:Ty:=.prod (.int .i32) (.prod (.int .i8) (.prod (.sl 196 af) .unit))
def nb (v:Int)(p:aL.den)(s:bc):bc:=cV v 0 0 p.2.2.2.1 4 (ac p.2.2.1 8 (cV v 3 3 p.2.1 4 (ac p.1 4 (s))))
theorem EJ {s:bc}(v:Int)(p:aL.den)(h:s.2.2.length≤130048):(nb v p s).2.2.length≤130048:=
 kZ _ _ _ _ _ (aE _ _ (kZ _ _ _ _ _ (aE _ _ (h))))
abbrev lx:Io:=⟨[.dat aL true false,.ptr 0 0],uB,[],[],none⟩
def E7 (d:lx.In):Tr lx.Res:=.ite (fQ d.2.2) (.ret (.ret ((),iN d.2.2.1.2.1 (nb d.2.2.1.2.1 d.1.1 (fR d.2.2))))) .no
abbrev Il:List (Nat×Hc):=[(98,ah dn iw),(111,ah m2 CK),(95,ah jp tw)]
def Ub:Hd:=bA Il
def Jm:Lp:=bv []
def zB (a0 a1 a2 a3 a4 a5:Int)(a6:Bool)(a7:List Int)(a8:Int):Option lx.Res:=bif decide (a8=130048)&&decide (a7.length≤130048) then bif decide (130048=130048)&&decide ((ac a0 4 (a5,a6,a7)).2.2.length≤130048) then bif decide (3≤a4)&&decide (a4≤3) then bif decide (130048=130048)&&decide ((ac a0 4 (a5,a6,a7)).2.2.length≤130048) then bif decide (130048=130048)&&decide ((ac a1 4 (ac a0 4 (a5,a6,a7))).2.2.length≤130048) then bif decide (130048=130048)&&decide ((ac a2 8 (ac a1 4 (ac a0 4 (a5,a6,a7)))).2.2.length≤130048) then bif decide (0≤a4)&&decide (a4≤0) then bif decide (130048=130048)&&decide ((ac a2 8 (ac a1 4 (ac a0 4 (a5,a6,a7)))).2.2.length≤130048) then some (Out.ret ((),((),()),((),a4,(ac a3 4 (ac a2 8 (ac a1 4 (ac a0 4 (a5,a6,a7))))).1,(ac a3 4 (ac a2 8 (ac a1 4 (ac a0 4 (a5,a6,a7))))).2.1,()),((ac a3 4 (ac a2 8 (ac a1 4 (ac a0 4 (a5,a6,a7))))).2.2,130048,()),())) else none else some (Out.ret ((),((),()),((),a4,(ac a2 8 (ac a1 4 (ac a0 4 (a5,a6,a7)))).1,(ac a2 8 (ac a1 4 (ac a0 4 (a5,a6,a7)))).2.1,()),((ac a2 8 (ac a1 4 (ac a0 4 (a5,a6,a7)))).2.2,130048,()),())) else none else none else none else bif decide (130048=130048)&&decide ((ac a0 4 (a5,a6,a7)).2.2.length≤130048) then bif decide (130048=130048)&&decide ((ac a2 8 (ac a0 4 (a5,a6,a7))).2.2.length≤130048) then bif decide (0≤a4)&&decide (a4≤0) then bif decide (130048=130048)&&decide ((ac a2 8 (ac a0 4 (a5,a6,a7))).2.2.length≤130048) then some (Out.ret ((),((),()),((),a4,(ac a3 4 (ac a2 8 (ac a0 4 (a5,a6,a7)))).1,(ac a3 4 (ac a2 8 (ac a0 4 (a5,a6,a7)))).2.1,()),((ac a3 4 (ac a2 8 (ac a0 4 (a5,a6,a7)))).2.2,130048,()),())) else none else some (Out.ret ((),((),()),((),a4,(ac a2 8 (ac a0 4 (a5,a6,a7))).1,(ac a2 8 (ac a0 4 (a5,a6,a7))).2.1,()),((ac a2 8 (ac a0 4 (a5,a6,a7))).2.2,130048,()),())) else none else none else none else none
theorem Q8 (a0 a1 a2 a3 a4 a5:Int)(a6:Bool)(a7:List Int)(a8:Int):Io.run tt Ub dr Jm lx Tryz.f115 (((a0,a1,a2,a3,()),(),()),((),()),((),a4,a5,a6,()),(a7,a8,()),())=zB a0 a1 a2 a3 a4 a5 a6 a7 a8:=by kernel_rfl
theorem Vs:HcOk prog 115 (ah lx E7):=by
 refine aj (n:=400) hm (cs:=Il) (.cons dg (.cons A5 (.cons jJ .nil))) (lp:=Jm) (fn:=Tryz.f115) (by kernel_rfl) (by kernel_rfl) (by kernel_rfl) lx (.done (by kernel_rfl)) E7 ?_
 rintro ⟨⟨⟨(ix:Int),(ep:Int),(ti:Int),(mo:Int),⟨⟩⟩,⟨⟩,⟨⟩⟩,⟨⟨⟩,⟨⟩⟩,⟨⟨⟩,(v:Int),(e:Int),(f:Bool),⟨⟩⟩,⟨(b:List Int),(m:Int),⟨⟩⟩,⟨⟩⟩ out hw ho
 obtain ⟨hg,ho⟩:=Tr.guard ho
 obtain ⟨rfl,hb⟩:=bx (v:=v) (e:=e) (f:=f) hg
 cases ho
 refine (Q8 ix ep ti mo v e f b 130048).trans ?_
 unfold zB
 have hg:∀s:bc,s.2.2.length≤130048→(decide ((130048:Int)=130048)&&decide (s.2.2.length≤130048))=true:=fun s h=>by simpa using h
 have hb:(e,(f,b)).2.2.length≤130048:=hb
 show _=some (Out.ret ((),iN v (nb v (ix,(ep,(ti,(mo,())))) (e,f,b))))
 refine (aa (hg _ hb) _ _).trans ?_
 have l0_1:=aE ix 4 hb
 refine (aa (hg _ l0_1) _ _).trans ?_
 by_cases h1_1:3≤v∧v≤3
 ·refine (aa (by simpa using h1_1) _ _).trans ?_
  refine (aa (hg _ l0_1) _ _).trans ?_
  have l1_1:=aE ep 4 l0_1
  refine (aa (hg _ l1_1) _ _).trans ?_
  have l2_2:=aE ti 8 l1_1
  refine (aa (hg _ l2_2) _ _).trans ?_
  by_cases h3_2:0≤v∧v≤0
  ·refine (aa (by simpa using h3_2) _ _).trans ?_
   refine (aa (hg _ l2_2) _ _).trans ?_
   have l3_2:=aE mo 4 l2_2
   simp only[nb,bG h1_1,bG h3_2]
  ·refine (ab (Bool.eq_false_iff.2 fun h'=>h3_2 (by simpa using h')) _ _).trans ?_
   simp only[nb,bG h1_1,bk h3_2]
 ·refine (ab (Bool.eq_false_iff.2 fun h'=>h1_1 (by simpa using h')) _ _).trans ?_
  refine (aa (hg _ l0_1) _ _).trans ?_
  have l2_2:=aE ti 8 l0_1
  refine (aa (hg _ l2_2) _ _).trans ?_
  by_cases h3_2:0≤v∧v≤0
  ·refine (aa (by simpa using h3_2) _ _).trans ?_
   refine (aa (hg _ l2_2) _ _).trans ?_
   have l3_2:=aE mo 4 l2_2
   simp only[nb,bk h1_1,bG h3_2]
  ·refine (ab (Bool.eq_false_iff.2 fun h'=>h3_2 (by simpa using h')) _ _).trans ?_
   simp only[nb,bk h1_1,bk h3_2]
def rK (v:Int)(xs:List aL.den)(s:bc):bc:=br (nb v) xs s
abbrev q6:Io:=⟨[.ptr 0 0,.dat (.sl 198 aL) false false,.fnc 115 false [2]],pr,[],[],none⟩
def Hq (d:q6.In):Tr q6.Res:=.ite (mW d.2) (.ret (.ret ((),gZ d.2.1.2.1 (rK d.2.1.2.1 d.1.2.1 (mX d.2))))) .no
abbrev PT:List (Nat×Hc):=[(194,ah cK gN),(98,ah dn iw),(115,ah lx E7)]
theorem QB:HcOk prog 114 (ah q6 Hq):=
 q9 (one:=nb) (sps:=rK) (fun _ _ _=>rfl) (fun v _ _ h3=>EJ v _ h3) (cs:=PT) (.cons fq (.cons dg (.cons Vs .nil))) (fn:=Tryz.f114) (by kernel_rfl) (by kernel_rfl) (by kernel_rfl) (by kernel_rfl) (by kernel_rfl) (by kernel_rfl) (by intros;kernel_rfl) (by intros;kernel_rfl)
def B1 (v:Int)(t:af.den)(s:bc):bc:=rK v t.2.1 (bH t.1 s)
abbrev jr:Io:=⟨[.dat af true false,.ptr 0 0],uB,[],[],none⟩
def y4 (d:jr.In):Tr jr.Res:=.ite (fQ d.2.2) (.ret (.ret ((),iN d.2.2.1.2.1 (B1 d.2.2.1.2.1 d.1.1 (fR d.2.2))))) .no
abbrev DD:List (Nat×Hc):=[(101,ah lu yY),(114,ah q6 Hq)]
def P4:Hd:=bA DD
def D6:Lp:=bv []
def w3 (a0:List Int)(a1:List aL.den)(a2 a3:Int)(a4:Bool)(a5:List Int)(a6:Int):Option jr.Res:=bif decide (a6=130048)&&decide (a5.length≤130048) then bif decide (130048=130048)&&decide ((bH a0 (a3,a4,a5)).2.2.length≤130048) then some (Out.ret ((),((),()),((),a2,(rK a2 a1 (bH a0 (a3,a4,a5))).1,(rK a2 a1 (bH a0 (a3,a4,a5))).2.1,()),((rK a2 a1 (bH a0 (a3,a4,a5))).2.2,130048,()),())) else none else none
theorem Mv (a0:List Int)(a1:List aL.den)(a2 a3:Int)(a4:Bool)(a5:List Int)(a6:Int):Io.run tt P4 dr D6 jr Tryz.f113 (((a0,a1,()),(),()),((),()),((),a2,a3,a4,()),(a5,a6,()),())=w3 a0 a1 a2 a3 a4 a5 a6:=by kernel_rfl
theorem QC:HcOk prog 113 (ah jr y4):=by
 refine aj (n:=400) hm (cs:=DD) (.cons A6 (.cons QB .nil)) (lp:=D6) (fn:=Tryz.f113) (by kernel_rfl) (by kernel_rfl) (by kernel_rfl) jr (.done (by kernel_rfl)) y4 ?_
 rintro ⟨⟨⟨(t:List Int),(ps:List aL.den),⟨⟩⟩,⟨⟩,⟨⟩⟩,⟨⟨⟩,⟨⟩⟩,⟨⟨⟩,(v:Int),(e:Int),(f:Bool),⟨⟩⟩,⟨(b:List Int),(m:Int),⟨⟩⟩,⟨⟩⟩ out hw ho
 obtain ⟨hg,ho⟩:=Tr.guard ho
 obtain ⟨rfl,hb⟩:=bx (v:=v) (e:=e) (f:=f) hg
 cases ho
 refine (Mv t ps v e f b 130048).trans ?_
 unfold w3
 refine (aa (by simpa using hb) _ _).trans ?_
 refine (aa (by simpa using gH (s:=(e,f,b)) t hb) _ _).trans ?_
 rfl
theorem wK {s:bc}(v:Int)(t:af.den)(h:s.2.2.length≤130048):(B1 v t s).2.2.length≤130048:=cg (fun x s=>EJ v x) _ (gH _ h)
def kO (v:Int)(xs:List af.den)(s:bc):bc:=br (B1 v) xs s
abbrev oE:Io:=⟨[.ptr 0 0,.dat (.sl 196 af) false false,.fnc 113 false [2]],pr,[],[],none⟩
def CN (d:oE.In):Tr oE.Res:=.ite (mW d.2) (.ret (.ret ((),gZ d.2.1.2.1 (kO d.2.1.2.1 d.1.2.1 (mX d.2))))) .no
abbrev LE:List (Nat×Hc):=[(194,ah cK gN),(98,ah dn iw),(113,ah jr y4)]
theorem sZ:HcOk prog 112 (ah oE CN):=
 q9 (one:=B1) (sps:=kO) (fun _ _ _=>rfl) (fun v _ _ h3=>wK v _ h3) (cs:=LE) (.cons fq (.cons dg (.cons QC .nil))) (fn:=Tryz.f112) (by kernel_rfl) (by kernel_rfl) (by kernel_rfl) (by kernel_rfl) (by kernel_rfl) (by kernel_rfl) (by intros;kernel_rfl) (by intros;kernel_rfl)
def td (v:Int)(p:aL.den)(s:bc):bc:=ar v (p.2.2.2.1 == 0) 0 0 (ar v (p.2.1 == 0) 3 3 (s))
def gK (v:Int)(ps:List aL.den)(s:bc):bc:=ps.foldl (fun s p=>td v p s) s
def wI (v:Int)(ts:List af.den)(s:bc):bc:=ts.foldl (fun s t=>gK v t.2.1 s) s
def vc (v:Int)(m:bT.den):bc:=kO v m.2.2.1 (cV v 2 3 m.2.1 1 (ac m.1 4 (wI v m.2.2.1 (ar v (m.2.1 == 0) 2 3 (aX v,(false,([]:List Int)))))))
abbrev oD:Io:=⟨[dI,.dat bT true false],[],[],[dO,dI],none⟩
def SF (d:oD.In):Tr oD.Res:=.ret (.ret ((bP (vc d.1.1 d.1.2.1),(bz (vc d.1.1 d.1.2.1),())),()))
abbrev yp:List (Nat×Hc):=[(93,ah m3 CL),(94,ah fY nN),(95,ah jp tw),(98,ah dn iw),(106,ah xr Xu),(112,ah oE CN),(105,ah jT vz)]
def FV:Hd:=bA yp
abbrev gp:Lo:=⟨⟨(.any::bh (.one (.ptr 3 0)::bh (.one (.ptr 6 0)::dR (bQ (.one (.hol (.sl 196 af))::.one (.hol (.int IntKind.i64))::.one (.hol (.int IntKind.i64))::bQ (.one (.hol (.sl 198 aL))::.one (.hol (.int IntKind.i64))::.one (.hol (.int IntKind.i64))::ai (ai (bh [])))))))),[none,none,none,some [.hol (.int IntKind.i32),.hol (.int IntKind.i8),.hol (.sl 196 af)],none,none,some [.ptr 12 0],none,none,none,none,none,some [.ptr 13 0,.hol (.int IntKind.i64),.hol (.int IntKind.i64),.hol .bool],some [.onl 5 (Ty.int IntKind.u8) 6658,.hol (.int IntKind.i64)]]⟩,[(.exit 2,⟨(.any::bh (.one (.ptr 3 0)::bh (.one (.ptr 6 0)::dR (bQ (.one (.hol (.sl 196 af))::.one (.hol (.int IntKind.i64))::.one (.hol (.int IntKind.i64))::.any::ai (ai (dR []))))))),[none,none,none,some [.hol (.int IntKind.i32),.hol (.int IntKind.i8),.hol (.sl 196 af)],none,none,some [.ptr 12 0],none,none,none,none,none,some [.ptr 13 0,.hol (.int IntKind.i64),.hol (.int IntKind.i64),.hol .bool],some [.onl 5 (Ty.int IntKind.u8) 6658,.hol (.int IntKind.i64)]]⟩)]⟩
abbrev gn:Lo:=⟨⟨(.any::bh (.one (.ptr 3 0)::bh (.one (.ptr 6 0)::dR (bQ (.one (.hol (.sl 196 af))::.one (.hol (.int IntKind.i64))::.one (.hol (.int IntKind.i64))::.any::ai (ai (dR []))))))),[none,none,none,some [.hol (.int IntKind.i32),.hol (.int IntKind.i8),.hol (.sl 196 af)],none,none,some [.ptr 12 0],none,none,none,none,none,some [.ptr 13 0,.hol (.int IntKind.i64),.hol (.int IntKind.i64),.hol .bool],some [.onl 5 (Ty.int IntKind.u8) 6658,.hol (.int IntKind.i64)]]⟩,[(.exit 0,⟨(.any::bh (.one (.ptr 3 0)::bh (.one (.ptr 6 0)::ai (ai (ai (dR [])))))),[none,none,none,some [.hol (.int IntKind.i32),.hol (.int IntKind.i8),.hol (.sl 196 af)],none,none,some [.ptr 12 0],none,none,none,none,none,some [.ptr 13 0,.hol (.int IntKind.i64),.hol (.int IntKind.i64),.hol .bool],some [.onl 5 (Ty.int IntKind.u8) 6658,.hol (.int IntKind.i64)]]⟩)]⟩
abbrev wu (re' lv':Int)(ts':List af.den)(v:Int)(s:bc):(Int×(Int×(List af.den×Unit)))×(Unit×((Int×(Int×(Bool×Unit)))×((List Int×(Int×Unit))×Unit))):=((re',(lv',(ts',()))),((),((v,(s.1,(s.2.1,()))),((s.2.2,(130048,())),()))))
def pJ (d:gp.st.den):Tr (aD gp.xs):=
 .ite (decide (d.1.2.2.2.2.2.1=0)&&(decide (d.1.2.2.2.2.1=(d.1.2.2.2.1.length:Int))&&(decide (d.2.2.2.2.1.2.1=130048)&&decide (d.2.2.2.2.1.1.length≤130048)))) (.ret (.ret ((),((d.1.1,(d.1.2.1,(d.1.2.2.1,()))),wu d.2.1.1 d.2.1.2.1 d.2.1.2.2.1 d.2.2.2.1.1 (gK d.2.2.2.1.1 d.1.2.2.2.1 (d.2.2.2.1.2.1,(d.2.2.2.1.2.2.1,d.2.2.2.2.1.1))))))) .no
def pI (d:gn.st.den):Tr (aD gn.xs):=
 .ite (decide (d.1.2.2.1=0)&&(decide (d.1.2.1=(d.1.1.length:Int))&&(decide (d.2.2.2.2.1.2.1=130048)&&decide (d.2.2.2.2.1.1.length≤130048)))) (.ret (.ret ((),((),wu d.2.1.1 d.2.1.2.1 d.2.1.2.2.1 d.2.2.2.1.1 (wI d.2.2.2.1.1 d.1.1 (d.2.2.2.1.2.1,(d.2.2.2.1.2.2.1,d.2.2.2.2.1.1))))))) .no
def rj:Lp:=bv [(5,aN gn pI),(8,aN gp pJ)]
def xL {R:Type}(h15:List af.den)(h16 h17:Int)(h18:List aL.den)(h19 h20 h21 h22:Int)(h23:List af.den)(h24 h25:Int)(h26:Bool)(h27:List Int)(h28:Int)(next:List af.den→Int→Int→List aL.den→Int→Int→Int→Int→List af.den→Int→Int→Bool→List Int→Int→Option R)(out:aD gp.xs→Option R):Option R:=bif decide (h20<h19) then bif decide (0≤h20)&&decide (h20<(↑h18.length:Int)) then bif decide (h28=130048)&&decide (h27.length≤130048) then bif decide (130048=130048)&&decide ((ar h24 ((h18.getD h20.toNat (0,0,0,0,())).2.1 == 0) 3 3 (h25,h26,h27)).2.2.length≤130048) then next (h15) (h16) (h17) (h18) (h19) (IntKind.i64.wrap (h20+1)) (h21) (h22) (h23) (h24) ((ar h24 ((h18.getD h20.toNat (0,0,0,0,())).2.2.2.1 == 0) 0 0 (ar h24 ((h18.getD h20.toNat (0,0,0,0,())).2.1 == 0) 3 3 (h25,h26,h27))).1) ((ar h24 ((h18.getD h20.toNat (0,0,0,0,())).2.2.2.1 == 0) 0 0 (ar h24 ((h18.getD h20.toNat (0,0,0,0,())).2.1 == 0) 3 3 (h25,h26,h27))).2.1) ((ar h24 ((h18.getD h20.toNat (0,0,0,0,())).2.2.2.1 == 0) 0 0 (ar h24 ((h18.getD h20.toNat (0,0,0,0,())).2.1 == 0) 3 3 (h25,h26,h27))).2.2) (130048) else none else none else none else out (.ret ((),((h15,(h16,(h17,()))),((h21,(h22,(h23,()))),((),((h24,(h25,(h26,()))),((h27,(h28,())),())))))))
def v9 (n:Nat)(h15:List af.den)(h16 h17:Int)(h18:List aL.den)(h19 h20 h21 h22:Int)(h23:List af.den)(h24 h25:Int)(h26:Bool)(h27:List Int)(h28:Int):Option (aD gp.xs):=gd tt FV dr rj 0 Tryz.f45 (wP Tryz.f45 (cE Tryz.f45 0) 0) n (gp.st.mk' ((h15,(h16,(h17,(h18,(h19,(h20,())))))),((h21,(h22,(h23,()))),((),((h24,(h25,(h26,()))),((h27,(h28,())),())))))) (bL gp.xs)
theorem RG (n:Nat)(h15:List af.den)(h16 h17:Int)(h18:List aL.den)(h19 h20 h21 h22:Int)(h23:List af.den)(h24 h25:Int)(h26:Bool)(h27:List Int)(h28:Int):v9 (n+1) h15 h16 h17 h18 h19 h20 h21 h22 h23 h24 h25 h26 h27 h28=xL h15 h16 h17 h18 h19 h20 h21 h22 h23 h24 h25 h26 h27 h28 (v9 n) some:=by kernel_rfl
def xK {R:Type}(h4:List af.den)(h5 h6 h7 h8:Int)(h9:List af.den)(h10 h11:Int)(h12:Bool)(h13:List Int)(h14:Int)(next:List af.den→Int→Int→Int→Int→List af.den→Int→Int→Bool→List Int→Int→Option R)(out:aD gn.xs→Option R):Option R:=bif decide (h6<h5) then bif decide (0≤h6)&&decide (h6<(↑h4.length:Int)) then (pJ ((h4,(h5,(h6,((h4.getD h6.toNat ([],[],())).2.1,((↑(List.length (h4.getD h6.toNat ([],[],())).2.1):Int),(0,())))))),((h7,(h8,(h9,()))),((),((h10,(h11,(h12,()))),((h13,(h14,())),())))))).run fun y=>match y with | .ret ((),((x54,x55,x56,()),(x57,x58,x59,()),(),(x60,x61,x62,()),(x63,x64,()),()))=>(next (x54) (x55) (IntKind.i64.wrap (x56+1)) (x57) (x58) (x59) (x60) (x61) (x62) (x63) (x64)) else none else out (.ret ((),((),((h7,(h8,(h9,()))),((),((h10,(h11,(h12,()))),((h13,(h14,())),())))))))
def rf (n:Nat)(h4:List af.den)(h5 h6 h7 h8:Int)(h9:List af.den)(h10 h11:Int)(h12:Bool)(h13:List Int)(h14:Int):Option (aD gn.xs):=gd tt FV dr rj 0 Tryz.f45 (cE Tryz.f45 0) n (gn.st.mk' ((h4,(h5,(h6,()))),((h7,(h8,(h9,()))),((),((h10,(h11,(h12,()))),((h13,(h14,())),())))))) (bL gn.xs)
theorem RF (n:Nat)(h4:List af.den)(h5 h6 h7 h8:Int)(h9:List af.den)(h10 h11:Int)(h12:Bool)(h13:List Int)(h14:Int):rf (n+1) h4 h5 h6 h7 h8 h9 h10 h11 h12 h13 h14=xK h4 h5 h6 h7 h8 h9 h10 h11 h12 h13 h14 (rf n) some:=by kernel_rfl
theorem EG {s:bc}(v:Int)(p:aL.den)(h:s.2.2.length≤130048):(td v p s).2.2.length≤130048:=bV _ _ _ _ (bV _ _ _ _ h)
theorem BY {s:bc}(v:Int)(ps:List aL.den)(h:s.2.2.length≤130048):(gK v ps s).2.2.length≤130048:=j5 (fun x s=>EG v x) ps s h
theorem Sm {s:bc}(v:Int)(ts:List af.den)(h:s.2.2.length≤130048):(wI v ts s).2.2.length≤130048:=j5 (one:=fun (t:af.den) (s:bc)=>gK v t.2.1 s) (fun x s h=>BY v x.2.1 h) ts s h
theorem IX (us:List af.den)(n i re' lv':Int)(ts':List af.den)(v:Int){ps:List aL.den}(hl:ps.length≤maxLen):∀(k j:Nat) (s:bc),ps.length<j+k→j≤ps.length→s.2.2.length≤130048→
  v9 k us n i ps (ps.length:Int) j re' lv' ts' v s.1 s.2.1 s.2.2 130048=some (.ret ((),((us,(n,(i,()))),wu re' lv' ts' v ((ps.drop j).foldl (fun s p=>td v p s) s)))):=by
 intro k
 have hg:∀s:bc,s.2.2.length≤130048→(decide ((130048:Int)=130048)&&decide (s.2.2.length≤130048))=true:=fun s h=>by simpa using h
 induction k with
 |zero=>intro j s h;omega
 |succ k ih=>
  intro j s h1 h2 q0
  rw[RG]
  unfold xL
  by_cases hi:j<ps.length
  ·refine (aa (decide_eq_true (show (j:Int)<(ps.length:Int) by omega)) _ _).trans ?_
   refine (aa (by simpa using hi) _ _).trans ?_
   simp only[Int.toNat_natCast,aH hi,bp hi hl]
   refine (aa (hg _ q0) _ _).trans ?_
   have q1:=bV (s:=s) v (ps[j].2.1 == 0) 3 3 q0
   refine (aa (hg _ q1) _ _).trans ?_
   have q2:=bV (s:=ar v (ps[j].2.1 == 0) 3 3 s) v (ps[j].2.2.2.1 == 0) 0 0 q1
   rw[List.drop_eq_getElem_cons hi]
   exact ih (j+1) (td v ps[j] s) (by omega) (by omega) (EG _ _ q0)
  ·refine (ab (by simp;omega) _ _).trans ?_
   rw[List.drop_of_length_le (by omega)]
   rfl
theorem IW {us:List af.den}(re' lv':Int)(ts':List af.den)(v:Int)(hl:us.length≤maxLen):∀(k j:Nat) (s:bc),us.length<j+k→j≤us.length→s.2.2.length≤130048→
  rf k us (us.length:Int) j re' lv' ts' v s.1 s.2.1 s.2.2 130048=some (.ret ((),((),wu re' lv' ts' v ((us.drop j).foldl (fun s t=>gK v t.2.1 s) s)))):=by
 intro k
 induction k with
 |zero=>intro j s h;omega
 |succ k ih=>
  intro j s h1 h2 h3
  rw[RF]
  unfold xK
  by_cases hi:j<us.length
  ·refine (aa (decide_eq_true (show (j:Int)<(us.length:Int) by omega)) _ _).trans ?_
   refine (aa (by simpa using hi) _ _).trans ?_
   simp only[Int.toNat_natCast,aH hi]
   have c1:(decide ((0:Int)=0)&&(decide ((us[j].2.1.length:Int)=(us[j].2.1.length:Int))&&(decide ((130048:Int)=130048)&&decide (s.2.2.length≤130048))))=true:=by simpa using h3
   have e1:pJ ((us,((us.length:Int),((j:Int),(us[j].2.1,((us[j].2.1.length:Int),(0,())))))),((re',(lv',(ts',()))),((),((v,(s.1,(s.2.1,()))),((s.2.2,(130048,())),())))))=
     .ite true (.ret (.ret ((),((us,((us.length:Int),((j:Int),()))),wu re' lv' ts' v (gK v us[j].2.1 s))))) .no:=congrArg (fun c=>Tr.ite c _ _) c1
   rw[e1]
   show rf k us (us.length:Int) (IntKind.i64.wrap ((j:Int)+1)) re' lv' ts' v (gK v us[j].2.1 s).1 (gK v us[j].2.1 s).2.1 (gK v us[j].2.1 s).2.2 130048=_
   rw[bp hi hl,List.drop_eq_getElem_cons hi]
   exact ih (j+1) (gK v us[j].2.1 s) (by omega) (by omega) (BY _ _ h3)
  ·refine (ab (by simp;omega) _ _).trans ?_
   rw[List.drop_of_length_le (by omega)]
   rfl
def De (a0 a1 a2:Int)(a3:List af.den):Option oD.Res:=(pI ((a3,((↑a3.length:Int),(0,()))),((a1,(a2,(a3,()))),((),((a0,((ar a0 (a2 == 0) 2 3 (aX a0,false,[])).1,((ar a0 (a2 == 0) 2 3 (aX a0,false,[])).2.1,()))),(((ar a0 (a2 == 0) 2 3 (aX a0,false,[])).2.2,(130048,())),())))))).run fun y=>match y with | .ret ((),((),(x84,x85,x86,()),(),(x87,x88,x89,()),(x90,x91,()),()))=>(bif decide (x91=130048)&&decide (x90.length≤130048) then bif decide (130048=130048)&&decide ((ac x84 4 (x88,x89,x90)).2.2.length≤130048) then bif decide (2≤x87)&&decide (x87≤3) then bif decide (130048=130048)&&decide ((ac x84 4 (x88,x89,x90)).2.2.length≤130048) then bif decide (130048=130048)&&decide ((ac x85 1 (ac x84 4 (x88,x89,x90))).2.2.length≤130048) then bif decide (130048=130048)&&decide ((kO x87 x86 (ac x85 1 (ac x84 4 (x88,x89,x90)))).2.2.length≤130048) then some (Out.ret ((bP (kO x87 x86 (ac x85 1 (ac x84 4 (x88,x89,x90)))),bz (kO x87 x86 (ac x85 1 (ac x84 4 (x88,x89,x90)))),()),())) else none else none else none else bif decide (130048=130048)&&decide ((ac x84 4 (x88,x89,x90)).2.2.length≤130048) then bif decide (130048=130048)&&decide ((kO x87 x86 (ac x84 4 (x88,x89,x90))).2.2.length≤130048) then some (Out.ret ((bP (kO x87 x86 (ac x84 4 (x88,x89,x90))),bz (kO x87 x86 (ac x84 4 (x88,x89,x90))),()),())) else none else none else none else none)
theorem Wa (a0 a1 a2:Int)(a3:List af.den):Io.run tt FV dr rj oD Tryz.f45 ((a0,(a1,a2,a3,()),()),())=De a0 a1 a2 a3:=by kernel_rfl
theorem Yz:HcOk prog 45 (ah oD SF):=by
 refine aj (n:=400) hm (cs:=yp) (.cons m7 (.cons f6 (.cons jJ (.cons dg (.cons Ep (.cons sZ (.cons jV .nil))))))) (lp:=rj) (fn:=Tryz.f45) (by kernel_rfl) (by kernel_rfl) (by kernel_rfl) oD (.step (h0:=aN gn pI) (by kernel_rfl) (aw (n:=400) hm (cs:=yp) (.cons m7 (.cons f6 (.cons jJ (.cons dg (.cons Ep (.cons sZ (.cons jV .nil))))))) (lp:=rj) (fn:=Tryz.f45) (.step (h0:=aN gp pJ) (by kernel_rfl) (aw (n:=400) hm (cs:=yp) (.cons m7 (.cons f6 (.cons jJ (.cons dg (.cons Ep (.cons sZ (.cons jV .nil))))))) (lp:=rj) (fn:=Tryz.f45) (.done (by kernel_rfl)) gp pJ ?_) (.done (by kernel_rfl))) gn pI ?_) (.done (by kernel_rfl))) SF ?_
 ·rintro ⟨⟨(us:List af.den),(n:Int),(i:Int),(ps:List aL.den),(pn:Int),(pj:Int),⟨⟩⟩,⟨⟨(re':Int),(lv':Int),(ts':List af.den),⟨⟩⟩,⟨⟩,⟨(v:Int),(e:Int),(f:Bool),⟨⟩⟩,⟨(b:List Int),(m:Int),⟨⟩⟩,⟨⟩⟩⟩ y hw hy
  obtain ⟨hg,hy⟩:=Tr.guard hy
  simp only[Bool.and_eq_true,decide_eq_true_eq] at hg
  obtain ⟨rfl,rfl,rfl,h4⟩:=hg
  have h4:b.length≤130048:=h4
  have hl:ps.length≤maxLen:=hw.1.2.2.2.1.1
  refine ⟨ps.length+1,(IX us n i re' lv' ts' v hl (ps.length+1) 0 (e,(f,b)) (by omega) (by omega) h4).trans ?_⟩
  rw[← hy];rfl
 ·rintro ⟨⟨(us:List af.den),(n:Int),(i:Int),⟨⟩⟩,⟨⟨(re':Int),(lv':Int),(ts':List af.den),⟨⟩⟩,⟨⟩,⟨(v:Int),(e:Int),(f:Bool),⟨⟩⟩,⟨(b:List Int),(m:Int),⟨⟩⟩,⟨⟩⟩⟩ y hw hy
  obtain ⟨hg,hy⟩:=Tr.guard hy
  simp only[Bool.and_eq_true,decide_eq_true_eq] at hg
  obtain ⟨rfl,rfl,rfl,h4⟩:=hg
  have h4:b.length≤130048:=h4
  have hl:us.length≤maxLen:=hw.1.1.1
  refine ⟨us.length+1,(IW re' lv' ts' v hl (us.length+1) 0 (e,(f,b)) (by omega) (by omega) h4).trans ?_⟩
  rw[← hy];rfl
 ·rintro ⟨⟨(v:Int),⟨(re:Int),(lv:Int),(ts:List af.den),⟨⟩⟩,⟨⟩⟩,⟨⟩⟩ out hw ho
  cases ho
  refine (Wa v re lv ts).trans ?_
  unfold De
  have hg:∀s:bc,s.2.2.length≤130048→(decide ((130048:Int)=130048)&&decide (s.2.2.length≤130048))=true:=fun s h=>by simpa using h
  have q0:(aX v,(false,([]:List Int))).2.2.length≤130048:=by simp
  have q1:=bV (s:=(aX v,(false,([]:List Int)))) v (lv == 0) 2 3 q0
  have c1:(decide ((0:Int)=0)&&(decide ((ts.length:Int)=(ts.length:Int))&&(decide ((130048:Int)=130048)&&decide ((ar v (lv == 0) 2 3 (aX v,(false,([]:List Int)))).2.2.length≤130048))))=true:=by simpa using q1
  have e1:pI ((ts,((ts.length:Int),(0,()))),((re,(lv,(ts,()))),((),((v,((ar v (lv == 0) 2 3 (aX v,(false,([]:List Int)))).1,((ar v (lv == 0) 2 3 (aX v,(false,([]:List Int)))).2.1,()))),(((ar v (lv == 0) 2 3 (aX v,(false,([]:List Int)))).2.2,(130048,())),())))))=
    .ite true (.ret (.ret ((),((),wu re lv ts v (wI v ts (ar v (lv == 0) 2 3 (aX v,(false,([]:List Int))))))))) .no:=congrArg (fun c=>Tr.ite c _ _) c1
  rw[e1]
  have r0:=Sm v ts q1
  refine (aa (hg _ r0) _ _).trans ?_
  have l0_0:=aE re 4 r0
  refine (aa (hg _ l0_0) _ _).trans ?_
  by_cases h1_0:2≤v∧v≤3
  ·refine (aa (by simpa using h1_0) _ _).trans ?_
   refine (aa (hg _ l0_0) _ _).trans ?_
   have l1_0:=aE lv 1 l0_0
   refine (aa (hg _ l1_0) _ _).trans ?_
   have l2_1:=cg (fun x s=>wK v x) ts l1_0
   refine (aa (hg _ l2_1) _ _).trans ?_
   simp only[vc,bG h1_0]
  ·refine (ab (Bool.eq_false_iff.2 fun h'=>h1_0 (by simpa using h')) _ _).trans ?_
   refine (aa (hg _ l0_0) _ _).trans ?_
   have l2_1:=cg (fun x s=>wK v x) ts l0_0
   refine (aa (hg _ l2_1) _ _).trans ?_
   simp only[vc,bk h1_0]
@[irreducible] noncomputable def lW (v:Int)(b:List Int)(s:aQ):aL.den×aQ:=
 (((ae .i32 4 b s).1,((az .i32 4 v 3 3 b (ae .i32 4 b s).2).1,((ae .i64 8 b (az .i32 4 v 3 3 b (ae .i32 4 b s).2).2).1,((az .i32 4 v 0 0 b (ae .i64 8 b (az .i32 4 v 3 3 b (ae .i32 4 b s).2).2).2).1,())))),(az .i32 4 v 0 0 b (ae .i64 8 b (az .i32 4 v 3 3 b (ae .i32 4 b s).2).2).2).2)
theorem EI {v:Int}{b:List Int}{s:aQ}(h:av b s.2=true):av b (lW v b s).2.2=true:=by
 unfold lW
 exact lJ (bJ _ _ (lJ (bJ _ _ (h))))
abbrev jn:Io:=⟨[.ptr 0 0],JF,[],[.dat aL true false],none⟩
def yS (d:jn.In):Tr jn.Res:=.ite (av d.2.2.2.1.1 d.2.2.2.1.2.1) (.ret (.ret (((lW d.2.2.1.2.1 d.2.2.2.1.1 (eT d.2.2)).1,()),mm d.2.2.1.2.1 d.2.2.2.1.1 (lW d.2.2.1.2.1 d.2.2.2.1.1 (eT d.2.2)).2))) .no
abbrev DA:List (Nat×Hc):=[(143,ah fX nh),(156,ah oq Ho),(140,ah m0 CG)]
def P1:Hd:=bA DA
def D3:Lp:=bv []
def wW (a0 a1:Int)(a2:List Int)(a3:Int):Option jn.Res:=bif av a2 a3 then bif bi a0 3 3 (ae IntKind.i32 4 a2 (a1,a3)).2.1 then bif av a2 (ae IntKind.i32 4 a2 (a1,a3)).2.2 then bif av a2 (ae IntKind.i32 4 a2 (ae IntKind.i32 4 a2 (a1,a3)).2).2.2 then bif bi a0 0 0 (ae IntKind.i64 8 a2 (ae IntKind.i32 4 a2 (ae IntKind.i32 4 a2 (a1,a3)).2).2).2.1 then bif av a2 (ae IntKind.i64 8 a2 (ae IntKind.i32 4 a2 (ae IntKind.i32 4 a2 (a1,a3)).2).2).2.2 then some (Out.ret ((((ae IntKind.i32 4 a2 (a1,a3)).1,(ae IntKind.i32 4 a2 (ae IntKind.i32 4 a2 (a1,a3)).2).1,(ae IntKind.i64 8 a2 (ae IntKind.i32 4 a2 (ae IntKind.i32 4 a2 (a1,a3)).2).2).1,(ae IntKind.i32 4 a2 (ae IntKind.i64 8 a2 (ae IntKind.i32 4 a2 (ae IntKind.i32 4 a2 (a1,a3)).2).2).2).1,()),()),((),()),((),a0,(ae IntKind.i32 4 a2 (ae IntKind.i64 8 a2 (ae IntKind.i32 4 a2 (ae IntKind.i32 4 a2 (a1,a3)).2).2).2).2.1,()),(a2,(ae IntKind.i32 4 a2 (ae IntKind.i64 8 a2 (ae IntKind.i32 4 a2 (ae IntKind.i32 4 a2 (a1,a3)).2).2).2).2.2,()),())) else none else some (Out.ret ((((ae IntKind.i32 4 a2 (a1,a3)).1,(ae IntKind.i32 4 a2 (ae IntKind.i32 4 a2 (a1,a3)).2).1,(ae IntKind.i64 8 a2 (ae IntKind.i32 4 a2 (ae IntKind.i32 4 a2 (a1,a3)).2).2).1,0,()),()),((),()),((),a0,(ae IntKind.i64 8 a2 (ae IntKind.i32 4 a2 (ae IntKind.i32 4 a2 (a1,a3)).2).2).2.1,()),(a2,(ae IntKind.i64 8 a2 (ae IntKind.i32 4 a2 (ae IntKind.i32 4 a2 (a1,a3)).2).2).2.2,()),())) else none else none else bif av a2 (ae IntKind.i32 4 a2 (a1,a3)).2.2 then bif bi a0 0 0 (ae IntKind.i64 8 a2 (ae IntKind.i32 4 a2 (a1,a3)).2).2.1 then bif av a2 (ae IntKind.i64 8 a2 (ae IntKind.i32 4 a2 (a1,a3)).2).2.2 then some (Out.ret ((((ae IntKind.i32 4 a2 (a1,a3)).1,0,(ae IntKind.i64 8 a2 (ae IntKind.i32 4 a2 (a1,a3)).2).1,(ae IntKind.i32 4 a2 (ae IntKind.i64 8 a2 (ae IntKind.i32 4 a2 (a1,a3)).2).2).1,()),()),((),()),((),a0,(ae IntKind.i32 4 a2 (ae IntKind.i64 8 a2 (ae IntKind.i32 4 a2 (a1,a3)).2).2).2.1,()),(a2,(ae IntKind.i32 4 a2 (ae IntKind.i64 8 a2 (ae IntKind.i32 4 a2 (a1,a3)).2).2).2.2,()),())) else none else some (Out.ret ((((ae IntKind.i32 4 a2 (a1,a3)).1,0,(ae IntKind.i64 8 a2 (ae IntKind.i32 4 a2 (a1,a3)).2).1,0,()),()),((),()),((),a0,(ae IntKind.i64 8 a2 (ae IntKind.i32 4 a2 (a1,a3)).2).2.1,()),(a2,(ae IntKind.i64 8 a2 (ae IntKind.i32 4 a2 (a1,a3)).2).2.2,()),())) else none else none
theorem Mr (a0 a1:Int)(a2:List Int)(a3:Int):Io.run tt P1 dr D3 jn Tryz.f160 (((),()),((),()),((),a0,a1,()),(a2,a3,()),())=wW a0 a1 a2 a3:=by kernel_rfl
theorem Qw:HcOk prog 160 (ah jn yS):=by
 refine aj (n:=400) hm (cs:=DA) (.cons km (.cons Gy (.cons Gx .nil))) (lp:=D3) (fn:=Tryz.f160) (by kernel_rfl) (by kernel_rfl) (by kernel_rfl) jn (.done (by kernel_rfl)) yS ?_
 rintro ⟨⟨⟨⟩,⟨⟩⟩,⟨⟨⟩,⟨⟩⟩,⟨⟨⟩,(v:Int),(e:Int),⟨⟩⟩,⟨(b:List Int),(p:Int),⟨⟩⟩,⟨⟩⟩ out hw ho
 obtain ⟨hg,ho⟩:=Tr.guard ho
 have hg:av b p=true:=hg
 cases ho
 refine (Mr v e b p).trans ?_
 unfold wW
 show _=some (Out.ret (((lW v b (e,p)).1,()),mm v b (lW v b (e,p)).2))
 unfold lW
 have hg:av b ((e,p):aQ).2=true:=hg
 refine (aa hg _ _).trans ?_
 have g0:av b (ae .i32 4 b ((e,p):aQ)).2.2=true:=bJ .i32 4 (s:=((e,p):aQ)) hg
 show (bif bi v 3 3 (ae .i32 4 b ((e,p):aQ)).2.1 then _ else _)=_
 cases h1:bi v 3 3 (ae .i32 4 b ((e,p):aQ)).2.1
 ·have e1:az .i32 4 v 3 3 b (ae .i32 4 b ((e,p):aQ)).2=(0,(ae .i32 4 b ((e,p):aQ)).2):=by unfold az;rw[if_neg (by rw[h1];decide)]
  rw[e1]
  refine (aa g0 _ _).trans ?_
  have gf2:av b (ae .i64 8 b (ae .i32 4 b ((e,p):aQ)).2).2.2=true:=bJ .i64 8 (s:=(ae .i32 4 b ((e,p):aQ)).2) g0
  show (bif bi v 0 0 (ae .i64 8 b (ae .i32 4 b ((e,p):aQ)).2).2.1 then _ else _)=_
  cases hf3:bi v 0 0 (ae .i64 8 b (ae .i32 4 b ((e,p):aQ)).2).2.1
  ·have ef3:az .i32 4 v 0 0 b (ae .i64 8 b (ae .i32 4 b ((e,p):aQ)).2).2=(0,(ae .i64 8 b (ae .i32 4 b ((e,p):aQ)).2).2):=by unfold az;rw[if_neg (by rw[hf3];decide)]
   rw[ef3]
   rfl
  ·have ef3:az .i32 4 v 0 0 b (ae .i64 8 b (ae .i32 4 b ((e,p):aQ)).2).2=ae .i32 4 b (ae .i64 8 b (ae .i32 4 b ((e,p):aQ)).2).2:=by unfold az;rw[if_pos hf3]
   rw[ef3]
   refine (aa gf2 _ _).trans ?_
   have gf3:av b (ae .i32 4 b (ae .i64 8 b (ae .i32 4 b ((e,p):aQ)).2).2).2.2=true:=bJ .i32 4 (s:=(ae .i64 8 b (ae .i32 4 b ((e,p):aQ)).2).2) gf2
   rfl
 ·have e1:az .i32 4 v 3 3 b (ae .i32 4 b ((e,p):aQ)).2=ae .i32 4 b (ae .i32 4 b ((e,p):aQ)).2:=by unfold az;rw[if_pos h1]
  rw[e1]
  refine (aa g0 _ _).trans ?_
  have g1:av b (ae .i32 4 b (ae .i32 4 b ((e,p):aQ)).2).2.2=true:=bJ .i32 4 (s:=(ae .i32 4 b ((e,p):aQ)).2) g0
  refine (aa g1 _ _).trans ?_
  have gt2:av b (ae .i64 8 b (ae .i32 4 b (ae .i32 4 b ((e,p):aQ)).2).2).2.2=true:=bJ .i64 8 (s:=(ae .i32 4 b (ae .i32 4 b ((e,p):aQ)).2).2) g1
  show (bif bi v 0 0 (ae .i64 8 b (ae .i32 4 b (ae .i32 4 b ((e,p):aQ)).2).2).2.1 then _ else _)=_
  cases ht3:bi v 0 0 (ae .i64 8 b (ae .i32 4 b (ae .i32 4 b ((e,p):aQ)).2).2).2.1
  ·have et3:az .i32 4 v 0 0 b (ae .i64 8 b (ae .i32 4 b (ae .i32 4 b ((e,p):aQ)).2).2).2=(0,(ae .i64 8 b (ae .i32 4 b (ae .i32 4 b ((e,p):aQ)).2).2).2):=by unfold az;rw[if_neg (by rw[ht3];decide)]
   rw[et3]
   rfl
  ·have et3:az .i32 4 v 0 0 b (ae .i64 8 b (ae .i32 4 b (ae .i32 4 b ((e,p):aQ)).2).2).2=ae .i32 4 b (ae .i64 8 b (ae .i32 4 b (ae .i32 4 b ((e,p):aQ)).2).2).2:=by unfold az;rw[if_pos ht3]
   rw[et3]
   refine (aa gt2 _ _).trans ?_
   have gt3:av b (ae .i32 4 b (ae .i64 8 b (ae .i32 4 b (ae .i32 4 b ((e,p):aQ)).2).2).2).2.2=true:=bJ .i32 4 (s:=(ae .i64 8 b (ae .i32 4 b (ae .i32 4 b ((e,p):aQ)).2).2).2) gt2
   rfl
@[irreducible] noncomputable def ic (v:Int)(b:List Int)(s:aQ):List aL.den×aQ:=kp (lW v b) b s
theorem Np {v:Int}{b:List Int}{s:aQ}(h:av b s.2=true):av b (ic v b s).2.2=true:=by
 unfold ic
 exact nG (fun s h=>EI h) h
abbrev ov:Io:=⟨[.ptr 0 0,.fnc 160 false [2]],AZ,[],[.dat (.sl 198 aL) false false],none⟩
def CH (d:ov.In):Tr ov.Res:=.ite (av d.2.2.1.1 d.2.2.1.2.1) (.ret (.ret (((ic d.2.1.2.1 d.2.2.1.1 (mT d.2)).1,()),qV d.2.1.2.1 d.2.2.1.1 (ic d.2.1.2.1 d.2.2.1.1 (mT d.2)).2))) .no
abbrev LB:List (Nat×Hc):=[(143,ah fX nh),(160,ah jn yS)]
theorem Ma:HcOk prog 159 (ah ov CH):=
 F8 (one:=lW) (sps:=ic) (fun _ _ _=>by unfold ic;rfl) (fun _ _ _ h4=>EI h4) (cs:=LB) (.cons km (.cons Qw .nil)) (fn:=Tryz.f159) (by kernel_rfl) (by kernel_rfl) (by kernel_rfl) (by kernel_rfl) (by kernel_rfl) (by kernel_rfl) (by intros;kernel_rfl) (by intros;kernel_rfl)
@[irreducible] noncomputable def lX (v:Int)(b:List Int)(s:aQ):af.den×aQ:=(((ct b s).1,((ic v b (ct b s).2).1,())),(ic v b (ct b s).2).2)
theorem EK {v:Int}{b:List Int}{s:aQ}(h:av b s.2=true):av b (lX v b s).2.2=true:=by
 unfold lX
 exact Np (rE h)
abbrev ij:Io:=⟨[.ptr 0 0],JF,[],[.dat af true false],none⟩
def vx (d:ij.In):Tr ij.Res:=.ite (av d.2.2.2.1.1 d.2.2.2.1.2.1) (.ret (.ret (((lX d.2.2.1.2.1 d.2.2.2.1.1 (eT d.2.2)).1,()),mm d.2.2.1.2.1 d.2.2.2.1.1 (lX d.2.2.1.2.1 d.2.2.2.1.1 (eT d.2.2)).2))) .no
abbrev zX:List (Nat×Hc):=[(146,ah p5 ND),(159,ah ov CH)]
def LO:Hd:=bA zX
def AR:Lp:=bv []
def tU (a0 a1:Int)(a2:List Int)(a3:Int):Option ij.Res:=bif av a2 a3 then bif av a2 (ct a2 (a1,a3)).2.2 then some (Out.ret ((((ct a2 (a1,a3)).1,(ic a0 a2 (ct a2 (a1,a3)).2).1,()),()),((),()),((),a0,(ic a0 a2 (ct a2 (a1,a3)).2).2.1,()),(a2,(ic a0 a2 (ct a2 (a1,a3)).2).2.2,()),())) else none else none
theorem JW (a0 a1:Int)(a2:List Int)(a3:Int):Io.run tt LO dr AR ij Tryz.f158 (((),()),((),()),((),a0,a1,()),(a2,a3,()),())=tU a0 a1 a2 a3:=by kernel_rfl
theorem Mb:HcOk prog 158 (ah ij vx):=by
 refine aj (n:=400) hm (cs:=zX) (.cons Vk (.cons Ma .nil)) (lp:=AR) (fn:=Tryz.f158) (by kernel_rfl) (by kernel_rfl) (by kernel_rfl) ij (.done (by kernel_rfl)) vx ?_
 rintro ⟨⟨⟨⟩,⟨⟩⟩,⟨⟨⟩,⟨⟩⟩,⟨⟨⟩,(v:Int),(e:Int),⟨⟩⟩,⟨(b:List Int),(p:Int),⟨⟩⟩,⟨⟩⟩ out hw ho
 obtain ⟨hg,ho⟩:=Tr.guard ho
 have hg:av b p=true:=hg
 cases ho
 refine (JW v e b p).trans ?_
 unfold tU
 show _=some (Out.ret (((lX v b (e,p)).1,()),mm v b (lX v b (e,p)).2))
 unfold lX
 refine (aa hg _ _).trans ?_
 exact aa (rE (s:=(e,p)) hg) _ _
@[irreducible] noncomputable def cj (v:Int)(b:List Int)(s:aQ):List af.den×aQ:=kp (lX v b) b s
theorem B2 {v:Int}{b:List Int}{s:aQ}(h:av b s.2=true):av b (cj v b s).2.2=true:=by
 unfold cj
 exact nG (fun s h=>EK h) h
abbrev mw:Io:=⟨[.ptr 0 0,.fnc 158 false [2]],AZ,[],[.dat (.sl 196 af) false false],none⟩
def yU (d:mw.In):Tr mw.Res:=.ite (av d.2.2.1.1 d.2.2.1.2.1) (.ret (.ret (((cj d.2.1.2.1 d.2.2.1.1 (mT d.2)).1,()),qV d.2.1.2.1 d.2.2.1.1 (cj d.2.1.2.1 d.2.2.1.1 (mT d.2)).2))) .no
abbrev If:List (Nat×Hc):=[(143,ah fX nh),(158,ah ij vx)]
theorem JI:HcOk prog 157 (ah mw yU):=
 F8 (one:=lX) (sps:=cj) (fun _ _ _=>by unfold cj;rfl) (fun _ _ _ h4=>EK h4) (cs:=If) (.cons km (.cons Mb .nil)) (fn:=Tryz.f157) (by kernel_rfl) (by kernel_rfl) (by kernel_rfl) (by kernel_rfl) (by kernel_rfl) (by kernel_rfl) (by intros;kernel_rfl) (by intros;kernel_rfl)
abbrev kz:Io:=⟨[.ptr 0 0,.fnc 158 false [1]],L8,[],[.dat (.sl 196 af) false false],none⟩
def wQ (d:kz.In):Tr kz.Res:=.ite (decide (d.2.1.2.2.1≠0)) (.ret (.ret ((([]:List af.den),()),d.2))) .no
abbrev FB:List (Nat×Hc):=[(143,o3 lc (ah jS vv) (ah fX nh))]
theorem Gz:HcOk prog 157 (ah kz wQ):=
 OD (cs:=FB) (.cons (cS yG km) .nil) (fn:=Tryz.f157) (by kernel_rfl) (by kernel_rfl) (by kernel_rfl) (by kernel_rfl) (by kernel_rfl) (by kernel_rfl) (by intros;kernel_rfl) (by intros;kernel_rfl)
def aam:bT.den:=(0,(0,(([]:List af.den),())))
def Hb (v:Int)(b:List Int)(s:aQ):bT.den×aQ:=
 (((ae .i32 4 b s).1,((az .i8 1 v 2 3 b (ae .i32 4 b s).2).1,((cj v b (az .i8 1 v 2 3 b (ae .i32 4 b s).2).2).1,()))),(cj v b (az .i8 1 v 2 3 b (ae .i32 4 b s).2).2).2)
def nJ (v:Int)(b:List Int):bT.den×Int:=if 0≤v∧v≤3∧(b.length:Int)≤130048 then (if b7 b (Hb v b (0,0)).2=0 then ((Hb v b (0,0)).1,0) else (aam,b7 b (Hb v b (0,0)).2)) else (aam,eD v)
abbrev ln:Io:=⟨[dI,dL],[],[],[.dat bT true false,dI],none⟩
def E4 (d:ln.In):Tr ln.Res:=.ret (.ret (((nJ d.1.1 d.1.2.1).1,((nJ d.1.1 d.1.2.1).2,())),()))
abbrev Ie:List (Nat×Hc):=[(139,o3 U8 (ah mt vw) (ah p4 NC)),(140,o3 lc (ah mr E1) (ah m0 CG)),(143,o3 lc (ah jS vv) (ah fX nh)),(151,o3 lc (ah sD Sz) (ah Aq aas)),(157,o3 lc (ah kz wQ) (ah mw yU)),(150,o3 lc (ah mq E0) (ah p2 NA))]
def T6:Hd:=bA Ie
def Jh:Lp:=bv []
def zv (a0:Int)(a1:List Int):Option ln.Res:=bif !(decide (0≤a0)&&(decide (a0≤3)&&decide ((↑a1.length:Int)≤130048))) then bif decide (0≤a0)&&(decide (a0≤3)&&decide ((↑a1.length:Int)≤130048)) then none else bif decide (eD a0≠0) then bif decide (eD a0≠0) then bif decide (eD a0≠0) then bif decide (eD a0≠0) then bif eD a0 != 0 then some (Out.ret (((0,0,[],()),eD a0,()),())) else some (Out.ret (((0,0,[],()),0,()),())) else none else none else none else none else bif decide (0≤a0)&&(decide (a0≤3)&&decide ((↑a1.length:Int)≤130048)) then bif av a1 0 then bif bi a0 2 3 (aq a1 0 4).2.2 then bif av a1 (aq a1 0 4).2.1 then bif av a1 (ae IntKind.i8 1 a1 ((aq a1 0 4).2.2,(aq a1 0 4).2.1)).2.2 then bif b7 a1 (cj a0 a1 (ae IntKind.i8 1 a1 ((aq a1 0 4).2.2,(aq a1 0 4).2.1)).2).2 != 0 then some (Out.ret (((0,0,[],()),b7 a1 (cj a0 a1 (ae IntKind.i8 1 a1 ((aq a1 0 4).2.2,(aq a1 0 4).2.1)).2).2,()),())) else some (Out.ret (((IntKind.i32.wrap (aq a1 0 4).1,(ae IntKind.i8 1 a1 ((aq a1 0 4).2.2,(aq a1 0 4).2.1)).1,(cj a0 a1 (ae IntKind.i8 1 a1 ((aq a1 0 4).2.2,(aq a1 0 4).2.1)).2).1,()),0,()),())) else none else none else bif av a1 (aq a1 0 4).2.1 then bif b7 a1 (cj a0 a1 ((aq a1 0 4).2.2,(aq a1 0 4).2.1)).2 != 0 then some (Out.ret (((0,0,[],()),b7 a1 (cj a0 a1 ((aq a1 0 4).2.2,(aq a1 0 4).2.1)).2,()),())) else some (Out.ret (((IntKind.i32.wrap (aq a1 0 4).1,0,(cj a0 a1 ((aq a1 0 4).2.2,(aq a1 0 4).2.1)).1,()),0,()),())) else none else none else none
theorem Q2 (a0:Int)(a1:List Int):Io.run tt T6 dr Jh ln Tryz.f67 ((a0,a1,()),())=zv a0 a1:=by kernel_rfl
theorem Vm:HcOk prog 67 (ah ln E4):=by
 refine aj (n:=400) hm (cs:=Ie) (.cons (cS Pi Vj) (.cons (cS Ph Gx) (.cons (cS yG km) (.cons (cS abf acE) (.cons (cS Gz JI) (.cons (cS Pg Vh) .nil)))))) (lp:=Jh) (fn:=Tryz.f67) (by kernel_rfl) (by kernel_rfl) (by kernel_rfl) ln (.done (by kernel_rfl)) E4 ?_
 rintro ⟨⟨(v:Int),(b:List Int),⟨⟩⟩,⟨⟩⟩ out hw ho
 cases ho
 refine (Q2 v b).trans ?_
 unfold zv
 show _=some (Out.ret (((nJ v b).1,((nJ v b).2,())),()))
 by_cases h:0≤v∧v≤3∧(b.length:Int)≤130048
 ·have hc:(decide (0≤v)&&(decide (v≤3)&&decide ((b.length:Int)≤130048)))=true:=by simpa using h
  refine (ab (by rw[hc];rfl) _ _).trans ?_
  refine (aa hc _ _).trans ?_
  have hg:av b ((0,0):aQ).2=true:=by simp[av];omega
  unfold nJ Hb
  rw[if_pos h]
  refine (aa hg _ _).trans ?_
  have g0:av b (ae .i32 4 b ((0,0):aQ)).2.2=true:=bJ .i32 4 (s:=((0,0):aQ)) hg
  show (bif bi v 2 3 (ae .i32 4 b ((0,0):aQ)).2.1 then _ else _)=_
  cases h1:bi v 2 3 (ae .i32 4 b ((0,0):aQ)).2.1
  ·have e1:az .i8 1 v 2 3 b (ae .i32 4 b ((0,0):aQ)).2=(0,(ae .i32 4 b ((0,0):aQ)).2):=by unfold az;rw[if_neg (by rw[h1];decide)]
   rw[e1]
   refine (aa g0 _ _).trans ?_
   have gf2:av b (cj v b (ae .i32 4 b ((0,0):aQ)).2).2.2=true:=B2 (s:=(ae .i32 4 b ((0,0):aQ)).2) g0
   show _=some (Out.ret (((if b7 b (cj v b (ae .i32 4 b ((0,0):aQ)).2).2=0 then _ else _:bT.den×Int).1,_),()))
   by_cases hE:b7 b (cj v b (ae .i32 4 b ((0,0):aQ)).2).2=0
   ·rw[if_pos hE]
    exact ab (show (b7 b (cj v b (ae .i32 4 b ((0,0):aQ)).2).2 != 0)=false by simpa using hE) _ _
   ·rw[if_neg hE]
    exact aa (show (b7 b (cj v b (ae .i32 4 b ((0,0):aQ)).2).2 != 0)=true by simpa using hE) _ _
  ·have e1:az .i8 1 v 2 3 b (ae .i32 4 b ((0,0):aQ)).2=ae .i8 1 b (ae .i32 4 b ((0,0):aQ)).2:=by unfold az;rw[if_pos h1]
   rw[e1]
   refine (aa g0 _ _).trans ?_
   have g1:av b (ae .i8 1 b (ae .i32 4 b ((0,0):aQ)).2).2.2=true:=bJ .i8 1 (s:=(ae .i32 4 b ((0,0):aQ)).2) g0
   refine (aa g1 _ _).trans ?_
   have gt2:av b (cj v b (ae .i8 1 b (ae .i32 4 b ((0,0):aQ)).2).2).2.2=true:=B2 (s:=(ae .i8 1 b (ae .i32 4 b ((0,0):aQ)).2).2) g1
   show _=some (Out.ret (((if b7 b (cj v b (ae .i8 1 b (ae .i32 4 b ((0,0):aQ)).2).2).2=0 then _ else _:bT.den×Int).1,_),()))
   by_cases hE:b7 b (cj v b (ae .i8 1 b (ae .i32 4 b ((0,0):aQ)).2).2).2=0
   ·rw[if_pos hE]
    exact ab (show (b7 b (cj v b (ae .i8 1 b (ae .i32 4 b ((0,0):aQ)).2).2).2 != 0)=false by simpa using hE) _ _
   ·rw[if_neg hE]
    exact aa (show (b7 b (cj v b (ae .i8 1 b (ae .i32 4 b ((0,0):aQ)).2).2).2 != 0)=true by simpa using hE) _ _
 ·have hc:(decide (0≤v)&&(decide (v≤3)&&decide ((b.length:Int)≤130048)))=false:=by
   rw[Bool.eq_false_iff]
   intro h'
   simp only[Bool.and_eq_true,decide_eq_true_eq] at h'
   exact h h'
  have hn:eD v≠0:=by unfold eD;split <;> decide
  unfold nJ
  rw[if_neg h]
  refine (aa (by rw[hc];rfl) _ _).trans ?_
  refine (ab hc _ _).trans ?_
  repeat refine (aa (decide_eq_true hn) _ _).trans ?_
  exact aa (by simpa using hn) _ _
def ku (p:aL.den):Nd:=bn [ay 3 p.1,ay 3 p.2.1,ay 4 p.2.2.1,ay 3 p.2.2.2.1]
theorem W8 {p:aL.den}(h:aL.wf p):bn [ay 3 (IntKind.i64.wrap p.1),ay 3 (IntKind.i64.wrap p.2.1),ay 4 p.2.2.1,ay 3 (IntKind.i64.wrap p.2.2.2.1)]=ku p:=by
 rw[cO (n:=p.1) h.1,cO (n:=p.2.1) h.2.1,cO (n:=p.2.2.2.1) h.2.2.2.1];rfl
def fF (t:af.den):Nd:=bn [fN t.1,bb (t.2.1.map ku)]
@[irreducible] def bE (m:bT.den):Nd:=bn [ay 3 m.1,ay 1 m.2.1,bb (m.2.2.1.map fF)]
def B0 (x:Nd):aL.den:=(IntKind.i32.wrap (aZ x 0).lab.2.1,(IntKind.i32.wrap (aZ x 1).lab.2.1,((aZ x 2).lab.2.1,(IntKind.i32.wrap (aZ x 3).lab.2.1,()))))
def tf (x:Nd):af.den:=((aZ x 0).lab.2.2.2.1,((aZ x 1).kids.map B0,()))
@[irreducible] def wJ (n:Nd):bT.den:=(IntKind.i32.wrap (aZ n 0).lab.2.1,(IntKind.i8.wrap (aZ n 1).lab.2.1,((aZ n 2).kids.map tf,())))
theorem No {p:aL.den}(h:aL.wf p):B0 (ku p)=p:=by
 obtain ⟨(ix:Int),(ep:Int),(ti:Int),(mo:Int),⟨⟩⟩:=p
 show (IntKind.i32.wrap ix,(IntKind.i32.wrap ep,(ti,(IntKind.i32.wrap mo,()))))=_
 rw[eI (n:=ix) h.1,eI (n:=ep) h.2.1,eI (n:=mo) h.2.2.2.1]
 try rfl
theorem KU {t:af.den}(h:af.wf t):tf (fF t)=t:=by
 obtain ⟨n,l,⟨⟩⟩:=t
 show (n,((l.map ku).map B0,()))=_
 rw[List.map_map,dF (f:=B0 ∘ ku) (l:=l) fun p hp=>No (h.2.1.2 p hp)]
theorem qz {m:bT.den}(h:bT.wf m):wJ (bE m)=m:=by
 obtain ⟨(re:Int),(lv:Int),(ts:List af.den),⟨⟩⟩:=m
 unfold wJ bE
 show (IntKind.i32.wrap re,(IntKind.i8.wrap lv,((ts.map fF).map tf,())))=_
 rw[eI (n:=re) h.1,aaa (n:=lv) h.2.1,List.map_map,dF (f:=tf ∘ fF) (l:=ts) fun t ht=>KU (h.2.2.1.2 t ht)]
abbrev iE:Io:=⟨[.dat bT true false],[],[],[cQ],none⟩
def dk (l:List af.den):Bool:=decide (l.length≤4294967296)&&l.all fun t=>decide (t.2.1.length≤4294967296)
def tM (d:iE.In):Tr iE.Res:=.ite (dk d.1.1.2.2.1) (.ret (.ret ((bE d.1.1,()),()))) .no
abbrev qT:List (Nat×Hc):=[(181,ah jz tD),(180,ah kl wS),(183,ah hJ pP),(184,ah gg nP)]
def vV:Hd:=bA qT
abbrev eh:Lo:=⟨⟨(.any::.one (.ptr 1 0)::.one (.ptr 2 0)::.one (.onl 91 ao 7)::.one (.hol (.int IntKind.i64))::.one (.onl 91 ao 11)::.one (.hol (.int IntKind.i64))::ai (ai (ai (ai (dR (bQ (bh []))))))),[none,some [.hol (.int IntKind.i32),.hol (.int IntKind.i8),.hol (.sl 196 af)],some [.hol (.int IntKind.i64),.hol (.int IntKind.i64),.hol .bool,.onl 5 (Ty.int IntKind.u8) 1032,.onl 91 ao 1034]]⟩,[(.exit 2,⟨(.any::.one (.ptr 1 0)::.one (.ptr 2 0)::.one (.onl 91 ao 7)::.one (.hol (.int IntKind.i64))::.one (.onl 91 ao 11)::.any::ai (ai (ai (ai (dR (bQ (bh []))))))),[none,some [.hol (.int IntKind.i32),.hol (.int IntKind.i8),.hol (.sl 196 af)],some [.hol (.int IntKind.i64),.hol (.int IntKind.i64),.hol .bool,.onl 5 (Ty.int IntKind.u8) 1032,.onl 91 ao 1034]]⟩)]⟩
abbrev eg:Lo:=⟨⟨(.any::.one (.ptr 1 0)::.one (.ptr 2 0)::.one (.onl 91 ao 7)::.one (.hol (.int IntKind.i64))::ai (ai (ai (ai (ai []))))),[none,some [.hol (.int IntKind.i32),.hol (.int IntKind.i8),.hol (.sl 196 af)],some [.hol (.int IntKind.i64),.hol (.int IntKind.i64),.hol .bool,.onl 5 (Ty.int IntKind.u8) 1032,.onl 91 ao 1034]]⟩,[(.exit 0,⟨(.any::.one (.ptr 1 0)::.one (.ptr 2 0)::.one (.onl 91 ao 7)::.any::ai (ai (ai (ai (ai []))))),[none,some [.hol (.int IntKind.i32),.hol (.int IntKind.i8),.hol (.sl 196 af)],some [.hol (.int IntKind.i64),.hol (.int IntKind.i64),.hol .bool,.onl 5 (Ty.int IntKind.u8) 1032,.onl 91 ao 1034]]⟩)]⟩
def nX (d:eh.st.den):Tr (aD eh.xs):=
 .ite ((decide ((0:Int)≤d.1.2.1)&&decide (d.1.2.1<(d.2.1.2.2.1.length:Int)))&&((decide (d.1.2.2.1.length=0)&&decide (d.1.2.2.2.1=0))&&decide ((d.2.1.2.2.1.getD d.1.2.1.toNat af.zero).2.1.length≤4294967296)))
  (.ret (.ret ((),((d.1.1,(d.1.2.1,((d.2.1.2.2.1.getD d.1.2.1.toNat af.zero).2.1.map ku,()))),(d.2.1,(d.2.2.1,())))))) .no
def nW (d:eg.st.den):Tr (aD eg.xs):=
 .ite ((decide (d.1.1.length=0)&&decide (d.1.2.1=0))&&dk d.2.1.2.2.1)
  (.ret (.ret ((),((d.2.1.2.2.1.map fF,()),(d.2.1,(d.2.2.1,())))))) .no
def kV:Lp:=bv [(4,aN eg nW),(8,aN eh nX)]
def sh {R:Type}(h13:List ao.den)(h14:Int)(h15:List ao.den)(h16 h17 h18:Int)(h19:List af.den)(h20 h21:Int)(h22:Bool)(h23:List Int)(h24:List ao.den)(next:List ao.den→Int→List ao.den→Int→Int→Int→List af.den→Int→Int→Bool→List Int→List ao.den→Option R)(out:aD eh.xs→Option R):Option R:=bif decide (0≤h14)&&decide (h14<(↑h19.length:Int)) then bif decide (h16<(↑(List.length (h19.getD h14.toNat ([],[],())).2.1):Int)) then bif decide (0≤h14)&&decide (h14<(↑h19.length:Int)) then bif decide (0≤h16)&&decide (h16<(↑(List.length (h19.getD h14.toNat ([],[],())).2.1):Int)) then bif decide (h15.length+1≤4294967296) then next (h13) (h14) (h15++[Tre.mk (10,0,false,[],()) [Tre.mk (3,IntKind.i64.wrap (List.getD (h19.getD h14.toNat ([],[],())).2.1 h16.toNat (0,0,0,0,())).1,false,[],()) [],Tre.mk (3,IntKind.i64.wrap (List.getD (h19.getD h14.toNat ([],[],())).2.1 h16.toNat (0,0,0,0,())).2.1,false,[],()) [],Tre.mk (4,(List.getD (h19.getD h14.toNat ([],[],())).2.1 h16.toNat (0,0,0,0,())).2.2.1,false,[],()) [],Tre.mk (3,IntKind.i64.wrap (List.getD (h19.getD h14.toNat ([],[],())).2.1 h16.toNat (0,0,0,0,())).2.2.2.1,false,[],()) []]]) (IntKind.i64.wrap (h16+1)) (h17) (h18) (h19) (h20) (h21) (h22) (h23) (h24) else none else none else none else out (.ret ((),((h13,(h14,(h15,()))),((h17,(h18,(h19,()))),((h20,(h21,(h22,(h23,(h24,()))))),()))))) else none
def mL (n:Nat)(h13:List ao.den)(h14:Int)(h15:List ao.den)(h16 h17 h18:Int)(h19:List af.den)(h20 h21:Int)(h22:Bool)(h23:List Int)(h24:List ao.den):Option (aD eh.xs):=gd tt vV dr kV 0 Tryz.f86 (wP Tryz.f86 (cE Tryz.f86 0) 0) n (eh.st.mk' ((h13,(h14,(h15,(h16,())))),((h17,(h18,(h19,()))),((h20,(h21,(h22,(h23,(h24,()))))),())))) (bL eh.xs)
theorem Kg (n:Nat)(h13:List ao.den)(h14:Int)(h15:List ao.den)(h16 h17 h18:Int)(h19:List af.den)(h20 h21:Int)(h22:Bool)(h23:List Int)(h24:List ao.den):mL (n+1) h13 h14 h15 h16 h17 h18 h19 h20 h21 h22 h23 h24=sh h13 h14 h15 h16 h17 h18 h19 h20 h21 h22 h23 h24 (mL n) some:=by kernel_rfl
def sg {R:Type}(h3:List ao.den)(h4 h5 h6:Int)(h7:List af.den)(h8 h9:Int)(h10:Bool)(h11:List Int)(h12:List ao.den)(next:List ao.den→Int→Int→Int→List af.den→Int→Int→Bool→List Int→List ao.den→Option R)(out:aD eg.xs→Option R):Option R:=bif decide (h4<(↑h7.length:Int)) then (nX ((h3,(h4,([],(0,())))),((h5,(h6,(h7,()))),((h8,(h9,(h10,(h11,(h12,()))))),())))).run fun y=>match y with | .ret ((),((x48,x49,x50,()),(x51,x52,x53,()),(x54,x55,x56,x57,x58,()),()))=>(bif decide (0≤x49)&&decide (x49<(↑x53.length:Int)) then bif decide (x48.length+1≤4294967296) then next (x48++[Tre.mk (10,0,false,[],()) [Tre.mk (5,0,false,(x53.getD x49.toNat ([],[],())).1,()) [],Tre.mk (9,0,false,[],()) x50]]) (IntKind.i64.wrap (x49+1)) (x51) (x52) (x53) (x54) (x55) (x56) (x57) (x58) else none else none) else out (.ret ((),((h3,()),((h5,(h6,(h7,()))),((h8,(h9,(h10,(h11,(h12,()))))),())))))
def mK (n:Nat)(h3:List ao.den)(h4 h5 h6:Int)(h7:List af.den)(h8 h9:Int)(h10:Bool)(h11:List Int)(h12:List ao.den):Option (aD eg.xs):=gd tt vV dr kV 0 Tryz.f86 (cE Tryz.f86 0) n (eg.st.mk' ((h3,(h4,())),((h5,(h6,(h7,()))),((h8,(h9,(h10,(h11,(h12,()))))),())))) (bL eg.xs)
theorem Kf (n:Nat)(h3:List ao.den)(h4 h5 h6:Int)(h7:List af.den)(h8 h9:Int)(h10:Bool)(h11:List Int)(h12:List ao.den):mK (n+1) h3 h4 h5 h6 h7 h8 h9 h10 h11 h12=sg h3 h4 h5 h6 h7 h8 h9 h10 h11 h12 (mK n) some:=by kernel_rfl
theorem Ct {ts:List af.den}(hw:∀t∈ts,af.wf t)(hl:ts.length≤maxLen){i:Nat}(hi:i<ts.length)(hp:(ts[i]).2.1.length≤4294967296)(acc:List Nd)(re lv a' b':Int)(z':Bool)(x':List Int)(l':List Nd):∀(k j:Nat) (o:List Nd),(ts[i]).2.1.length<j+k→j≤(ts[i]).2.1.length→o.length≤j→
  mL k acc i o j re lv ts a' b' z' x' l'=some (.ret ((),((acc,((i:Int),(o++((ts[i]).2.1.drop j).map ku,()))),((re,(lv,(ts,()))),((a',(b',(z',(x',(l',()))))),()))))):=by
 intro k
 induction k with
 |zero=>intro j o h1 h2;omega
 |succ k ih=>
  intro j o h1 h2 h3
  rw[Kg]
  unfold sh
  refine (aa (by simp;omega) _ _).trans ?_
  have hti:=hw _ (List.getElem_mem hi)
  simp only[Int.toNat_natCast,aH hi]
  generalize ts[i]=t at hp h1 h2 ih hti ⊢
  by_cases hj:j<t.2.1.length
  ·refine (aa (decide_eq_true (show (j:Int)<(t.2.1.length:Int) by omega)) _ _).trans ?_
   refine (aa (by simp;omega) _ _).trans ?_
   refine (aa (by simp;omega) _ _).trans ?_
   refine (aa (decide_eq_true (show o.length+1≤4294967296 by omega)) _ _).trans ?_
   have hpw:=hti.2.1.2 _ (List.getElem_mem hj)
   have ih':=ih (j+1) (o++[ku t.2.1[j]]) (by omega) (by omega) (by simp;omega)
   have hd:t.2.1.drop j=t.2.1[j]::t.2.1.drop (j+1):=List.drop_eq_getElem_cons hj
   rw[hd,aC (n:=(j:Int)+1) (by omega) (by omega)]
   have hgp:List.getD t.2.1 ((j:Int)).toNat aL.zero=t.2.1[j]:=by simp only[Int.toNat_natCast];exact aH hj
   refine Eq.trans ?_ (ih'.trans ?_)
   ·refine congrArg (fun x=>mL k acc i (o++[x]) _ re lv ts a' b' z' x' l') ?_
    show bn [ay 3 (IntKind.i64.wrap (List.getD t.2.1 ((j:Int)).toNat aL.zero).1),ay 3 (IntKind.i64.wrap (List.getD t.2.1 ((j:Int)).toNat aL.zero).2.1),ay 4 (List.getD t.2.1 ((j:Int)).toNat aL.zero).2.2.1,ay 3 (IntKind.i64.wrap (List.getD t.2.1 ((j:Int)).toNat aL.zero).2.2.2.1)]=_
    rw[hgp]
    exact W8 hpw
   ·simp only[List.map_cons,List.append_assoc,List.singleton_append]
  ·refine (ab (decide_eq_false (show ¬(j:Int)<(t.2.1.length:Int) by omega)) _ _).trans ?_
   rw[List.drop_of_length_le (by omega)]
   simp
theorem Cs {ts:List af.den}(hw:∀t∈ts,af.wf t)(hl:ts.length≤maxLen)(hs:dk ts=true)(re lv a' b':Int)(z':Bool)(x':List Int)(l':List Nd):∀(k j:Nat) (o:List Nd),ts.length<j+k→j≤ts.length→o.length≤j→
  mK k o j re lv ts a' b' z' x' l'=some (.ret ((),((o++(ts.drop j).map fF,()),((re,(lv,(ts,()))),((a',(b',(z',(x',(l',()))))),()))))):=by
 intro k
 have hs1:=(Bool.and_eq_true _ _▸hs).1
 have hs2:=(Bool.and_eq_true _ _▸hs).2
 have hs1:ts.length≤4294967296:=of_decide_eq_true hs1
 induction k with
 |zero=>intro j o h1 h2;omega
 |succ k ih=>
  intro j o h1 h2 h3
  rw[Kf]
  unfold sg
  by_cases hj:j<ts.length
  ·refine (aa (decide_eq_true (show (j:Int)<(ts.length:Int) by omega)) _ _).trans ?_
   have hgp:ts.getD ((j:Int)).toNat af.zero=ts[j]:=by simp only[Int.toNat_natCast];exact aH hj
   have hpl:(ts[j]).2.1.length≤4294967296:=of_decide_eq_true (List.all_eq_true.1 hs2 _ (List.getElem_mem hj))
   have c8:((decide ((0:Int)≤(j:Int))&&decide ((j:Int)<(ts.length:Int)))&&((decide (([]:List Nd).length=0)&&decide ((0:Int)=0))&&decide ((ts.getD ((j:Int)).toNat af.zero).2.1.length≤4294967296)))=true:=by
    rw[hgp];simp;omega
   refine (aa c8 _ _).trans ?_
   refine (aa (by simp;omega) _ _).trans ?_
   refine (aa (decide_eq_true (show o.length+1≤4294967296 by omega)) _ _).trans ?_
   rw[aC (n:=(j:Int)+1) (by omega) (by omega)]
   have ih':=ih (j+1) (o++[fF ts[j]]) (by omega) (by omega) (by simp;omega)
   have hd:ts.drop j=ts[j]::ts.drop (j+1):=List.drop_eq_getElem_cons hj
   rw[hd]
   refine Eq.trans ?_ (ih'.trans ?_)
   ·refine congrArg (fun x=>mK k (o++[x]) _ re lv ts a' b' z' x' l') ?_
    show (bn [fN (ts.getD ((j:Int)).toNat af.zero).1,bb ((ts.getD ((j:Int)).toNat af.zero).2.1.map ku)])=_
    rw[hgp];rfl
   ·simp only[List.map_cons,List.append_assoc,List.singleton_append]
  ·refine (ab (decide_eq_false (show ¬(j:Int)<(ts.length:Int) by omega)) _ _).trans ?_
   rw[List.drop_of_length_le (by omega)]
   simp
def xi (a0 a1:Int)(a2:List af.den):Option iE.Res:=(nW (([],(0,())),((a0,(a1,(a2,()))),((0,(0,(false,([],([],()))))),())))).run fun y=>match y with | .ret ((),((x78,()),(x79,x80,x81,()),(x82,x83,x84,x85,x86,()),()))=>(some (Out.ret ((Tre.mk (10,0,false,[],()) [Tre.mk (3,IntKind.i64.wrap x79,false,[],()) [],Tre.mk (1,IntKind.i64.wrap x80,false,[],()) [],Tre.mk (9,0,false,[],()) x78],()),())))
theorem MK (a0 a1:Int)(a2:List af.den):Io.run tt vV dr kV iE Tryz.f86 (((a0,a1,a2,()),()),())=xi a0 a1 a2:=by kernel_rfl
theorem Eu:HcOk prog 86 (ah iE tM):=by
 refine aj (n:=400) hm (cs:=qT) (.cons eM (.cons fO (.cons dQ (.cons c7 .nil)))) (lp:=kV) (fn:=Tryz.f86) (by kernel_rfl) (by kernel_rfl) (by kernel_rfl) iE (.step (h0:=aN eg nW) (by kernel_rfl) (aw (n:=400) hm (cs:=qT) (.cons eM (.cons fO (.cons dQ (.cons c7 .nil)))) (lp:=kV) (fn:=Tryz.f86) (.step (h0:=aN eh nX) (by kernel_rfl) (aw (n:=400) hm (cs:=qT) (.cons eM (.cons fO (.cons dQ (.cons c7 .nil)))) (lp:=kV) (fn:=Tryz.f86) (.done (by kernel_rfl)) eh nX ?_) (.done (by kernel_rfl))) eg nW ?_) (.done (by kernel_rfl))) tM ?_
 ·rintro ⟨⟨(acc:List Nd),(i:Int),(o:List Nd),(j:Int),⟨⟩⟩,⟨⟨(re:Int),(lv:Int),(ts:List af.den),⟨⟩⟩,⟨(a':Int),(b':Int),(z':Bool),(x':List Int),(l':List Nd),⟨⟩⟩,⟨⟩⟩⟩ y hw hy
  obtain ⟨hg,hy⟩:=Tr.guard hy
  simp only[Bool.and_eq_true,decide_eq_true_eq] at hg
  obtain ⟨⟨h1,h2⟩,⟨h3,h4⟩,h5⟩:=hg
  have h1:0≤i:=h1
  have h2:i<(ts.length:Int):=h2
  have h3:o=[]:=List.eq_nil_of_length_eq_zero h3
  have h4:j=0:=h4
  obtain ⟨i,rfl⟩:=cZ h1
  subst h3
  subst h4
  have hi:i<ts.length:=by omega
  have hgp:ts.getD ((i:Int)).toNat af.zero=ts[i]:=by simp only[Int.toNat_natCast];exact aH hi
  have h5:(ts.getD ((i:Int)).toNat af.zero).2.1.length≤4294967296:=h5
  rw[hgp] at h5
  have hwt:ts.length≤maxLen∧∀t∈ts,af.wf t:=by have:=hw.2.1.2.2.1;exact this
  refine ⟨(ts[i]).2.1.length+1,(Ct hwt.2 hwt.1 hi h5 acc re lv a' b' z' x' l' ((ts[i]).2.1.length+1) 0 [] (by omega) (by omega) (by simp)).trans ?_⟩
  rw[← hy,← hgp,List.drop_zero]
  rfl
 ·rintro ⟨⟨(o:List Nd),(j:Int),⟨⟩⟩,⟨⟨(re:Int),(lv:Int),(ts:List af.den),⟨⟩⟩,⟨(a':Int),(b':Int),(z':Bool),(x':List Int),(l':List Nd),⟨⟩⟩,⟨⟩⟩⟩ y hw hy
  obtain ⟨hg,hy⟩:=Tr.guard hy
  simp only[Bool.and_eq_true,decide_eq_true_eq] at hg
  obtain ⟨⟨h3,h4⟩,h5⟩:=hg
  have h3:o=[]:=List.eq_nil_of_length_eq_zero h3
  have h4:j=0:=h4
  have h5:dk ts=true:=h5
  subst h3
  subst h4
  have hwt:ts.length≤maxLen∧∀t∈ts,af.wf t:=by have:=hw.2.1.2.2.1;exact this
  refine ⟨ts.length+1,(Cs hwt.2 hwt.1 h5 re lv a' b' z' x' l' (ts.length+1) 0 [] (by omega) (by omega) (by simp)).trans ?_⟩
  rw[← hy,List.drop_zero]
  rfl
 ·rintro ⟨⟨⟨(re:Int),(lv:Int),(ts:List af.den),⟨⟩⟩,⟨⟩⟩,⟨⟩⟩ out hw ho
  obtain ⟨hg,ho⟩:=Tr.guard ho
  have hg:dk ts=true:=hg
  cases ho
  refine (MK re lv ts).trans ?_
  unfold xi
  have c1:((decide (([]:List Nd).length=0)&&decide ((0:Int)=0))&&dk ts)=true:=by rw[hg];rfl
  refine (aa c1 _ _).trans ?_
  show _=some (Out.ret ((bE (re,(lv,(ts,()))),()),()))
  unfold bE
  have hre:IntKind.i64.wrap re=re:=cO hw.1.1.1
  have hlv:IntKind.i64.wrap lv=lv:=Ut hw.1.1.2.1
  show some (Out.ret ((bn [ay 3 (IntKind.i64.wrap re),ay 1 (IntKind.i64.wrap lv),bb (ts.map fF)],()),()))=_
  rw[hre,hlv]
abbrev oO:Io:=⟨[cQ],[],[],[.dat bT true false],none⟩
def Li (d:oO.In):Tr oO.Res:=.ite (decide (aP d.1.1≤4294967296)) (.ret (.ret ((wJ d.1.1,()),()))) .no
abbrev yu:List (Nat×Hc):=[(164,ah up SK)]
def FZ:Hd:=bA yu
abbrev fp:Lo:=⟨⟨(bh (.one (.ptr 2 0)::.one (.ptr 3 0)::.one (.hol (.sl 91 ao))::.one (.hol (.int IntKind.i64))::.one (.ptr 6 0)::.one (.hol (.sl 91 ao))::.one (.hol (.int IntKind.i64))::ai (ai (ai (ai (ai (bh []))))))),[none,none,some [.hol (.int IntKind.i32),.hol (.int IntKind.i8),.onl 196 af 1030],some [.hol (.int IntKind.i32),.hol (.int IntKind.i8),.onl 196 af 1542],none,none,some [.hol .str,.onl 198 aL 3076]]⟩,[(.exit 2,⟨(bh (.one (.ptr 2 0)::.one (.ptr 3 0)::.one (.hol (.sl 91 ao))::.one (.hol (.int IntKind.i64))::.one (.ptr 6 0)::ai (ai (ai (ai (ai (bQ []))))))),[none,none,some [.hol (.int IntKind.i32),.hol (.int IntKind.i8),.onl 196 af 1030],some [.hol (.int IntKind.i32),.hol (.int IntKind.i8),.onl 196 af 1542],none,none,some [.hol .str,.onl 198 aL 3076]]⟩)]⟩
abbrev gC:Lo:=⟨⟨(bh (.one (.ptr 2 0)::.one (.ptr 3 0)::.one (.hol (.sl 91 ao))::.one (.hol (.int IntKind.i64))::.any::ai (ai (ai (ai (ai (bQ []))))))),[none,none,some [.hol (.int IntKind.i32),.hol (.int IntKind.i8),.onl 196 af 1030],some [.hol (.int IntKind.i32),.hol (.int IntKind.i8),.onl 196 af 1542]]⟩,[(.exit 0,⟨(bh (.one (.ptr 2 0)::.one (.ptr 3 0)::.any::ai (ai (ai (ai (ai (bQ (bh [])))))))),[none,none,some [.hol (.int IntKind.i32),.hol (.int IntKind.i8),.onl 196 af 1030],some [.hol (.int IntKind.i32),.hol (.int IntKind.i8),.onl 196 af 1542]]⟩)]⟩
def qP (d:fp.st.den):Tr (aD fp.xs):=
 .ite ((decide (d.1.2.2.2.1=0)&&decide (d.2.2.2.1.2.1.length=0))&&decide (aI d.1.2.2.1≤4294967296))
  (.ret (.ret ((),((d.1.1,(d.1.2.1,())),(d.2.1,(d.2.2.1,((d.2.2.2.1.1,(d.1.2.2.1.map B0,())),()))))))) .no
def tN (d:gC.st.den):Tr (aD gC.xs):=
 .ite ((decide (d.1.2.1=0)&&decide (d.2.2.1.2.2.1.length=0))&&decide (aI d.1.1≤4294967296))
  (.ret (.ret ((),((),(d.2.1,((d.2.2.1.1,(d.2.2.1.2.1,(d.1.1.map tf,()))),())))))) .no
def rt:Lp:=bv [(5,aN gC tN),(10,aN fp qP)]
def vp {R:Type}(h9:List (Nd))(h10:Int)(h11:List (Nd))(h12 h13 h14:Int)(h15:List af.den)(h16 h17:Int)(h18:List af.den)(h19:List Int)(h20:List aL.den)(next:List (Nd)→Int→List (Nd)→Int→Int→Int→List af.den→Int→Int→List af.den→List Int→List aL.den→Option R)(out:aD fp.xs→Option R):Option R:=bif decide (h12<(↑h11.length:Int)) then bif decide (0≤h12)&&decide (h12<(↑h11.length:Int)) then bif decide (0≤h12)&&decide (h12<(↑h11.length:Int)) then bif decide (0≤h12)&&decide (h12<(↑h11.length:Int)) then bif decide (0≤h12)&&decide (h12<(↑h11.length:Int)) then bif decide (h20.length+1≤4294967296) then next (h9) (h10) (h11) (IntKind.i64.wrap (h12+1)) (h13) (h14) (h15) (h16) (h17) (h18) (h19) (h20++[(IntKind.i32.wrap (aZ (Tre.mk (h11.getD h12.toNat (Tre.mk (0,0,false,[],()) [])).1 (h11.getD h12.toNat (Tre.mk (0,0,false,[],()) [])).2) 0).1.2.1,IntKind.i32.wrap (aZ (Tre.mk (h11.getD h12.toNat (Tre.mk (0,0,false,[],()) [])).1 (h11.getD h12.toNat (Tre.mk (0,0,false,[],()) [])).2) 1).1.2.1,(aZ (Tre.mk (h11.getD h12.toNat (Tre.mk (0,0,false,[],()) [])).1 (h11.getD h12.toNat (Tre.mk (0,0,false,[],()) [])).2) 2).1.2.1,IntKind.i32.wrap (aZ (Tre.mk (h11.getD h12.toNat (Tre.mk (0,0,false,[],()) [])).1 (h11.getD h12.toNat (Tre.mk (0,0,false,[],()) [])).2) 3).1.2.1,())]) else none else none else none else none else none else out (.ret ((),((h9,(h10,())),((h13,(h14,(h15,()))),((h16,(h17,(h18,()))),((h19,(h20,())),()))))))
def sU (n:Nat)(h9:List (Nd))(h10:Int)(h11:List (Nd))(h12 h13 h14:Int)(h15:List af.den)(h16 h17:Int)(h18:List af.den)(h19:List Int)(h20:List aL.den):Option (aD fp.xs):=gd tt FZ dr rt 0 Tryz.f73 (wP Tryz.f73 (cE Tryz.f73 0) 0) n (fp.st.mk' ((h9,(h10,(h11,(h12,())))),((h13,(h14,(h15,()))),((h16,(h17,(h18,()))),((h19,(h20,())),()))))) (bL fp.xs)
theorem MW (n:Nat)(h9:List (Nd))(h10:Int)(h11:List (Nd))(h12 h13 h14:Int)(h15:List af.den)(h16 h17:Int)(h18:List af.den)(h19:List Int)(h20:List aL.den):sU (n+1) h9 h10 h11 h12 h13 h14 h15 h16 h17 h18 h19 h20=vp h9 h10 h11 h12 h13 h14 h15 h16 h17 h18 h19 h20 (sU n) some:=by kernel_rfl
def xW {R:Type}(h1:List (Nd))(h2 h3 h4:Int)(h5:List af.den)(h6 h7:Int)(h8:List af.den)(next:List (Nd)→Int→Int→Int→List af.den→Int→Int→List af.den→Option R)(out:aD gC.xs→Option R):Option R:=bif decide (h2<(↑h1.length:Int)) then bif decide (0≤h2)&&decide (h2<(↑h1.length:Int)) then bif decide (0≤h2)&&decide (h2<(↑h1.length:Int)) then (qP ((h1,(h2,((aZ (Tre.mk (h1.getD h2.toNat (Tre.mk (0,0,false,[],()) [])).1 (h1.getD h2.toNat (Tre.mk (0,0,false,[],()) [])).2) 1).2,(0,())))),((h3,(h4,(h5,()))),((h6,(h7,(h8,()))),(((aZ (Tre.mk (h1.getD h2.toNat (Tre.mk (0,0,false,[],()) [])).1 (h1.getD h2.toNat (Tre.mk (0,0,false,[],()) [])).2) 0).1.2.2.2.1,([],())),()))))).run fun y=>match y with | .ret ((),((x43,x44,()),(x45,x46,x47,()),(x48,x49,x50,()),(x51,x52,()),()))=>(bif decide (x50.length+1≤4294967296) then next (x43) (IntKind.i64.wrap (x44+1)) (x45) (x46) (x47) (x48) (x49) (x50++[(x51,x52,())]) else none) else none else none else out (.ret ((),((),((h3,(h4,(h5,()))),((h6,(h7,(h8,()))),())))))
def wi (n:Nat)(h1:List (Nd))(h2 h3 h4:Int)(h5:List af.den)(h6 h7:Int)(h8:List af.den):Option (aD gC.xs):=gd tt FZ dr rt 0 Tryz.f73 (cE Tryz.f73 0) n (gC.st.mk' ((h1,(h2,())),((h3,(h4,(h5,()))),((h6,(h7,(h8,()))),())))) (bL gC.xs)
theorem RQ (n:Nat)(h1:List (Nd))(h2 h3 h4:Int)(h5:List af.den)(h6 h7:Int)(h8:List af.den):wi (n+1) h1 h2 h3 h4 h5 h6 h7 h8=xW h1 h2 h3 h4 h5 h6 h7 h8 (wi n) some:=by kernel_rfl
theorem Gg {ps:List Nd}(hb:aI ps≤4294967296)(dT:List Nd)(i re0 lv0:Int)(ts0:List af.den)(re lv:Int)(ts:List af.den)(tn:List Int):∀(k j:Nat) (o:List aL.den),ps.length<j+k→j≤ps.length→o.length≤j→
  sU k dT i ps j re0 lv0 ts0 re lv ts tn o=some (.ret ((),((dT,(i,())),((re0,(lv0,(ts0,()))),((re,(lv,(ts,()))),((tn,(o++(ps.drop j).map B0,())),())))))):=by
 intro k
 have hlen:=gI ps
 induction k with
 |zero=>intro j o h1 h2;omega
 |succ k ih=>
  intro j o h1 h2 h3
  rw[MW]
  unfold vp
  by_cases hj:j<ps.length
  ·refine (aa (decide_eq_true (show (j:Int)<(ps.length:Int) by omega)) _ _).trans ?_
   have hmem:=cY (List.getElem_mem hj)
   have ih':=ih (j+1) (o++[B0 ps[j]]) (by omega) (by omega) (by simp;omega)
   have hd:ps.drop j=ps[j]::ps.drop (j+1):=List.drop_eq_getElem_cons hj
   rw[hd,aC (n:=(j:Int)+1) (by omega) (by omega)]
   simp only[Int.toNat_natCast,aH hj]
   generalize ps[j]=u at hmem ih' ⊢
   obtain ⟨ul,uk⟩:=u
   refine (aa (by simp;omega) _ _).trans ?_
   refine (aa (by simp;omega) _ _).trans ?_
   refine (aa (by simp;omega) _ _).trans ?_
   refine (aa (by simp;omega) _ _).trans ?_
   refine (aa (decide_eq_true (show o.length+1≤4294967296 by omega)) _ _).trans ?_
   refine ih'.trans ?_
   simp only[List.map_cons,List.append_assoc,List.singleton_append]
  ·refine (ab (decide_eq_false (show ¬(j:Int)<(ps.length:Int) by omega)) _ _).trans ?_
   rw[List.drop_of_length_le (by omega)]
   simp
theorem I7 {nds:List Nd}(hb:aI nds≤4294967296)(re0 lv0:Int)(ts0:List af.den)(re lv:Int):∀(k j:Nat) (ts:List af.den),nds.length<j+k→j≤nds.length→ts.length≤j→
  wi k nds j re0 lv0 ts0 re lv ts=some (.ret ((),((),((re0,(lv0,(ts0,()))),((re,(lv,(ts++(nds.drop j).map tf,()))),()))))):=by
 intro k
 have hlen:=gI nds
 induction k with
 |zero=>intro j o h1 h2;omega
 |succ k ih=>
  intro j ts h1 h2 h3
  rw[RQ]
  unfold xW
  by_cases hj:j<nds.length
  ·refine (aa (decide_eq_true (show (j:Int)<(nds.length:Int) by omega)) _ _).trans ?_
   have hmem:=cY (List.getElem_mem hj)
   have ih':=ih (j+1) (ts++[tf nds[j]]) (by omega) (by omega) (by simp;omega)
   have hd:nds.drop j=nds[j]::nds.drop (j+1):=List.drop_eq_getElem_cons hj
   rw[hd]
   simp only[Int.toNat_natCast,aH hj]
   generalize nds[j]=u at hmem ih' ⊢
   obtain ⟨ul,uk⟩:=u
   refine (aa (by simp;omega) _ _).trans ?_
   refine (aa (by simp;omega) _ _).trans ?_
   have hw1:=o6 (Tre.mk ul uk) 1
   have hw2:=iu (aZ (Tre.mk ul uk) 1)
   have cA:((decide ((0:Int)=0)&&decide (([]:List aL.den).length=0))&&decide (aI (aZ (Tre.mk ul uk) 1).kids≤4294967296))=true:=by simp;omega
   refine (aa cA _ _).trans ?_
   refine (aa (decide_eq_true (show ts.length+1≤4294967296 by omega)) _ _).trans ?_
   rw[aC (n:=(j:Int)+1) (by omega) (by omega)]
   refine ih'.trans ?_
   simp only[List.map_cons,List.append_assoc,List.singleton_append]
  ·refine (ab (decide_eq_false (show ¬(j:Int)<(nds.length:Int) by omega)) _ _).trans ?_
   rw[List.drop_of_length_le (by omega)]
   simp
def Dw (a0:Nd):Option oO.Res:=(tN (((aZ (Tre.mk a0.1 a0.2) 2).2,(0,())),((0,(0,([],()))),((IntKind.i32.wrap (aZ (Tre.mk a0.1 a0.2) 0).1.2.1,(IntKind.i8.wrap (aZ (Tre.mk a0.1 a0.2) 1).1.2.1,([],()))),())))).run fun y=>match y with | .ret ((),((),(x67,x68,x69,()),(x70,x71,x72,()),()))=>(some (Out.ret (((x70,x71,x72,()),()),())))
theorem Wv (a0:Nd):Io.run tt FZ dr rt oO Tryz.f73 ((a0,()),())=Dw a0:=by kernel_rfl
theorem YM:HcOk prog 73 (ah oO Li):=by
 refine aj (n:=400) hm (cs:=yu) (.cons uF .nil) (lp:=rt) (fn:=Tryz.f73) (by kernel_rfl) (by kernel_rfl) (by kernel_rfl) oO (.step (h0:=aN gC tN) (by kernel_rfl) (aw (n:=400) hm (cs:=yu) (.cons uF .nil) (lp:=rt) (fn:=Tryz.f73) (.step (h0:=aN fp qP) (by kernel_rfl) (aw (n:=400) hm (cs:=yu) (.cons uF .nil) (lp:=rt) (fn:=Tryz.f73) (.done (by kernel_rfl)) fp qP ?_) (.done (by kernel_rfl))) gC tN ?_) (.done (by kernel_rfl))) Li ?_
 ·rintro ⟨⟨(dT:List Nd),(i:Int),(ps:List Nd),(j:Int),⟨⟩⟩,⟨⟨(re0:Int),(lv0:Int),(ts0:List af.den),⟨⟩⟩,⟨(re:Int),(lv:Int),(ts:List af.den),⟨⟩⟩,⟨(tn:List Int),(o:List aL.den),⟨⟩⟩,⟨⟩⟩⟩ y hw hy
  obtain ⟨hg,hy⟩:=Tr.guard hy
  simp only[Bool.and_eq_true,decide_eq_true_eq] at hg
  obtain ⟨⟨h1,h2⟩,h3⟩:=hg
  have h1:j=0:=h1
  have h2:o=[]:=List.eq_nil_of_length_eq_zero h2
  have h3:aI ps≤4294967296:=h3
  subst h1
  subst h2
  refine ⟨ps.length+1,(Gg h3 dT i re0 lv0 ts0 re lv ts tn (ps.length+1) 0 [] (by omega) (by omega) (by simp)).trans ?_⟩
  rw[← hy,List.drop_zero]
  rfl
 ·rintro ⟨⟨(nds:List Nd),(j:Int),⟨⟩⟩,⟨⟨(re0:Int),(lv0:Int),(ts0:List af.den),⟨⟩⟩,⟨(re:Int),(lv:Int),(ts:List af.den),⟨⟩⟩,⟨⟩⟩⟩ y hw hy
  obtain ⟨hg,hy⟩:=Tr.guard hy
  simp only[Bool.and_eq_true,decide_eq_true_eq] at hg
  obtain ⟨⟨h1,h2⟩,h3⟩:=hg
  have h1:j=0:=h1
  have h2:ts=[]:=List.eq_nil_of_length_eq_zero h2
  have h3:aI nds≤4294967296:=h3
  subst h1
  subst h2
  refine ⟨nds.length+1,(I7 h3 re0 lv0 ts0 re lv (nds.length+1) 0 [] (by omega) (by omega) (by simp)).trans ?_⟩
  rw[← hy,List.drop_zero]
  rfl
 ·rintro ⟨⟨(n:Nd),⟨⟩⟩,⟨⟩⟩ out hw ho
  obtain ⟨hg,ho⟩:=Tr.guard ho
  have hg:aP n≤4294967296:=of_decide_eq_true hg
  cases ho
  refine (Wv n).trans ?_
  unfold Dw
  obtain ⟨nl,nk⟩:=n
  have hw1:=o6 (Tre.mk nl nk) 2
  have hw2:=iu (aZ (Tre.mk nl nk) 2)
  have c1:((decide ((0:Int)=0)&&decide (([]:List af.den).length=0))&&decide (aI (aZ (Tre.mk nl nk) 2).kids≤4294967296))=true:=by simp;omega
  refine (aa c1 _ _).trans ?_
  show _=some (Out.ret ((wJ (Tre.mk nl nk),()),()))
  unfold wJ
  rfl
abbrev jF:Io:=⟨[.dat bT true false],[],[],[.dat bT true false],none⟩
def zj (d:jF.In):Tr jF.Res:=.ite (dk d.1.1.2.2.1&&decide (aP (bE d.1.1)≤4294967296)) (.ret (.ret ((d.1.1,()),()))) .no
abbrev DO:List (Nat×Hc):=[(86,ah iE tM),(83,ah eY Fi),(73,ah oO Li)]
def Qf:Hd:=bA DO
def Eh:Lp:=bv []
def xj (a0 a1:Int)(a2:List af.den):Option jF.Res:=bif dk a2 then bif decide (aP (Tre.mk (bE (a0,a1,a2,())).1 (bE (a0,a1,a2,())).2)≤4294967296) then bif decide (aP (Tre.mk (bE (a0,a1,a2,())).1 (bE (a0,a1,a2,())).2)≤4294967296) then some (Out.ret ((wJ (Tre.mk (bE (a0,a1,a2,())).1 (bE (a0,a1,a2,())).2),()),())) else none else none else none
theorem ML (a0 a1:Int)(a2:List af.den):Io.run tt Qf dr Eh jF Tryz.f32 (((a0,a1,a2,()),()),())=xj a0 a1 a2:=by kernel_rfl
theorem QR:HcOk prog 32 (ah jF zj):=by
 refine aj (n:=400) hm (cs:=DO) (.cons Eu (.cons GG (.cons YM .nil))) (lp:=Eh) (fn:=Tryz.f32) (by kernel_rfl) (by kernel_rfl) (by kernel_rfl) jF (.done (by kernel_rfl)) zj ?_
 rintro ⟨⟨m,⟨⟩⟩,⟨⟩⟩ out hw ho
 obtain ⟨hg,ho⟩:=Tr.guard ho
 simp only[Bool.and_eq_true,decide_eq_true_eq] at hg
 obtain ⟨h1,h2⟩:=hg
 have h1:dk m.2.2.1=true:=h1
 have h2:aP (bE m)≤4294967296:=h2
 cases ho
 have hf:=qz (m:=m) hw.1.1
 obtain ⟨re,lv,ts,⟨⟩⟩:=m
 refine (ML re lv ts).trans ?_
 unfold xj
 generalize bE (re,(lv,(ts,())))=n at h2 hf ⊢
 obtain ⟨nl,nk⟩:=n
 refine (aa h1 _ _).trans ?_
 refine (aa (decide_eq_true h2) _ _).trans ?_
 refine (aa (decide_eq_true h2) _ _).trans ?_
 exact congrArg (fun x=>some (Out.ret ((x,()),()))) hf
@[irreducible] noncomputable def iK (v:Int)(m:bT.den):List Int×Int:=fT 2 false v (bE m)
def Xm (v:Int)(p:aL.den):List Int×Int:=aU (aB p.1 4,0) (aU (if 3≤v∧v≤3 then (aB p.2.1 4,0) else ([],0)) (aU (aB p.2.2.1 8,0) (aU (if 0≤v∧v≤0 then (aB p.2.2.2.1 4,0) else ([],0)) ([],0))))
def Xn (v:Int)(t:af.den):List Int×Int:=aU (pB t.1) (aU (eN (Xm v) t.2.1) ([],0))
def abL (v:Int)(m:bT.den):List Int×Int:=aU (aB m.1 4,0) (aU (if 2≤v∧v≤3 then (aB m.2.1 1,0) else ([],0)) (aU (eN (Xn v) m.2.2.1) (([],0))))
theorem Wri.oqP (v:Int)(p:aL.den):Wri (Xm v p) (nb v p):=(Wri.put p.1 4).seq ((Wri.hasE v 3 3 p.2.1 4).seq ((Wri.put p.2.2.1 8).seq ((Wri.hasE v 0 0 p.2.2.2.1 4).seq (Wri.nop))))
theorem Wri.oqT (v:Int)(t:af.den):Wri (Xn v t) (B1 v t):=(Wri.str _).seq ((Wri.items fun p hp=>Wri.oqP v p).seq Wri.nop)
abbrev aaI:Fd:=cp [112,97,114,116] 10 0 3 [cp [105,110,100,101,120] 3 0 3 [],cp [101,112,111,99,104] 3 3 3 [],cp [116,105,109,101] 4 0 3 [],cp [109,111,115,116] 3 0 0 []]
abbrev acq:Fd:=cp [116,111,112,105,99] 10 0 3 [cp [110,97,109,101] 5 0 3 [],cp [112,97,114,116,115] 9 0 3 [aaI]]
theorem ZH {v:Int}{p:aL.den}(hv:0≤v∧v≤3)(h:aL.wf p):tq aaI v (ku p)=Xm v p:=by
 unfold ku Xm
 rw[mQ,bw (aJ hv.1 hv.2),lU,bw (aJ hv.1 hv.2),lU,dc,ce (by decide) (w:=4) rfl (b8 h.1),ce (by decide) (w:=4) rfl (b8 h.2.1),ce (by decide) (w:=4) rfl (b8 h.2.2.2.1),ce (by decide) (w:=8) rfl (lO p.2.2.1)]
 try rfl
theorem ZI {v:Int}{t:af.den}(hv:0≤v∧v≤3)(h:af.wf t):tq acq v (fF t)=Xn v t:=by
 unfold fF Xn
 rw[mQ,bw (aJ hv.1 hv.2),bw (aJ hv.1 hv.2),dc,u9,ja,dA fun p hp=>ZH hv (h.2.1.2 p hp)]
def pv (v:Int)(p:aL.den):Bool:=(if 3≤v∧v≤3 then true else (p.2.1 == 0))&&((if 0≤v∧v≤0 then true else (p.2.2.2.1 == 0)))
theorem RV {v:Int}{p:aL.den}(hv:0≤v∧v≤3):(ba aaI v (ku p)).2=pv v p:=by
 unfold ku pv
 rw[iH,bB (aJ hv.1 hv.2),fK,bB (aJ hv.1 hv.2),fK,fJ,aT (by decide) (by decide),aT (by decide) (by decide),aT (by decide) (by decide),aT (by decide) (by decide),bK,bK]
 simp only[Bool.true_and,Bool.and_true]
theorem RW {v:Int}{t:af.den}(hv:0≤v∧v≤3):(ba acq v (fF t)).2=t.2.1.all (pv v):=by
 unfold fF
 rw[iH,bB (aJ hv.1 hv.2),bB (aJ hv.1 hv.2),fJ,aT (by decide) (by decide),fz]
 simp only[RV hv,Bool.true_and,Bool.and_true]
theorem Ni (m:bT.den):dN uX [ay 3 m.1,ay 1 m.2.1,bb (m.2.2.1.map fF)]:=by
 unfold uX cy
 refine aF (aK (by decide) (by decide)) (aF (aK (by decide) (by decide)) (aF ?_ cI))
 refine dD _ _ fun t=>eU rfl (aF (aK (by decide) (by decide)) (aF ?_ cI))
 exact dD _ _ fun p=>eU rfl (aF (aK (by decide) (by decide)) (aF (aK (by decide) (by decide)) (aF (aK (by decide) (by decide)) (aF (aK (by decide) (by decide)) cI))))
def JL (v:Int)(m:bT.den):Bool:=(if 2≤v∧v≤3 then true else (m.2.1 == 0))&&((m.2.2.1.all fun t=>t.2.1.all (pv v)))
theorem Sl {e v:Int}{p:aL.den}:td v p (e,(false,([]:List Int)))=(ki e (pv v p),(false,[])):=by
 unfold td pv
 rw[eC,eC,eP]
theorem BZ {v:Int}:∀{ps:List aL.den} {e:Int},gK v ps (e,(false,([]:List Int)))=(ki e (ps.all (pv v)),(false,[]))
 |[],e=>by rw[List.all_nil,k5];rfl
 |p::ps,e=>by
  show gK v ps (td v p (e,(false,[])))=_
  rw[Sl,BZ,eP,List.all_cons]
theorem EH {v:Int}:∀{ts:List af.den} {e:Int},wI v ts (e,(false,([]:List Int)))=(ki e (ts.all fun t=>t.2.1.all (pv v)),(false,[]))
 |[],e=>by rw[List.all_nil,k5];rfl
 |t::ts,e=>by
  show wI v ts (gK v t.2.1 (e,(false,[])))=_
  rw[BZ,EH,eP,List.all_cons]
theorem ack {v:Int}{m:bT.den}(hv:0≤v∧v≤3):(bF v uX [ay 3 m.1,ay 1 m.2.1,bb (m.2.2.1.map fF)]).2=JL v m:=by
 unfold uX cy JL
 rw[bB (aJ hv.1 hv.2),fK,bB (aJ hv.1 hv.2),fJ,aT (by decide) (by decide),aT (by decide) (by decide),fz,bK]
 simp only[RW hv,Bool.true_and,Bool.and_true,Bool.and_assoc]
theorem acV {v:Int}{m:bT.den}(hv:0≤v∧v≤3)(hm:bT.wf m):cb v uX [ay 3 m.1,ay 1 m.2.1,bb (m.2.2.1.map fF)]=abL v m:=by
 unfold uX cy abL
 rw[bw (aJ hv.1 hv.2),lU,bw (aJ hv.1 hv.2),dc,ce (by decide) (w:=4) rfl (b8 hm.1),ce (by decide) (w:=1) rfl (Ew hm.2.1),ja,dA fun t ht=>ZI hv (hm.2.2.1.2 t ht)]
 try rfl
theorem VK {v:Int}{m:bT.den}(hm:bT.wf m):(bP (vc v m),bz (vc v m))=iK v m:=by
 unfold iK bE
 rw[yO (t:=uX) rfl WN rfl (Ni m)]
 unfold vc
 rw[eC,EH,eP]
 have hr:Wri (abL v m) _:=(Wri.put m.1 4).seq ((Wri.hasE v 2 3 m.2.1 1).seq ((Wri.items fun t ht=>Wri.oqT v t).seq (Wri.nop)))
 refine (hr.done _).trans ?_
 unfold aX
 by_cases hv:v<0∨3<v
 ·rw[if_pos hv,if_pos hv]
  exact if_pos (by simp[ki])
 rw[if_neg hv,if_neg hv]
 have hv':0≤v∧v≤3:=by omega
 rw[ack hv',acV hv' hm]
 show (if ki 0 (JL v m)≠0 then _ else _)=_
 cases hz:JL v m
 ·exact (if_pos (by decide)).trans (show ([],ki 0 (JL v m))=_ by rw[hz];rfl)
 ·exact (if_neg (by decide)).trans (if_neg (by decide)).symm
abbrev um:Io:=oD
def NF (d:um.In):Tr um.Res:=.ret (.ret (((iK d.1.1 d.1.2.1).1,((iK d.1.1 d.1.2.1).2,())),()))
theorem Vp:HcOk prog 45 (ah um NF):=by
 refine HcOk.weakW Yz ?_
 rintro ⟨⟨(v:Int),m,⟨⟩⟩,⟨⟩⟩ y hw hy
 rw[← hy]
 have h:=VK (v:=v) (m:=m) hw.1.2.1
 show some (Out.ret ((bP (vc v m),(bz (vc v m),())),()))=some (Out.ret (((iK v m).1,((iK v m).2,())),()))
 rw[← h]
theorem Er {v:Int}{p:aL.den}(h:pv v p=true):(¬(3≤v∧v≤3)→p.2.1=0)∧(¬(0≤v∧v≤0)→p.2.2.2.1=0):=by
 unfold pv at h
 simp only[Bool.and_eq_true] at h
 exact ⟨fun hv=>by have h1:=h.1;rw[if_neg hv] at h1;simpa using h1,fun hv=>by have h1:=h.2;rw[if_neg hv] at h1;simpa using h1⟩
theorem Rd.oqP {b:List Int}{p:aL.den}{v:Int}(h:aL.wf p)(hk:pv v p=true):Rd b p (Xm v p) (lW v b):=
 (Rd.seq (fun a r=>(a,r)) (Rd.num (cN h.1)) (Rd.seq (fun a r=>(a,r)) (Rd.opt (cN h.2.1) (Er hk).1) (Rd.seq (fun a r=>(a,r)) (Rd.num (gb h.2.2.1)) (Rd.seq (fun a r=>(a,r)) (Rd.opt (cN h.2.2.2.1) (Er hk).2) (Rd.nop b ()))))).congr fun s=>by unfold lW;rfl
theorem Rd.oqT {b:List Int}{t:af.den}{v:Int}(h:af.wf t)(hk:t.2.1.all (pv v)=true):Rd b t (Xn v t) (lX v b):=
 (Rd.seq (fun a r=>(a,r)) (Rd.txt t.1) (Rd.seq (fun a r=>(a,r)) (Rd.list fun p hp=>Rd.oqP (h.2.1.2 p hp) (List.all_eq_true.1 hk p hp)) (Rd.nop b ()))).congr fun s=>by unfold lX ic;rfl
def BL (x:Int)(s:bc):bc:=ac x 8 s
def fL (xs:List Int)(s:bc):bc:=br BL xs s
theorem Kz {s:bc}(x:Int)(h:s.2.2.length≤130048):(BL x s).2.2.length≤130048:=aE _ _ h
theorem KD {s:bc}(xs:List Int)(h:s.2.2.length≤130048):(fL xs s).2.2.length≤130048:=cg (fun x s=>Kz x) xs h
def jX (v lo hi:Int)(xs:List Int)(s:bc):bc:=if lo≤v∧v≤hi then fL xs s else s
theorem lP {v lo hi:Int}{xs:List Int}{s:bc}(h:lo≤v∧v≤hi):jX v lo hi xs s=fL xs s:=by unfold jX;rw[if_pos h]
theorem kh {v lo hi:Int}{xs:List Int}{s:bc}(h:¬(lo≤v∧v≤hi)):jX v lo hi xs s=s:=by unfold jX;rw[if_neg h]
theorem M3 {s:bc}(v lo hi:Int)(xs:List Int)(h:s.2.2.length≤130048):(jX v lo hi xs s).2.2.length≤130048:=by
 unfold jX
 split
 ·exact KD xs h
 ·exact h
abbrev FO (v:Int)(s:bc):(Int×(Int×(Bool×Unit)))×((List Int×(Int×Unit))×Unit):=((v,(s.1,(s.2.1,()))),((s.2.2,(130048,())),()))
@[irreducible] noncomputable def be (b:List Int)(s:aQ):List Int×aQ:=kp (ae .i64 8 b) b s
theorem KC {b:List Int}{s:aQ}(h:av b s.2=true):av b (be b s).2.2=true:=by
 unfold be
 exact nG (fun s h=>bJ .i64 8 h) h
def cU (v lo hi:Int)(b:List Int)(s:aQ):List Int×aQ:=if bi v lo hi s.1=true then be b s else ([],s)
theorem Ko {v lo hi:Int}{b:List Int}{s:aQ}(h:av b s.2=true):av b (cU v lo hi b s).2.2=true:=by
 unfold cU
 split
 ·exact KC h
 ·exact h
theorem BB {v lo hi e:Int}(h:bi v lo hi e=true):lo≤v∧v≤hi:=by
 unfold bi at h
 split at h
 ·rename_i h';exact h'.2
 ·cases h
theorem Bz {k:IntKind}{n:Nat}{v lo hi:Int}{b:List Int}(h:lo≤v∧v≤hi)(s:aQ):az k n v lo hi b s=ae k n b s:=by
 unfold az bi
 by_cases he:s.1=0
 ·rw[if_pos (by rw[if_pos ⟨he,h⟩])]
 ·rw[if_neg (by rw[if_neg (fun hh=>he hh.1)];decide)]
  unfold ae;rw[if_neg he]
abbrev FL (v:Int)(b:List Int)(s:aQ):(Int×(Int×Unit))×((List Int×(Int×Unit))×Unit):=((v,(s.1,())),((b,(s.2,())),()))
abbrev Aw:Io:=⟨[.ptr 0 0,.dat (.sl 2 (.int .i64)) false false,.fnc 111 true [0]],rP,[],[],none⟩
def aax (d:Aw.In):Tr Aw.Res:=.ite (fQ d.2) (.ret (.ret ((),ca d.2.1.2.1 (fL d.1.2.1 (fR d.2))))) .no
abbrev Tz:List (Nat×Hc):=[(194,ah cK gN),(98,ah dn iw),(111,ah m2 CK)]
def Z8:Hd:=bA Tz
abbrev kK:Lo:=⟨⟨[.any,.any,.one (.fnp 111 true [0]),.any,.any,.any,.any,.any,.any,.any,.any,.any,.any,.any,.any,.any,.any,.any,.one (.hol (.sl 2 (Ty.int IntKind.i64))),.one (.hol (.int IntKind.i64)),.one (.hol (.int IntKind.i64)),.any,.any,.any,.any,.any,.any,.any],[some [.ptr 1 0,.hol (.int IntKind.i64),.hol (.int IntKind.i64),.hol .bool],some [.onl 5 (Ty.int IntKind.u8) 514,.hol (.int IntKind.i64)]]⟩,[(.exit 0,⟨(ai (dR (bQ []))),[some [.ptr 1 0,.hol (.int IntKind.i64),.hol (.int IntKind.i64),.hol .bool],some [.onl 5 (Ty.int IntKind.u8) 514,.hol (.int IntKind.i64)]]⟩)]⟩
def yX (d:kK.st.den):Tr (aD kK.xs):=
 .ite (decide (d.1.2.2.1=0)&&(decide (d.1.2.1=(d.1.1.length:Int))&&(decide (d.2.2.1.2.1=130048)&&decide (d.2.2.1.1.length≤130048)))) (.ret (.ret ((),((),FO d.2.1.1 (d.1.1.foldl (fun s x=>BL x s) (d.2.1.2.1,(d.2.1.2.2.1,d.2.2.1.1))))))) .no
def OX:Lp:=bv [(5,aN kK yX)]
def ER {R:Type}(h6:List Int)(h7 h8 h9 h10:Int)(h11:Bool)(h12:List Int)(h13:Int)(next:List Int→Int→Int→Int→Int→Bool→List Int→Int→Option R)(out:aD kK.xs→Option R):Option R:=bif decide (h8<h7) then bif decide (0≤h8)&&decide (h8<(↑h6.length:Int)) then bif decide (h13=130048)&&decide (h12.length≤130048) then next (h6) (h7) (IntKind.i64.wrap (h8+1)) (h9) ((ac (h6.getD h8.toNat 0) 8 (h10,h11,h12)).1) ((ac (h6.getD h8.toNat 0) 8 (h10,h11,h12)).2.1) ((ac (h6.getD h8.toNat 0) 8 (h10,h11,h12)).2.2) (130048) else none else none else out (.ret ((),((),((h9,(h10,(h11,()))),((h12,(h13,())),())))))
def F5 (n:Nat)(h6:List Int)(h7 h8 h9 h10:Int)(h11:Bool)(h12:List Int)(h13:Int):Option (aD kK.xs):=gd tt Z8 dr OX 2 Tryz.f135 (cE Tryz.f135 0) n (kK.st.mk' ((h6,(h7,(h8,()))),((h9,(h10,(h11,()))),((h12,(h13,())),())))) (bL kK.xs)
theorem Zt (n:Nat)(h6:List Int)(h7 h8 h9 h10:Int)(h11:Bool)(h12:List Int)(h13:Int):F5 (n+1) h6 h7 h8 h9 h10 h11 h12 h13=ER h6 h7 h8 h9 h10 h11 h12 h13 (F5 n) some:=by kernel_rfl
theorem Yj {xs:List Int}(v:Int)(hl:xs.length≤maxLen):∀(k i:Nat) (s:bc),xs.length<i+k→i≤xs.length→s.2.2.length≤130048→
  F5 k xs (xs.length:Int) i v s.1 s.2.1 s.2.2 130048=some (.ret ((),((),FO v ((xs.drop i).foldl (fun s x=>BL x s) s)))):=by
 intro k
 induction k with
 |zero=>intro i s h;omega
 |succ k ih=>
  intro i s h1 h2 h3
  rw[Zt]
  unfold ER
  by_cases hi:i<xs.length
  ·refine (aa (decide_eq_true (show (i:Int)<(xs.length:Int) by omega)) _ _).trans ?_
   refine (aa (by simpa using hi) _ _).trans ?_
   simp only[Int.toNat_natCast,aH hi,bp hi hl]
   have g:(decide ((130048:Int)=130048)&&decide (s.2.2.length≤130048))=true:=by
    simpa using h3
   refine (aa g _ _).trans ?_
   rw[List.drop_eq_getElem_cons hi]
   exact ih (i+1) (BL xs[i] s) (by omega) (by omega) (Kz _ h3)
  ·refine (ab (by simp;omega) _ _).trans ?_
   rw[List.drop_of_length_le (by omega)]
   rfl
def NS (a0:List Int)(a1 a2:Int)(a3:Bool)(a4:List Int)(a5:Int):Option Aw.Res:=bif decide (16<(↑a0.length:Int)) then bif decide (a5=130048)&&decide (a4.length≤130048) then some (Out.ret ((),((),a1,(bt 9 (a2,a3,a4)).1,(bt 9 (a2,a3,a4)).2.1,()),((bt 9 (a2,a3,a4)).2.2,130048,()),())) else none else bif decide (a5=130048)&&decide (a4.length≤130048) then (yX ((a0,((↑a0.length:Int),(0,()))),((a1,((ac (IntKind.i32.wrap (↑a0.length:Int)) 4 (a2,a3,a4)).1,((ac (IntKind.i32.wrap (↑a0.length:Int)) 4 (a2,a3,a4)).2.1,()))),(((ac (IntKind.i32.wrap (↑a0.length:Int)) 4 (a2,a3,a4)).2.2,(130048,())),())))).run fun y=>match y with | .ret ((),((),(x27,x28,x29,()),(x30,x31,()),()))=>(some (Out.ret ((),((),x27,x28,x29,()),(x30,x31,()),()))) else none
theorem abv (a0:List Int)(a1 a2:Int)(a3:Bool)(a4:List Int)(a5:Int):Io.run tt Z8 dr OX Aw Tryz.f135 (((),a0,(),()),((),a1,a2,a3,()),(a4,a5,()),())=NS a0 a1 a2 a3 a4 a5:=by kernel_rfl
theorem acJ:HcOk prog 135 (ah Aw aax):=by
 refine aj (n:=400) hm (cs:=Tz) (.cons fq (.cons dg (.cons A5 .nil))) (lp:=OX) (fn:=Tryz.f135) (by kernel_rfl) (by kernel_rfl) (by kernel_rfl) Aw (.step (h0:=aN kK yX) (by kernel_rfl) (aw (n:=400) hm (cs:=Tz) (.cons fq (.cons dg (.cons A5 .nil))) (lp:=OX) (fn:=Tryz.f135) (.done (by kernel_rfl)) kK yX ?_) (.done (by kernel_rfl))) aax ?_
 ·rintro ⟨⟨(xs:List Int),(n:Int),(i:Int),⟨⟩⟩,⟨⟨(v:Int),(e:Int),(f:Bool),⟨⟩⟩,⟨(b:List Int),(m:Int),⟨⟩⟩,⟨⟩⟩⟩ y hw hy
  obtain ⟨hg,hy⟩:=Tr.guard hy
  simp only[Bool.and_eq_true,decide_eq_true_eq] at hg
  obtain ⟨rfl,rfl,rfl,h4⟩:=hg
  have h4:b.length≤130048:=h4
  have hl:xs.length≤maxLen:=hw.1.1.1
  refine ⟨xs.length+1,(Yj v hl (xs.length+1) 0 (e,(f,b)) (by omega) (by omega) h4).trans ?_⟩
  rw[← hy];rfl
 ·rintro ⟨⟨⟨⟩,(xs:List Int),⟨⟩,⟨⟩⟩,⟨⟨⟩,(v:Int),(e:Int),(f:Bool),⟨⟩⟩,⟨(b:List Int),(m:Int),⟨⟩⟩,⟨⟩⟩ out hw ho
  obtain ⟨hg,ho⟩:=Tr.guard ho
  obtain ⟨rfl,hb⟩:=bx (v:=v) (e:=e) (f:=f) hg
  cases ho
  refine (abv xs v e f b 130048).trans ?_
  unfold NS
  have g:(decide ((130048:Int)=130048)&&decide (b.length≤130048))=true:=by simpa using hb
  show _=some (Out.ret ((),ca v (br (BL) xs (e,f,b))))
  unfold br
  by_cases h:16<(xs.length:Int)
  ·rw[if_pos h]
   refine (aa (decide_eq_true h) _ _).trans ?_
   exact aa g _ _
  ·rw[if_neg h]
   refine (ab (decide_eq_false h) _ _).trans ?_
   refine (aa g _ _).trans ?_
   have hw32:IntKind.i32.wrap (xs.length:Int)=xs.length:=dd (by simp[ey,IntKind.min,IntKind.max,IntKind.signed,IntKind.bits];omega)
   rw[hw32]
   have c1:(decide ((0:Int)=0)&&(decide ((xs.length:Int)=(xs.length:Int))&&(decide ((130048:Int)=130048)&&decide ((ac xs.length 4 (e,f,b)).2.2.length≤130048))))=true:=by
    simpa using aE (s:=(e,f,b)) _ 4 hb
   have e1:yX ((xs,((xs.length:Int),(0,()))),((v,((ac xs.length 4 (e,f,b)).1,((ac xs.length 4 (e,f,b)).2.1,()))),(((ac xs.length 4 (e,f,b)).2.2,(130048,())),())))=
     .ite true (.ret (.ret ((),((),FO v (xs.foldl (fun s x=>BL x s) (ac xs.length 4 (e,f,b))))))) .no:=congrArg (fun c=>Tr.ite c _ _) c1
   rw[e1]
   rfl
abbrev Au:Io:=⟨[.ptr 0 0,.fnc 156 true [0]],pC,[],[.dat (.sl 2 (.int .i64)) false false],none⟩
def aav (d:Au.In):Tr Au.Res:=.ite (av d.2.2.1.1 d.2.2.1.2.1) (.ret (.ret (((be d.2.2.1.1 (eT d.2)).1,()),dm d.2.1.2.1 d.2.2.1.1 (be d.2.2.1.1 (eT d.2)).2))) .no
abbrev Tq:List (Nat×Hc):=[(143,ah fX nh),(156,ah oq Ho)]
def Z7:Hd:=bA Tq
abbrev iW:Lo:=⟨⟨[.one (.ptr 0 0),.one (.fnp 156 true [0]),.any,.any,.any,.one (.hol (.int IntKind.i32)),.one (.onl 2 (Ty.int IntKind.i64) 17),.one (.hol (.int IntKind.i32)),.any,.any,.any,.any,.any,.any,.any,.any,.any,.any,.any,.any,.any,.any,.any,.any,.any,.any,.any,.any,.any,.any,.any,.any,.any,.any,.any,.any,.any,.any,.any,.any,.any,.any,.any,.any,.any,.any],[some [.ptr 1 0,.hol (.int IntKind.i64),.hol (.int IntKind.i64)],some [.hol (.sl 5 (Ty.int IntKind.u8)),.hol (.int IntKind.i64)]]⟩,[(.exit 1,⟨(bQ (bh (.one (.onl 2 (Ty.int IntKind.i64) 17)::.any::ai (ai (bQ (bh [])))))),[some [.ptr 1 0,.hol (.int IntKind.i64),.hol (.int IntKind.i64)],some [.hol (.sl 5 (Ty.int IntKind.u8)),.hol (.int IntKind.i64)]]⟩)]⟩
def gX (d:iW.st.den):Tr (aD iW.xs):=
 .ite (decide (d.1.2.2.1=0)&&(decide (d.1.2.1.length=0)&&(av d.2.2.1.1 d.2.2.1.2.1&&(decide (d.1.1≤(16:Int)) || decide (d.2.1.2.1≠0))))) (.ret (.ret ((),(((er (ae .i64 8 d.2.2.1.1) d.1.1.toNat (d.2.1.2.1,d.2.2.1.2.1)).1,()),FL d.2.1.1 d.2.2.1.1 (er (ae .i64 8 d.2.2.1.1) d.1.1.toNat (d.2.1.2.1,d.2.2.1.2.1)).2)))) .no
def OP:Lp:=bv [(10,aN iW gX)]
def Ca {R:Type}(h4:Int)(h5:List Int)(h6 h7 h8:Int)(h9:List Int)(h10:Int)(next:Int→List Int→Int→Int→Int→List Int→Int→Option R)(out:aD iW.xs→Option R):Option R:=bif decide (h6<h4) then bif h8 == 0 then bif av h9 h10 then bif decide (h5.length+1≤4294967296) then next (h4) (h5++[(ae IntKind.i64 8 h9 (h8,h10)).1]) (IntKind.i32.wrap (h6+1)) (h7) ((ae IntKind.i64 8 h9 (h8,h10)).2.1) (h9) ((ae IntKind.i64 8 h9 (h8,h10)).2.2) else none else none else out (.ret ((),((h5,()),((h7,(h8,())),((h9,(h10,())),()))))) else out (.ret ((),((h5,()),((h7,(h8,())),((h9,(h10,())),())))))
def AC (n:Nat)(h4:Int)(h5:List Int)(h6 h7 h8:Int)(h9:List Int)(h10:Int):Option (aD iW.xs):=gd tt Z7 dr OP 2 Tryz.f179 (cE Tryz.f179 0) n (iW.st.mk' ((h4,(h5,(h6,()))),((h7,(h8,())),((h9,(h10,())),())))) (bL iW.xs)
theorem Wz (n:Nat)(h4:Int)(h5:List Int)(h6 h7 h8:Int)(h9:List Int)(h10:Int):AC (n+1) h4 h5 h6 h7 h8 h9 h10=Ca h4 h5 h6 h7 h8 h9 h10 (AC n) some:=by kernel_rfl
theorem Yi (n v:Int)(b:List Int):∀(k j:Nat) (xs:List Int) (s:aQ),n.toNat<j+k→j≤n.toNat→xs.length=j→av b s.2=true→(s.1=0→n≤16)→
  AC k n xs j v s.1 b s.2=some (.ret ((),((xs++(er (ae .i64 8 b) (n.toNat - j) s).1,()),FL v b (er (ae .i64 8 b) (n.toNat - j) s).2))):=by
 intro k
 induction k with
 |zero=>intro j xs s h;omega
 |succ k ih=>
  intro j xs s h1 h2 h3 h4 h5
  rw[Wz]
  unfold Ca
  by_cases hj:(j:Int)<n
  ·refine (aa (by simpa using hj) _ _).trans ?_
   obtain ⟨m,hm⟩:∃m,n.toNat - j=m+1:=⟨n.toNat - j - 1,by omega⟩
   rw[hm]
   by_cases he:s.1=0
   ·refine (aa (by simpa using he) _ _).trans ?_
    have hn:=h5 he
    refine (aa h4 _ _).trans ?_
    refine (aa (decide_eq_true (show xs.length+1≤4294967296 by omega)) _ _).trans ?_
    have hw:IntKind.i32.wrap ((j:Int)+1)=((j+1:Nat):Int):=dd (by simp[ey,IntKind.min,IntKind.max,IntKind.signed,IntKind.bits];omega)
    rw[hw]
    refine (ih (j+1) (xs++[(ae .i64 8 b s).1]) (ae .i64 8 b s).2 (by omega) (by omega) (by simp[h3]) (bJ .i64 8 h4) (fun _=>hn)).trans ?_
    rw[show n.toNat - (j+1)=m by omega,er,if_pos he]
    simp
   ·refine (ab (by simpa using he) _ _).trans ?_
    rw[er,if_neg he]
    simp
  ·refine (ab (by simpa using hj) _ _).trans ?_
   rw[show n.toNat - j=0 by omega,er]
   simp
def NQ (a0 a1:Int)(a2:List Int)(a3:Int):Option Au.Res:=bif av a2 a3 then bif (ae IntKind.i32 4 a2 (a1,a3)).2.1 != 0 then (gX (((ae IntKind.i32 4 a2 (a1,a3)).1,([],(0,()))),((a0,((ae IntKind.i32 4 a2 (a1,a3)).2.1,())),((a2,((ae IntKind.i32 4 a2 (a1,a3)).2.2,())),())))).run fun y=>match y with | .ret ((),((x28,()),(x29,x30,()),(x31,x32,()),()))=>(some (Out.ret ((x28,()),((),x29,x30,()),(x31,x32,()),()))) else bif decide ((ae IntKind.i32 4 a2 (a1,a3)).1<0) then (gX (((ae IntKind.i32 4 a2 (a1,a3)).1,([],(0,()))),((a0,(5,())),((a2,((ae IntKind.i32 4 a2 (a1,a3)).2.2,())),())))).run fun y=>match y with | .ret ((),((x40,()),(x41,x42,()),(x43,x44,()),()))=>(some (Out.ret ((x40,()),((),x41,x42,()),(x43,x44,()),()))) else bif decide (16<(ae IntKind.i32 4 a2 (a1,a3)).1) then (gX (((ae IntKind.i32 4 a2 (a1,a3)).1,([],(0,()))),((a0,(9,())),((a2,((ae IntKind.i32 4 a2 (a1,a3)).2.2,())),())))).run fun y=>match y with | .ret ((),((x52,()),(x53,x54,()),(x55,x56,()),()))=>(some (Out.ret ((x52,()),((),x53,x54,()),(x55,x56,()),()))) else (gX (((ae IntKind.i32 4 a2 (a1,a3)).1,([],(0,()))),((a0,((ae IntKind.i32 4 a2 (a1,a3)).2.1,())),((a2,((ae IntKind.i32 4 a2 (a1,a3)).2.2,())),())))).run fun y=>match y with | .ret ((),((x64,()),(x65,x66,()),(x67,x68,()),()))=>(some (Out.ret ((x64,()),((),x65,x66,()),(x67,x68,()),()))) else none
theorem abs (a0 a1:Int)(a2:List Int)(a3:Int):Io.run tt Z7 dr OP Au Tryz.f179 (((),(),()),((),a0,a1,()),(a2,a3,()),())=NQ a0 a1 a2 a3:=by kernel_rfl
theorem acH:HcOk prog 179 (ah Au aav):=by
 refine aj (n:=400) hm (cs:=Tq) (.cons km (.cons Gy .nil)) (lp:=OP) (fn:=Tryz.f179) (by kernel_rfl) (by kernel_rfl) (by kernel_rfl) Au (.step (h0:=aN iW gX) (by kernel_rfl) (aw (n:=400) hm (cs:=Tq) (.cons km (.cons Gy .nil)) (lp:=OP) (fn:=Tryz.f179) (.done (by kernel_rfl)) iW gX ?_) (.done (by kernel_rfl))) aav ?_
 ·rintro ⟨⟨(n:Int),(xs:List Int),(i:Int),⟨⟩⟩,⟨⟨(v:Int),(e:Int),⟨⟩⟩,⟨(b:List Int),(p:Int),⟨⟩⟩,⟨⟩⟩⟩ y hw hy
  obtain ⟨hg,hy⟩:=Tr.guard hy
  simp only[Bool.and_eq_true,decide_eq_true_eq,Bool.or_eq_true] at hg
  obtain ⟨h1,h2,h3,h4⟩:=hg
  have h1:i=0:=h1
  have h2:xs=[]:=List.eq_nil_of_length_eq_zero h2
  have h3:av b p=true:=h3
  have h4:n≤16∨e≠0:=h4
  subst h1
  subst h2
  refine ⟨n.toNat+1,(Yi n v b (n.toNat+1) 0 [] (e,p) (by omega) (by omega) rfl h3 (fun he=>h4.resolve_right (fun h=>h he))).trans ?_⟩
  rw[← hy];rfl
 ·rintro ⟨⟨⟨⟩,⟨⟩,⟨⟩⟩,⟨⟨⟩,(v:Int),(e:Int),⟨⟩⟩,⟨(b:List Int),(p:Int),⟨⟩⟩,⟨⟩⟩ out hw ho
  obtain ⟨hg,ho⟩:=Tr.guard ho
  have hg:av b p=true:=hg
  cases ho
  refine (abs v e b p).trans ?_
  unfold NQ
  show _=some (Out.ret (((be b (e,p)).1,()),dm v b (be b (e,p)).2))
  unfold be kp
  refine (aa hg _ _).trans ?_
  have hr:av b (ae .i32 4 b (e,p)).2.2=true:=bJ .i32 4 (s:=(e,p)) hg
  generalize ae .i32 4 b (e,p)=r at hr ⊢
  obtain ⟨n,e1,q⟩:=r
  have hr:av b q=true:=hr
  have key:∀e':Int,(e'=0→n≤16)→gX ((n,([],(0,()))),((v,(e',())),((b,(q,())),())))=.ite true (.ret (.ret ((),(((er (ae .i64 8 b) n.toNat (e',q)).1,()),FL v b (er (ae .i64 8 b) n.toNat (e',q)).2)))) .no:=by
   intro e' he
   refine congrArg (fun c=>Tr.ite c _ _) ?_
   show (decide ((0:Int)=0)&&(decide (([]:List Int).length=0)&&(av b q&&(decide (n≤16) || decide (e'≠0)))))=true
   rw[hr]
   by_cases h:e'=0
   ·simp[he h]
   ·simp[h]
  unfold qr
  show (bif e1 != 0 then _ else _)=_
  by_cases h1:e1=0
  ·refine (ab (by simpa using h1) _ _).trans ?_
   show (bif decide (n<0) then _ else _)=_
   rw[if_pos h1]
   by_cases h2:n<0
   ·refine (aa (by simpa using h2) _ _).trans ?_
    show (gX ((n,([],(0,()))),((v,(5,())),((b,(q,())),())))).run _=_
    rw[key 5 (by omega),if_pos h2]
    rfl
   ·refine (ab (by simpa using h2) _ _).trans ?_
    show (bif decide (16<n) then _ else _)=_
    rw[if_neg h2]
    by_cases h3:16<n
    ·refine (aa (by simpa using h3) _ _).trans ?_
     show (gX ((n,([],(0,()))),((v,(9,())),((b,(q,())),())))).run _=_
     rw[key 9 (by omega),if_pos h3]
     rfl
    ·refine (ab (by simpa using h3) _ _).trans ?_
     show (gX ((n,([],(0,()))),((v,(e1,())),((b,(q,())),())))).run _=_
     rw[key e1 (by omega),if_neg h3]
     rfl
  ·refine (aa (by simpa using h1) _ _).trans ?_
   show (gX ((n,([],(0,()))),((v,(e1,())),((b,(q,())),())))).run _=_
   rw[key e1 (fun h=>absurd h h1),if_neg h1]
   rfl
abbrev aW:Ty:=.prod (.int .i32) (.prod (.int .i16) (.prod (.sl 2 (.int .i64)) (.prod (.int .i64) (.prod (.int .i64) (.prod (.int .i32) .unit)))))
abbrev al:Ty:=.prod .str (.prod (.sl 233 aW) .unit)
abbrev c6:Ty:=.prod (.int .i32) (.prod (.sl 230 al) .unit)
def jf (v:Int)(p:aW.den)(s:bc):bc:=cV v 3 3 p.2.2.2.2.2.1 4 (cV v 1 3 p.2.2.2.2.1 8 (cV v 1 3 p.2.2.2.1 8 (jX v 0 0 p.2.2.1 (ac p.2.1 2 (ac p.1 4 (s))))))
theorem EO {s:bc}(v:Int)(p:aW.den)(h:s.2.2.length≤130048):(jf v p s).2.2.length≤130048:=
 kZ _ _ _ _ _ (kZ _ _ _ _ _ (kZ _ _ _ _ _ (M3 _ _ _ _ (aE _ _ (aE _ _ (h))))))
abbrev ly:Io:=⟨[.dat aW true false,.ptr 0 0],uB,[],[],none⟩
def E8 (d:ly.In):Tr ly.Res:=.ite (fQ d.2.2) (.ret (.ret ((),iN d.2.2.1.2.1 (jf d.2.2.1.2.1 d.1.1 (fR d.2.2))))) .no
abbrev Im:List (Nat×Hc):=[(97,ah m1 CJ),(98,ah dn iw),(111,ah m2 CK),(135,ah Aw aax),(95,ah jp tw)]
def Uc:Hd:=bA Im
def Jn:Lp:=bv []
def zC (a0 a1:Int)(a2:List Int)(a3 a4 a5 a6 a7:Int)(a8:Bool)(a9:List Int)(a10:Int):Option ly.Res:=bif decide (a10=130048)&&decide (a9.length≤130048) then bif decide (130048=130048)&&decide ((ac a0 4 (a7,a8,a9)).2.2.length≤130048) then bif decide (130048=130048)&&decide ((ac a1 2 (ac a0 4 (a7,a8,a9))).2.2.length≤130048) then bif decide (0≤a6)&&decide (a6≤0) then bif decide (130048=130048)&&decide ((ac a1 2 (ac a0 4 (a7,a8,a9))).2.2.length≤130048) then bif decide (130048=130048)&&decide ((fL a2 (ac a1 2 (ac a0 4 (a7,a8,a9)))).2.2.length≤130048) then bif decide (1≤a6)&&decide (a6≤3) then bif decide (130048=130048)&&decide ((fL a2 (ac a1 2 (ac a0 4 (a7,a8,a9)))).2.2.length≤130048) then bif decide (130048=130048)&&decide ((ac a3 8 (fL a2 (ac a1 2 (ac a0 4 (a7,a8,a9))))).2.2.length≤130048) then bif decide (130048=130048)&&decide ((ac a4 8 (ac a3 8 (fL a2 (ac a1 2 (ac a0 4 (a7,a8,a9)))))).2.2.length≤130048) then bif decide (3≤a6)&&decide (a6≤3) then bif decide (130048=130048)&&decide ((ac a4 8 (ac a3 8 (fL a2 (ac a1 2 (ac a0 4 (a7,a8,a9)))))).2.2.length≤130048) then some (Out.ret ((),((),()),((),a6,(ac a5 4 (ac a4 8 (ac a3 8 (fL a2 (ac a1 2 (ac a0 4 (a7,a8,a9))))))).1,(ac a5 4 (ac a4 8 (ac a3 8 (fL a2 (ac a1 2 (ac a0 4 (a7,a8,a9))))))).2.1,()),((ac a5 4 (ac a4 8 (ac a3 8 (fL a2 (ac a1 2 (ac a0 4 (a7,a8,a9))))))).2.2,130048,()),())) else none else some (Out.ret ((),((),()),((),a6,(ac a4 8 (ac a3 8 (fL a2 (ac a1 2 (ac a0 4 (a7,a8,a9)))))).1,(ac a4 8 (ac a3 8 (fL a2 (ac a1 2 (ac a0 4 (a7,a8,a9)))))).2.1,()),((ac a4 8 (ac a3 8 (fL a2 (ac a1 2 (ac a0 4 (a7,a8,a9)))))).2.2,130048,()),())) else none else none else none else bif decide (130048=130048)&&decide ((fL a2 (ac a1 2 (ac a0 4 (a7,a8,a9)))).2.2.length≤130048) then bif decide (3≤a6)&&decide (a6≤3) then bif decide (130048=130048)&&decide ((fL a2 (ac a1 2 (ac a0 4 (a7,a8,a9)))).2.2.length≤130048) then some (Out.ret ((),((),()),((),a6,(ac a5 4 (fL a2 (ac a1 2 (ac a0 4 (a7,a8,a9))))).1,(ac a5 4 (fL a2 (ac a1 2 (ac a0 4 (a7,a8,a9))))).2.1,()),((ac a5 4 (fL a2 (ac a1 2 (ac a0 4 (a7,a8,a9))))).2.2,130048,()),())) else none else some (Out.ret ((),((),()),((),a6,(fL a2 (ac a1 2 (ac a0 4 (a7,a8,a9)))).1,(fL a2 (ac a1 2 (ac a0 4 (a7,a8,a9)))).2.1,()),((fL a2 (ac a1 2 (ac a0 4 (a7,a8,a9)))).2.2,130048,()),())) else none else none else none else bif decide (130048=130048)&&decide ((ac a1 2 (ac a0 4 (a7,a8,a9))).2.2.length≤130048) then bif decide (1≤a6)&&decide (a6≤3) then bif decide (130048=130048)&&decide ((ac a1 2 (ac a0 4 (a7,a8,a9))).2.2.length≤130048) then bif decide (130048=130048)&&decide ((ac a3 8 (ac a1 2 (ac a0 4 (a7,a8,a9)))).2.2.length≤130048) then bif decide (130048=130048)&&decide ((ac a4 8 (ac a3 8 (ac a1 2 (ac a0 4 (a7,a8,a9))))).2.2.length≤130048) then bif decide (3≤a6)&&decide (a6≤3) then bif decide (130048=130048)&&decide ((ac a4 8 (ac a3 8 (ac a1 2 (ac a0 4 (a7,a8,a9))))).2.2.length≤130048) then some (Out.ret ((),((),()),((),a6,(ac a5 4 (ac a4 8 (ac a3 8 (ac a1 2 (ac a0 4 (a7,a8,a9)))))).1,(ac a5 4 (ac a4 8 (ac a3 8 (ac a1 2 (ac a0 4 (a7,a8,a9)))))).2.1,()),((ac a5 4 (ac a4 8 (ac a3 8 (ac a1 2 (ac a0 4 (a7,a8,a9)))))).2.2,130048,()),())) else none else some (Out.ret ((),((),()),((),a6,(ac a4 8 (ac a3 8 (ac a1 2 (ac a0 4 (a7,a8,a9))))).1,(ac a4 8 (ac a3 8 (ac a1 2 (ac a0 4 (a7,a8,a9))))).2.1,()),((ac a4 8 (ac a3 8 (ac a1 2 (ac a0 4 (a7,a8,a9))))).2.2,130048,()),())) else none else none else none else bif decide (130048=130048)&&decide ((ac a1 2 (ac a0 4 (a7,a8,a9))).2.2.length≤130048) then bif decide (3≤a6)&&decide (a6≤3) then bif decide (130048=130048)&&decide ((ac a1 2 (ac a0 4 (a7,a8,a9))).2.2.length≤130048) then some (Out.ret ((),((),()),((),a6,(ac a5 4 (ac a1 2 (ac a0 4 (a7,a8,a9)))).1,(ac a5 4 (ac a1 2 (ac a0 4 (a7,a8,a9)))).2.1,()),((ac a5 4 (ac a1 2 (ac a0 4 (a7,a8,a9)))).2.2,130048,()),())) else none else some (Out.ret ((),((),()),((),a6,(ac a1 2 (ac a0 4 (a7,a8,a9))).1,(ac a1 2 (ac a0 4 (a7,a8,a9))).2.1,()),((ac a1 2 (ac a0 4 (a7,a8,a9))).2.2,130048,()),())) else none else none else none else none else none
theorem Q9 (a0 a1:Int)(a2:List Int)(a3 a4 a5 a6 a7:Int)(a8:Bool)(a9:List Int)(a10:Int):Io.run tt Uc dr Jn ly Tryz.f134 (((a0,a1,a2,a3,a4,a5,()),(),()),((),()),((),a6,a7,a8,()),(a9,a10,()),())=zC a0 a1 a2 a3 a4 a5 a6 a7 a8 a9 a10:=by kernel_rfl
theorem Vt:HcOk prog 134 (ah ly E8):=by
 refine aj (n:=400) hm (cs:=Im) (.cons GB (.cons dg (.cons A5 (.cons acJ (.cons jJ .nil))))) (lp:=Jn) (fn:=Tryz.f134) (by kernel_rfl) (by kernel_rfl) (by kernel_rfl) ly (.done (by kernel_rfl)) E8 ?_
 rintro ⟨⟨⟨(ix:Int),(cd:Int),(of:List Int),(ti:Int),(fo:Int),(ep:Int),⟨⟩⟩,⟨⟩,⟨⟩⟩,⟨⟨⟩,⟨⟩⟩,⟨⟨⟩,(v:Int),(e:Int),(f:Bool),⟨⟩⟩,⟨(b:List Int),(m:Int),⟨⟩⟩,⟨⟩⟩ out hw ho
 obtain ⟨hg,ho⟩:=Tr.guard ho
 obtain ⟨rfl,hb⟩:=bx (v:=v) (e:=e) (f:=f) hg
 cases ho
 refine (Q9 ix cd of ti fo ep v e f b 130048).trans ?_
 unfold zC
 have hg:∀s:bc,s.2.2.length≤130048→(decide ((130048:Int)=130048)&&decide (s.2.2.length≤130048))=true:=fun s h=>by simpa using h
 have hb:(e,(f,b)).2.2.length≤130048:=hb
 show _=some (Out.ret ((),iN v (jf v (ix,(cd,(of,(ti,(fo,(ep,())))))) (e,f,b))))
 refine (aa (hg _ hb) _ _).trans ?_
 have l0_1:=aE ix 4 hb
 refine (aa (hg _ l0_1) _ _).trans ?_
 have l1_1:=aE cd 2 l0_1
 refine (aa (hg _ l1_1) _ _).trans ?_
 by_cases h2_1:0≤v∧v≤0
 ·refine (aa (by simpa using h2_1) _ _).trans ?_
  refine (aa (hg _ l1_1) _ _).trans ?_
  have l2_1:=KD of l1_1
  refine (aa (hg _ l2_1) _ _).trans ?_
  by_cases h3_2:1≤v∧v≤3
  ·refine (aa (by simpa using h3_2) _ _).trans ?_
   refine (aa (hg _ l2_1) _ _).trans ?_
   have l3_2:=aE ti 8 l2_1
   refine (aa (hg _ l3_2) _ _).trans ?_
   have l4_3:=aE fo 8 l3_2
   refine (aa (hg _ l4_3) _ _).trans ?_
   by_cases h5_3:3≤v∧v≤3
   ·refine (aa (by simpa using h5_3) _ _).trans ?_
    refine (aa (hg _ l4_3) _ _).trans ?_
    have l5_3:=aE ep 4 l4_3
    simp only[jf,lP h2_1,bG h3_2,bG h3_2,bG h5_3]
   ·refine (ab (Bool.eq_false_iff.2 fun h'=>h5_3 (by simpa using h')) _ _).trans ?_
    simp only[jf,lP h2_1,bG h3_2,bG h3_2,bk h5_3]
  ·refine (ab (Bool.eq_false_iff.2 fun h'=>h3_2 (by simpa using h')) _ _).trans ?_
   refine (aa (hg _ l2_1) _ _).trans ?_
   by_cases h5_3:3≤v∧v≤3
   ·refine (aa (by simpa using h5_3) _ _).trans ?_
    refine (aa (hg _ l2_1) _ _).trans ?_
    have l5_3:=aE ep 4 l2_1
    simp only[jf,lP h2_1,bk h3_2,bk h3_2,bG h5_3]
   ·refine (ab (Bool.eq_false_iff.2 fun h'=>h5_3 (by simpa using h')) _ _).trans ?_
    simp only[jf,lP h2_1,bk h3_2,bk h3_2,bk h5_3]
 ·refine (ab (Bool.eq_false_iff.2 fun h'=>h2_1 (by simpa using h')) _ _).trans ?_
  refine (aa (hg _ l1_1) _ _).trans ?_
  by_cases h3_2:1≤v∧v≤3
  ·refine (aa (by simpa using h3_2) _ _).trans ?_
   refine (aa (hg _ l1_1) _ _).trans ?_
   have l3_2:=aE ti 8 l1_1
   refine (aa (hg _ l3_2) _ _).trans ?_
   have l4_3:=aE fo 8 l3_2
   refine (aa (hg _ l4_3) _ _).trans ?_
   by_cases h5_3:3≤v∧v≤3
   ·refine (aa (by simpa using h5_3) _ _).trans ?_
    refine (aa (hg _ l4_3) _ _).trans ?_
    have l5_3:=aE ep 4 l4_3
    simp only[jf,kh h2_1,bG h3_2,bG h3_2,bG h5_3]
   ·refine (ab (Bool.eq_false_iff.2 fun h'=>h5_3 (by simpa using h')) _ _).trans ?_
    simp only[jf,kh h2_1,bG h3_2,bG h3_2,bk h5_3]
  ·refine (ab (Bool.eq_false_iff.2 fun h'=>h3_2 (by simpa using h')) _ _).trans ?_
   refine (aa (hg _ l1_1) _ _).trans ?_
   by_cases h5_3:3≤v∧v≤3
   ·refine (aa (by simpa using h5_3) _ _).trans ?_
    refine (aa (hg _ l1_1) _ _).trans ?_
    have l5_3:=aE ep 4 l1_1
    simp only[jf,kh h2_1,bk h3_2,bk h3_2,bG h5_3]
   ·refine (ab (Bool.eq_false_iff.2 fun h'=>h5_3 (by simpa using h')) _ _).trans ?_
    simp only[jf,kh h2_1,bk h3_2,bk h3_2,bk h5_3]
def rL (v:Int)(xs:List aW.den)(s:bc):bc:=br (jf v) xs s
abbrev q7:Io:=⟨[.ptr 0 0,.dat (.sl 233 aW) false false,.fnc 134 false [2]],pr,[],[],none⟩
def Hr (d:q7.In):Tr q7.Res:=.ite (mW d.2) (.ret (.ret ((),gZ d.2.1.2.1 (rL d.2.1.2.1 d.1.2.1 (mX d.2))))) .no
abbrev PU:List (Nat×Hc):=[(194,ah cK gN),(98,ah dn iw),(134,ah ly E8)]
theorem QD:HcOk prog 133 (ah q7 Hr):=
 q9 (one:=jf) (sps:=rL) (fun _ _ _=>rfl) (fun v _ _ h3=>EO v _ h3) (cs:=PU) (.cons fq (.cons dg (.cons Vt .nil))) (fn:=Tryz.f133) (by kernel_rfl) (by kernel_rfl) (by kernel_rfl) (by kernel_rfl) (by kernel_rfl) (by kernel_rfl) (by intros;kernel_rfl) (by intros;kernel_rfl)
def B6 (v:Int)(t:al.den)(s:bc):bc:=rL v t.2.1 (bH t.1 s)
abbrev ju:Io:=⟨[.dat al true false,.ptr 0 0],uB,[],[],none⟩
def y6 (d:ju.In):Tr ju.Res:=.ite (fQ d.2.2) (.ret (.ret ((),iN d.2.2.1.2.1 (B6 d.2.2.1.2.1 d.1.1 (fR d.2.2))))) .no
abbrev DF:List (Nat×Hc):=[(101,ah lu yY),(133,ah q7 Hr)]
def P6:Hd:=bA DF
def D8:Lp:=bv []
def w5 (a0:List Int)(a1:List aW.den)(a2 a3:Int)(a4:Bool)(a5:List Int)(a6:Int):Option ju.Res:=bif decide (a6=130048)&&decide (a5.length≤130048) then bif decide (130048=130048)&&decide ((bH a0 (a3,a4,a5)).2.2.length≤130048) then some (Out.ret ((),((),()),((),a2,(rL a2 a1 (bH a0 (a3,a4,a5))).1,(rL a2 a1 (bH a0 (a3,a4,a5))).2.1,()),((rL a2 a1 (bH a0 (a3,a4,a5))).2.2,130048,()),())) else none else none
theorem Mx (a0:List Int)(a1:List aW.den)(a2 a3:Int)(a4:Bool)(a5:List Int)(a6:Int):Io.run tt P6 dr D8 ju Tryz.f132 (((a0,a1,()),(),()),((),()),((),a2,a3,a4,()),(a5,a6,()),())=w5 a0 a1 a2 a3 a4 a5 a6:=by kernel_rfl
theorem QE:HcOk prog 132 (ah ju y6):=by
 refine aj (n:=400) hm (cs:=DF) (.cons A6 (.cons QD .nil)) (lp:=D8) (fn:=Tryz.f132) (by kernel_rfl) (by kernel_rfl) (by kernel_rfl) ju (.done (by kernel_rfl)) y6 ?_
 rintro ⟨⟨⟨(t:List Int),(ps:List aW.den),⟨⟩⟩,⟨⟩,⟨⟩⟩,⟨⟨⟩,⟨⟩⟩,⟨⟨⟩,(v:Int),(e:Int),(f:Bool),⟨⟩⟩,⟨(b:List Int),(m:Int),⟨⟩⟩,⟨⟩⟩ out hw ho
 obtain ⟨hg,ho⟩:=Tr.guard ho
 obtain ⟨rfl,hb⟩:=bx (v:=v) (e:=e) (f:=f) hg
 cases ho
 refine (Mx t ps v e f b 130048).trans ?_
 unfold w5
 refine (aa (by simpa using hb) _ _).trans ?_
 refine (aa (by simpa using gH (s:=(e,f,b)) t hb) _ _).trans ?_
 rfl
theorem wM {s:bc}(v:Int)(t:al.den)(h:s.2.2.length≤130048):(B6 v t s).2.2.length≤130048:=cg (fun x s=>EO v x) _ (gH _ h)
def kP (v:Int)(xs:List al.den)(s:bc):bc:=br (B6 v) xs s
abbrev oG:Io:=⟨[.ptr 0 0,.dat (.sl 230 al) false false,.fnc 132 false [2]],pr,[],[],none⟩
def CO (d:oG.In):Tr oG.Res:=.ite (mW d.2) (.ret (.ret ((),gZ d.2.1.2.1 (kP d.2.1.2.1 d.1.2.1 (mX d.2))))) .no
abbrev LF:List (Nat×Hc):=[(194,ah cK gN),(98,ah dn iw),(132,ah ju y6)]
theorem s4:HcOk prog 131 (ah oG CO):=
 q9 (one:=B6) (sps:=kP) (fun _ _ _=>rfl) (fun v _ _ h3=>wM v _ h3) (cs:=LF) (.cons fq (.cons dg (.cons QE .nil))) (fn:=Tryz.f131) (by kernel_rfl) (by kernel_rfl) (by kernel_rfl) (by kernel_rfl) (by kernel_rfl) (by kernel_rfl) (by intros;kernel_rfl) (by intros;kernel_rfl)
def jO (v:Int)(p:aW.den)(s:bc):bc:=ar v (p.2.2.2.2.2.1 == 0) 3 3 (ar v ((p.2.2.2.1 == 0)&&(p.2.2.2.2.1 == 0)) 1 3 (ar v ((p.2.2.1.length:Int) == 0) 0 0 s))
abbrev jt:Io:=⟨[.ptr 0 0,.dat aW true false],rP,[],[],none⟩
def y5 (d:jt.In):Tr jt.Res:=.ite (fQ d.2) (.ret (.ret ((),ca d.2.1.2.1 (jO d.2.1.2.1 d.1.2.1 (fR d.2))))) .no
abbrev DE:List (Nat×Hc):=[(94,ah fY nN)]
def P5:Hd:=bA DE
def D7:Lp:=bv []
def w4 (a0 a1:Int)(a2:List Int)(a3 a4 a5 a6 a7:Int)(a8:Bool)(a9:List Int)(a10:Int):Option jt.Res:=bif decide (a10=130048)&&decide (a9.length≤130048) then bif a3 == 0 then bif decide (130048=130048)&&decide ((ar a6 ((↑a2.length:Int) == 0) 0 0 (a7,a8,a9)).2.2.length≤130048) then bif decide (130048=130048)&&decide ((ar a6 (a4 == 0) 1 3 (ar a6 ((↑a2.length:Int) == 0) 0 0 (a7,a8,a9))).2.2.length≤130048) then some (Out.ret ((),((),a6,(ar a6 (a5 == 0) 3 3 (ar a6 (a4 == 0) 1 3 (ar a6 ((↑a2.length:Int) == 0) 0 0 (a7,a8,a9)))).1,(ar a6 (a5 == 0) 3 3 (ar a6 (a4 == 0) 1 3 (ar a6 ((↑a2.length:Int) == 0) 0 0 (a7,a8,a9)))).2.1,()),((ar a6 (a5 == 0) 3 3 (ar a6 (a4 == 0) 1 3 (ar a6 ((↑a2.length:Int) == 0) 0 0 (a7,a8,a9)))).2.2,130048,()),())) else none else none else bif decide (130048=130048)&&decide ((ar a6 ((↑a2.length:Int) == 0) 0 0 (a7,a8,a9)).2.2.length≤130048) then bif decide (130048=130048)&&decide ((ar a6 false 1 3 (ar a6 ((↑a2.length:Int) == 0) 0 0 (a7,a8,a9))).2.2.length≤130048) then some (Out.ret ((),((),a6,(ar a6 (a5 == 0) 3 3 (ar a6 false 1 3 (ar a6 ((↑a2.length:Int) == 0) 0 0 (a7,a8,a9)))).1,(ar a6 (a5 == 0) 3 3 (ar a6 false 1 3 (ar a6 ((↑a2.length:Int) == 0) 0 0 (a7,a8,a9)))).2.1,()),((ar a6 (a5 == 0) 3 3 (ar a6 false 1 3 (ar a6 ((↑a2.length:Int) == 0) 0 0 (a7,a8,a9)))).2.2,130048,()),())) else none else none else none
theorem Mw (a0 a1:Int)(a2:List Int)(a3 a4 a5 a6 a7:Int)(a8:Bool)(a9:List Int)(a10:Int):Io.run tt P5 dr D7 jt Tryz.f130 (((),(a0,a1,a2,a3,a4,a5,()),()),((),a6,a7,a8,()),(a9,a10,()),())=w4 a0 a1 a2 a3 a4 a5 a6 a7 a8 a9 a10:=by kernel_rfl
theorem wn:HcOk prog 130 (ah jt y5):=by
 refine aj (n:=400) hm (cs:=DE) (.cons f6 .nil) (lp:=D7) (fn:=Tryz.f130) (by kernel_rfl) (by kernel_rfl) (by kernel_rfl) jt (.done (by kernel_rfl)) y5 ?_
 rintro ⟨⟨⟨⟩,⟨(ix:Int),(cd:Int),(of:List Int),(ti:Int),(fo:Int),(ep:Int),⟨⟩⟩,⟨⟩⟩,⟨⟨⟩,(v:Int),(e:Int),(f:Bool),⟨⟩⟩,⟨(b:List Int),(m:Int),⟨⟩⟩,⟨⟩⟩ out hw ho
 obtain ⟨hg,ho⟩:=Tr.guard ho
 obtain ⟨rfl,hb⟩:=bx (v:=v) (e:=e) (f:=f) hg
 cases ho
 refine (Mw ix cd of ti fo ep v e f b 130048).trans ?_
 unfold w4
 have hg:∀s:bc,s.2.2.length≤130048→(decide ((130048:Int)=130048)&&decide (s.2.2.length≤130048))=true:=fun s h=>by simpa using h
 have hb:(e,(f,b)).2.2.length≤130048:=hb
 show _=some (Out.ret ((),ca v (jO v (ix,(cd,(of,(ti,(fo,(ep,())))))) (e,f,b))))
 refine (aa (hg _ hb) _ _).trans ?_
 have q1:=bV (s:=(e,f,b)) v ((of.length:Int) == 0) 0 0 hb
 by_cases ht:ti=0
 ·refine (aa (by simpa using ht) _ _).trans ?_
  refine (aa (hg _ q1) _ _).trans ?_
  have q2:=bV (s:=ar v ((of.length:Int) == 0) 0 0 (e,f,b)) v (fo == 0) 1 3 q1
  refine (aa (hg _ q2) _ _).trans ?_
  subst ht
  rfl
 ·have ht':(ti == 0)=false:=by simpa using ht
  refine (ab ht' _ _).trans ?_
  refine (aa (hg _ q1) _ _).trans ?_
  have q2:=bV (s:=ar v ((of.length:Int) == 0) 0 0 (e,f,b)) v false 1 3 q1
  refine (aa (hg _ q2) _ _).trans ?_
  unfold jO
  dsimp only
  rw[ht']
  rfl
def gL (v:Int)(ps:List aW.den)(s:bc):bc:=ps.foldl (fun s p=>jO v p s) s
def wL (v:Int)(ts:List al.den)(s:bc):bc:=ts.foldl (fun s t=>gL v t.2.1 s) s
def vd (v:Int)(m:c6.den):bc:=kP v m.2.1 (cV v 2 3 m.1 4 (wL v m.2.1 (ar v (m.1 == 0) 2 3 (aX v,(false,([]:List Int))))))
abbrev oF:Io:=⟨[dI,.dat c6 true false],[],[],[dO,dI],none⟩
def SG (d:oF.In):Tr oF.Res:=.ret (.ret ((bP (vd d.1.1 d.1.2.1),(bz (vd d.1.1 d.1.2.1),())),()))
abbrev yq:List (Nat×Hc):=[(93,ah m3 CL),(94,ah fY nN),(95,ah jp tw),(98,ah dn iw),(130,ah jt y5),(131,ah oG CO),(105,ah jT vz)]
def FW:Hd:=bA yq
abbrev gr:Lo:=⟨⟨(.any::bh (.one (.ptr 3 0)::bh (.one (.ptr 6 0)::dR (bQ (.one (.hol (.sl 230 al))::.one (.hol (.int IntKind.i64))::.one (.hol (.int IntKind.i64))::bQ (.one (.hol (.sl 233 aW))::.one (.hol (.int IntKind.i64))::.one (.hol (.int IntKind.i64))::.any::ai (bQ (bh [])))))))),[none,none,none,some [.hol (.int IntKind.i32),.hol (.sl 230 al)],none,none,some [.ptr 12 0],none,none,none,none,none,some [.ptr 13 0,.hol (.int IntKind.i64),.hol (.int IntKind.i64),.hol .bool],some [.onl 5 (Ty.int IntKind.u8) 6658,.hol (.int IntKind.i64)]]⟩,[(.exit 2,⟨(.any::bh (.one (.ptr 3 0)::bh (.one (.ptr 6 0)::dR (bQ (.one (.hol (.sl 230 al))::.one (.hol (.int IntKind.i64))::.one (.hol (.int IntKind.i64))::ai (dR (bQ (bh [])))))))),[none,none,none,some [.hol (.int IntKind.i32),.hol (.sl 230 al)],none,none,some [.ptr 12 0],none,none,none,none,none,some [.ptr 13 0,.hol (.int IntKind.i64),.hol (.int IntKind.i64),.hol .bool],some [.onl 5 (Ty.int IntKind.u8) 6658,.hol (.int IntKind.i64)]]⟩)]⟩
abbrev gq:Lo:=⟨⟨(.any::bh (.one (.ptr 3 0)::bh (.one (.ptr 6 0)::dR (bQ (.one (.hol (.sl 230 al))::.one (.hol (.int IntKind.i64))::.one (.hol (.int IntKind.i64))::ai (dR (bQ (bh [])))))))),[none,none,none,some [.hol (.int IntKind.i32),.hol (.sl 230 al)],none,none,some [.ptr 12 0],none,none,none,none,none,some [.ptr 13 0,.hol (.int IntKind.i64),.hol (.int IntKind.i64),.hol .bool],some [.onl 5 (Ty.int IntKind.u8) 6658,.hol (.int IntKind.i64)]]⟩,[(.exit 0,⟨(.any::bh (.one (.ptr 3 0)::bh (.one (.ptr 6 0)::.any::ai (ai (dR (bQ [])))))),[none,none,none,some [.hol (.int IntKind.i32),.hol (.sl 230 al)],none,none,some [.ptr 12 0],none,none,none,none,none,some [.ptr 13 0,.hol (.int IntKind.i64),.hol (.int IntKind.i64),.hol .bool],some [.onl 5 (Ty.int IntKind.u8) 6658,.hol (.int IntKind.i64)]]⟩)]⟩
abbrev wv (th':Int)(ts':List al.den)(v:Int)(s:bc):(Int×(List al.den×Unit))×(Unit×((Int×(Int×(Bool×Unit)))×((List Int×(Int×Unit))×Unit))):=((th',(ts',())),((),((v,(s.1,(s.2.1,()))),((s.2.2,(130048,())),()))))
def pL (d:gr.st.den):Tr (aD gr.xs):=
 .ite (decide (d.1.2.2.2.2.2.1=0)&&(decide (d.1.2.2.2.2.1=(d.1.2.2.2.1.length:Int))&&(decide (d.2.2.2.2.1.2.1=130048)&&decide (d.2.2.2.2.1.1.length≤130048)))) (.ret (.ret ((),((d.1.1,(d.1.2.1,(d.1.2.2.1,()))),wv d.2.1.1 d.2.1.2.1 d.2.2.2.1.1 (gL d.2.2.2.1.1 d.1.2.2.2.1 (d.2.2.2.1.2.1,(d.2.2.2.1.2.2.1,d.2.2.2.2.1.1))))))) .no
def pK (d:gq.st.den):Tr (aD gq.xs):=
 .ite (decide (d.1.2.2.1=0)&&(decide (d.1.2.1=(d.1.1.length:Int))&&(decide (d.2.2.2.2.1.2.1=130048)&&decide (d.2.2.2.2.1.1.length≤130048)))) (.ret (.ret ((),((),wv d.2.1.1 d.2.1.2.1 d.2.2.2.1.1 (wL d.2.2.2.1.1 d.1.1 (d.2.2.2.1.2.1,(d.2.2.2.1.2.2.1,d.2.2.2.2.1.1))))))) .no
def rm:Lp:=bv [(5,aN gq pK),(8,aN gr pL)]
def xN {R:Type}(h13:List al.den)(h14 h15:Int)(h16:List aW.den)(h17 h18 h19:Int)(h20:List al.den)(h21 h22:Int)(h23:Bool)(h24:List Int)(h25:Int)(next:List al.den→Int→Int→List aW.den→Int→Int→Int→List al.den→Int→Int→Bool→List Int→Int→Option R)(out:aD gr.xs→Option R):Option R:=bif decide (h18<h17) then bif decide (0≤h18)&&decide (h18<(↑h16.length:Int)) then bif decide (h25=130048)&&decide (h24.length≤130048) then next (h13) (h14) (h15) (h16) (h17) (IntKind.i64.wrap (h18+1)) (h19) (h20) (h21) ((jO h21 (h16.getD h18.toNat (0,0,[],0,0,0,())) (h22,h23,h24)).1) ((jO h21 (h16.getD h18.toNat (0,0,[],0,0,0,())) (h22,h23,h24)).2.1) ((jO h21 (h16.getD h18.toNat (0,0,[],0,0,0,())) (h22,h23,h24)).2.2) (130048) else none else none else out (.ret ((),((h13,(h14,(h15,()))),((h19,(h20,())),((),((h21,(h22,(h23,()))),((h24,(h25,())),())))))))
def wa (n:Nat)(h13:List al.den)(h14 h15:Int)(h16:List aW.den)(h17 h18 h19:Int)(h20:List al.den)(h21 h22:Int)(h23:Bool)(h24:List Int)(h25:Int):Option (aD gr.xs):=gd tt FW dr rm 0 Tryz.f60 (wP Tryz.f60 (cE Tryz.f60 0) 0) n (gr.st.mk' ((h13,(h14,(h15,(h16,(h17,(h18,())))))),((h19,(h20,())),((),((h21,(h22,(h23,()))),((h24,(h25,())),())))))) (bL gr.xs)
theorem RI (n:Nat)(h13:List al.den)(h14 h15:Int)(h16:List aW.den)(h17 h18 h19:Int)(h20:List al.den)(h21 h22:Int)(h23:Bool)(h24:List Int)(h25:Int):wa (n+1) h13 h14 h15 h16 h17 h18 h19 h20 h21 h22 h23 h24 h25=xN h13 h14 h15 h16 h17 h18 h19 h20 h21 h22 h23 h24 h25 (wa n) some:=by kernel_rfl
def xM {R:Type}(h3:List al.den)(h4 h5 h6:Int)(h7:List al.den)(h8 h9:Int)(h10:Bool)(h11:List Int)(h12:Int)(next:List al.den→Int→Int→Int→List al.den→Int→Int→Bool→List Int→Int→Option R)(out:aD gq.xs→Option R):Option R:=bif decide (h5<h4) then bif decide (0≤h5)&&decide (h5<(↑h3.length:Int)) then (pL ((h3,(h4,(h5,((h3.getD h5.toNat ([],[],())).2.1,((↑(List.length (h3.getD h5.toNat ([],[],())).2.1):Int),(0,())))))),((h6,(h7,())),((),((h8,(h9,(h10,()))),((h11,(h12,())),())))))).run fun y=>match y with | .ret ((),((x49,x50,x51,()),(x52,x53,()),(),(x54,x55,x56,()),(x57,x58,()),()))=>(next (x49) (x50) (IntKind.i64.wrap (x51+1)) (x52) (x53) (x54) (x55) (x56) (x57) (x58)) else none else out (.ret ((),((),((h6,(h7,())),((),((h8,(h9,(h10,()))),((h11,(h12,())),())))))))
def rg (n:Nat)(h3:List al.den)(h4 h5 h6:Int)(h7:List al.den)(h8 h9:Int)(h10:Bool)(h11:List Int)(h12:Int):Option (aD gq.xs):=gd tt FW dr rm 0 Tryz.f60 (cE Tryz.f60 0) n (gq.st.mk' ((h3,(h4,(h5,()))),((h6,(h7,())),((),((h8,(h9,(h10,()))),((h11,(h12,())),())))))) (bL gq.xs)
theorem RH (n:Nat)(h3:List al.den)(h4 h5 h6:Int)(h7:List al.den)(h8 h9:Int)(h10:Bool)(h11:List Int)(h12:Int):rg (n+1) h3 h4 h5 h6 h7 h8 h9 h10 h11 h12=xM h3 h4 h5 h6 h7 h8 h9 h10 h11 h12 (rg n) some:=by kernel_rfl
theorem EL {s:bc}(v:Int)(p:aW.den)(h:s.2.2.length≤130048):(jO v p s).2.2.length≤130048:=bV _ _ _ _ (bV _ _ _ _ (bV _ _ _ _ h))
theorem B3 {s:bc}(v:Int)(ps:List aW.den)(h:s.2.2.length≤130048):(gL v ps s).2.2.length≤130048:=j5 (fun x s=>EL v x) ps s h
theorem So {s:bc}(v:Int)(ts:List al.den)(h:s.2.2.length≤130048):(wL v ts s).2.2.length≤130048:=j5 (one:=fun (t:al.den) (s:bc)=>gL v t.2.1 s) (fun x s h=>B3 v x.2.1 h) ts s h
theorem IZ (us:List al.den)(n i th':Int)(ts':List al.den)(v:Int){ps:List aW.den}(hl:ps.length≤maxLen):∀(k j:Nat) (s:bc),ps.length<j+k→j≤ps.length→s.2.2.length≤130048→
  wa k us n i ps (ps.length:Int) j th' ts' v s.1 s.2.1 s.2.2 130048=some (.ret ((),((us,(n,(i,()))),wv th' ts' v ((ps.drop j).foldl (fun s p=>jO v p s) s)))):=by
 intro k
 have hg:∀s:bc,s.2.2.length≤130048→(decide ((130048:Int)=130048)&&decide (s.2.2.length≤130048))=true:=fun s h=>by simpa using h
 induction k with
 |zero=>intro j s h;omega
 |succ k ih=>
  intro j s h1 h2 q0
  rw[RI]
  unfold xN
  by_cases hi:j<ps.length
  ·refine (aa (decide_eq_true (show (j:Int)<(ps.length:Int) by omega)) _ _).trans ?_
   refine (aa (by simpa using hi) _ _).trans ?_
   simp only[Int.toNat_natCast,aH hi,bp hi hl]
   refine (aa (hg _ q0) _ _).trans ?_
   rw[List.drop_eq_getElem_cons hi]
   exact ih (j+1) (jO v ps[j] s) (by omega) (by omega) (EL _ _ q0)
  ·refine (ab (by simp;omega) _ _).trans ?_
   rw[List.drop_of_length_le (by omega)]
   rfl
theorem IY {us:List al.den}(th':Int)(ts':List al.den)(v:Int)(hl:us.length≤maxLen):∀(k j:Nat) (s:bc),us.length<j+k→j≤us.length→s.2.2.length≤130048→
  rg k us (us.length:Int) j th' ts' v s.1 s.2.1 s.2.2 130048=some (.ret ((),((),wv th' ts' v ((us.drop j).foldl (fun s t=>gL v t.2.1 s) s)))):=by
 intro k
 induction k with
 |zero=>intro j s h;omega
 |succ k ih=>
  intro j s h1 h2 h3
  rw[RH]
  unfold xM
  by_cases hi:j<us.length
  ·refine (aa (decide_eq_true (show (j:Int)<(us.length:Int) by omega)) _ _).trans ?_
   refine (aa (by simpa using hi) _ _).trans ?_
   simp only[Int.toNat_natCast,aH hi]
   have c1:(decide ((0:Int)=0)&&(decide ((us[j].2.1.length:Int)=(us[j].2.1.length:Int))&&(decide ((130048:Int)=130048)&&decide (s.2.2.length≤130048))))=true:=by simpa using h3
   have e1:pL ((us,((us.length:Int),((j:Int),(us[j].2.1,((us[j].2.1.length:Int),(0,())))))),((th',(ts',())),((),((v,(s.1,(s.2.1,()))),((s.2.2,(130048,())),())))))=
     .ite true (.ret (.ret ((),((us,((us.length:Int),((j:Int),()))),wv th' ts' v (gL v us[j].2.1 s))))) .no:=congrArg (fun c=>Tr.ite c _ _) c1
   rw[e1]
   show rg k us (us.length:Int) (IntKind.i64.wrap ((j:Int)+1)) th' ts' v (gL v us[j].2.1 s).1 (gL v us[j].2.1 s).2.1 (gL v us[j].2.1 s).2.2 130048=_
   rw[bp hi hl,List.drop_eq_getElem_cons hi]
   exact ih (j+1) (gL v us[j].2.1 s) (by omega) (by omega) (B3 _ _ h3)
  ·refine (ab (by simp;omega) _ _).trans ?_
   rw[List.drop_of_length_le (by omega)]
   rfl
def Df (a0 a1:Int)(a2:List al.den):Option oF.Res:=(pK ((a2,((↑a2.length:Int),(0,()))),((a1,(a2,())),((),((a0,((ar a0 (a1 == 0) 2 3 (aX a0,false,[])).1,((ar a0 (a1 == 0) 2 3 (aX a0,false,[])).2.1,()))),(((ar a0 (a1 == 0) 2 3 (aX a0,false,[])).2.2,(130048,())),())))))).run fun y=>match y with | .ret ((),((),(x76,x77,()),(),(x78,x79,x80,()),(x81,x82,()),()))=>(bif decide (x82=130048)&&decide (x81.length≤130048) then bif decide (2≤x78)&&decide (x78≤3) then bif decide (130048=130048)&&decide (x81.length≤130048) then bif decide (130048=130048)&&decide ((ac x76 4 (x79,x80,x81)).2.2.length≤130048) then bif decide (130048=130048)&&decide ((kP x78 x77 (ac x76 4 (x79,x80,x81))).2.2.length≤130048) then some (Out.ret ((bP (kP x78 x77 (ac x76 4 (x79,x80,x81))),bz (kP x78 x77 (ac x76 4 (x79,x80,x81))),()),())) else none else none else none else bif decide (130048=130048)&&decide (x81.length≤130048) then bif decide (130048=130048)&&decide ((kP x78 x77 (x79,x80,x81)).2.2.length≤130048) then some (Out.ret ((bP (kP x78 x77 (x79,x80,x81)),bz (kP x78 x77 (x79,x80,x81)),()),())) else none else none else none)
theorem Wb (a0 a1:Int)(a2:List al.den):Io.run tt FW dr rm oF Tryz.f60 ((a0,(a1,a2,()),()),())=Df a0 a1 a2:=by kernel_rfl
theorem YA:HcOk prog 60 (ah oF SG):=by
 refine aj (n:=400) hm (cs:=yq) (.cons m7 (.cons f6 (.cons jJ (.cons dg (.cons wn (.cons s4 (.cons jV .nil))))))) (lp:=rm) (fn:=Tryz.f60) (by kernel_rfl) (by kernel_rfl) (by kernel_rfl) oF (.step (h0:=aN gq pK) (by kernel_rfl) (aw (n:=400) hm (cs:=yq) (.cons m7 (.cons f6 (.cons jJ (.cons dg (.cons wn (.cons s4 (.cons jV .nil))))))) (lp:=rm) (fn:=Tryz.f60) (.step (h0:=aN gr pL) (by kernel_rfl) (aw (n:=400) hm (cs:=yq) (.cons m7 (.cons f6 (.cons jJ (.cons dg (.cons wn (.cons s4 (.cons jV .nil))))))) (lp:=rm) (fn:=Tryz.f60) (.done (by kernel_rfl)) gr pL ?_) (.done (by kernel_rfl))) gq pK ?_) (.done (by kernel_rfl))) SG ?_
 ·rintro ⟨⟨(us:List al.den),(n:Int),(i:Int),(ps:List aW.den),(pn:Int),(pj:Int),⟨⟩⟩,⟨⟨(th':Int),(ts':List al.den),⟨⟩⟩,⟨⟩,⟨(v:Int),(e:Int),(f:Bool),⟨⟩⟩,⟨(b:List Int),(m:Int),⟨⟩⟩,⟨⟩⟩⟩ y hw hy
  obtain ⟨hg,hy⟩:=Tr.guard hy
  simp only[Bool.and_eq_true,decide_eq_true_eq] at hg
  obtain ⟨rfl,rfl,rfl,h4⟩:=hg
  have h4:b.length≤130048:=h4
  have hl:ps.length≤maxLen:=hw.1.2.2.2.1.1
  refine ⟨ps.length+1,(IZ us n i th' ts' v hl (ps.length+1) 0 (e,(f,b)) (by omega) (by omega) h4).trans ?_⟩
  rw[← hy];rfl
 ·rintro ⟨⟨(us:List al.den),(n:Int),(i:Int),⟨⟩⟩,⟨⟨(th':Int),(ts':List al.den),⟨⟩⟩,⟨⟩,⟨(v:Int),(e:Int),(f:Bool),⟨⟩⟩,⟨(b:List Int),(m:Int),⟨⟩⟩,⟨⟩⟩⟩ y hw hy
  obtain ⟨hg,hy⟩:=Tr.guard hy
  simp only[Bool.and_eq_true,decide_eq_true_eq] at hg
  obtain ⟨rfl,rfl,rfl,h4⟩:=hg
  have h4:b.length≤130048:=h4
  have hl:us.length≤maxLen:=hw.1.1.1
  refine ⟨us.length+1,(IY th' ts' v hl (us.length+1) 0 (e,(f,b)) (by omega) (by omega) h4).trans ?_⟩
  rw[← hy];rfl
 ·rintro ⟨⟨(v:Int),⟨(th:Int),(ts:List al.den),⟨⟩⟩,⟨⟩⟩,⟨⟩⟩ out hw ho
  cases ho
  refine (Wb v th ts).trans ?_
  unfold Df
  have hg:∀s:bc,s.2.2.length≤130048→(decide ((130048:Int)=130048)&&decide (s.2.2.length≤130048))=true:=fun s h=>by simpa using h
  have q0:(aX v,(false,([]:List Int))).2.2.length≤130048:=by simp
  have q1:=bV (s:=(aX v,(false,([]:List Int)))) v (th == 0) 2 3 q0
  have c1:(decide ((0:Int)=0)&&(decide ((ts.length:Int)=(ts.length:Int))&&(decide ((130048:Int)=130048)&&decide ((ar v (th == 0) 2 3 (aX v,(false,([]:List Int)))).2.2.length≤130048))))=true:=by simpa using q1
  have e1:pK ((ts,((ts.length:Int),(0,()))),((th,(ts,())),((),((v,((ar v (th == 0) 2 3 (aX v,(false,([]:List Int)))).1,((ar v (th == 0) 2 3 (aX v,(false,([]:List Int)))).2.1,()))),(((ar v (th == 0) 2 3 (aX v,(false,([]:List Int)))).2.2,(130048,())),())))))=
    .ite true (.ret (.ret ((),((),wv th ts v (wL v ts (ar v (th == 0) 2 3 (aX v,(false,([]:List Int))))))))) .no:=congrArg (fun c=>Tr.ite c _ _) c1
  rw[e1]
  have r0:=So v ts q1
  refine (aa (hg _ r0) _ _).trans ?_
  by_cases h0_0:2≤v∧v≤3
  ·refine (aa (by simpa using h0_0) _ _).trans ?_
   refine (aa (hg _ r0) _ _).trans ?_
   have l0_0:=aE th 4 r0
   refine (aa (hg _ l0_0) _ _).trans ?_
   have l1_1:=cg (fun x s=>wM v x) ts l0_0
   refine (aa (hg _ l1_1) _ _).trans ?_
   simp only[vd,bG h0_0]
  ·refine (ab (Bool.eq_false_iff.2 fun h'=>h0_0 (by simpa using h')) _ _).trans ?_
   refine (aa (hg _ r0) _ _).trans ?_
   have l1_1:=cg (fun x s=>wM v x) ts r0
   refine (aa (hg _ l1_1) _ _).trans ?_
   simp only[vd,bk h0_0]
@[irreducible] noncomputable def lY (v:Int)(b:List Int)(s:aQ):aW.den×aQ:=
 (((ae .i32 4 b s).1,((ae .i16 2 b (ae .i32 4 b s).2).1,((cU v 0 0 b (ae .i16 2 b (ae .i32 4 b s).2).2).1,((az .i64 8 v 1 3 b (cU v 0 0 b (ae .i16 2 b (ae .i32 4 b s).2).2).2).1,((az .i64 8 v 1 3 b (az .i64 8 v 1 3 b (cU v 0 0 b (ae .i16 2 b (ae .i32 4 b s).2).2).2).2).1,((az .i32 4 v 3 3 b (az .i64 8 v 1 3 b (az .i64 8 v 1 3 b (cU v 0 0 b (ae .i16 2 b (ae .i32 4 b s).2).2).2).2).2).1,())))))),(az .i32 4 v 3 3 b (az .i64 8 v 1 3 b (az .i64 8 v 1 3 b (cU v 0 0 b (ae .i16 2 b (ae .i32 4 b s).2).2).2).2).2).2)
theorem EN {v:Int}{b:List Int}{s:aQ}(h:av b s.2=true):av b (lY v b s).2.2=true:=by
 unfold lY
 exact lJ (lJ (lJ (Ko (bJ _ _ (bJ _ _ (h))))))
abbrev jo:Io:=⟨[.ptr 0 0],JF,[],[.dat aW true false],none⟩
def yV (d:jo.In):Tr jo.Res:=.ite (av d.2.2.2.1.1 d.2.2.2.1.2.1) (.ret (.ret (((lY d.2.2.1.2.1 d.2.2.2.1.1 (eT d.2.2)).1,()),mm d.2.2.1.2.1 d.2.2.2.1.1 (lY d.2.2.1.2.1 d.2.2.2.1.1 (eT d.2.2)).2))) .no
abbrev DB:List (Nat×Hc):=[(142,ah p3 NB),(143,ah fX nh),(156,ah oq Ho),(179,ah Au aav),(140,ah m0 CG)]
def P2:Hd:=bA DB
def D4:Lp:=bv []
def wX (a0 a1:Int)(a2:List Int)(a3:Int):Option jo.Res:=bif av a2 a3 then bif av a2 (ae IntKind.i32 4 a2 (a1,a3)).2.2 then bif bi a0 0 0 (ae IntKind.i16 2 a2 (ae IntKind.i32 4 a2 (a1,a3)).2).2.1 then bif av a2 (ae IntKind.i16 2 a2 (ae IntKind.i32 4 a2 (a1,a3)).2).2.2 then bif bi a0 1 3 (be a2 (ae IntKind.i16 2 a2 (ae IntKind.i32 4 a2 (a1,a3)).2).2).2.1 then bif av a2 (be a2 (ae IntKind.i16 2 a2 (ae IntKind.i32 4 a2 (a1,a3)).2).2).2.2 then bif av a2 (ae IntKind.i64 8 a2 (be a2 (ae IntKind.i16 2 a2 (ae IntKind.i32 4 a2 (a1,a3)).2).2).2).2.2 then bif bi a0 3 3 (ae IntKind.i64 8 a2 (ae IntKind.i64 8 a2 (be a2 (ae IntKind.i16 2 a2 (ae IntKind.i32 4 a2 (a1,a3)).2).2).2).2).2.1 then bif av a2 (ae IntKind.i64 8 a2 (ae IntKind.i64 8 a2 (be a2 (ae IntKind.i16 2 a2 (ae IntKind.i32 4 a2 (a1,a3)).2).2).2).2).2.2 then some (Out.ret ((((ae IntKind.i32 4 a2 (a1,a3)).1,(ae IntKind.i16 2 a2 (ae IntKind.i32 4 a2 (a1,a3)).2).1,(be a2 (ae IntKind.i16 2 a2 (ae IntKind.i32 4 a2 (a1,a3)).2).2).1,(ae IntKind.i64 8 a2 (be a2 (ae IntKind.i16 2 a2 (ae IntKind.i32 4 a2 (a1,a3)).2).2).2).1,(ae IntKind.i64 8 a2 (ae IntKind.i64 8 a2 (be a2 (ae IntKind.i16 2 a2 (ae IntKind.i32 4 a2 (a1,a3)).2).2).2).2).1,(ae IntKind.i32 4 a2 (ae IntKind.i64 8 a2 (ae IntKind.i64 8 a2 (be a2 (ae IntKind.i16 2 a2 (ae IntKind.i32 4 a2 (a1,a3)).2).2).2).2).2).1,()),()),((),()),((),a0,(ae IntKind.i32 4 a2 (ae IntKind.i64 8 a2 (ae IntKind.i64 8 a2 (be a2 (ae IntKind.i16 2 a2 (ae IntKind.i32 4 a2 (a1,a3)).2).2).2).2).2).2.1,()),(a2,(ae IntKind.i32 4 a2 (ae IntKind.i64 8 a2 (ae IntKind.i64 8 a2 (be a2 (ae IntKind.i16 2 a2 (ae IntKind.i32 4 a2 (a1,a3)).2).2).2).2).2).2.2,()),())) else none else some (Out.ret ((((ae IntKind.i32 4 a2 (a1,a3)).1,(ae IntKind.i16 2 a2 (ae IntKind.i32 4 a2 (a1,a3)).2).1,(be a2 (ae IntKind.i16 2 a2 (ae IntKind.i32 4 a2 (a1,a3)).2).2).1,(ae IntKind.i64 8 a2 (be a2 (ae IntKind.i16 2 a2 (ae IntKind.i32 4 a2 (a1,a3)).2).2).2).1,(ae IntKind.i64 8 a2 (ae IntKind.i64 8 a2 (be a2 (ae IntKind.i16 2 a2 (ae IntKind.i32 4 a2 (a1,a3)).2).2).2).2).1,0,()),()),((),()),((),a0,(ae IntKind.i64 8 a2 (ae IntKind.i64 8 a2 (be a2 (ae IntKind.i16 2 a2 (ae IntKind.i32 4 a2 (a1,a3)).2).2).2).2).2.1,()),(a2,(ae IntKind.i64 8 a2 (ae IntKind.i64 8 a2 (be a2 (ae IntKind.i16 2 a2 (ae IntKind.i32 4 a2 (a1,a3)).2).2).2).2).2.2,()),())) else none else none else bif bi a0 3 3 (be a2 (ae IntKind.i16 2 a2 (ae IntKind.i32 4 a2 (a1,a3)).2).2).2.1 then bif av a2 (be a2 (ae IntKind.i16 2 a2 (ae IntKind.i32 4 a2 (a1,a3)).2).2).2.2 then some (Out.ret ((((ae IntKind.i32 4 a2 (a1,a3)).1,(ae IntKind.i16 2 a2 (ae IntKind.i32 4 a2 (a1,a3)).2).1,(be a2 (ae IntKind.i16 2 a2 (ae IntKind.i32 4 a2 (a1,a3)).2).2).1,0,0,(ae IntKind.i32 4 a2 (be a2 (ae IntKind.i16 2 a2 (ae IntKind.i32 4 a2 (a1,a3)).2).2).2).1,()),()),((),()),((),a0,(ae IntKind.i32 4 a2 (be a2 (ae IntKind.i16 2 a2 (ae IntKind.i32 4 a2 (a1,a3)).2).2).2).2.1,()),(a2,(ae IntKind.i32 4 a2 (be a2 (ae IntKind.i16 2 a2 (ae IntKind.i32 4 a2 (a1,a3)).2).2).2).2.2,()),())) else none else some (Out.ret ((((ae IntKind.i32 4 a2 (a1,a3)).1,(ae IntKind.i16 2 a2 (ae IntKind.i32 4 a2 (a1,a3)).2).1,(be a2 (ae IntKind.i16 2 a2 (ae IntKind.i32 4 a2 (a1,a3)).2).2).1,0,0,0,()),()),((),()),((),a0,(be a2 (ae IntKind.i16 2 a2 (ae IntKind.i32 4 a2 (a1,a3)).2).2).2.1,()),(a2,(be a2 (ae IntKind.i16 2 a2 (ae IntKind.i32 4 a2 (a1,a3)).2).2).2.2,()),())) else none else bif bi a0 1 3 (ae IntKind.i16 2 a2 (ae IntKind.i32 4 a2 (a1,a3)).2).2.1 then bif av a2 (ae IntKind.i16 2 a2 (ae IntKind.i32 4 a2 (a1,a3)).2).2.2 then bif av a2 (ae IntKind.i64 8 a2 (ae IntKind.i16 2 a2 (ae IntKind.i32 4 a2 (a1,a3)).2).2).2.2 then bif bi a0 3 3 (ae IntKind.i64 8 a2 (ae IntKind.i64 8 a2 (ae IntKind.i16 2 a2 (ae IntKind.i32 4 a2 (a1,a3)).2).2).2).2.1 then bif av a2 (ae IntKind.i64 8 a2 (ae IntKind.i64 8 a2 (ae IntKind.i16 2 a2 (ae IntKind.i32 4 a2 (a1,a3)).2).2).2).2.2 then some (Out.ret ((((ae IntKind.i32 4 a2 (a1,a3)).1,(ae IntKind.i16 2 a2 (ae IntKind.i32 4 a2 (a1,a3)).2).1,[],(ae IntKind.i64 8 a2 (ae IntKind.i16 2 a2 (ae IntKind.i32 4 a2 (a1,a3)).2).2).1,(ae IntKind.i64 8 a2 (ae IntKind.i64 8 a2 (ae IntKind.i16 2 a2 (ae IntKind.i32 4 a2 (a1,a3)).2).2).2).1,(ae IntKind.i32 4 a2 (ae IntKind.i64 8 a2 (ae IntKind.i64 8 a2 (ae IntKind.i16 2 a2 (ae IntKind.i32 4 a2 (a1,a3)).2).2).2).2).1,()),()),((),()),((),a0,(ae IntKind.i32 4 a2 (ae IntKind.i64 8 a2 (ae IntKind.i64 8 a2 (ae IntKind.i16 2 a2 (ae IntKind.i32 4 a2 (a1,a3)).2).2).2).2).2.1,()),(a2,(ae IntKind.i32 4 a2 (ae IntKind.i64 8 a2 (ae IntKind.i64 8 a2 (ae IntKind.i16 2 a2 (ae IntKind.i32 4 a2 (a1,a3)).2).2).2).2).2.2,()),())) else none else some (Out.ret ((((ae IntKind.i32 4 a2 (a1,a3)).1,(ae IntKind.i16 2 a2 (ae IntKind.i32 4 a2 (a1,a3)).2).1,[],(ae IntKind.i64 8 a2 (ae IntKind.i16 2 a2 (ae IntKind.i32 4 a2 (a1,a3)).2).2).1,(ae IntKind.i64 8 a2 (ae IntKind.i64 8 a2 (ae IntKind.i16 2 a2 (ae IntKind.i32 4 a2 (a1,a3)).2).2).2).1,0,()),()),((),()),((),a0,(ae IntKind.i64 8 a2 (ae IntKind.i64 8 a2 (ae IntKind.i16 2 a2 (ae IntKind.i32 4 a2 (a1,a3)).2).2).2).2.1,()),(a2,(ae IntKind.i64 8 a2 (ae IntKind.i64 8 a2 (ae IntKind.i16 2 a2 (ae IntKind.i32 4 a2 (a1,a3)).2).2).2).2.2,()),())) else none else none else bif bi a0 3 3 (ae IntKind.i16 2 a2 (ae IntKind.i32 4 a2 (a1,a3)).2).2.1 then bif av a2 (ae IntKind.i16 2 a2 (ae IntKind.i32 4 a2 (a1,a3)).2).2.2 then some (Out.ret ((((ae IntKind.i32 4 a2 (a1,a3)).1,(ae IntKind.i16 2 a2 (ae IntKind.i32 4 a2 (a1,a3)).2).1,[],0,0,(ae IntKind.i32 4 a2 (ae IntKind.i16 2 a2 (ae IntKind.i32 4 a2 (a1,a3)).2).2).1,()),()),((),()),((),a0,(ae IntKind.i32 4 a2 (ae IntKind.i16 2 a2 (ae IntKind.i32 4 a2 (a1,a3)).2).2).2.1,()),(a2,(ae IntKind.i32 4 a2 (ae IntKind.i16 2 a2 (ae IntKind.i32 4 a2 (a1,a3)).2).2).2.2,()),())) else none else some (Out.ret ((((ae IntKind.i32 4 a2 (a1,a3)).1,(ae IntKind.i16 2 a2 (ae IntKind.i32 4 a2 (a1,a3)).2).1,[],0,0,0,()),()),((),()),((),a0,(ae IntKind.i16 2 a2 (ae IntKind.i32 4 a2 (a1,a3)).2).2.1,()),(a2,(ae IntKind.i16 2 a2 (ae IntKind.i32 4 a2 (a1,a3)).2).2.2,()),())) else none else none
theorem Ms (a0 a1:Int)(a2:List Int)(a3:Int):Io.run tt P2 dr D4 jo Tryz.f178 (((),()),((),()),((),a0,a1,()),(a2,a3,()),())=wX a0 a1 a2 a3:=by kernel_rfl
theorem Qx:HcOk prog 178 (ah jo yV):=by
 refine aj (n:=400) hm (cs:=DB) (.cons Vi (.cons km (.cons Gy (.cons acH (.cons Gx .nil))))) (lp:=D4) (fn:=Tryz.f178) (by kernel_rfl) (by kernel_rfl) (by kernel_rfl) jo (.done (by kernel_rfl)) yV ?_
 rintro ⟨⟨⟨⟩,⟨⟩⟩,⟨⟨⟩,⟨⟩⟩,⟨⟨⟩,(v:Int),(e:Int),⟨⟩⟩,⟨(b:List Int),(p:Int),⟨⟩⟩,⟨⟩⟩ out hw ho
 obtain ⟨hg,ho⟩:=Tr.guard ho
 have hg:av b p=true:=hg
 cases ho
 refine (Ms v e b p).trans ?_
 unfold wX
 show _=some (Out.ret (((lY v b (e,p)).1,()),mm v b (lY v b (e,p)).2))
 unfold lY
 have hg:av b ((e,p):aQ).2=true:=hg
 refine (aa hg _ _).trans ?_
 have g0:av b (ae .i32 4 b ((e,p):aQ)).2.2=true:=bJ .i32 4 (s:=((e,p):aQ)) hg
 refine (aa g0 _ _).trans ?_
 have g1:av b (ae .i16 2 b (ae .i32 4 b ((e,p):aQ)).2).2.2=true:=bJ .i16 2 (s:=(ae .i32 4 b ((e,p):aQ)).2) g0
 show (bif bi v 0 0 (ae .i16 2 b (ae .i32 4 b ((e,p):aQ)).2).2.1 then _ else _)=_
 cases h2:bi v 0 0 (ae .i16 2 b (ae .i32 4 b ((e,p):aQ)).2).2.1
 ·have e2:cU v 0 0 b (ae .i16 2 b (ae .i32 4 b ((e,p):aQ)).2).2=([],(ae .i16 2 b (ae .i32 4 b ((e,p):aQ)).2).2):=by unfold cU;rw[if_neg (by rw[h2];decide)]
  rw[e2]
  show (bif bi v 1 3 (ae .i16 2 b (ae .i32 4 b ((e,p):aQ)).2).2.1 then _ else _)=_
  cases hf3:bi v 1 3 (ae .i16 2 b (ae .i32 4 b ((e,p):aQ)).2).2.1
  ·have ef3:az .i64 8 v 1 3 b (ae .i16 2 b (ae .i32 4 b ((e,p):aQ)).2).2=(0,(ae .i16 2 b (ae .i32 4 b ((e,p):aQ)).2).2):=by unfold az;rw[if_neg (by rw[hf3];decide)]
   rw[ef3]
   have eff4:az .i64 8 v 1 3 b (ae .i16 2 b (ae .i32 4 b ((e,p):aQ)).2).2=(0,(ae .i16 2 b (ae .i32 4 b ((e,p):aQ)).2).2):=by unfold az;rw[if_neg (by rw[hf3];decide)]
   rw[eff4]
   show (bif bi v 3 3 (ae .i16 2 b (ae .i32 4 b ((e,p):aQ)).2).2.1 then _ else _)=_
   cases hff5:bi v 3 3 (ae .i16 2 b (ae .i32 4 b ((e,p):aQ)).2).2.1
   ·have eff5:az .i32 4 v 3 3 b (ae .i16 2 b (ae .i32 4 b ((e,p):aQ)).2).2=(0,(ae .i16 2 b (ae .i32 4 b ((e,p):aQ)).2).2):=by unfold az;rw[if_neg (by rw[hff5];decide)]
    rw[eff5]
    rfl
   ·have eff5:az .i32 4 v 3 3 b (ae .i16 2 b (ae .i32 4 b ((e,p):aQ)).2).2=ae .i32 4 b (ae .i16 2 b (ae .i32 4 b ((e,p):aQ)).2).2:=by unfold az;rw[if_pos hff5]
    rw[eff5]
    refine (aa g1 _ _).trans ?_
    have gff5:av b (ae .i32 4 b (ae .i16 2 b (ae .i32 4 b ((e,p):aQ)).2).2).2.2=true:=bJ .i32 4 (s:=(ae .i16 2 b (ae .i32 4 b ((e,p):aQ)).2).2) g1
    rfl
  ·have ef3:az .i64 8 v 1 3 b (ae .i16 2 b (ae .i32 4 b ((e,p):aQ)).2).2=ae .i64 8 b (ae .i16 2 b (ae .i32 4 b ((e,p):aQ)).2).2:=by unfold az;rw[if_pos hf3]
   rw[ef3]
   refine (aa g1 _ _).trans ?_
   have gf3:av b (ae .i64 8 b (ae .i16 2 b (ae .i32 4 b ((e,p):aQ)).2).2).2.2=true:=bJ .i64 8 (s:=(ae .i16 2 b (ae .i32 4 b ((e,p):aQ)).2).2) g1
   have eft4:az .i64 8 v 1 3 b (ae .i64 8 b (ae .i16 2 b (ae .i32 4 b ((e,p):aQ)).2).2).2=ae .i64 8 b (ae .i64 8 b (ae .i16 2 b (ae .i32 4 b ((e,p):aQ)).2).2).2:=Bz (BB hf3) _
   rw[eft4]
   refine (aa gf3 _ _).trans ?_
   have gft4:av b (ae .i64 8 b (ae .i64 8 b (ae .i16 2 b (ae .i32 4 b ((e,p):aQ)).2).2).2).2.2=true:=bJ .i64 8 (s:=(ae .i64 8 b (ae .i16 2 b (ae .i32 4 b ((e,p):aQ)).2).2).2) gf3
   show (bif bi v 3 3 (ae .i64 8 b (ae .i64 8 b (ae .i16 2 b (ae .i32 4 b ((e,p):aQ)).2).2).2).2.1 then _ else _)=_
   cases hft5:bi v 3 3 (ae .i64 8 b (ae .i64 8 b (ae .i16 2 b (ae .i32 4 b ((e,p):aQ)).2).2).2).2.1
   ·have eft5:az .i32 4 v 3 3 b (ae .i64 8 b (ae .i64 8 b (ae .i16 2 b (ae .i32 4 b ((e,p):aQ)).2).2).2).2=(0,(ae .i64 8 b (ae .i64 8 b (ae .i16 2 b (ae .i32 4 b ((e,p):aQ)).2).2).2).2):=by unfold az;rw[if_neg (by rw[hft5];decide)]
    rw[eft5]
    rfl
   ·have eft5:az .i32 4 v 3 3 b (ae .i64 8 b (ae .i64 8 b (ae .i16 2 b (ae .i32 4 b ((e,p):aQ)).2).2).2).2=ae .i32 4 b (ae .i64 8 b (ae .i64 8 b (ae .i16 2 b (ae .i32 4 b ((e,p):aQ)).2).2).2).2:=by unfold az;rw[if_pos hft5]
    rw[eft5]
    refine (aa gft4 _ _).trans ?_
    have gft5:av b (ae .i32 4 b (ae .i64 8 b (ae .i64 8 b (ae .i16 2 b (ae .i32 4 b ((e,p):aQ)).2).2).2).2).2.2=true:=bJ .i32 4 (s:=(ae .i64 8 b (ae .i64 8 b (ae .i16 2 b (ae .i32 4 b ((e,p):aQ)).2).2).2).2) gft4
    rfl
 ·have e2:cU v 0 0 b (ae .i16 2 b (ae .i32 4 b ((e,p):aQ)).2).2=be b (ae .i16 2 b (ae .i32 4 b ((e,p):aQ)).2).2:=by unfold cU;rw[if_pos h2]
  rw[e2]
  refine (aa g1 _ _).trans ?_
  have g2:av b (be b (ae .i16 2 b (ae .i32 4 b ((e,p):aQ)).2).2).2.2=true:=KC (s:=(ae .i16 2 b (ae .i32 4 b ((e,p):aQ)).2).2) g1
  show (bif bi v 1 3 (be b (ae .i16 2 b (ae .i32 4 b ((e,p):aQ)).2).2).2.1 then _ else _)=_
  cases ht3:bi v 1 3 (be b (ae .i16 2 b (ae .i32 4 b ((e,p):aQ)).2).2).2.1
  ·have et3:az .i64 8 v 1 3 b (be b (ae .i16 2 b (ae .i32 4 b ((e,p):aQ)).2).2).2=(0,(be b (ae .i16 2 b (ae .i32 4 b ((e,p):aQ)).2).2).2):=by unfold az;rw[if_neg (by rw[ht3];decide)]
   rw[et3]
   have etf4:az .i64 8 v 1 3 b (be b (ae .i16 2 b (ae .i32 4 b ((e,p):aQ)).2).2).2=(0,(be b (ae .i16 2 b (ae .i32 4 b ((e,p):aQ)).2).2).2):=by unfold az;rw[if_neg (by rw[ht3];decide)]
   rw[etf4]
   show (bif bi v 3 3 (be b (ae .i16 2 b (ae .i32 4 b ((e,p):aQ)).2).2).2.1 then _ else _)=_
   cases htf5:bi v 3 3 (be b (ae .i16 2 b (ae .i32 4 b ((e,p):aQ)).2).2).2.1
   ·have etf5:az .i32 4 v 3 3 b (be b (ae .i16 2 b (ae .i32 4 b ((e,p):aQ)).2).2).2=(0,(be b (ae .i16 2 b (ae .i32 4 b ((e,p):aQ)).2).2).2):=by unfold az;rw[if_neg (by rw[htf5];decide)]
    rw[etf5]
    rfl
   ·have etf5:az .i32 4 v 3 3 b (be b (ae .i16 2 b (ae .i32 4 b ((e,p):aQ)).2).2).2=ae .i32 4 b (be b (ae .i16 2 b (ae .i32 4 b ((e,p):aQ)).2).2).2:=by unfold az;rw[if_pos htf5]
    rw[etf5]
    refine (aa g2 _ _).trans ?_
    have gtf5:av b (ae .i32 4 b (be b (ae .i16 2 b (ae .i32 4 b ((e,p):aQ)).2).2).2).2.2=true:=bJ .i32 4 (s:=(be b (ae .i16 2 b (ae .i32 4 b ((e,p):aQ)).2).2).2) g2
    rfl
  ·have et3:az .i64 8 v 1 3 b (be b (ae .i16 2 b (ae .i32 4 b ((e,p):aQ)).2).2).2=ae .i64 8 b (be b (ae .i16 2 b (ae .i32 4 b ((e,p):aQ)).2).2).2:=by unfold az;rw[if_pos ht3]
   rw[et3]
   refine (aa g2 _ _).trans ?_
   have gt3:av b (ae .i64 8 b (be b (ae .i16 2 b (ae .i32 4 b ((e,p):aQ)).2).2).2).2.2=true:=bJ .i64 8 (s:=(be b (ae .i16 2 b (ae .i32 4 b ((e,p):aQ)).2).2).2) g2
   have ett4:az .i64 8 v 1 3 b (ae .i64 8 b (be b (ae .i16 2 b (ae .i32 4 b ((e,p):aQ)).2).2).2).2=ae .i64 8 b (ae .i64 8 b (be b (ae .i16 2 b (ae .i32 4 b ((e,p):aQ)).2).2).2).2:=Bz (BB ht3) _
   rw[ett4]
   refine (aa gt3 _ _).trans ?_
   have gtt4:av b (ae .i64 8 b (ae .i64 8 b (be b (ae .i16 2 b (ae .i32 4 b ((e,p):aQ)).2).2).2).2).2.2=true:=bJ .i64 8 (s:=(ae .i64 8 b (be b (ae .i16 2 b (ae .i32 4 b ((e,p):aQ)).2).2).2).2) gt3
   show (bif bi v 3 3 (ae .i64 8 b (ae .i64 8 b (be b (ae .i16 2 b (ae .i32 4 b ((e,p):aQ)).2).2).2).2).2.1 then _ else _)=_
   cases htt5:bi v 3 3 (ae .i64 8 b (ae .i64 8 b (be b (ae .i16 2 b (ae .i32 4 b ((e,p):aQ)).2).2).2).2).2.1
   ·have ett5:az .i32 4 v 3 3 b (ae .i64 8 b (ae .i64 8 b (be b (ae .i16 2 b (ae .i32 4 b ((e,p):aQ)).2).2).2).2).2=(0,(ae .i64 8 b (ae .i64 8 b (be b (ae .i16 2 b (ae .i32 4 b ((e,p):aQ)).2).2).2).2).2):=by unfold az;rw[if_neg (by rw[htt5];decide)]
    rw[ett5]
    rfl
   ·have ett5:az .i32 4 v 3 3 b (ae .i64 8 b (ae .i64 8 b (be b (ae .i16 2 b (ae .i32 4 b ((e,p):aQ)).2).2).2).2).2=ae .i32 4 b (ae .i64 8 b (ae .i64 8 b (be b (ae .i16 2 b (ae .i32 4 b ((e,p):aQ)).2).2).2).2).2:=by unfold az;rw[if_pos htt5]
    rw[ett5]
    refine (aa gtt4 _ _).trans ?_
    have gtt5:av b (ae .i32 4 b (ae .i64 8 b (ae .i64 8 b (be b (ae .i16 2 b (ae .i32 4 b ((e,p):aQ)).2).2).2).2).2).2.2=true:=bJ .i32 4 (s:=(ae .i64 8 b (ae .i64 8 b (be b (ae .i16 2 b (ae .i32 4 b ((e,p):aQ)).2).2).2).2).2) gtt4
    rfl
@[irreducible] noncomputable def ie (v:Int)(b:List Int)(s:aQ):List aW.den×aQ:=kp (lY v b) b s
theorem Nr {v:Int}{b:List Int}{s:aQ}(h:av b s.2=true):av b (ie v b s).2.2=true:=by
 unfold ie
 exact nG (fun s h=>EN h) h
abbrev ox:Io:=⟨[.ptr 0 0,.fnc 178 false [2]],AZ,[],[.dat (.sl 233 aW) false false],none⟩
def CI (d:ox.In):Tr ox.Res:=.ite (av d.2.2.1.1 d.2.2.1.2.1) (.ret (.ret (((ie d.2.1.2.1 d.2.2.1.1 (mT d.2)).1,()),qV d.2.1.2.1 d.2.2.1.1 (ie d.2.1.2.1 d.2.2.1.1 (mT d.2)).2))) .no
abbrev LC:List (Nat×Hc):=[(143,ah fX nh),(178,ah jo yV)]
theorem Mc:HcOk prog 177 (ah ox CI):=
 F8 (one:=lY) (sps:=ie) (fun _ _ _=>by unfold ie;rfl) (fun _ _ _ h4=>EN h4) (cs:=LC) (.cons km (.cons Qx .nil)) (fn:=Tryz.f177) (by kernel_rfl) (by kernel_rfl) (by kernel_rfl) (by kernel_rfl) (by kernel_rfl) (by kernel_rfl) (by intros;kernel_rfl) (by intros;kernel_rfl)
@[irreducible] noncomputable def lZ (v:Int)(b:List Int)(s:aQ):al.den×aQ:=(((ct b s).1,((ie v b (ct b s).2).1,())),(ie v b (ct b s).2).2)
theorem EP {v:Int}{b:List Int}{s:aQ}(h:av b s.2=true):av b (lZ v b s).2.2=true:=by
 unfold lZ
 exact Nr (rE h)
abbrev ik:Io:=⟨[.ptr 0 0],JF,[],[.dat al true false],none⟩
def vy (d:ik.In):Tr ik.Res:=.ite (av d.2.2.2.1.1 d.2.2.2.1.2.1) (.ret (.ret (((lZ d.2.2.1.2.1 d.2.2.2.1.1 (eT d.2.2)).1,()),mm d.2.2.1.2.1 d.2.2.2.1.1 (lZ d.2.2.1.2.1 d.2.2.2.1.1 (eT d.2.2)).2))) .no
abbrev zY:List (Nat×Hc):=[(146,ah p5 ND),(177,ah ox CI)]
def LP:Hd:=bA zY
def AT:Lp:=bv []
def tV (a0 a1:Int)(a2:List Int)(a3:Int):Option ik.Res:=bif av a2 a3 then bif av a2 (ct a2 (a1,a3)).2.2 then some (Out.ret ((((ct a2 (a1,a3)).1,(ie a0 a2 (ct a2 (a1,a3)).2).1,()),()),((),()),((),a0,(ie a0 a2 (ct a2 (a1,a3)).2).2.1,()),(a2,(ie a0 a2 (ct a2 (a1,a3)).2).2.2,()),())) else none else none
theorem JX (a0 a1:Int)(a2:List Int)(a3:Int):Io.run tt LP dr AT ik Tryz.f176 (((),()),((),()),((),a0,a1,()),(a2,a3,()),())=tV a0 a1 a2 a3:=by kernel_rfl
theorem Md:HcOk prog 176 (ah ik vy):=by
 refine aj (n:=400) hm (cs:=zY) (.cons Vk (.cons Mc .nil)) (lp:=AT) (fn:=Tryz.f176) (by kernel_rfl) (by kernel_rfl) (by kernel_rfl) ik (.done (by kernel_rfl)) vy ?_
 rintro ⟨⟨⟨⟩,⟨⟩⟩,⟨⟨⟩,⟨⟩⟩,⟨⟨⟩,(v:Int),(e:Int),⟨⟩⟩,⟨(b:List Int),(p:Int),⟨⟩⟩,⟨⟩⟩ out hw ho
 obtain ⟨hg,ho⟩:=Tr.guard ho
 have hg:av b p=true:=hg
 cases ho
 refine (JX v e b p).trans ?_
 unfold tV
 show _=some (Out.ret (((lZ v b (e,p)).1,()),mm v b (lZ v b (e,p)).2))
 unfold lZ
 refine (aa hg _ _).trans ?_
 exact aa (rE (s:=(e,p)) hg) _ _
@[irreducible] noncomputable def cm (v:Int)(b:List Int)(s:aQ):List al.den×aQ:=kp (lZ v b) b s
theorem B7 {v:Int}{b:List Int}{s:aQ}(h:av b s.2=true):av b (cm v b s).2.2=true:=by
 unfold cm
 exact nG (fun s h=>EP h) h
abbrev my:Io:=⟨[.ptr 0 0,.fnc 176 false [2]],AZ,[],[.dat (.sl 230 al) false false],none⟩
def yW (d:my.In):Tr my.Res:=.ite (av d.2.2.1.1 d.2.2.1.2.1) (.ret (.ret (((cm d.2.1.2.1 d.2.2.1.1 (mT d.2)).1,()),qV d.2.1.2.1 d.2.2.1.1 (cm d.2.1.2.1 d.2.2.1.1 (mT d.2)).2))) .no
abbrev Ih:List (Nat×Hc):=[(143,ah fX nh),(176,ah ik vy)]
theorem JJ:HcOk prog 175 (ah my yW):=
 F8 (one:=lZ) (sps:=cm) (fun _ _ _=>by unfold cm;rfl) (fun _ _ _ h4=>EP h4) (cs:=Ih) (.cons km (.cons Md .nil)) (fn:=Tryz.f175) (by kernel_rfl) (by kernel_rfl) (by kernel_rfl) (by kernel_rfl) (by kernel_rfl) (by kernel_rfl) (by intros;kernel_rfl) (by intros;kernel_rfl)
abbrev kC:Io:=⟨[.ptr 0 0,.fnc 176 false [1]],L8,[],[.dat (.sl 230 al) false false],none⟩
def wR (d:kC.In):Tr kC.Res:=.ite (decide (d.2.1.2.2.1≠0)) (.ret (.ret ((([]:List al.den),()),d.2))) .no
abbrev FC:List (Nat×Hc):=[(143,o3 lc (ah jS vv) (ah fX nh))]
theorem GA:HcOk prog 175 (ah kC wR):=
 OD (cs:=FC) (.cons (cS yG km) .nil) (fn:=Tryz.f175) (by kernel_rfl) (by kernel_rfl) (by kernel_rfl) (by kernel_rfl) (by kernel_rfl) (by kernel_rfl) (by intros;kernel_rfl) (by intros;kernel_rfl)
def aan:c6.den:=(0,(([]:List al.den),()))
def He (v:Int)(b:List Int)(s:aQ):c6.den×aQ:=
 (((az .i32 4 v 2 3 b s).1,((cm v b (az .i32 4 v 2 3 b s).2).1,())),(cm v b (az .i32 4 v 2 3 b s).2).2)
def nK (v:Int)(b:List Int):c6.den×Int:=if 0≤v∧v≤3∧(b.length:Int)≤130048 then (if b7 b (He v b (0,0)).2=0 then ((He v b (0,0)).1,0) else (aan,b7 b (He v b (0,0)).2)) else (aan,eD v)
abbrev ls:Io:=⟨[dI,dL],[],[],[.dat c6 true false,dI],none⟩
def E5 (d:ls.In):Tr ls.Res:=.ret (.ret (((nK d.1.1 d.1.2.1).1,((nK d.1.1 d.1.2.1).2,())),()))
abbrev Ig:List (Nat×Hc):=[(139,o3 U8 (ah mt vw) (ah p4 NC)),(140,o3 lc (ah mr E1) (ah m0 CG)),(143,o3 lc (ah jS vv) (ah fX nh)),(175,o3 lc (ah kC wR) (ah my yW)),(150,o3 lc (ah mq E0) (ah p2 NA))]
def T7:Hd:=bA Ig
def Ji:Lp:=bv []
def zw (a0:Int)(a1:List Int):Option ls.Res:=bif !(decide (0≤a0)&&(decide (a0≤3)&&decide ((↑a1.length:Int)≤130048))) then bif decide (0≤a0)&&(decide (a0≤3)&&decide ((↑a1.length:Int)≤130048)) then none else bif decide (eD a0≠0) then bif decide (eD a0≠0) then bif decide (eD a0≠0) then bif eD a0 != 0 then some (Out.ret (((0,[],()),eD a0,()),())) else some (Out.ret (((0,[],()),0,()),())) else none else none else none else bif decide (0≤a0)&&(decide (a0≤3)&&decide ((↑a1.length:Int)≤130048)) then bif bi a0 2 3 0 then bif av a1 0 then bif av a1 (aq a1 0 4).2.1 then bif b7 a1 (cm a0 a1 ((aq a1 0 4).2.2,(aq a1 0 4).2.1)).2 != 0 then some (Out.ret (((0,[],()),b7 a1 (cm a0 a1 ((aq a1 0 4).2.2,(aq a1 0 4).2.1)).2,()),())) else some (Out.ret (((IntKind.i32.wrap (aq a1 0 4).1,(cm a0 a1 ((aq a1 0 4).2.2,(aq a1 0 4).2.1)).1,()),0,()),())) else none else none else bif av a1 0 then bif b7 a1 (cm a0 a1 (0,0)).2 != 0 then some (Out.ret (((0,[],()),b7 a1 (cm a0 a1 (0,0)).2,()),())) else some (Out.ret (((0,(cm a0 a1 (0,0)).1,()),0,()),())) else none else none
theorem Q3 (a0:Int)(a1:List Int):Io.run tt T7 dr Ji ls Tryz.f77 ((a0,a1,()),())=zw a0 a1:=by kernel_rfl
theorem Vn:HcOk prog 77 (ah ls E5):=by
 refine aj (n:=400) hm (cs:=Ig) (.cons (cS Pi Vj) (.cons (cS Ph Gx) (.cons (cS yG km) (.cons (cS GA JJ) (.cons (cS Pg Vh) .nil))))) (lp:=Ji) (fn:=Tryz.f77) (by kernel_rfl) (by kernel_rfl) (by kernel_rfl) ls (.done (by kernel_rfl)) E5 ?_
 rintro ⟨⟨(v:Int),(b:List Int),⟨⟩⟩,⟨⟩⟩ out hw ho
 cases ho
 refine (Q3 v b).trans ?_
 unfold zw
 show _=some (Out.ret (((nK v b).1,((nK v b).2,())),()))
 by_cases h:0≤v∧v≤3∧(b.length:Int)≤130048
 ·have hc:(decide (0≤v)&&(decide (v≤3)&&decide ((b.length:Int)≤130048)))=true:=by simpa using h
  refine (ab (by rw[hc];rfl) _ _).trans ?_
  refine (aa hc _ _).trans ?_
  have hg:av b ((0,0):aQ).2=true:=by simp[av];omega
  unfold nK He
  rw[if_pos h]
  show (bif bi v 2 3 ((0,0):aQ).1 then _ else _)=_
  cases h0:bi v 2 3 ((0,0):aQ).1
  ·have e0:az .i32 4 v 2 3 b ((0,0):aQ)=(0,((0,0):aQ)):=by unfold az;rw[if_neg (by rw[h0];decide)]
   rw[e0]
   refine (aa hg _ _).trans ?_
   have gf1:av b (cm v b ((0,0):aQ)).2.2=true:=B7 (s:=((0,0):aQ)) hg
   show _=some (Out.ret (((if b7 b (cm v b ((0,0):aQ)).2=0 then _ else _:c6.den×Int).1,_),()))
   by_cases hE:b7 b (cm v b ((0,0):aQ)).2=0
   ·rw[if_pos hE]
    exact ab (show (b7 b (cm v b ((0,0):aQ)).2 != 0)=false by simpa using hE) _ _
   ·rw[if_neg hE]
    exact aa (show (b7 b (cm v b ((0,0):aQ)).2 != 0)=true by simpa using hE) _ _
  ·have e0:az .i32 4 v 2 3 b ((0,0):aQ)=ae .i32 4 b ((0,0):aQ):=by unfold az;rw[if_pos h0]
   rw[e0]
   refine (aa hg _ _).trans ?_
   have g0:av b (ae .i32 4 b ((0,0):aQ)).2.2=true:=bJ .i32 4 (s:=((0,0):aQ)) hg
   refine (aa g0 _ _).trans ?_
   have gt1:av b (cm v b (ae .i32 4 b ((0,0):aQ)).2).2.2=true:=B7 (s:=(ae .i32 4 b ((0,0):aQ)).2) g0
   show _=some (Out.ret (((if b7 b (cm v b (ae .i32 4 b ((0,0):aQ)).2).2=0 then _ else _:c6.den×Int).1,_),()))
   by_cases hE:b7 b (cm v b (ae .i32 4 b ((0,0):aQ)).2).2=0
   ·rw[if_pos hE]
    exact ab (show (b7 b (cm v b (ae .i32 4 b ((0,0):aQ)).2).2 != 0)=false by simpa using hE) _ _
   ·rw[if_neg hE]
    exact aa (show (b7 b (cm v b (ae .i32 4 b ((0,0):aQ)).2).2 != 0)=true by simpa using hE) _ _
 ·have hc:(decide (0≤v)&&(decide (v≤3)&&decide ((b.length:Int)≤130048)))=false:=by
   rw[Bool.eq_false_iff]
   intro h'
   simp only[Bool.and_eq_true,decide_eq_true_eq] at h'
   exact h h'
  have hn:eD v≠0:=by unfold eD;split <;> decide
  unfold nK
  rw[if_neg h]
  refine (aa (by rw[hc];rfl) _ _).trans ?_
  refine (ab hc _ _).trans ?_
  repeat refine (aa (decide_eq_true hn) _ _).trans ?_
  exact aa (by simpa using hn) _ _
@[irreducible] def i7 (xs:List Int):Nd:=bb (xs.map (ay 4))
theorem k6 (xs:List Int):i7 xs=bb (xs.map (ay 4)):=by unfold i7;rfl
def KA (x:Nd):Int:=x.lab.2.1
theorem KE (xs:List Int):(i7 xs).kids.map KA=xs:=by
 rw[k6]
 show (xs.map (ay 4)).map KA=xs
 rw[List.map_map]
 exact dF fun x _=>rfl
def wNs (xs:List Int):List Int×Int:=eN (fun x=>(aB x 8,0)) xs
theorem W2 {nm nm2:List Int}{lo hi lo2 hi2:Int}{e:List Fd}{v:Int}(xs:List Int):tq (cp nm 9 lo hi [cp nm2 4 lo2 hi2 e]) v (i7 xs)=wNs xs:=by
 rw[k6,ja]
 unfold wNs
 exact dA fun x _=>ce (by decide) (w:=8) rfl (lO x)
theorem MY {nm nm2:List Int}{lo hi lo2 hi2:Int}{e:List Fd}{v:Int}(xs:List Int):(ba (cp nm 9 lo hi [cp nm2 4 lo2 hi2 e]) v (i7 xs)).2=true:=by
 rw[k6,fz]
 exact List.all_eq_true.2 fun x _=>aT (by decide) (by decide)
theorem KP {xs:List Int}:bW (i7 xs)=((xs.length:Int) == 0):=by
 rw[k6]
 unfold bW
 by_cases h:xs=[]
 ·subst h;rfl
 ·have h1:(xs.map (ay 4)).length≠0:=by simpa using h
  have h2:((xs.length:Int) == 0)=false:=by simpa using h
  rw[h2]
  exact if_neg h1
theorem G8 {nm nm2:List Int}{lo hi lo2 hi2:Int}{e:List Fd}(xs:List Int):fC (cp nm 9 lo hi [cp nm2 4 lo2 hi2 e]) (i7 xs):=by
 rw[k6]
 exact dD _ _ fun x=>aK (by decide) (by decide)
theorem Wri.ns (xs:List Int):Wri (wNs xs) (fL xs):=Wri.items fun x _=>Wri.put x 8
theorem Wri.hasNs (v lo hi:Int)(xs:List Int):Wri (if lo≤v∧v≤hi then wNs xs else ([],0)) (jX v lo hi xs):=by
 by_cases h:lo≤v∧v≤hi
 ·rw[if_pos h,show jX v lo hi xs=fL xs from funext fun s=>lP h]
  exact Wri.ns xs
 ·rw[if_neg h,show jX v lo hi xs=(fun s=>s) from funext fun s=>kh h]
  exact Wri.nop
theorem Rd.ns {b:List Int}{xs:List Int}(hx:∀x∈xs,ey .i64 x):Rd b xs (wNs xs) (be b):=
 (Rd.list fun x h=>Rd.num (gb (hx x h))).congr fun s=>by unfold be;rfl
theorem Rd.optNs {b:List Int}{xs:List Int}{v lo hi:Int}(hx:∀x∈xs,ey .i64 x)(h0:¬(lo≤v∧v≤hi)→xs=[]):Rd b xs (if lo≤v∧v≤hi then wNs xs else ([],0)) (cU v lo hi b):=by
 by_cases h:lo≤v∧v≤hi
 ·rw[if_pos h]
  intro hz
  have hn:=Rd.ns (b:=b) hx hz
  refine ⟨fun p rest hp hd=>?_,fun p t hp ht hd=>?_,fun s hs=>?_⟩
  ·unfold cU
   rw[if_pos (rD h)];exact hn.full p rest hp hd
  ·unfold cU
   rw[if_pos (rD h)];exact hn.short p t hp ht hd
  ·unfold cU
   rw[if_neg (by rw[BA hs];decide)]
 ·rw[if_neg h]
  intro _
  refine Rea.nop b xs (fun p=>?_) (fun s hs=>?_)
  ·unfold cU
   rw[if_neg (by rw[lK h];decide),h0 h]
  ·unfold cU
   rw[if_neg (by rw[lK h];decide)]
theorem Ux {c:Prop}[Decidable c]{x y:Bool}:(if c then true else (x&&y))=((if c then true else x)&&(if c then true else y)):=by split <;> rfl
abbrev Ay:Io:=⟨[.dat (.sl 2 (.int .i64)) false false],[],[],[cQ],none⟩
def aaA (d:Ay.In):Tr Ay.Res:=.ite (decide (d.1.1.length≤4294967296)) (.ret (.ret ((i7 d.1.1,()),()))) .no
abbrev TN:List (Nat×Hc):=[(181,ah jz tD),(184,ah gg nP)]
def Z9:Hd:=bA TN
abbrev kL:Lo:=⟨⟨(.one (.hol (.sl 2 (Ty.int IntKind.i64)))::.any::.one (.ptr 2 0)::.one (.onl 91 ao 7)::.one (.hol (.int IntKind.i64))::.any::ai []),[none,none,some [.hol (.int IntKind.i64),.hol (.int IntKind.i64),.hol .bool,.onl 5 (Ty.int IntKind.u8) 1032,.onl 91 ao 1034]]⟩,[(.exit 0,⟨(bh (.one (.ptr 2 0)::.one (.onl 91 ao 7)::ai (bh []))),[none,none,some [.hol (.int IntKind.i64),.hol (.int IntKind.i64),.hol .bool,.onl 5 (Ty.int IntKind.u8) 1032,.onl 91 ao 1034]]⟩)]⟩
def Fq (d:kL.st.den):Tr (aD kL.xs):=
 .ite ((decide (d.1.2.1.length=0)&&decide (d.1.2.2.1=0))&&decide (d.1.1.length≤4294967296)) (.ret (.ret ((),((d.1.1.map (ay 4),()),(d.2.1,()))))) .no
def Pb:Lp:=bv [(4,aN kL Fq)]
def ES {R:Type}(h1:List Int)(h2:List ao.den)(h3 h4 h5:Int)(h6:Bool)(h7:List Int)(h8:List ao.den)(next:List Int→List ao.den→Int→Int→Int→Bool→List Int→List ao.den→Option R)(out:aD kL.xs→Option R):Option R:=bif decide (h3<(↑h1.length:Int)) then bif decide (0≤h3)&&decide (h3<(↑h1.length:Int)) then bif decide (h2.length+1≤4294967296) then next (h1) (h2++[Tre.mk (4,h1.getD h3.toNat 0,false,[],()) []]) (IntKind.i64.wrap (h3+1)) (h4) (h5) (h6) (h7) (h8) else none else none else out (.ret ((),((h2,()),((h4,(h5,(h6,(h7,(h8,()))))),()))))
def F6 (n:Nat)(h1:List Int)(h2:List ao.den)(h3 h4 h5:Int)(h6:Bool)(h7:List Int)(h8:List ao.den):Option (aD kL.xs):=gd tt Z9 dr Pb 0 Tryz.f198 (cE Tryz.f198 0) n (kL.st.mk' ((h1,(h2,(h3,()))),((h4,(h5,(h6,(h7,(h8,()))))),()))) (bL kL.xs)
theorem Zu (n:Nat)(h1:List Int)(h2:List ao.den)(h3 h4 h5:Int)(h6:Bool)(h7:List Int)(h8:List ao.den):F6 (n+1) h1 h2 h3 h4 h5 h6 h7 h8=ES h1 h2 h3 h4 h5 h6 h7 h8 (F6 n) some:=by kernel_rfl
theorem Yk {xs:List Int}(hl:xs.length≤4294967296)(a' b':Int)(z':Bool)(x':List Int)(l':List Nd):∀(k j:Nat) (o:List Nd),xs.length<j+k→j≤xs.length→o.length≤j→
  F6 k xs o j a' b' z' x' l'=some (.ret ((),((o++(xs.drop j).map (ay 4),()),((a',(b',(z',(x',(l',()))))),())))):=by
 intro k
 induction k with
 |zero=>intro j o h1 h2;omega
 |succ k ih=>
  intro j o h1 h2 h3
  rw[Zu]
  unfold ES
  by_cases hj:j<xs.length
  ·refine (aa (decide_eq_true (show (j:Int)<(xs.length:Int) by omega)) _ _).trans ?_
   refine (aa (by simp;omega) _ _).trans ?_
   refine (aa (decide_eq_true (show o.length+1≤4294967296 by omega)) _ _).trans ?_
   rw[aC (n:=(j:Int)+1) (by omega) (by omega),List.drop_eq_getElem_cons hj]
   simp only[Int.toNat_natCast,aH hj]
   refine (ih (j+1) (o++[ay 4 xs[j]]) (by omega) (by omega) (by simp;omega)).trans ?_
   simp only[List.map_cons,List.append_assoc,List.singleton_append]
  ·refine (ab (decide_eq_false (show ¬(j:Int)<(xs.length:Int) by omega)) _ _).trans ?_
   rw[List.drop_of_length_le (by omega)]
   simp
def NV (a0:List Int):Option Ay.Res:=(Fq ((a0,([],(0,()))),((0,(0,(false,([],([],()))))),()))).run fun y=>match y with | .ret ((),((x23,()),(x24,x25,x26,x27,x28,()),()))=>(some (Out.ret ((Tre.mk (9,0,false,[],()) x23,()),())))
theorem aby (a0:List Int):Io.run tt Z9 dr Pb Ay Tryz.f198 ((a0,()),())=NV a0:=by kernel_rfl
theorem VI:HcOk prog 198 (ah Ay aaA):=by
 refine aj (n:=400) hm (cs:=TN) (.cons eM (.cons c7 .nil)) (lp:=Pb) (fn:=Tryz.f198) (by kernel_rfl) (by kernel_rfl) (by kernel_rfl) Ay (.step (h0:=aN kL Fq) (by kernel_rfl) (aw (n:=400) hm (cs:=TN) (.cons eM (.cons c7 .nil)) (lp:=Pb) (fn:=Tryz.f198) (.done (by kernel_rfl)) kL Fq ?_) (.done (by kernel_rfl))) aaA ?_
 ·rintro ⟨⟨(xs:List Int),(o:List Nd),(j:Int),⟨⟩⟩,⟨⟨(a':Int),(b':Int),(z':Bool),(x':List Int),(l':List Nd),⟨⟩⟩,⟨⟩⟩⟩ y hw hy
  obtain ⟨hg,hy⟩:=Tr.guard hy
  simp only[Bool.and_eq_true,decide_eq_true_eq] at hg
  obtain ⟨⟨h3,h4⟩,h5⟩:=hg
  have h3:o=[]:=List.eq_nil_of_length_eq_zero h3
  have h4:j=0:=h4
  have h5:xs.length≤4294967296:=h5
  subst h3
  subst h4
  refine ⟨xs.length+1,(Yk h5 a' b' z' x' l' (xs.length+1) 0 [] (by omega) (by omega) (by simp)).trans ?_⟩
  rw[← hy,List.drop_zero]
  rfl
 ·rintro ⟨⟨(xs:List Int),⟨⟩⟩,⟨⟩⟩ out hw ho
  obtain ⟨hg,ho⟩:=Tr.guard ho
  have hg:xs.length≤4294967296:=of_decide_eq_true hg
  cases ho
  refine (aby xs).trans ?_
  unfold NV
  have c1:((decide (([]:List Nd).length=0)&&decide ((0:Int)=0))&&decide (xs.length≤4294967296))=true:=by simpa using hg
  refine (aa c1 _ _).trans ?_
  show _=some (Out.ret ((i7 xs,()),()))
  rw[k6]
  rfl
def nL (p:aW.den):Nd:=bn [ay 3 p.1,ay 2 p.2.1,i7 p.2.2.1,ay 4 p.2.2.2.1,ay 4 p.2.2.2.2.1,ay 3 p.2.2.2.2.2.1]
theorem W9 {p:aW.den}(h:aW.wf p):bn [ay 3 (IntKind.i64.wrap p.1),ay 2 (IntKind.i64.wrap p.2.1),i7 p.2.2.1,ay 4 p.2.2.2.1,ay 4 p.2.2.2.2.1,ay 3 (IntKind.i64.wrap p.2.2.2.2.2.1)]=nL p:=by
 rw[cO (n:=p.1) h.1,ge (n:=p.2.1) h.2.1,cO (n:=p.2.2.2.2.2.1) h.2.2.2.2.2.1];rfl
def iv (t:al.den):Nd:=bn [fN t.1,bb (t.2.1.map nL)]
@[irreducible] def eR (m:c6.den):Nd:=bn [ay 3 m.1,bb (m.2.1.map iv)]
def KV (x:Nd):aW.den:=(IntKind.i32.wrap (aZ x 0).lab.2.1,(IntKind.i16.wrap (aZ x 1).lab.2.1,((aZ x 2).kids.map KA,((aZ x 3).lab.2.1,((aZ x 4).lab.2.1,(IntKind.i32.wrap (aZ x 5).lab.2.1,()))))))
def B5 (x:Nd):al.den:=((aZ x 0).lab.2.2.2.1,((aZ x 1).kids.map KV,()))
@[irreducible] def Xa (n:Nd):c6.den:=(IntKind.i32.wrap (aZ n 0).lab.2.1,((aZ n 1).kids.map B5,()))
theorem Nq {p:aW.den}(h:aW.wf p):KV (nL p)=p:=by
 obtain ⟨(ix:Int),(cd:Int),(of:List Int),(ti:Int),(fo:Int),(ep:Int),⟨⟩⟩:=p
 show (IntKind.i32.wrap ix,(IntKind.i16.wrap cd,((i7 of).kids.map KA,(ti,(fo,(IntKind.i32.wrap ep,()))))))=_
 rw[KE,eI (n:=ix) h.1,F3 (n:=cd) h.2.1,eI (n:=ep) h.2.2.2.2.2.1]
 try rfl
theorem KW {t:al.den}(h:al.wf t):B5 (iv t)=t:=by
 obtain ⟨n,l,⟨⟩⟩:=t
 show (n,((l.map nL).map KV,()))=_
 rw[List.map_map,dF (f:=KV ∘ nL) (l:=l) fun p hp=>Nq (h.2.1.2 p hp)]
theorem xF {m:c6.den}(h:c6.wf m):Xa (eR m)=m:=by
 obtain ⟨(th:Int),(ts:List al.den),⟨⟩⟩:=m
 unfold Xa eR
 show (IntKind.i32.wrap th,((ts.map iv).map B5,()))=_
 rw[eI (n:=th) h.1,List.map_map,dF (f:=B5 ∘ iv) (l:=ts) fun t ht=>KW (h.2.1.2 t ht)]
abbrev jG:Io:=⟨[.dat c6 true false],[],[],[cQ],none⟩
def nM (t:al.den):Bool:=decide (t.2.1.length≤4294967296)&&t.2.1.all fun p=>decide (p.2.2.1.length≤4294967296)
def je (l:List al.den):Bool:=decide (l.length≤4294967296)&&l.all nM
def zk (d:jG.In):Tr jG.Res:=.ite (je d.1.1.2.1) (.ret (.ret ((eR d.1.1,()),()))) .no
abbrev qU:List (Nat×Hc):=[(181,ah jz tD),(180,ah kl wS),(183,ah hJ pP),(184,ah gg nP),(198,ah Ay aaA)]
def vW:Hd:=bA qU
abbrev ej:Lo:=⟨⟨(.any::.one (.ptr 1 0)::.one (.ptr 2 0)::.one (.onl 91 ao 7)::.one (.hol (.int IntKind.i64))::.one (.onl 91 ao 11)::.one (.hol (.int IntKind.i64))::ai (ai (ai (ai (ai []))))),[none,some [.hol (.int IntKind.i32),.hol (.sl 230 al)],some [.hol (.int IntKind.i64),.hol (.int IntKind.i64),.hol .bool,.onl 5 (Ty.int IntKind.u8) 1032,.onl 91 ao 1034]]⟩,[(.exit 2,⟨(.any::.one (.ptr 1 0)::.one (.ptr 2 0)::.one (.onl 91 ao 7)::.one (.hol (.int IntKind.i64))::.one (.onl 91 ao 11)::.any::ai (ai (ai (ai (ai []))))),[none,some [.hol (.int IntKind.i32),.hol (.sl 230 al)],some [.hol (.int IntKind.i64),.hol (.int IntKind.i64),.hol .bool,.onl 5 (Ty.int IntKind.u8) 1032,.onl 91 ao 1034]]⟩)]⟩
abbrev ei:Lo:=⟨⟨(.any::.one (.ptr 1 0)::.one (.ptr 2 0)::.one (.onl 91 ao 7)::.one (.hol (.int IntKind.i64))::ai (ai (ai (ai (ai (bh [])))))),[none,some [.hol (.int IntKind.i32),.hol (.sl 230 al)],some [.hol (.int IntKind.i64),.hol (.int IntKind.i64),.hol .bool,.onl 5 (Ty.int IntKind.u8) 1032,.onl 91 ao 1034]]⟩,[(.exit 0,⟨(.any::.one (.ptr 1 0)::.one (.ptr 2 0)::.one (.onl 91 ao 7)::.any::ai (ai (ai (ai (ai (bh [])))))),[none,some [.hol (.int IntKind.i32),.hol (.sl 230 al)],some [.hol (.int IntKind.i64),.hol (.int IntKind.i64),.hol .bool,.onl 5 (Ty.int IntKind.u8) 1032,.onl 91 ao 1034]]⟩)]⟩
def nZ (d:ej.st.den):Tr (aD ej.xs):=
 .ite ((decide ((0:Int)≤d.1.2.1)&&decide (d.1.2.1<(d.2.1.2.1.length:Int)))&&((decide (d.1.2.2.1.length=0)&&decide (d.1.2.2.2.1=0))&&nM (d.2.1.2.1.getD d.1.2.1.toNat al.zero)))
  (.ret (.ret ((),((d.1.1,(d.1.2.1,((d.2.1.2.1.getD d.1.2.1.toNat al.zero).2.1.map nL,()))),(d.2.1,(d.2.2.1,())))))) .no
def nY (d:ei.st.den):Tr (aD ei.xs):=
 .ite ((decide (d.1.1.length=0)&&decide (d.1.2.1=0))&&je d.2.1.2.1)
  (.ret (.ret ((),((d.2.1.2.1.map iv,()),(d.2.1,(d.2.2.1,())))))) .no
def kW:Lp:=bv [(4,aN ei nY),(8,aN ej nZ)]
def sj {R:Type}(h11:List ao.den)(h12:Int)(h13:List ao.den)(h14 h15:Int)(h16:List al.den)(h17 h18:Int)(h19:Bool)(h20:List Int)(h21:List ao.den)(next:List ao.den→Int→List ao.den→Int→Int→List al.den→Int→Int→Bool→List Int→List ao.den→Option R)(out:aD ej.xs→Option R):Option R:=bif decide (0≤h12)&&decide (h12<(↑h16.length:Int)) then bif decide (h14<(↑(List.length (h16.getD h12.toNat ([],[],())).2.1):Int)) then bif decide (0≤h12)&&decide (h12<(↑h16.length:Int)) then bif decide (0≤h14)&&decide (h14<(↑(List.length (h16.getD h12.toNat ([],[],())).2.1):Int)) then bif decide (List.length (List.getD (h16.getD h12.toNat ([],[],())).2.1 h14.toNat (0,0,[],0,0,0,())).2.2.1≤4294967296) then bif decide (h13.length+1≤4294967296) then next (h11) (h12) (h13++[Tre.mk (10,0,false,[],()) [Tre.mk (3,IntKind.i64.wrap (List.getD (h16.getD h12.toNat ([],[],())).2.1 h14.toNat (0,0,[],0,0,0,())).1,false,[],()) [],Tre.mk (2,IntKind.i64.wrap (List.getD (h16.getD h12.toNat ([],[],())).2.1 h14.toNat (0,0,[],0,0,0,())).2.1,false,[],()) [],Tre.mk (i7 (List.getD (h16.getD h12.toNat ([],[],())).2.1 h14.toNat (0,0,[],0,0,0,())).2.2.1).1 (i7 (List.getD (h16.getD h12.toNat ([],[],())).2.1 h14.toNat (0,0,[],0,0,0,())).2.2.1).2,Tre.mk (4,(List.getD (h16.getD h12.toNat ([],[],())).2.1 h14.toNat (0,0,[],0,0,0,())).2.2.2.1,false,[],()) [],Tre.mk (4,(List.getD (h16.getD h12.toNat ([],[],())).2.1 h14.toNat (0,0,[],0,0,0,())).2.2.2.2.1,false,[],()) [],Tre.mk (3,IntKind.i64.wrap (List.getD (h16.getD h12.toNat ([],[],())).2.1 h14.toNat (0,0,[],0,0,0,())).2.2.2.2.2.1,false,[],()) []]]) (IntKind.i64.wrap (h14+1)) (h15) (h16) (h17) (h18) (h19) (h20) (h21) else none else none else none else none else out (.ret ((),((h11,(h12,(h13,()))),((h15,(h16,())),((h17,(h18,(h19,(h20,(h21,()))))),()))))) else none
def mN (n:Nat)(h11:List ao.den)(h12:Int)(h13:List ao.den)(h14 h15:Int)(h16:List al.den)(h17 h18:Int)(h19:Bool)(h20:List Int)(h21:List ao.den):Option (aD ej.xs):=gd tt vW dr kW 0 Tryz.f121 (wP Tryz.f121 (cE Tryz.f121 0) 0) n (ej.st.mk' ((h11,(h12,(h13,(h14,())))),((h15,(h16,())),((h17,(h18,(h19,(h20,(h21,()))))),())))) (bL ej.xs)
theorem Ki (n:Nat)(h11:List ao.den)(h12:Int)(h13:List ao.den)(h14 h15:Int)(h16:List al.den)(h17 h18:Int)(h19:Bool)(h20:List Int)(h21:List ao.den):mN (n+1) h11 h12 h13 h14 h15 h16 h17 h18 h19 h20 h21=sj h11 h12 h13 h14 h15 h16 h17 h18 h19 h20 h21 (mN n) some:=by kernel_rfl
def si {R:Type}(h2:List ao.den)(h3 h4:Int)(h5:List al.den)(h6 h7:Int)(h8:Bool)(h9:List Int)(h10:List ao.den)(next:List ao.den→Int→Int→List al.den→Int→Int→Bool→List Int→List ao.den→Option R)(out:aD ei.xs→Option R):Option R:=bif decide (h3<(↑h5.length:Int)) then (nZ ((h2,(h3,([],(0,())))),((h4,(h5,())),((h6,(h7,(h8,(h9,(h10,()))))),())))).run fun y=>match y with | .ret ((),((x43,x44,x45,()),(x46,x47,()),(x48,x49,x50,x51,x52,()),()))=>(bif decide (0≤x44)&&decide (x44<(↑x47.length:Int)) then bif decide (x43.length+1≤4294967296) then next (x43++[Tre.mk (10,0,false,[],()) [Tre.mk (5,0,false,(x47.getD x44.toNat ([],[],())).1,()) [],Tre.mk (9,0,false,[],()) x45]]) (IntKind.i64.wrap (x44+1)) (x46) (x47) (x48) (x49) (x50) (x51) (x52) else none else none) else out (.ret ((),((h2,()),((h4,(h5,())),((h6,(h7,(h8,(h9,(h10,()))))),())))))
def mM (n:Nat)(h2:List ao.den)(h3 h4:Int)(h5:List al.den)(h6 h7:Int)(h8:Bool)(h9:List Int)(h10:List ao.den):Option (aD ei.xs):=gd tt vW dr kW 0 Tryz.f121 (cE Tryz.f121 0) n (ei.st.mk' ((h2,(h3,())),((h4,(h5,())),((h6,(h7,(h8,(h9,(h10,()))))),())))) (bL ei.xs)
theorem Kh (n:Nat)(h2:List ao.den)(h3 h4:Int)(h5:List al.den)(h6 h7:Int)(h8:Bool)(h9:List Int)(h10:List ao.den):mM (n+1) h2 h3 h4 h5 h6 h7 h8 h9 h10=si h2 h3 h4 h5 h6 h7 h8 h9 h10 (mM n) some:=by kernel_rfl
theorem Cv {ts:List al.den}(hw:∀t∈ts,al.wf t)(hl:ts.length≤maxLen){i:Nat}(hi:i<ts.length)(hp:(ts[i]).2.1.length≤4294967296)(hq:∀p∈(ts[i]).2.1,p.2.2.1.length≤4294967296)(acc:List Nd)(th a' b':Int)(z':Bool)(x':List Int)(l':List Nd):∀(k j:Nat) (o:List Nd),(ts[i]).2.1.length<j+k→j≤(ts[i]).2.1.length→o.length≤j→
  mN k acc i o j th ts a' b' z' x' l'=some (.ret ((),((acc,((i:Int),(o++((ts[i]).2.1.drop j).map nL,()))),((th,(ts,())),((a',(b',(z',(x',(l',()))))),()))))):=by
 intro k
 induction k with
 |zero=>intro j o h1 h2;omega
 |succ k ih=>
  intro j o h1 h2 h3
  rw[Ki]
  unfold sj
  refine (aa (by simp;omega) _ _).trans ?_
  have hti:=hw _ (List.getElem_mem hi)
  simp only[Int.toNat_natCast,aH hi]
  generalize ts[i]=t at hp hq h1 h2 ih hti ⊢
  by_cases hj:j<t.2.1.length
  ·refine (aa (decide_eq_true (show (j:Int)<(t.2.1.length:Int) by omega)) _ _).trans ?_
   refine (aa (by simp;omega) _ _).trans ?_
   refine (aa (by simp;omega) _ _).trans ?_
   refine (aa (decide_eq_true (show (List.getD t.2.1 j aW.zero).2.2.1.length≤4294967296 by rw[aH hj];exact hq _ (List.getElem_mem hj))) _ _).trans ?_
   refine (aa (decide_eq_true (show o.length+1≤4294967296 by omega)) _ _).trans ?_
   have hpw:=hti.2.1.2 _ (List.getElem_mem hj)
   have ih':=ih (j+1) (o++[nL t.2.1[j]]) (by omega) (by omega) (by simp;omega)
   have hd:t.2.1.drop j=t.2.1[j]::t.2.1.drop (j+1):=List.drop_eq_getElem_cons hj
   rw[hd,aC (n:=(j:Int)+1) (by omega) (by omega)]
   have hgp:List.getD t.2.1 ((j:Int)).toNat aW.zero=t.2.1[j]:=by simp only[Int.toNat_natCast];exact aH hj
   refine Eq.trans ?_ (ih'.trans ?_)
   ·refine congrArg (fun x=>mN k acc i (o++[x]) _ th ts a' b' z' x' l') ?_
    have eta:∀q:Nd,Tre.mk q.lab q.kids=q:=fun q=>by cases q;rfl
    simp only[aH hj,eta]
    exact W9 hpw
   ·simp only[List.map_cons,List.append_assoc,List.singleton_append]
  ·refine (ab (decide_eq_false (show ¬(j:Int)<(t.2.1.length:Int) by omega)) _ _).trans ?_
   rw[List.drop_of_length_le (by omega)]
   simp
theorem Cu {ts:List al.den}(hw:∀t∈ts,al.wf t)(hl:ts.length≤maxLen)(hs:je ts=true)(th a' b':Int)(z':Bool)(x':List Int)(l':List Nd):∀(k j:Nat) (o:List Nd),ts.length<j+k→j≤ts.length→o.length≤j→
  mM k o j th ts a' b' z' x' l'=some (.ret ((),((o++(ts.drop j).map iv,()),((th,(ts,())),((a',(b',(z',(x',(l',()))))),()))))):=by
 intro k
 have hs1:=(Bool.and_eq_true _ _▸hs).1
 have hs2:=(Bool.and_eq_true _ _▸hs).2
 have hs1:ts.length≤4294967296:=of_decide_eq_true hs1
 induction k with
 |zero=>intro j o h1 h2;omega
 |succ k ih=>
  intro j o h1 h2 h3
  rw[Kh]
  unfold si
  by_cases hj:j<ts.length
  ·refine (aa (decide_eq_true (show (j:Int)<(ts.length:Int) by omega)) _ _).trans ?_
   have hgp:ts.getD ((j:Int)).toNat al.zero=ts[j]:=by simp only[Int.toNat_natCast];exact aH hj
   have hpl:nM ts[j]=true:=List.all_eq_true.1 hs2 _ (List.getElem_mem hj)
   have c8:((decide ((0:Int)≤(j:Int))&&decide ((j:Int)<(ts.length:Int)))&&((decide (([]:List Nd).length=0)&&decide ((0:Int)=0))&&nM (ts.getD ((j:Int)).toNat al.zero)))=true:=by
    rw[hgp,hpl];simp;omega
   refine (aa c8 _ _).trans ?_
   refine (aa (by simp;omega) _ _).trans ?_
   refine (aa (decide_eq_true (show o.length+1≤4294967296 by omega)) _ _).trans ?_
   rw[aC (n:=(j:Int)+1) (by omega) (by omega)]
   have ih':=ih (j+1) (o++[iv ts[j]]) (by omega) (by omega) (by simp;omega)
   have hd:ts.drop j=ts[j]::ts.drop (j+1):=List.drop_eq_getElem_cons hj
   rw[hd]
   refine Eq.trans ?_ (ih'.trans ?_)
   ·refine congrArg (fun x=>mM k (o++[x]) _ th ts a' b' z' x' l') ?_
    show (bn [fN (ts.getD ((j:Int)).toNat al.zero).1,bb ((ts.getD ((j:Int)).toNat al.zero).2.1.map nL)])=_
    rw[hgp];rfl
   ·simp only[List.map_cons,List.append_assoc,List.singleton_append]
  ·refine (ab (decide_eq_false (show ¬(j:Int)<(ts.length:Int) by omega)) _ _).trans ?_
   rw[List.drop_of_length_le (by omega)]
   simp
def xk (a0:Int)(a1:List al.den):Option jG.Res:=(nY (([],(0,())),((a0,(a1,())),((0,(0,(false,([],([],()))))),())))).run fun y=>match y with | .ret ((),((x70,()),(x71,x72,()),(x73,x74,x75,x76,x77,()),()))=>(some (Out.ret ((Tre.mk (10,0,false,[],()) [Tre.mk (3,IntKind.i64.wrap x71,false,[],()) [],Tre.mk (9,0,false,[],()) x70],()),())))
theorem MM (a0:Int)(a1:List al.den):Io.run tt vW dr kW jG Tryz.f121 (((a0,a1,()),()),())=xk a0 a1:=by kernel_rfl
theorem QS:HcOk prog 121 (ah jG zk):=by
 refine aj (n:=400) hm (cs:=qU) (.cons eM (.cons fO (.cons dQ (.cons c7 (.cons VI .nil))))) (lp:=kW) (fn:=Tryz.f121) (by kernel_rfl) (by kernel_rfl) (by kernel_rfl) jG (.step (h0:=aN ei nY) (by kernel_rfl) (aw (n:=400) hm (cs:=qU) (.cons eM (.cons fO (.cons dQ (.cons c7 (.cons VI .nil))))) (lp:=kW) (fn:=Tryz.f121) (.step (h0:=aN ej nZ) (by kernel_rfl) (aw (n:=400) hm (cs:=qU) (.cons eM (.cons fO (.cons dQ (.cons c7 (.cons VI .nil))))) (lp:=kW) (fn:=Tryz.f121) (.done (by kernel_rfl)) ej nZ ?_) (.done (by kernel_rfl))) ei nY ?_) (.done (by kernel_rfl))) zk ?_
 ·rintro ⟨⟨(acc:List Nd),(i:Int),(o:List Nd),(j:Int),⟨⟩⟩,⟨⟨(th:Int),(ts:List al.den),⟨⟩⟩,⟨(a':Int),(b':Int),(z':Bool),(x':List Int),(l':List Nd),⟨⟩⟩,⟨⟩⟩⟩ y hw hy
  obtain ⟨hg,hy⟩:=Tr.guard hy
  simp only[Bool.and_eq_true,decide_eq_true_eq] at hg
  obtain ⟨⟨h1,h2⟩,⟨h3,h4⟩,h5⟩:=hg
  have h1:0≤i:=h1
  have h2:i<(ts.length:Int):=h2
  have h3:o=[]:=List.eq_nil_of_length_eq_zero h3
  have h4:j=0:=h4
  obtain ⟨i,rfl⟩:=cZ h1
  subst h3
  subst h4
  have hi:i<ts.length:=by omega
  have hgp:ts.getD ((i:Int)).toNat al.zero=ts[i]:=by simp only[Int.toNat_natCast];exact aH hi
  have h5:nM (ts.getD ((i:Int)).toNat al.zero)=true:=h5
  rw[hgp] at h5
  unfold nM at h5
  simp only[Bool.and_eq_true,decide_eq_true_eq] at h5
  obtain ⟨h5,h6⟩:=h5
  have h6:∀p∈(ts[i]).2.1,p.2.2.1.length≤4294967296:=fun p hp=>of_decide_eq_true (List.all_eq_true.1 h6 p hp)
  have hwt:ts.length≤maxLen∧∀t∈ts,al.wf t:=by have:=hw.2.1.2.1;exact this
  refine ⟨(ts[i]).2.1.length+1,(Cv hwt.2 hwt.1 hi h5 h6 acc th a' b' z' x' l' ((ts[i]).2.1.length+1) 0 [] (by omega) (by omega) (by simp)).trans ?_⟩
  rw[← hy,← hgp,List.drop_zero]
  rfl
 ·rintro ⟨⟨(o:List Nd),(j:Int),⟨⟩⟩,⟨⟨(th:Int),(ts:List al.den),⟨⟩⟩,⟨(a':Int),(b':Int),(z':Bool),(x':List Int),(l':List Nd),⟨⟩⟩,⟨⟩⟩⟩ y hw hy
  obtain ⟨hg,hy⟩:=Tr.guard hy
  simp only[Bool.and_eq_true,decide_eq_true_eq] at hg
  obtain ⟨⟨h3,h4⟩,h5⟩:=hg
  have h3:o=[]:=List.eq_nil_of_length_eq_zero h3
  have h4:j=0:=h4
  have h5:je ts=true:=h5
  subst h3
  subst h4
  have hwt:ts.length≤maxLen∧∀t∈ts,al.wf t:=by have:=hw.2.1.2.1;exact this
  refine ⟨ts.length+1,(Cu hwt.2 hwt.1 h5 th a' b' z' x' l' (ts.length+1) 0 [] (by omega) (by omega) (by simp)).trans ?_⟩
  rw[← hy,List.drop_zero]
  rfl
 ·rintro ⟨⟨⟨(th:Int),(ts:List al.den),⟨⟩⟩,⟨⟩⟩,⟨⟩⟩ out hw ho
  obtain ⟨hg,ho⟩:=Tr.guard ho
  have hg:je ts=true:=hg
  cases ho
  refine (MM th ts).trans ?_
  unfold xk
  have c1:((decide (([]:List Nd).length=0)&&decide ((0:Int)=0))&&je ts)=true:=by rw[hg];rfl
  refine (aa c1 _ _).trans ?_
  show _=some (Out.ret ((eR (th,(ts,())),()),()))
  unfold eR
  have hth:IntKind.i64.wrap th=th:=cO hw.1.1.1
  show some (Out.ret ((bn [ay 3 (IntKind.i64.wrap th),bb (ts.map iv)],()),()))=_
  rw[hth]
abbrev AQ:Lo:=⟨⟨(bh (.one (.ptr 2 0)::.one (.ptr 3 0)::.one (.hol (.sl 91 ao))::.one (.hol (.int IntKind.i64))::.one (.ptr 6 0)::.one (.hol (.sl 91 ao))::.one (.hol (.int IntKind.i64))::.one (.ptr 9 0)::.one (.ptr 10 0)::.one (.hol (.sl 91 ao))::.one (.hol (.int IntKind.i64))::ai (ai (ai (ai (ai (dR (bQ [])))))))),[none,none,some [.hol (.int IntKind.i32),.onl 230 al 1028],some [.hol (.int IntKind.i32),.onl 230 al 1540],none,none,some [.hol .str,.onl 233 aW 3076],none,none,some [.hol (.int IntKind.i64),.hol (.int IntKind.i64),.hol .bool,.hol (.sl 5 (Ty.int IntKind.u8)),.hol (.sl 91 ao)],some [.hol (.int IntKind.i32),.hol (.int IntKind.i16),.onl 2 (Ty.int IntKind.i64) 5126,.hol (.int IntKind.i64),.hol (.int IntKind.i64),.hol (.int IntKind.i32)]]⟩,[(.exit 4,⟨(bh (.one (.ptr 2 0)::.one (.ptr 3 0)::.one (.hol (.sl 91 ao))::.one (.hol (.int IntKind.i64))::.one (.ptr 6 0)::.one (.hol (.sl 91 ao))::.one (.hol (.int IntKind.i64))::.one (.ptr 9 0)::.one (.ptr 10 0)::ai (ai (ai (ai (ai (dR (bQ (bh []))))))))),[none,none,some [.hol (.int IntKind.i32),.onl 230 al 1028],some [.hol (.int IntKind.i32),.onl 230 al 1540],none,none,some [.hol .str,.onl 233 aW 3076],none,none,some [.hol (.int IntKind.i64),.hol (.int IntKind.i64),.hol .bool,.hol (.sl 5 (Ty.int IntKind.u8)),.hol (.sl 91 ao)],some [.hol (.int IntKind.i32),.hol (.int IntKind.i16),.onl 2 (Ty.int IntKind.i64) 5126,.hol (.int IntKind.i64),.hol (.int IntKind.i64),.hol (.int IntKind.i32)]]⟩)]⟩
abbrev AP:Lo:=⟨⟨(bh (.one (.ptr 2 0)::.one (.ptr 3 0)::.one (.hol (.sl 91 ao))::.one (.hol (.int IntKind.i64))::.one (.ptr 6 0)::.one (.hol (.sl 91 ao))::.one (.hol (.int IntKind.i64))::ai (ai (ai (ai (ai (ai ([])))))))),[none,none,some [.hol (.int IntKind.i32),.onl 230 al 1028],some [.hol (.int IntKind.i32),.onl 230 al 1540],none,none,some [.hol .str,.onl 233 aW 3076]]⟩,[(.exit 2,⟨(bh (.one (.ptr 2 0)::.one (.ptr 3 0)::.one (.hol (.sl 91 ao))::.one (.hol (.int IntKind.i64))::.one (.ptr 6 0)::ai (ai (ai (ai (ai (ai (bh [])))))))),[none,none,some [.hol (.int IntKind.i32),.onl 230 al 1028],some [.hol (.int IntKind.i32),.onl 230 al 1540],none,none,some [.hol .str,.onl 233 aW 3076]]⟩)]⟩
abbrev D0:Lo:=⟨⟨(bh (.one (.ptr 2 0)::.one (.ptr 3 0)::.one (.hol (.sl 91 ao))::.one (.hol (.int IntKind.i64))::.any::ai (ai (ai (ai (ai (ai (bh [])))))))),[none,none,some [.hol (.int IntKind.i32),.onl 230 al 1028],some [.hol (.int IntKind.i32),.onl 230 al 1540]]⟩,[(.exit 0,⟨(bh (.one (.ptr 2 0)::.one (.ptr 3 0)::.any::ai (ai (ai (ai (ai (ai (bQ [])))))))),[none,none,some [.hol (.int IntKind.i32),.onl 230 al 1028],some [.hol (.int IntKind.i32),.onl 230 al 1540]]⟩)]⟩
def abW (d:AQ.st.den):Tr (aD AQ.xs):=
 .ite ((decide (d.1.2.2.2.2.2.1=0)&&decide (d.2.2.2.2.2.1.2.2.1.length=0))&&decide (d.1.2.2.2.2.1.length≤4294967296))
  (.ret (.ret ((),((d.1.1,(d.1.2.1,(d.1.2.2.1,(d.1.2.2.2.1,())))),(d.2.1,(d.2.2.1,(d.2.2.2.1,(d.2.2.2.2.1,((d.2.2.2.2.2.1.1,(d.2.2.2.2.2.1.2.1,(d.1.2.2.2.2.1.map KA,d.2.2.2.2.2.1.2.2.2))),()))))))))) .no
def abV (d:AP.st.den):Tr (aD AP.xs):=
 .ite ((decide (d.1.2.2.2.1=0)&&decide (d.2.2.2.1.2.1.length=0))&&decide (aI d.1.2.2.1≤4294967296))
  (.ret (.ret ((),((d.1.1,(d.1.2.1,())),(d.2.1,(d.2.2.1,((d.2.2.2.1.1,(d.1.2.2.1.map KV,())),()))))))) .no
def aca (d:D0.st.den):Tr (aD D0.xs):=
 .ite ((decide (d.1.2.1=0)&&decide (d.2.2.1.2.1.length=0))&&decide (aI d.1.1≤4294967296))
  (.ret (.ret ((),((),(d.2.1,((d.2.2.1.1,(d.1.1.map B5,())),())))))) .no
@[irreducible] noncomputable def jk (v:Int)(m:c6.den):List Int×Int:=fT 2 true v (eR m)
def Xo (v:Int)(p:aW.den):List Int×Int:=aU (aB p.1 4,0) (aU (aB p.2.1 2,0) (aU (if 0≤v∧v≤0 then wNs p.2.2.1 else ([],0)) (aU (if 1≤v∧v≤3 then (aB p.2.2.2.1 8,0) else ([],0)) (aU (if 1≤v∧v≤3 then (aB p.2.2.2.2.1 8,0) else ([],0)) (aU (if 3≤v∧v≤3 then (aB p.2.2.2.2.2.1 4,0) else ([],0)) ([],0))))))
def Xp (v:Int)(t:al.den):List Int×Int:=aU (pB t.1) (aU (eN (Xo v) t.2.1) ([],0))
def abM (v:Int)(m:c6.den):List Int×Int:=aU (if 2≤v∧v≤3 then (aB m.1 4,0) else ([],0)) (aU (eN (Xp v) m.2.1) (([],0)))
theorem Wri.orP (v:Int)(p:aW.den):Wri (Xo v p) (jf v p):=(Wri.put p.1 4).seq ((Wri.put p.2.1 2).seq ((Wri.hasNs v 0 0 p.2.2.1).seq ((Wri.hasE v 1 3 p.2.2.2.1 8).seq ((Wri.hasE v 1 3 p.2.2.2.2.1 8).seq ((Wri.hasE v 3 3 p.2.2.2.2.2.1 4).seq (Wri.nop))))))
theorem Wri.orT (v:Int)(t:al.den):Wri (Xp v t) (B6 v t):=(Wri.str _).seq ((Wri.items fun p hp=>Wri.orP v p).seq Wri.nop)
abbrev aaJ:Fd:=cp [112,97,114,116] 10 0 3 [cp [105,110,100,101,120] 3 0 3 [],cp [99,111,100,101] 2 0 3 [],cp [111,102,102,115,101,116,115] 9 0 0 [cp [111,102,102,115,101,116] 4 0 0 []],cp [116,105,109,101] 4 1 3 [],cp [111,102,102,115,101,116] 4 1 3 [],cp [101,112,111,99,104] 3 3 3 []]
abbrev acr:Fd:=cp [116,111,112,105,99] 10 0 3 [cp [110,97,109,101] 5 0 3 [],cp [112,97,114,116,115] 9 0 3 [aaJ]]
theorem ZJ {v:Int}{p:aW.den}(hv:0≤v∧v≤3)(h:aW.wf p):tq aaJ v (nL p)=Xo v p:=by
 unfold nL Xo
 rw[mQ,bw (aJ hv.1 hv.2),bw (aJ hv.1 hv.2),lU,lU,lU,lU,dc,W2,ce (by decide) (w:=4) rfl (b8 h.1),ce (by decide) (w:=2) rfl (BH h.2.1),ce (by decide) (w:=4) rfl (b8 h.2.2.2.2.2.1),ce (by decide) (w:=8) rfl (lO p.2.2.2.1),ce (by decide) (w:=8) rfl (lO p.2.2.2.2.1)]
 try rfl
theorem ZK {v:Int}{t:al.den}(hv:0≤v∧v≤3)(h:al.wf t):tq acr v (iv t)=Xp v t:=by
 unfold iv Xp
 rw[mQ,bw (aJ hv.1 hv.2),bw (aJ hv.1 hv.2),dc,u9,ja,dA fun p hp=>ZJ hv (h.2.1.2 p hp)]
def pw (v:Int)(p:aW.den):Bool:=(if 0≤v∧v≤0 then true else ((p.2.2.1.length:Int) == 0))&&((if 1≤v∧v≤3 then true else (p.2.2.2.1 == 0))&&((if 1≤v∧v≤3 then true else (p.2.2.2.2.1 == 0))&&((if 3≤v∧v≤3 then true else (p.2.2.2.2.2.1 == 0)))))
theorem RX {v:Int}{p:aW.den}(hv:0≤v∧v≤3):(ba aaJ v (nL p)).2=pw v p:=by
 unfold nL pw
 rw[iH,bB (aJ hv.1 hv.2),bB (aJ hv.1 hv.2),fK,fK,fK,fK,fJ,MY,aT (by decide) (by decide),aT (by decide) (by decide),aT (by decide) (by decide),aT (by decide) (by decide),aT (by decide) (by decide),KP,bK,bK,bK]
 simp only[Bool.true_and,Bool.and_true]
theorem RY {v:Int}{t:al.den}(hv:0≤v∧v≤3):(ba acr v (iv t)).2=t.2.1.all (pw v):=by
 unfold iv
 rw[iH,bB (aJ hv.1 hv.2),bB (aJ hv.1 hv.2),fJ,aT (by decide) (by decide),fz]
 simp only[RX hv,Bool.true_and,Bool.and_true]
theorem Nj (m:c6.den):dN uW [ay 3 m.1,bb (m.2.1.map iv)]:=by
 unfold uW cy
 refine aF (aK (by decide) (by decide)) (aF ?_ cI)
 refine dD _ _ fun t=>eU rfl (aF (aK (by decide) (by decide)) (aF ?_ cI))
 exact dD _ _ fun p=>eU rfl (aF (aK (by decide) (by decide)) (aF (aK (by decide) (by decide)) (aF (G8 _) (aF (aK (by decide) (by decide)) (aF (aK (by decide) (by decide)) (aF (aK (by decide) (by decide)) cI))))))
def JM (v:Int)(m:c6.den):Bool:=(if 2≤v∧v≤3 then true else (m.1 == 0))&&((m.2.1.all fun t=>t.2.1.all (pw v)))
theorem Sn {e v:Int}{p:aW.den}:jO v p (e,(false,([]:List Int)))=(ki e (pw v p),(false,[])):=by
 unfold jO pw
 rw[eC,eC,eC,Ux,eP,eP,Bool.and_assoc]
theorem B4 {v:Int}:∀{ps:List aW.den} {e:Int},gL v ps (e,(false,([]:List Int)))=(ki e (ps.all (pw v)),(false,[]))
 |[],e=>by rw[List.all_nil,k5];rfl
 |p::ps,e=>by
  show gL v ps (jO v p (e,(false,[])))=_
  rw[Sn,B4,eP,List.all_cons]
theorem EM {v:Int}:∀{ts:List al.den} {e:Int},wL v ts (e,(false,([]:List Int)))=(ki e (ts.all fun t=>t.2.1.all (pw v)),(false,[]))
 |[],e=>by rw[List.all_nil,k5];rfl
 |t::ts,e=>by
  show wL v ts (gL v t.2.1 (e,(false,[])))=_
  rw[B4,EM,eP,List.all_cons]
theorem acl {v:Int}{m:c6.den}(hv:0≤v∧v≤3):(bF v uW [ay 3 m.1,bb (m.2.1.map iv)]).2=JM v m:=by
 unfold uW cy JM
 rw[fK,bB (aJ hv.1 hv.2),fJ,aT (by decide) (by decide),fz,bK]
 simp only[RY hv,Bool.true_and,Bool.and_true,Bool.and_assoc]
theorem acW {v:Int}{m:c6.den}(hv:0≤v∧v≤3)(hm:c6.wf m):cb v uW [ay 3 m.1,bb (m.2.1.map iv)]=abM v m:=by
 unfold uW cy abM
 rw[lU,bw (aJ hv.1 hv.2),dc,ce (by decide) (w:=4) rfl (b8 hm.1),ja,dA fun t ht=>ZK hv (hm.2.1.2 t ht)]
 try rfl
theorem VL {v:Int}{m:c6.den}(hm:c6.wf m):(bP (vd v m),bz (vd v m))=jk v m:=by
 unfold jk eR
 rw[yO (t:=uW) rfl WM rfl (Nj m)]
 unfold vd
 rw[eC,EM,eP]
 have hr:Wri (abM v m) _:=(Wri.hasE v 2 3 m.1 4).seq ((Wri.items fun t ht=>Wri.orT v t).seq (Wri.nop))
 refine (hr.done _).trans ?_
 unfold aX
 by_cases hv:v<0∨3<v
 ·rw[if_pos hv,if_pos hv]
  exact if_pos (by simp[ki])
 rw[if_neg hv,if_neg hv]
 have hv':0≤v∧v≤3:=by omega
 rw[acl hv',acW hv' hm]
 show (if ki 0 (JM v m)≠0 then _ else _)=_
 cases hz:JM v m
 ·exact (if_pos (by decide)).trans (show ([],ki 0 (JM v m))=_ by rw[hz];rfl)
 ·exact (if_neg (by decide)).trans (if_neg (by decide)).symm
abbrev un:Io:=oF
def NG (d:un.In):Tr un.Res:=.ret (.ret (((jk d.1.1 d.1.2.1).1,((jk d.1.1 d.1.2.1).2,())),()))
theorem Vq:HcOk prog 60 (ah un NG):=by
 refine HcOk.weakW YA ?_
 rintro ⟨⟨(v:Int),m,⟨⟩⟩,⟨⟩⟩ y hw hy
 rw[← hy]
 have h:=VL (v:=v) (m:=m) hw.1.2.1
 show some (Out.ret ((bP (vd v m),(bz (vd v m),())),()))=some (Out.ret (((jk v m).1,((jk v m).2,())),()))
 rw[← h]
theorem rz {v:Int}{p:aW.den}(h:pw v p=true):(¬(0≤v∧v≤0)→p.2.2.1=[])∧(¬(1≤v∧v≤3)→p.2.2.2.1=0)∧(¬(1≤v∧v≤3)→p.2.2.2.2.1=0)∧(¬(3≤v∧v≤3)→p.2.2.2.2.2.1=0):=by
 unfold pw at h
 simp only[Bool.and_eq_true] at h
 exact ⟨fun hv=>by have h1:=h.1;rw[if_neg hv] at h1;simpa using h1,fun hv=>by have h1:=h.2.1;rw[if_neg hv] at h1;simpa using h1,fun hv=>by have h1:=h.2.2.1;rw[if_neg hv] at h1;simpa using h1,fun hv=>by have h1:=h.2.2.2;rw[if_neg hv] at h1;simpa using h1⟩
theorem Rd.orP {b:List Int}{p:aW.den}{v:Int}(h:aW.wf p)(hk:pw v p=true):Rd b p (Xo v p) (lY v b):=
 (Rd.seq (fun a r=>(a,r)) (Rd.num (cN h.1)) (Rd.seq (fun a r=>(a,r)) (Rd.num (tp h.2.1)) (Rd.seq (fun a r=>(a,r)) (Rd.optNs h.2.2.1.2 (rz hk).1) (Rd.seq (fun a r=>(a,r)) (Rd.opt (gb h.2.2.2.1) (rz hk).2.1) (Rd.seq (fun a r=>(a,r)) (Rd.opt (gb h.2.2.2.2.1) (rz hk).2.2.1) (Rd.seq (fun a r=>(a,r)) (Rd.opt (cN h.2.2.2.2.2.1) (rz hk).2.2.2) (Rd.nop b ()))))))).congr fun s=>by unfold lY;rfl
theorem Rd.orT {b:List Int}{t:al.den}{v:Int}(h:al.wf t)(hk:t.2.1.all (pw v)=true):Rd b t (Xp v t) (lZ v b):=
 (Rd.seq (fun a r=>(a,r)) (Rd.txt t.1) (Rd.seq (fun a r=>(a,r)) (Rd.list fun p hp=>Rd.orP (h.2.1.2 p hp) (List.all_eq_true.1 hk p hp)) (Rd.nop b ()))).congr fun s=>by unfold lZ ie;rfl
def Na (m:bT.den):Bool:=dk m.2.2.1&&decide (8*aP (bE m)≤4294967296)
theorem Ot (p:aL.den):jR aL p=4:=rfl
theorem FN (t:af.den):jR af t=(t.1.length+1)+(((t.2.1.map (jR aL)).sum+1)+0):=rfl
theorem XE (m:bT.den):jR bT m=1+(1+(((m.2.2.1.map (jR af)).sum+1)+(0))):=rfl
theorem abP (p:aL.den):aP (ku p)≤3*jR aL p:=by
 rw[Ot]
 show aP (bn [ay 3 p.1,ay 3 p.2.1,ay 4 p.2.2.1,ay 3 p.2.2.2.1])≤_
 rw[jb,aM,aM,aM,aM,cG,cL,cL,cL,cL]
 omega
theorem abQ (t:af.den):aP (fF t)≤3*jR af t:=by
 have h:=pp (T:=aL) (F:=ku) (c:=3) (l:=t.2.1) fun p _=>abP p
 rw[FN]
 show aP (bn [fN t.1,bb (t.2.1.map ku)])≤_
 rw[jb,aM,aM,cG,wF,k7]
 omega
theorem YN {m:bT.den}(h:jR bT m≤1048576):Na m=true:=by
 have h1:=pp (T:=af) (F:=fF) (c:=3) (l:=m.2.2.1) fun t _=>abQ t
 have h2:=pl (T:=af) (fun t=>by rw[FN];omega) m.2.2.1
 rw[XE] at h
 have hp:∀t∈m.2.2.1,t.2.1.length≤1048576:=fun t htm=>by
  have a1:=vq (T:=af) htm
  rw[FN] at a1
  have a2:=pl (T:=aL) (fun p=>by rw[Ot];omega) t.2.1
  omega
 unfold Na
 simp only[Bool.and_eq_true,decide_eq_true_eq]
 refine ⟨?_,?_⟩
 ·unfold dk
  simp only[Bool.and_eq_true,decide_eq_true_eq]
  refine ⟨by omega,List.all_eq_true.2 fun t htm=>decide_eq_true ?_⟩
  have:=hp t htm
  omega
 ·unfold bE
  show 8*aP (bn [ay 3 m.1,ay 1 m.2.1,bb (m.2.2.1.map fF)])≤_
  rw[jb,aM,aM,aM,cG,cL,cL,k7]
  omega
end
end Go.Proofs.YtomeplopmndbgaaGreat.Sym
