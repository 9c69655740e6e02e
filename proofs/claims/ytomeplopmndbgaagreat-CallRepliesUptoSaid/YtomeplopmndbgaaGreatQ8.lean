/- leatref16: calls and answers as trees, compared, as new memory, written. -/
import Derived.Test.YtomeplopmndbgaaGreatQ7

namespace Go.Proofs.YtomeplopmndbgaaGreat.Sym
open Go
set_option linter.unusedSimpArgs false
set_option linter.unusedVariables false
noncomputable section
abbrev jB:Io:=⟨[Kn,Kn],[],[],[dI],none⟩
def Ek (d:jB.In):Tr jB.Res:=.ret (.ret ((f6 d.1.1 d.1.2.1,()),()))
abbrev Hu:List (Nat×Hc):=[]
def SS:Hd:=bz Hu
def Ir:Lp:=bo []
def yF (a0 a1:Int):Option jB.Res:=bif decide (a0<0) then some (Out.ret ((160,()),())) else bif decide (2<a0) then some (Out.ret ((160,()),())) else bif decide (a1<0) then some (Out.ret ((8,()),())) else bif decide (3<a1) then some (Out.ret ((8,()),())) else some (Out.ret ((0,()),()))
theorem PU (a0 a1:Int):Io.run tt SS dr Ir jB Tryz.f33 ((a0,a1,()),())=yF a0 a1:=by kernel_rfl
theorem IM:HcOk prog 33 (ah jB Ek):=by
 refine aj (n:=400) hm (cs:=Hu) HcsOk.nil (lp:=Ir) (fn:=Tryz.f33) (by kernel_rfl) (by kernel_rfl) (by kernel_rfl) jB (.done (by kernel_rfl)) Ek ?_
 rintro ⟨⟨(k:Int),(v:Int),⟨⟩⟩,⟨⟩⟩ out hw ho
 cases ho
 refine (PU k v).trans ?_
 unfold yF
 show _=some (Out.ret ((f6 k v,()),()))
 unfold f6
 have key:(bif decide (v<0) then some (Out.ret ((8,()),())) else bif decide (3<v) then some (Out.ret ((8,()),())) else some (Out.ret ((0,()),())):Option jB.Res)=some (Out.ret ((if v<0∨3<v then 8 else 0,()),())):=by
  by_cases h3:v<0
  ·rw[aa (by simpa using h3),if_pos (.inl h3)]
  ·rw[ab (by simpa using h3)]
   by_cases h4:3<v
   ·rw[aa (by simpa using h4),if_pos (.inr h4)]
   ·rw[ab (by simpa using h4),if_neg (by omega)]
 by_cases h0:k<0
 ·rw[aa (by simpa using h0),if_pos (c:=k≠0∧k≠1∧k≠2) (by omega)]
 rw[ab (by simpa using h0)]
 by_cases h1:2<k
 ·rw[aa (by simpa using h1),if_pos (c:=k≠0∧k≠1∧k≠2) (by omega)]
 rw[ab (by simpa using h1),if_neg (c:=k≠0∧k≠1∧k≠2) (by omega)]
 exact key
theorem Gk (n:Nd):Tre.mk n.lab n.kids=n:=by cases n;rfl
def ke (c:jV.den)(k:Int):Nd:=if k=0 then QC c.2.2.2.2.1 else if k=1 then VM c.2.2.2.2.2.1 else A6 c.2.2.2.2.2.2.1
def F8 (c:jV.den):Bool:=DF c.2.2.2.2.1.2.2.2.1&&(JF c.2.2.2.2.2.1.2.2.2.2.2.1&&JI c.2.2.2.2.2.2.1.2.2.1)
def aC (c:cD.den)(k:Int):Nd:=if k=0 then ba c.2.2.2.1 else if k=1 then br c.2.2.2.2.1 else bt c.2.2.2.2.2.1
def bQ (c:cD.den):Bool:=cv c.2.2.2.1.1&&(c7 c.2.2.2.2.1.2.1&&da c.2.2.2.2.2.1.2.1)
abbrev gY:Io:=⟨[.dat cD true false,Kn],[],[],[du],none⟩
def sq (d:gY.In):Tr gY.Res:=.ite (bQ d.1.1) (.ret (.ret ((aC d.1.1 d.1.2.1,()),()))) .no
abbrev CM:List (Nat×Hc):=[(119,ah fI pY),(120,ah hJ sE),(121,ah hY sG)]
def OU:Hd:=bz CM
def Df:Lp:=bo []
def v9 (a0 a1 a2:Int)(a3:List aq.den)(a4 a5:Int)(a6:List ag.den)(a7:Int)(a8:List af.den)(a9:Int):Option gY.Res:=bif a9 == 0 then bif cv a3 then some (Out.ret ((Tre.mk (ba (a3,a4,())).1 (ba (a3,a4,())).2,()),())) else none else bif a9 == 1 then bif c7 a6 then some (Out.ret ((Tre.mk (br (a5,a6,())).1 (br (a5,a6,())).2,()),())) else none else bif da a8 then some (Out.ret ((Tre.mk (bt (a7,a8,())).1 (bt (a7,a8,())).2,()),())) else none
theorem Ln (a0 a1 a2:Int)(a3:List aq.den)(a4 a5:Int)(a6:List ag.den)(a7:Int)(a8:List af.den)(a9:Int):Io.run tt OU dr Df gY Tryz.f52 (((a0,a1,a2,(a3,a4,()),(a5,a6,()),(a7,a8,()),()),a9,()),())=v9 a0 a1 a2 a3 a4 a5 a6 a7 a8 a9:=by kernel_rfl
theorem qx:HcOk prog 52 (ah gY sq):=by
 refine aj (n:=400) hm (cs:=CM) (.cons z9 (.cons DB (.cons DC .nil))) (lp:=Df) (fn:=Tryz.f52) (by kernel_rfl) (by kernel_rfl) (by kernel_rfl) gY (.done (by kernel_rfl)) sq ?_
 rintro ⟨⟨⟨(k:Int),(v:Int),(co:Int),⟨(pt:List aq.den),(ph:Int),⟨⟩⟩,⟨(fh:Int),(ft:List ag.den),⟨⟩⟩,⟨(lh:Int),(lt:List af.den),⟨⟩⟩,⟨⟩⟩,(q:Int),⟨⟩⟩,⟨⟩⟩ out hw ho
 obtain ⟨hg,ho⟩:=Tr.guard ho
 unfold bQ at hg
 simp only[Bool.and_eq_true] at hg
 obtain ⟨h1,h2,h3⟩:=hg
 have h1:cv pt=true:=h1
 have h2:c7 ft=true:=h2
 have h3:da lt=true:=h3
 cases ho
 refine (Ln k v co pt ph fh ft lh lt q).trans ?_
 unfold v9
 show _=some (Out.ret ((aC (k,(v,(co,((pt,(ph,())),((fh,(ft,())),((lh,(lt,())),())))))) q,()),()))
 unfold aC
 dsimp only
 by_cases k0:q=0
 ·rw[aa (by simpa using k0),if_pos k0,aa h1]
  exact congrArg (fun n:Nd=>some (Out.ret ((n,()),()))) (Gk _)
 rw[ab (by simpa using k0),if_neg k0]
 by_cases k1:q=1
 ·rw[aa (by simpa using k1),if_pos k1,aa h2]
  exact congrArg (fun n:Nd=>some (Out.ret ((n,()),()))) (Gk _)
 rw[ab (by simpa using k1),if_neg k1,aa h3]
 exact congrArg (fun n:Nd=>some (Out.ret ((n,()),()))) (Gk _)
def bW (n:Nd):Bool:=if n.kids.all b9=true then true else false
abbrev kN:Io:=⟨[du],[],[],[dB],none⟩
def El (d:kN.In):Tr kN.Res:=.ret (.ret ((bW d.1.1,()),()))
abbrev y5:List (Nat×Hc):=[(88,ah lQ Et)]
def HP:Hd:=bz y5
abbrev eO:Lo:=⟨⟨(.any::.one (.ptr 1 0)::.any::.one (.hol (.int IntKind.i64))::dE (bJ (be []))),[none,some [.hol (.int IntKind.i64),.hol (.int IntKind.i64),.hol .bool,.hol (.sl 5 (Ty.int IntKind.u8)),.hol (.sl 91 ap)]]⟩,[(.ret,⟨(be (.one (.hol .bool)::.any::dE (bJ (be [])))),[]⟩),(.exit 0,⟨(ai (be [])),[]⟩)]⟩
def pT (d:eO.st.den):Tr (ax eO.xs):=
 .ite (decide (d.1.1=0)) (.ite (d.2.1.2.2.2.2.1.all b9) (.ret (.pan (.ret ((),((),()))))) (.ret (.ret ((),((false,()),()))))) .no
def tz:Lp:=bo [(3,aP eO pT)]
def uj {R:Type}(h1 h2 h3:Int)(h4:Bool)(h5:List Int)(h6:List (Nd))(next:Int→Int→Int→Bool→List Int→List (Nd)→Option R)(out:ax eO.xs→Option R):Option R:=bif decide (h1<(↑h6.length:Int)) then bif decide (0≤h1)&&decide (h1<(↑h6.length:Int)) then bif !b9 (Tre.mk (h6.getD h1.toNat (Tre.mk (0,0,false,[],()) [])).1 (h6.getD h1.toNat (Tre.mk (0,0,false,[],()) [])).2) then out (.ret ((),((false,()),()))) else next (IntKind.i64.wrap (h1+1)) (h2) (h3) (h4) (h5) (h6) else none else out (.pan (.ret ((),((),()))))
def rK (n:Nat)(h1 h2 h3:Int)(h4:Bool)(h5:List Int)(h6:List (Nd)):Option (ax eO.xs):=gk tt HP dr tz 0 Tryz.f35 (cI Tryz.f35 0) n (eO.st.mk' ((h1,()),((h2,(h3,(h4,(h5,(h6,()))))),()))) (bI eO.xs)
theorem LH (n:Nat)(h1 h2 h3:Int)(h4:Bool)(h5:List Int)(h6:List (Nd)):rK (n+1) h1 h2 h3 h4 h5 h6=uj h1 h2 h3 h4 h5 h6 (rK n) some:=by kernel_rfl
theorem KL {ks:List Nd}(hl:ks.length≤maxLen)(a' b':Int)(z':Bool)(x':List Int):∀(k j:Nat),ks.length<j+k→j≤ks.length→
  rK k j a' b' z' x' ks=if (ks.drop j).all b9=true then some (.pan (.ret ((),((),())))) else some (.ret ((),((false,()),()))):=by
 intro k
 induction k with
 |zero=>intro j h1 h2;omega
 |succ k ih=>
  intro j h1 h2
  rw[LH]
  unfold uj
  by_cases hj:j<ks.length
  ·refine (aa (decide_eq_true (show (j:Int)<(ks.length:Int) by omega)) _ _).trans ?_
   refine (aa (by simp;omega) _ _).trans ?_
   rw[List.drop_eq_getElem_cons hj]
   simp only[Int.toNat_natCast,aH hj]
   generalize ks[j]=u
   obtain ⟨ul,uk⟩:=u
   by_cases hz:b9 (Tre.mk ul uk)=true
   ·refine (ab (by rw[hz];rfl) _ _).trans ?_
    rw[bb hj hl]
    refine (ih (j+1) (by omega) (by omega)).trans ?_
    simp[hz]
   ·refine (aa (by rw[Bool.eq_false_iff.2 hz];rfl) _ _).trans ?_
    exact (if_neg (by simp[hz])).symm
  ·refine (ab (by simp;omega) _ _).trans ?_
   rw[List.drop_of_length_le (by omega)]
   rfl
def yG (a0:Nd):Option kN.Res:=(pT ((0,()),((a0.1.1,(a0.1.2.1,(a0.1.2.2.1,(a0.1.2.2.2.1,(a0.2,()))))),()))).run fun y=>match y with | .ret ((),((x14,()),()))=>(some (Out.ret ((x14,()),()))) | .pan (.ret ((),((),())))=>(some (Out.ret ((true,()),())))
theorem PV (a0:Nd):Io.run tt HP dr tz kN Tryz.f35 ((a0,()),())=yG a0:=by kernel_rfl
theorem IN:HcOk prog 35 (ah kN El):=by
 refine aj (n:=400) hm (cs:=y5) (.cons tJ .nil) (lp:=tz) (fn:=Tryz.f35) (by kernel_rfl) (by kernel_rfl) (by kernel_rfl) kN (.step (h0:=aP eO pT) (by kernel_rfl) (aw (n:=400) hm (cs:=y5) (.cons tJ .nil) (lp:=tz) (fn:=Tryz.f35) (.done (by kernel_rfl)) eO pT ?_) (.done (by kernel_rfl))) El ?_
 ·rintro ⟨⟨(j:Int),⟨⟩⟩,⟨⟨(a':Int),(b':Int),(z':Bool),(x':List Int),(ks:List Nd),⟨⟩⟩,⟨⟩⟩⟩ y hw hy
  obtain ⟨hg,hy⟩:=Tr.guard hy
  have hg:j=0:=of_decide_eq_true hg
  subst hg
  have hl:ks.length≤maxLen:=hw.2.1.2.2.2.2.1.1
  refine ⟨ks.length+1,(KL hl a' b' z' x' (ks.length+1) 0 (by omega) (by omega)).trans ?_⟩
  rw[← hy,List.drop_zero]
  show _=(Tr.ite (ks.all b9) _ _).val
  rw[Tr.val_ite]
  rfl
 ·rintro ⟨⟨n,⟨⟩⟩,⟨⟩⟩ out hw ho
  cases ho
  refine (PV n).trans ?_
  unfold yG
  show _=some (Out.ret ((bW n,()),()))
  unfold bW
  refine (aa (decide_eq_true rfl) _ _).trans ?_
  show (Tr.ite (n.kids.all b9) _ _).run _=_
  cases n.kids.all b9 <;> rfl
def ab4 (c:jV.den):Bool:=if ((c.1=0∨bW (ke c 0)=true)∧(c.1=1∨bW (ke c 1)=true)∧(c.1=2∨bW (ke c 2)=true)) then true else false
def c19 (x:(Int×(Int×(Int×(Bool×(List Int×(Bool×(List Int×(Int×(Int×(List bM.den×(Int×(Int×(Int×(Int×(Int×(List aQ.den×(Int×(Int×(List am.den×Unit)))))))))))))))))))):jV.den:=(x.1,(x.2.1,(x.2.2.1,((x.2.2.2.1,(x.2.2.2.2.1,())),(((x.2.2.2.2.2.1,(x.2.2.2.2.2.2.1,())),(x.2.2.2.2.2.2.2.1,(x.2.2.2.2.2.2.2.2.1,(x.2.2.2.2.2.2.2.2.2.1,())))),((x.2.2.2.2.2.2.2.2.2.2.1,(x.2.2.2.2.2.2.2.2.2.2.2.1,(x.2.2.2.2.2.2.2.2.2.2.2.2.1,(x.2.2.2.2.2.2.2.2.2.2.2.2.2.1,(x.2.2.2.2.2.2.2.2.2.2.2.2.2.2.1,(x.2.2.2.2.2.2.2.2.2.2.2.2.2.2.2.1,())))))),((x.2.2.2.2.2.2.2.2.2.2.2.2.2.2.2.2.1,(x.2.2.2.2.2.2.2.2.2.2.2.2.2.2.2.2.2.1,(x.2.2.2.2.2.2.2.2.2.2.2.2.2.2.2.2.2.2.1,()))),())))))))
abbrev zJ:Lo:=⟨⟨(.any::.one (.ptr 1 0)::.any::bJ (.one (.hol (.int IntKind.i16))::ai (ai (ai (ai (ai (ai (dE [])))))))),[none,some [.hol (.int IntKind.i16),.hol (.int IntKind.i16),.hol (.int IntKind.i32),.hol .bool,.hol .str,.hol .bool,.hol .str,.hol (.int IntKind.i16),.hol (.int IntKind.i32),.hol (.sl 172 bM),.hol (.int IntKind.i32),.hol (.int IntKind.i32),.hol (.int IntKind.i32),.hol (.int IntKind.i32),.hol (.int IntKind.i8),.hol (.sl 185 aQ),.hol (.int IntKind.i32),.hol (.int IntKind.i8),.hol (.sl 196 am)]]⟩,[(.ret,⟨(be (.one (.onl 5 (Ty.int IntKind.u8) 5)::.one (.hol (.int IntKind.i64))::ai (ai (ai (ai (ai (ai (dE (bJ []))))))))),[]⟩),(.exit 0,⟨(.any::.one (.ptr 1 0)::ai (ai (ai (ai (ai (ai (dE (bJ (be []))))))))),[none,some [.hol (.int IntKind.i16),.hol (.int IntKind.i16),.hol (.int IntKind.i32),.hol .bool,.hol .str,.hol .bool,.hol .str,.hol (.int IntKind.i16),.hol (.int IntKind.i32),.hol (.sl 172 bM),.hol (.int IntKind.i32),.hol (.int IntKind.i32),.hol (.int IntKind.i32),.hol (.int IntKind.i32),.hol (.int IntKind.i8),.hol (.sl 185 aQ),.hol (.int IntKind.i32),.hol (.int IntKind.i8),.hol (.sl 196 am)]]⟩)]⟩
def aaN (d:zJ.st.den):Tr (ax zJ.xs):=
 .ite (decide (d.1.1=0)&&F8 (c19 d.2.1)) (.ite (ab4 (c19 d.2.1)) (.ret (.pan (.ret ((),((),(d.2.1,())))))) (.ret (.ret ((),(([],(7,())),()))))) .no
def Jv (c:cD.den):Bool:=if ((c.1=0∨bW (aC c 0)=true)∧(c.1=1∨bW (aC c 1)=true)∧(c.1=2∨bW (aC c 2)=true)) then true else false
def c9 (x:(Int×(Int×(Int×(List aq.den×(Int×(Int×(List ag.den×(Int×(List af.den×Unit)))))))))):cD.den:=(x.1,(x.2.1,(x.2.2.1,((x.2.2.2.1,(x.2.2.2.2.1,())),((x.2.2.2.2.2.1,(x.2.2.2.2.2.2.1,())),((x.2.2.2.2.2.2.2.1,(x.2.2.2.2.2.2.2.2.1,())),()))))))
def iM (c:cD.den):List Int×Int:=if f6 c.1 c.2.1≠0 then ([],f6 c.1 c.2.1) else
 if Jv c=true then
 (if (jO c.1 true c.2.1 (aC c c.1)).2≠0 then ([],(jO c.1 true c.2.1 (aC c c.1)).2) else (aM c.2.2.1 4++(jO c.1 true c.2.1 (aC c c.1)).1,0)) else ([],7)
abbrev kM:Io:=⟨[.dat cD true false],[],[],[dL,dI],none⟩
def Ej (d:kM.In):Tr kM.Res:=.ite (bQ d.1.1&&decide (8*aO (aC d.1.1 d.1.1.1)≤4294967296)) (.ret (.ret (((iM d.1.1).1,((iM d.1.1).2,())),()))) .no
abbrev y4:List (Nat×Hc):=[(33,ah jB Ek),(52,ah gY sq),(35,ah kN El),(37,ah rG Rj),(39,ah gX si),(38,ah tc Q1)]
def HO:Hd:=bz y4
abbrev eN:Lo:=⟨⟨(.any::.one (.ptr 1 0)::.any::be (.one (.hol (.int IntKind.i16))::.any::ai (ai (dE (bJ (be [])))))),[none,some [.hol (.int IntKind.i16),.hol (.int IntKind.i16),.hol (.int IntKind.i32),.hol (.sl 212 aq),.hol (.int IntKind.i32),.hol (.int IntKind.i32),.hol (.sl 221 ag),.hol (.int IntKind.i32),.hol (.sl 230 af)]]⟩,[(.ret,⟨(be (.one (.onl 5 (Ty.int IntKind.u8) 5)::.one (.hol (.int IntKind.i64))::.any::ai (ai (ai [])))),[]⟩),(.exit 0,⟨(.any::.one (.ptr 1 0)::.any::ai (ai (ai (be [])))),[none,some [.hol (.int IntKind.i16),.hol (.int IntKind.i16),.hol (.int IntKind.i32),.hol (.sl 212 aq),.hol (.int IntKind.i32),.hol (.int IntKind.i32),.hol (.sl 221 ag),.hol (.int IntKind.i32),.hol (.sl 230 af)]]⟩)]⟩
def pS (d:eN.st.den):Tr (ax eN.xs):=
 .ite (decide (d.1.1=0)&&bQ (c9 d.2.1)) (.ite (Jv (c9 d.2.1)) (.ret (.pan (.ret ((),((),(d.2.1,())))))) (.ret (.ret ((),(([],(7,())),()))))) .no
def tw:Lp:=bo [(6,aP eN pS)]
def oy {R:Type}(h9 h10 h11 h12:Int)(h13:List aq.den)(h14 h15:Int)(h16:List ag.den)(h17:Int)(h18:List af.den)(next:Int→Int→Int→Int→List aq.den→Int→Int→List ag.den→Int→List af.den→Option R)(out:ax eN.xs→Option R):Option R:=bif decide (h9<3) then bif h9 != h10 then bif bQ (h10,h11,h12,(h13,h14,()),(h15,h16,()),(h17,h18,()),()) then bif !bW (Tre.mk (aC (h10,h11,h12,(h13,h14,()),(h15,h16,()),(h17,h18,()),()) h9).1 (aC (h10,h11,h12,(h13,h14,()),(h15,h16,()),(h17,h18,()),()) h9).2) then out (.ret ((),(([],(7,())),()))) else next (IntKind.i16.wrap (h9+1)) (h10) (h11) (h12) (h13) (h14) (h15) (h16) (h17) (h18) else none else next (IntKind.i16.wrap (h9+1)) (h10) (h11) (h12) (h13) (h14) (h15) (h16) (h17) (h18) else out (.pan (.ret ((),((),((h10,(h11,(h12,(h13,(h14,(h15,(h16,(h17,(h18,()))))))))),())))))
def cU (n:Nat)(h9 h10 h11 h12:Int)(h13:List aq.den)(h14 h15:Int)(h16:List ag.den)(h17:Int)(h18:List af.den):Option (ax eN.xs):=gk tt HO dr tw 0 Tryz.f17 (cI Tryz.f17 0) n (eN.st.mk' ((h9,()),((h10,(h11,(h12,(h13,(h14,(h15,(h16,(h17,(h18,()))))))))),()))) (bI eN.xs)
theorem Aw (n:Nat)(h9 h10 h11 h12:Int)(h13:List aq.den)(h14 h15:Int)(h16:List ag.den)(h17:Int)(h18:List af.den):cU (n+1) h9 h10 h11 h12 h13 h14 h15 h16 h17 h18=oy h9 h10 h11 h12 h13 h14 h15 h16 h17 h18 (cU n) some:=by kernel_rfl
theorem pq (k v co:Int)(pt:List aq.den)(ph fh:Int)(ft:List ag.den)(lh:Int)(lt:List af.den)(hl:bQ (k,(v,(co,((pt,(ph,())),((fh,(ft,())),((lh,(lt,())),()))))))=true)(n j:Nat)(hj:j<3):cU (n+1) (j:Int) k v co pt ph fh ft lh lt=
  if k=(j:Int)∨bW (aC (k,(v,(co,((pt,(ph,())),((fh,(ft,())),((lh,(lt,())),())))))) (j:Int))=true then cU n ((j+1:Nat):Int) k v co pt ph fh ft lh lt else some (.ret ((),(([],(7,())),()))):=by
 rw[Aw]
 unfold oy
 have hw:IntKind.i16.wrap ((j:Int)+1)=((j+1:Nat):Int):=dD (by simp[eE,IntKind.min,IntKind.max,IntKind.signed,IntKind.bits];omega)
 refine (aa (decide_eq_true (show (j:Int)<3 by omega)) _ _).trans ?_
 by_cases h1:k=(j:Int)
 ·rw[if_pos (.inl h1)]
  refine (ab (by simp[h1]) _ _).trans ?_
  rw[hw]
 ·refine (aa (by simp[Ne.symm h1]) _ _).trans ?_
  refine (aa hl _ _).trans ?_
  generalize aC (k,(v,(co,((pt,(ph,())),((fh,(ft,())),((lh,(lt,())),())))))) (j:Int)=n0
  obtain ⟨nl,nk⟩:=n0
  by_cases h2:bW (Tre.mk nl nk)=true
  ·rw[if_pos (.inr h2),h2,Bool.not_true,cond_false,hw]
  ·rw[if_neg (by rintro (h | h);exact h1 h;exact h2 h),Bool.eq_false_iff.2 h2,Bool.not_false,cond_true]
theorem KK (k v co:Int)(pt:List aq.den)(ph fh:Int)(ft:List ag.den)(lh:Int)(lt:List af.den)(hl:bQ (k,(v,(co,((pt,(ph,())),((fh,(ft,())),((lh,(lt,())),()))))))=true):cU 4 0 k v co pt ph fh ft lh lt=
  if Jv (k,(v,(co,((pt,(ph,())),((fh,(ft,())),((lh,(lt,())),()))))))=true then some (.pan (.ret ((),((),((k,(v,(co,(pt,(ph,(fh,(ft,(lh,(lt,()))))))))),()))))) else some (.ret ((),(([],(7,())),()))):=by
 have s0:cU 4 0 k v co pt ph fh ft lh lt=if k=0∨bW (aC (k,(v,(co,((pt,(ph,())),((fh,(ft,())),((lh,(lt,())),())))))) 0)=true then cU 3 ((1:Nat):Int) k v co pt ph fh ft lh lt else some (.ret ((),(([],(7,())),()))):=pq k v co pt ph fh ft lh lt hl 3 0 (by decide)
 have s1:cU 3 ((1:Nat):Int) k v co pt ph fh ft lh lt=if k=1∨bW (aC (k,(v,(co,((pt,(ph,())),((fh,(ft,())),((lh,(lt,())),())))))) 1)=true then cU 2 ((2:Nat):Int) k v co pt ph fh ft lh lt else some (.ret ((),(([],(7,())),()))):=pq k v co pt ph fh ft lh lt hl 2 1 (by decide)
 have s2:cU 2 ((2:Nat):Int) k v co pt ph fh ft lh lt=if k=2∨bW (aC (k,(v,(co,((pt,(ph,())),((fh,(ft,())),((lh,(lt,())),())))))) 2)=true then cU 1 ((3:Nat):Int) k v co pt ph fh ft lh lt else some (.ret ((),(([],(7,())),()))):=pq k v co pt ph fh ft lh lt hl 1 2 (by decide)
 have s3:cU 1 ((3:Nat):Int) k v co pt ph fh ft lh lt=some (.pan (.ret ((),((),((k,(v,(co,(pt,(ph,(fh,(ft,(lh,(lt,()))))))))),()))))):=by
  rw[Aw]
  unfold oy
  exact ab (by decide) _ _
 rw[s0,s1,s2,s3]
 unfold Jv
 by_cases h0:k=0∨bW (aC (k,(v,(co,((pt,(ph,())),((fh,(ft,())),((lh,(lt,())),())))))) 0)=true
 ·rw[if_pos h0]
  by_cases h1:k=1∨bW (aC (k,(v,(co,((pt,(ph,())),((fh,(ft,())),((lh,(lt,())),())))))) 1)=true
  ·rw[if_pos h1]
   by_cases h2:k=2∨bW (aC (k,(v,(co,((pt,(ph,())),((fh,(ft,())),((lh,(lt,())),())))))) 2)=true
   ·rw[if_pos h2,if_pos (by rw[if_pos ⟨h0,h1,h2⟩])]
   ·rw[if_neg h2,if_neg (by rw[if_neg (fun h=>h2 h.2.2)];decide)]
  ·rw[if_neg h1,if_neg (by rw[if_neg (fun h=>h1 h.2.1)];decide)]
 ·rw[if_neg h0,if_neg (by rw[if_neg (fun h=>h0 h.1)];decide)]
def yE (a0 a1 a2:Int)(a3:List aq.den)(a4 a5:Int)(a6:List ag.den)(a7:Int)(a8:List af.den):Option kM.Res:=bif f6 a0 a1 != 0 then some (Out.ret (([],f6 a0 a1,()),())) else (pS ((0,()),((a0,(a1,(a2,(a3,(a4,(a5,(a6,(a7,(a8,()))))))))),()))).run fun y=>match y with | .ret ((),((x50,x51,()),()))=>(some (Out.ret ((x50,x51,()),()))) | .pan (.ret ((),((),(x52,x53,x54,x55,x56,x57,x58,x59,x60,()),())))=>(bif bQ (x52,x53,x54,(x55,x56,()),(x57,x58,()),(x59,x60,()),()) then bif decide (8*aO (Tre.mk (aC (x52,x53,x54,(x55,x56,()),(x57,x58,()),(x59,x60,()),()) x52).1 (aC (x52,x53,x54,(x55,x56,()),(x57,x58,()),(x59,x60,()),()) x52).2)≤4294967296) then bif (jO x52 true (IntKind.i64.wrap x53) (Tre.mk (aC (x52,x53,x54,(x55,x56,()),(x57,x58,()),(x59,x60,()),()) x52).1 (aC (x52,x53,x54,(x55,x56,()),(x57,x58,()),(x59,x60,()),()) x52).2)).2 != 0 then some (Out.ret (([],(jO x52 true (IntKind.i64.wrap x53) (Tre.mk (aC (x52,x53,x54,(x55,x56,()),(x57,x58,()),(x59,x60,()),()) x52).1 (aC (x52,x53,x54,(x55,x56,()),(x57,x58,()),(x59,x60,()),()) x52).2)).2,()),())) else bif decide ((aM (IntKind.i64.wrap x54) (Int.toNat 4)).length+(jO x52 true (IntKind.i64.wrap x53) (Tre.mk (aC (x52,x53,x54,(x55,x56,()),(x57,x58,()),(x59,x60,()),()) x52).1 (aC (x52,x53,x54,(x55,x56,()),(x57,x58,()),(x59,x60,()),()) x52).2)).1.length≤4294967296) then some (Out.ret ((aM (IntKind.i64.wrap x54) (Int.toNat 4)++(jO x52 true (IntKind.i64.wrap x53) (Tre.mk (aC (x52,x53,x54,(x55,x56,()),(x57,x58,()),(x59,x60,()),()) x52).1 (aC (x52,x53,x54,(x55,x56,()),(x57,x58,()),(x59,x60,()),()) x52).2)).1,0,()),())) else none else none else none)
theorem PT (a0 a1 a2:Int)(a3:List aq.den)(a4 a5:Int)(a6:List ag.den)(a7:Int)(a8:List af.den):Io.run tt HO dr tw kM Tryz.f17 (((a0,a1,a2,(a3,a4,()),(a5,a6,()),(a7,a8,()),()),()),())=yE a0 a1 a2 a3 a4 a5 a6 a7 a8:=by kernel_rfl
theorem Ub:HcOk prog 17 (ah kM Ej):=by
 refine aj (n:=400) hm (cs:=y4) (.cons IM (.cons qx (.cons IN (.cons Uf (.cons qv (.cons Dw .nil)))))) (lp:=tw) (fn:=Tryz.f17) (by kernel_rfl) (by kernel_rfl) (by kernel_rfl) kM (.step (h0:=aP eN pS) (by kernel_rfl) (aw (n:=400) hm (cs:=y4) (.cons IM (.cons qx (.cons IN (.cons Uf (.cons qv (.cons Dw .nil)))))) (lp:=tw) (fn:=Tryz.f17) (.done (by kernel_rfl)) eN pS ?_) (.done (by kernel_rfl))) Ej ?_
 ·rintro ⟨⟨(j:Int),⟨⟩⟩,⟨⟨(k:Int),(v:Int),(co:Int),(pt:List aq.den),(ph:Int),(fh:Int),(ft:List ag.den),(lh:Int),(lt:List af.den),⟨⟩⟩,⟨⟩⟩⟩ y hw hy
  obtain ⟨hg,hy⟩:=Tr.guard hy
  simp only[Bool.and_eq_true,decide_eq_true_eq] at hg
  obtain ⟨h1,h2⟩:=hg
  have h1:j=0:=h1
  subst h1
  refine ⟨4,(KK k v co pt ph fh ft lh lt h2).trans ?_⟩
  rw[← hy]
  show _=(Tr.ite (Jv (k,(v,(co,((pt,(ph,())),((fh,(ft,())),((lh,(lt,())),()))))))) _ _).val
  rw[Tr.val_ite]
  rfl
 ·rintro ⟨⟨⟨(k:Int),(v:Int),(co:Int),⟨(pt:List aq.den),(ph:Int),⟨⟩⟩,⟨(fh:Int),(ft:List ag.den),⟨⟩⟩,⟨(lh:Int),(lt:List af.den),⟨⟩⟩,⟨⟩⟩,⟨⟩⟩,⟨⟩⟩ out hw ho
  obtain ⟨hg,ho⟩:=Tr.guard ho
  obtain ⟨hg,hb⟩:=Bool.and_eq_true_iff.1 hg
  have hg:bQ (k,(v,(co,((pt,(ph,())),((fh,(ft,())),((lh,(lt,())),()))))))=true:=hg
  have hb:8*aO (aC (k,(v,(co,((pt,(ph,())),((fh,(ft,())),((lh,(lt,())),())))))) k)≤4294967296:=of_decide_eq_true hb
  cases ho
  refine (PT k v co pt ph fh ft lh lt).trans ?_
  unfold yE
  show _=some (Out.ret (((iM (k,(v,(co,((pt,(ph,())),((fh,(ft,())),((lh,(lt,())),()))))))).1,((iM (k,(v,(co,((pt,(ph,())),((fh,(ft,())),((lh,(lt,())),()))))))).2,())),()))
  unfold iM
  have hk64:IntKind.i64.wrap k=k:=gB hw.1.1.1
  have hv64:IntKind.i64.wrap v=v:=gB hw.1.1.2.1
  have hc64:IntKind.i64.wrap co=co:=lF hw.1.1.2.2.1
  dsimp only
  by_cases h1:f6 k v=0
  ·rw[ab (by simpa using h1),if_neg (not_not_intro h1)]
   refine (aa (Bool.and_eq_true_iff.2 ⟨rfl,hg⟩) _ _).trans ?_
   by_cases h6:Jv (k,(v,(co,((pt,(ph,())),((fh,(ft,())),((lh,(lt,())),()))))))=true
   ·rw[if_pos h6]
    refine (aa h6 _ _).trans ?_
    refine (aa hg _ _).trans ?_
    generalize aC (k,(v,(co,((pt,(ph,())),((fh,(ft,())),((lh,(lt,())),())))))) k=n at hb ⊢
    obtain ⟨nl,nk⟩:=n
    refine (aa (decide_eq_true hb) _ _).trans ?_
    rw[hv64,hc64]
    have hy:(jO k true v (Tre.mk nl nk)).1.length≤130048:=mX _ _ _ _
    by_cases h7:(jO k true v (Tre.mk nl nk)).2=0
    ·refine (ab (by simpa using h7) _ _).trans ?_
     rw[if_neg (not_not_intro h7)]
     generalize (jO k true v (Tre.mk nl nk)).1=y at hy ⊢
     simp only[show Int.toNat 4=4 from rfl,List.length_append,bY]
     refine (aa (decide_eq_true (by omega)) _ _).trans ?_
     rfl
    ·refine (aa (by simpa using h7) _ _).trans ?_
     rw[if_pos h7]
   ·rw[if_neg h6]
    exact ab (Bool.eq_false_iff.2 h6) _ _
  ·rw[aa (by simpa using h1),if_pos h1]
def aau (a b:jV.den):Bool:=if (dW (ke a 0) (ke b 0)=true∧dW (ke a 1) (ke b 1)=true∧dW (ke a 2) (ke b 2)=true) then true else false
abbrev wv:Lo:=⟨⟨(be (.one (.ptr 2 0)::.one (.ptr 3 0)::.any::.one (.hol (.int IntKind.i16))::ai (ai (bJ (be []))))),[none,none,some [.hol (.int IntKind.i16),.hol (.int IntKind.i16),.hol (.int IntKind.i32),.hol .bool,.hol .str,.hol .bool,.hol .str,.hol (.int IntKind.i16),.hol (.int IntKind.i32),.hol (.sl 172 bM),.hol (.int IntKind.i32),.hol (.int IntKind.i32),.hol (.int IntKind.i32),.hol (.int IntKind.i32),.hol (.int IntKind.i8),.hol (.sl 185 aQ),.hol (.int IntKind.i32),.hol (.int IntKind.i8),.hol (.sl 196 am)],some [.hol (.int IntKind.i16),.hol (.int IntKind.i16),.hol (.int IntKind.i32),.hol .bool,.hol .str,.hol .bool,.hol .str,.hol (.int IntKind.i16),.hol (.int IntKind.i32),.hol (.sl 172 bM),.hol (.int IntKind.i32),.hol (.int IntKind.i32),.hol (.int IntKind.i32),.hol (.int IntKind.i32),.hol (.int IntKind.i8),.hol (.sl 185 aQ),.hol (.int IntKind.i32),.hol (.int IntKind.i8),.hol (.sl 196 am)]]⟩,[(.ret,⟨(bJ (.one (.hol .bool)::.any::ai (ai (bJ (be []))))),[]⟩),(.exit 0,⟨(ai (ai (dE (bJ [])))),[]⟩)]⟩
def Zm (d:wv.st.den):Tr (ax wv.xs):=
 .ite (decide (d.1.1=0)&&(F8 (c19 d.2.1)&&F8 (c19 d.2.2.1))) (.ite (aau (c19 d.2.1) (c19 d.2.2.1)) (.ret (.pan (.ret ((),((),()))))) (.ret (.ret ((),((false,()),()))))) .no
abbrev fH:Io:=⟨[.dat cD true false,.dat cD true false],[],[],[dB],none⟩
def r5 (a b:cD.den):Bool:=if (dW (aC a 0) (aC b 0)=true∧dW (aC a 1) (aC b 1)=true∧dW (aC a 2) (aC b 2)=true) then true else false
def uB (d:fH.In):Tr fH.Res:=.ite (bQ d.1.1&&bQ d.1.2.1) (.ret (.ret ((qX d.1.1 d.1.2.1,()),()))) .no
abbrev rm:List (Nat×Hc):=[(52,ah gY sq),(51,ah en Mv)]
def zj:Hd:=bz rm
abbrev dg:Lo:=⟨⟨(be (.one (.ptr 2 0)::.one (.ptr 3 0)::.any::.one (.hol (.int IntKind.i16))::.any::ai (dE (bJ (be []))))),[none,none,some [.hol (.int IntKind.i16),.hol (.int IntKind.i16),.hol (.int IntKind.i32),.hol (.sl 212 aq),.hol (.int IntKind.i32),.hol (.int IntKind.i32),.hol (.sl 221 ag),.hol (.int IntKind.i32),.hol (.sl 230 af)],some [.hol (.int IntKind.i16),.hol (.int IntKind.i16),.hol (.int IntKind.i32),.hol (.sl 212 aq),.hol (.int IntKind.i32),.hol (.int IntKind.i32),.hol (.sl 221 ag),.hol (.int IntKind.i32),.hol (.sl 230 af)]]⟩,[(.ret,⟨(bJ (.one (.hol .bool)::ai (ai ([])))),[]⟩),(.exit 0,⟨(.any::ai (ai (bJ []))),[]⟩)]⟩
def lA (d:dg.st.den):Tr (ax dg.xs):=
 .ite (decide (d.1.1=0)&&(bQ (c9 d.2.1)&&bQ (c9 d.2.2.1))) (.ite (r5 (c9 d.2.1) (c9 d.2.2.1)) (.ret (.pan (.ret ((),((),()))))) (.ret (.ret ((),((false,()),()))))) .no
def nX:Lp:=bo [(5,aP dg lA)]
def lu {R:Type}(h18 h19 h20 h21:Int)(h22:List aq.den)(h23 h24:Int)(h25:List ag.den)(h26:Int)(h27:List af.den)(h28 h29 h30:Int)(h31:List aq.den)(h32 h33:Int)(h34:List ag.den)(h35:Int)(h36:List af.den)(next:Int→Int→Int→Int→List aq.den→Int→Int→List ag.den→Int→List af.den→Int→Int→Int→List aq.den→Int→Int→List ag.den→Int→List af.den→Option R)(out:ax dg.xs→Option R):Option R:=bif decide (h18<3) then bif bQ (h19,h20,h21,(h22,h23,()),(h24,h25,()),(h26,h27,()),()) then bif bQ (h28,h29,h30,(h31,h32,()),(h33,h34,()),(h35,h36,()),()) then bif !dW (Tre.mk (aC (h19,h20,h21,(h22,h23,()),(h24,h25,()),(h26,h27,()),()) h18).1 (aC (h19,h20,h21,(h22,h23,()),(h24,h25,()),(h26,h27,()),()) h18).2) (Tre.mk (aC (h28,h29,h30,(h31,h32,()),(h33,h34,()),(h35,h36,()),()) h18).1 (aC (h28,h29,h30,(h31,h32,()),(h33,h34,()),(h35,h36,()),()) h18).2) then out (.ret ((),((false,()),()))) else next (IntKind.i16.wrap (h18+1)) (h19) (h20) (h21) (h22) (h23) (h24) (h25) (h26) (h27) (h28) (h29) (h30) (h31) (h32) (h33) (h34) (h35) (h36) else none else none else out (.pan (.ret ((),((),()))))
def b7 (n:Nat)(h18 h19 h20 h21:Int)(h22:List aq.den)(h23 h24:Int)(h25:List ag.den)(h26:Int)(h27:List af.den)(h28 h29 h30:Int)(h31:List aq.den)(h32 h33:Int)(h34:List ag.den)(h35:Int)(h36:List af.den):Option (ax dg.xs):=gk tt zj dr nX 0 Tryz.f12 (cI Tryz.f12 0) n (dg.st.mk' ((h18,()),((h19,(h20,(h21,(h22,(h23,(h24,(h25,(h26,(h27,()))))))))),((h28,(h29,(h30,(h31,(h32,(h33,(h34,(h35,(h36,()))))))))),())))) (bI dg.xs)
theorem tN (n:Nat)(h18 h19 h20 h21:Int)(h22:List aq.den)(h23 h24:Int)(h25:List ag.den)(h26:Int)(h27:List af.den)(h28 h29 h30:Int)(h31:List aq.den)(h32 h33:Int)(h34:List ag.den)(h35:Int)(h36:List af.den):b7 (n+1) h18 h19 h20 h21 h22 h23 h24 h25 h26 h27 h28 h29 h30 h31 h32 h33 h34 h35 h36=lu h18 h19 h20 h21 h22 h23 h24 h25 h26 h27 h28 h29 h30 h31 h32 h33 h34 h35 h36 (b7 n) some:=by kernel_rfl
theorem mv (kA vA coA:Int)(ptA:List aq.den)(phA fhA:Int)(ftA:List ag.den)(lhA:Int)(ltA:List af.den)(kB vB coB:Int)(ptB:List aq.den)(phB fhB:Int)(ftB:List ag.den)(lhB:Int)(ltB:List af.den)(hA:bQ (kA,(vA,(coA,((ptA,(phA,())),((fhA,(ftA,())),((lhA,(ltA,())),()))))))=true)(hB:bQ (kB,(vB,(coB,((ptB,(phB,())),((fhB,(ftB,())),((lhB,(ltB,())),()))))))=true)(n j:Nat)(hj:j<3):b7 (n+1) (j:Int) kA vA coA ptA phA fhA ftA lhA ltA kB vB coB ptB phB fhB ftB lhB ltB=
  if dW (aC (kA,(vA,(coA,((ptA,(phA,())),((fhA,(ftA,())),((lhA,(ltA,())),())))))) (j:Int)) (aC (kB,(vB,(coB,((ptB,(phB,())),((fhB,(ftB,())),((lhB,(ltB,())),())))))) (j:Int))=true then b7 n ((j+1:Nat):Int) kA vA coA ptA phA fhA ftA lhA ltA kB vB coB ptB phB fhB ftB lhB ltB else some (.ret ((),((false,()),()))):=by
 rw[tN]
 unfold lu
 have hw:IntKind.i16.wrap ((j:Int)+1)=((j+1:Nat):Int):=dD (by simp[eE,IntKind.min,IntKind.max,IntKind.signed,IntKind.bits];omega)
 refine (aa (decide_eq_true (show (j:Int)<3 by omega)) _ _).trans ?_
 refine (aa hA _ _).trans ?_
 refine (aa hB _ _).trans ?_
 generalize aC (kA,(vA,(coA,((ptA,(phA,())),((fhA,(ftA,())),((lhA,(ltA,())),())))))) (j:Int)=n0
 generalize aC (kB,(vB,(coB,((ptB,(phB,())),((fhB,(ftB,())),((lhB,(ltB,())),())))))) (j:Int)=n1
 obtain ⟨nl,nk⟩:=n0
 obtain ⟨ml,mk⟩:=n1
 by_cases h2:dW (Tre.mk nl nk) (Tre.mk ml mk)=true
 ·rw[if_pos h2,h2,Bool.not_true,cond_false,hw]
 ·rw[if_neg h2,Bool.eq_false_iff.2 h2,Bool.not_false,cond_true]
theorem Fm (kA vA coA:Int)(ptA:List aq.den)(phA fhA:Int)(ftA:List ag.den)(lhA:Int)(ltA:List af.den)(kB vB coB:Int)(ptB:List aq.den)(phB fhB:Int)(ftB:List ag.den)(lhB:Int)(ltB:List af.den)(hA:bQ (kA,(vA,(coA,((ptA,(phA,())),((fhA,(ftA,())),((lhA,(ltA,())),()))))))=true)(hB:bQ (kB,(vB,(coB,((ptB,(phB,())),((fhB,(ftB,())),((lhB,(ltB,())),()))))))=true):b7 4 0 kA vA coA ptA phA fhA ftA lhA ltA kB vB coB ptB phB fhB ftB lhB ltB=
  if r5 (kA,(vA,(coA,((ptA,(phA,())),((fhA,(ftA,())),((lhA,(ltA,())),())))))) (kB,(vB,(coB,((ptB,(phB,())),((fhB,(ftB,())),((lhB,(ltB,())),()))))))=true then some (.pan (.ret ((),((),())))) else some (.ret ((),((false,()),()))):=by
 have s0:b7 4 0 kA vA coA ptA phA fhA ftA lhA ltA kB vB coB ptB phB fhB ftB lhB ltB=if dW (aC (kA,(vA,(coA,((ptA,(phA,())),((fhA,(ftA,())),((lhA,(ltA,())),())))))) 0) (aC (kB,(vB,(coB,((ptB,(phB,())),((fhB,(ftB,())),((lhB,(ltB,())),())))))) 0)=true then b7 3 ((1:Nat):Int) kA vA coA ptA phA fhA ftA lhA ltA kB vB coB ptB phB fhB ftB lhB ltB else some (.ret ((),((false,()),()))):=mv kA vA coA ptA phA fhA ftA lhA ltA kB vB coB ptB phB fhB ftB lhB ltB hA hB 3 0 (by decide)
 have s1:b7 3 ((1:Nat):Int) kA vA coA ptA phA fhA ftA lhA ltA kB vB coB ptB phB fhB ftB lhB ltB=if dW (aC (kA,(vA,(coA,((ptA,(phA,())),((fhA,(ftA,())),((lhA,(ltA,())),())))))) 1) (aC (kB,(vB,(coB,((ptB,(phB,())),((fhB,(ftB,())),((lhB,(ltB,())),())))))) 1)=true then b7 2 ((2:Nat):Int) kA vA coA ptA phA fhA ftA lhA ltA kB vB coB ptB phB fhB ftB lhB ltB else some (.ret ((),((false,()),()))):=mv kA vA coA ptA phA fhA ftA lhA ltA kB vB coB ptB phB fhB ftB lhB ltB hA hB 2 1 (by decide)
 have s2:b7 2 ((2:Nat):Int) kA vA coA ptA phA fhA ftA lhA ltA kB vB coB ptB phB fhB ftB lhB ltB=if dW (aC (kA,(vA,(coA,((ptA,(phA,())),((fhA,(ftA,())),((lhA,(ltA,())),())))))) 2) (aC (kB,(vB,(coB,((ptB,(phB,())),((fhB,(ftB,())),((lhB,(ltB,())),())))))) 2)=true then b7 1 ((3:Nat):Int) kA vA coA ptA phA fhA ftA lhA ltA kB vB coB ptB phB fhB ftB lhB ltB else some (.ret ((),((false,()),()))):=mv kA vA coA ptA phA fhA ftA lhA ltA kB vB coB ptB phB fhB ftB lhB ltB hA hB 1 2 (by decide)
 have s3:b7 1 ((3:Nat):Int) kA vA coA ptA phA fhA ftA lhA ltA kB vB coB ptB phB fhB ftB lhB ltB=some (.pan (.ret ((),((),())))):=by
  rw[tN]
  unfold lu
  exact ab (by decide) _ _
 rw[s0,s1,s2,s3]
 unfold r5
 by_cases h0:dW (aC (kA,(vA,(coA,((ptA,(phA,())),((fhA,(ftA,())),((lhA,(ltA,())),())))))) 0) (aC (kB,(vB,(coB,((ptB,(phB,())),((fhB,(ftB,())),((lhB,(ltB,())),())))))) 0)=true
 ·rw[if_pos h0]
  by_cases h1:dW (aC (kA,(vA,(coA,((ptA,(phA,())),((fhA,(ftA,())),((lhA,(ltA,())),())))))) 1) (aC (kB,(vB,(coB,((ptB,(phB,())),((fhB,(ftB,())),((lhB,(ltB,())),())))))) 1)=true
  ·rw[if_pos h1]
   by_cases h2:dW (aC (kA,(vA,(coA,((ptA,(phA,())),((fhA,(ftA,())),((lhA,(ltA,())),())))))) 2) (aC (kB,(vB,(coB,((ptB,(phB,())),((fhB,(ftB,())),((lhB,(ltB,())),())))))) 2)=true
   ·rw[if_pos h2,if_pos (by rw[if_pos ⟨h0,h1,h2⟩])]
   ·rw[if_neg h2,if_neg (by rw[if_neg (fun h=>h2 h.2.2)];decide)]
  ·rw[if_neg h1,if_neg (by rw[if_neg (fun h=>h1 h.2.1)];decide)]
 ·rw[if_neg h0,if_neg (by rw[if_neg (fun h=>h0 h.1)];decide)]
def sR (a0 a1 a2:Int)(a3:List aq.den)(a4 a5:Int)(a6:List ag.den)(a7:Int)(a8:List af.den)(a9 a10 a11:Int)(a12:List aq.den)(a13 a14:Int)(a15:List ag.den)(a16:Int)(a17:List af.den):Option fH.Res:=bif a0 != a9 then some (Out.ret ((false,()),())) else bif a1 != a10 then some (Out.ret ((false,()),())) else bif a2 != a11 then some (Out.ret ((false,()),())) else (lA ((0,()),((a0,(a1,(a2,(a3,(a4,(a5,(a6,(a7,(a8,()))))))))),((a9,(a10,(a11,(a12,(a13,(a14,(a15,(a16,(a17,()))))))))),())))).run fun y=>match y with | .ret ((),((x57,()),()))=>(some (Out.ret ((x57,()),()))) | .pan (.ret ((),((),())))=>(some (Out.ret ((true,()),())))
theorem IZ (a0 a1 a2:Int)(a3:List aq.den)(a4 a5:Int)(a6:List ag.den)(a7:Int)(a8:List af.den)(a9 a10 a11:Int)(a12:List aq.den)(a13 a14:Int)(a15:List ag.den)(a16:Int)(a17:List af.den):Io.run tt zj dr nX fH Tryz.f12 (((a0,a1,a2,(a3,a4,()),(a5,a6,()),(a7,a8,()),()),(a9,a10,a11,(a12,a13,()),(a14,a15,()),(a16,a17,()),()),()),())=sR a0 a1 a2 a3 a4 a5 a6 a7 a8 a9 a10 a11 a12 a13 a14 a15 a16 a17:=by kernel_rfl
theorem K0:HcOk prog 12 (ah fH uB):=by
 refine aj (n:=400) hm (cs:=rm) (.cons qx (.cons IO .nil)) (lp:=nX) (fn:=Tryz.f12) (by kernel_rfl) (by kernel_rfl) (by kernel_rfl) fH (.step (h0:=aP dg lA) (by kernel_rfl) (aw (n:=400) hm (cs:=rm) (.cons qx (.cons IO .nil)) (lp:=nX) (fn:=Tryz.f12) (.done (by kernel_rfl)) dg lA ?_) (.done (by kernel_rfl))) uB ?_
 ·rintro ⟨⟨(j:Int),⟨⟩⟩,⟨⟨(kA:Int),(vA:Int),(coA:Int),(ptA:List aq.den),(phA:Int),(fhA:Int),(ftA:List ag.den),(lhA:Int),(ltA:List af.den),⟨⟩⟩,⟨(kB:Int),(vB:Int),(coB:Int),(ptB:List aq.den),(phB:Int),(fhB:Int),(ftB:List ag.den),(lhB:Int),(ltB:List af.den),⟨⟩⟩,⟨⟩⟩⟩ y hw hy
  obtain ⟨hg,hy⟩:=Tr.guard hy
  simp only[Bool.and_eq_true,decide_eq_true_eq] at hg
  obtain ⟨h1,h2,h3⟩:=hg
  have h1:j=0:=h1
  subst h1
  refine ⟨4,(Fm kA vA coA ptA phA fhA ftA lhA ltA kB vB coB ptB phB fhB ftB lhB ltB h2 h3).trans ?_⟩
  rw[← hy]
  show _=(Tr.ite (r5 (kA,(vA,(coA,((ptA,(phA,())),((fhA,(ftA,())),((lhA,(ltA,())),())))))) (kB,(vB,(coB,((ptB,(phB,())),((fhB,(ftB,())),((lhB,(ltB,())),()))))))) _ _).val
  rw[Tr.val_ite]
  rfl
 ·rintro ⟨⟨⟨(kA:Int),(vA:Int),(coA:Int),⟨(ptA:List aq.den),(phA:Int),⟨⟩⟩,⟨(fhA:Int),(ftA:List ag.den),⟨⟩⟩,⟨(lhA:Int),(ltA:List af.den),⟨⟩⟩,⟨⟩⟩,⟨(kB:Int),(vB:Int),(coB:Int),⟨(ptB:List aq.den),(phB:Int),⟨⟩⟩,⟨(fhB:Int),(ftB:List ag.den),⟨⟩⟩,⟨(lhB:Int),(ltB:List af.den),⟨⟩⟩,⟨⟩⟩,⟨⟩⟩,⟨⟩⟩ out hw ho
  obtain ⟨hg,ho⟩:=Tr.guard ho
  obtain ⟨hA,hB⟩:=Bool.and_eq_true_iff.1 hg
  have hA:bQ (kA,(vA,(coA,((ptA,(phA,())),((fhA,(ftA,())),((lhA,(ltA,())),()))))))=true:=hA
  have hB:bQ (kB,(vB,(coB,((ptB,(phB,())),((fhB,(ftB,())),((lhB,(ltB,())),()))))))=true:=hB
  cases ho
  have wA:=hw.1.1
  have wB:=hw.1.2.1
  refine (IZ kA vA coA ptA phA fhA ftA lhA ltA kB vB coB ptB phB fhB ftB lhB ltB).trans ?_
  unfold sR
  show _=some (Out.ret ((qX (kA,(vA,(coA,((ptA,(phA,())),((fhA,(ftA,())),((lhA,(ltA,())),())))))) (kB,(vB,(coB,((ptB,(phB,())),((fhB,(ftB,())),((lhB,(ltB,())),())))))),()),()))
  have key:r5 (kA,(vA,(coA,((ptA,(phA,())),((fhA,(ftA,())),((lhA,(ltA,())),())))))) (kB,(vB,(coB,((ptB,(phB,())),((fhB,(ftB,())),((lhB,(ltB,())),()))))))=true↔((ptA,(phA,()))=(ptB,(phB,()))∧(fhA,(ftA,()))=(fhB,(ftB,()))∧(lhA,(ltA,()))=(lhB,(ltB,()))):=by
   unfold r5
   have i0:dW (aC (kA,(vA,(coA,((ptA,(phA,())),((fhA,(ftA,())),((lhA,(ltA,())),())))))) 0) (aC (kB,(vB,(coB,((ptB,(phB,())),((fhB,(ftB,())),((lhB,(ltB,())),())))))) 0)=true↔(ptA,(phA,()))=(ptB,(phB,())):=by
    rw[kr]
    refine ⟨fun h=>?_,fun h=>congrArg ba h⟩
    have h:ba (ptA,(phA,()))=ba (ptB,(phB,())):=h
    rw[← om (m:=(ptA,(phA,()))) wA.2.2.2.1,← om (m:=(ptB,(phB,()))) wB.2.2.2.1,h]
   have i1:dW (aC (kA,(vA,(coA,((ptA,(phA,())),((fhA,(ftA,())),((lhA,(ltA,())),())))))) 1) (aC (kB,(vB,(coB,((ptB,(phB,())),((fhB,(ftB,())),((lhB,(ltB,())),())))))) 1)=true↔(fhA,(ftA,()))=(fhB,(ftB,())):=by
    rw[kr]
    refine ⟨fun h=>?_,fun h=>congrArg br h⟩
    have h:br (fhA,(ftA,()))=br (fhB,(ftB,())):=h
    rw[← pK (m:=(fhA,(ftA,()))) wA.2.2.2.2.1,← pK (m:=(fhB,(ftB,()))) wB.2.2.2.2.1,h]
   have i2:dW (aC (kA,(vA,(coA,((ptA,(phA,())),((fhA,(ftA,())),((lhA,(ltA,())),())))))) 2) (aC (kB,(vB,(coB,((ptB,(phB,())),((fhB,(ftB,())),((lhB,(ltB,())),())))))) 2)=true↔(lhA,(ltA,()))=(lhB,(ltB,())):=by
    rw[kr]
    refine ⟨fun h=>?_,fun h=>congrArg bt h⟩
    have h:bt (lhA,(ltA,()))=bt (lhB,(ltB,())):=h
    rw[← pL (m:=(lhA,(ltA,()))) wA.2.2.2.2.2.1,← pL (m:=(lhB,(ltB,()))) wB.2.2.2.2.2.1,h]
   rw[← i0,← i1,← i2]
   constructor
   ·intro h
    split at h
    ·assumption
    ·cases h
   ·intro h
    rw[if_pos h]
  have no:∀h:(kA,(vA,(coA,((ptA,(phA,())),((fhA,(ftA,())),((lhA,(ltA,())),()))))))≠(kB,(vB,(coB,((ptB,(phB,())),((fhB,(ftB,())),((lhB,(ltB,())),())))))),qX (kA,(vA,(coA,((ptA,(phA,())),((fhA,(ftA,())),((lhA,(ltA,())),())))))) (kB,(vB,(coB,((ptB,(phB,())),((fhB,(ftB,())),((lhB,(ltB,())),()))))))=false:=fun h=>Bool.eq_false_iff.2 fun h'=>h (vz.1 h')
  have fin:∀{b:Bool},qX (kA,(vA,(coA,((ptA,(phA,())),((fhA,(ftA,())),((lhA,(ltA,())),())))))) (kB,(vB,(coB,((ptB,(phB,())),((fhB,(ftB,())),((lhB,(ltB,())),()))))))=b→(some (Out.ret ((b,()),())):Option fH.Res)=some (Out.ret ((qX (kA,(vA,(coA,((ptA,(phA,())),((fhA,(ftA,())),((lhA,(ltA,())),())))))) (kB,(vB,(coB,((ptB,(phB,())),((fhB,(ftB,())),((lhB,(ltB,())),())))))),()),())):=fun h=>by rw[h]
  by_cases ek:kA=kB
  rotate_left
  ·refine (aa (by simpa using ek) _ _).trans ?_
   exact fin (no fun h=>ek (by simp only[Prod.mk.injEq] at h;exact h.1))
  refine (ab (by simpa using ek) _ _).trans ?_
  by_cases ev:vA=vB
  rotate_left
  ·refine (aa (by simpa using ev) _ _).trans ?_
   exact fin (no fun h=>ev (by simp only[Prod.mk.injEq] at h;exact h.2.1))
  refine (ab (by simpa using ev) _ _).trans ?_
  by_cases eo:coA=coB
  rotate_left
  ·refine (aa (by simpa using eo) _ _).trans ?_
   exact fin (no fun h=>eo (by simp only[Prod.mk.injEq] at h;exact h.2.2.1))
  refine (ab (by simpa using eo) _ _).trans ?_
  refine (aa (Bool.and_eq_true_iff.2 ⟨rfl,Bool.and_eq_true_iff.2 ⟨hA,hB⟩⟩) _ _).trans ?_
  by_cases h6:r5 (kA,(vA,(coA,((ptA,(phA,())),((fhA,(ftA,())),((lhA,(ltA,())),())))))) (kB,(vB,(coB,((ptB,(phB,())),((fhB,(ftB,())),((lhB,(ltB,())),()))))))=true
  ·refine (aa h6 _ _).trans ?_
   obtain ⟨e0,e1,e2⟩:=key.1 h6
   refine fin (vz.2 ?_)
   simp only[Prod.mk.injEq] at e0 e1 e2 ⊢
   simp only[ek,ev,eo,e0,e1,e2,and_self]
  ·refine (ab (Bool.eq_false_iff.2 h6) _ _).trans ?_
   refine fin (no fun h=>h6 (key.2 ?_))
   simp only[Prod.mk.injEq] at h ⊢
   simp only[h,and_self]
def On (c:cD.den):Bool:=(cv c.2.2.2.1.1&&decide (aO (ba c.2.2.2.1)≤4294967296))&&((c7 c.2.2.2.2.1.2.1&&decide (aO (br c.2.2.2.2.1)≤4294967296))&&(da c.2.2.2.2.2.1.2.1&&decide (aO (bt c.2.2.2.2.2.1)≤4294967296)))
abbrev i6:Io:=⟨[.dat cD true false],[],[],[.dat cD true false],none⟩
def yc (d:i6.In):Tr i6.Res:=.ite (On d.1.1) (.ret (.ret ((d.1.1,()),()))) .no
abbrev CN:List (Nat×Hc):=[(55,ah gN uF),(56,ah jd ym),(57,ah je yn)]
def OV:Hd:=bz CN
def Dg:Lp:=bo []
def wa (a0 a1 a2:Int)(a3:List aq.den)(a4 a5:Int)(a6:List ag.den)(a7:Int)(a8:List af.den):Option i6.Res:=bif cv a3&&decide (aO (ba (a3,a4,()))≤4294967296) then bif c7 a6&&decide (aO (br (a5,a6,()))≤4294967296) then bif da a8&&decide (aO (bt (a7,a8,()))≤4294967296) then some (Out.ret (((a0,a1,a2,(a3,a4,()),(a5,a6,()),(a7,a8,()),()),()),())) else none else none else none
theorem Lq (a0 a1 a2:Int)(a3:List aq.den)(a4 a5:Int)(a6:List ag.den)(a7:Int)(a8:List af.den):Io.run tt OV dr Dg i6 Tryz.f16 (((a0,a1,a2,(a3,a4,()),(a5,a6,()),(a7,a8,()),()),()),())=wa a0 a1 a2 a3 a4 a5 a6 a7 a8:=by kernel_rfl
theorem Ps:HcOk prog 16 (ah i6 yc):=by
 refine aj (n:=400) hm (cs:=CN) (.cons K4 (.cons PB (.cons PC .nil))) (lp:=Dg) (fn:=Tryz.f16) (by kernel_rfl) (by kernel_rfl) (by kernel_rfl) i6 (.done (by kernel_rfl)) yc ?_
 rintro ⟨⟨⟨(k:Int),(v:Int),(co:Int),⟨(pt:List aq.den),(ph:Int),⟨⟩⟩,⟨(fh:Int),(ft:List ag.den),⟨⟩⟩,⟨(lh:Int),(lt:List af.den),⟨⟩⟩,⟨⟩⟩,⟨⟩⟩,⟨⟩⟩ out hw ho
 obtain ⟨hg,ho⟩:=Tr.guard ho
 obtain ⟨h1,hg⟩:=Bool.and_eq_true_iff.1 hg
 obtain ⟨h2,h3⟩:=Bool.and_eq_true_iff.1 hg
 cases ho
 refine (Lq k v co pt ph fh ft lh lt).trans ?_
 unfold wa
 refine (aa h1 _ _).trans ?_
 refine (aa h2 _ _).trans ?_
 exact aa h3 _ _
theorem pJ (l:List Nd):b9 (bj l)=((l.length:Int) == 0):=by
 unfold b9
 by_cases h:l=[]
 ·subst h;rfl
 ·have h1:l.length≠0:=by simpa using h
  have h2:((l.length:Int) == 0)=false:=by simpa using h
  rw[h2]
  exact if_neg h1
theorem FF {n:Nd}{b:Bool}(h:n.kids.all b9=b):bW n=b:=by
 unfold bW
 rw[h]
 cases b <;> rfl
theorem TM (m:jR.den):bW (ba m)=tW m:=by
 unfold ba
 refine FF ?_
 show (List.all [bj (m.1.map dl),aG 3 m.2.1] b9)=_
 simp only[List.all_cons,List.all_nil]
 rw[pJ,bU,List.length_map]
 unfold tW
 simp only[Bool.and_true]
 exact Bool.and_comm _ _
theorem W2 (m:ci.den):bW (br m)=tS m:=by
 unfold br
 refine FF ?_
 show (List.all [aG 3 m.1,bj (m.2.1.map fb)] b9)=_
 simp only[List.all_cons,List.all_nil]
 rw[bU,pJ,List.length_map]
 unfold tS
 simp only[Bool.and_true]
theorem W3 (m:bN.den):bW (bt m)=tV m:=by
 unfold bt
 refine FF ?_
 show (List.all [aG 3 m.1,bj (m.2.1.map fc)] b9)=_
 simp only[List.all_cons,List.all_nil]
 rw[bU,pJ,List.length_map]
 unfold tV
 simp only[Bool.and_true]
theorem VD (c:cD.den):Jv c=pG c:=by
 have e0:bW (aC c 0)=tW c.2.2.2.1:=TM _
 have e1:bW (aC c 1)=tS c.2.2.2.2.1:=W2 _
 have e2:bW (aC c 2)=tV c.2.2.2.2.2.1:=W3 _
 unfold Jv pG
 rw[e0,e1,e2]
 cases tW c.2.2.2.1 <;> cases tS c.2.2.2.2.1 <;> cases tV c.2.2.2.2.2.1 <;> by_cases h0:c.1=0 <;> by_cases h1:c.1=1 <;> by_cases h2:c.1=2 <;> simp[h0,h1,h2]
theorem Rw (c:cD.den)(h:c.1=0∨c.1=1∨c.1=2):ol c=jO c.1 true c.2.1 (aC c c.1):=by
 unfold ol aC
 rcases h with h | h | h
 ·rw[if_pos h,if_pos h,h]
  unfold gi;rfl
 ·have n0:¬ c.1=0:=fun e=>absurd (h.symm.trans e) (by decide)
  rw[if_neg n0,if_pos h,if_neg n0,if_pos h,h]
  unfold jT;rfl
 ·have n0:¬ c.1=0:=fun e=>absurd (h.symm.trans e) (by decide)
  have n1:¬ c.1=1:=fun e=>absurd (h.symm.trans e) (by decide)
  rw[if_neg n0,if_neg n1,if_neg n0,if_neg n1,h]
  unfold jJ;rfl
theorem DE (c:cD.den):eC c=iM c:=by
 unfold eC iM
 rw[VD]
 by_cases h1:f6 c.1 c.2.1=0
 ·rw[if_neg (not_not_intro h1),if_neg (not_not_intro h1),Rw c (Vk h1)]
  cases pG c with
  |false=>rw[if_pos rfl,if_neg (by decide)]
  |true=>rw[if_neg (by decide),if_pos rfl]
 ·rw[if_pos h1,if_pos h1]
theorem PD (c:cD.den):(eC c).1.length≤4294967000:=by
 rw[DE]
 unfold iM
 have hy:(jO c.1 true c.2.1 (aC c c.1)).1.length≤130048:=mX _ _ _ _
 split
 ·simp
 ·split
  ·split
   ·simp
   ·simp only[List.length_append,bY]
    omega
  ·simp
def kd (c:jV.den):List Int×Int:=if f6 c.1 c.2.1≠0 then ([],f6 c.1 c.2.1) else if xe c.2.2.2.1≠0 then ([],xe c.2.2.2.1) else if AQ c=false then ([],7) else
 if (gt c.2.1 c.2.2.2.2.2.2.1).2≠0 then ([],(gt c.2.1 c.2.2.2.2.2.2.1).2) else (Vl c.1 c.2.1 c.2.2.1 c.2.2.2.1++(gt c.2.1 c.2.2.2.2.2.2.1).1,0)
abbrev nr:Io:=⟨[.dat jV true false],[],[],[dO,dI],none⟩
def JP (d:nr.In):Tr nr.Res:=.ite (decide (d.1.1.1=2)) (.ret (.ret (((kd d.1.1).1,((kd d.1.1).2,())),()))) .no
abbrev ML:List (Nat×Hc):=[(40,ah iu uv),(41,ah gW sh),(42,ah iW xR),(45,ah tf Mr),(46,ah nP Gy),(47,ah pg Mx),(48,ah nO Gx),(49,ah mt BY),(50,ah iz sC)]
def Wr:Hd:=bz ML
def Nr:Lp:=bo []
def B6 (a0 a1 a2:Int)(a3:Bool)(a4:List Int)(a5:Bool)(a6:List Int)(a7 a8:Int)(a9:List bM.den)(a10 a11 a12 a13 a14:Int)(a15:List aQ.den)(a16 a17:Int)(a18:List am.den):Option nr.Res:=bif f6 a0 a1 != 0 then some (Out.ret (([],f6 a0 a1,()),())) else bif xe (a3,a4,()) != 0 then some (Out.ret (([],xe (a3,a4,()),()),())) else bif !AQ (a0,a1,a2,(a3,a4,()),((a5,a6,()),a7,a8,a9,()),(a10,a11,a12,a13,a14,a15,()),(a16,a17,a18,()),()) then some (Out.ret (([],7,()),())) else bif a0 == 0 then none else bif a0 == 1 then none else bif a0 == 2 then bif (gt (IntKind.i64.wrap a1) (a16,a17,a18,())).2 != 0 then some (Out.ret (([],(gt (IntKind.i64.wrap a1) (a16,a17,a18,())).2,()),())) else bif bB (aE [] (ao (an 131072 0) 1048576) a0 2).2 (ao (an 131072 0) 1048576) then bif bB (aE (aE [] (ao (an 131072 0) 1048576) a0 2).2 (ao (an 131072 0) 1048576) a1 2).2 (ao (an 131072 0) 1048576) then bif a3 then bif bB (aE (aE (aE [] (ao (an 131072 0) 1048576) a0 2).2 (ao (an 131072 0) 1048576) a1 2).2 (ao (an 131072 0) 1048576) a2 4).2 (ao (an 131072 0) 1048576) then bif bB (aE (aE (aE (aE [] (ao (an 131072 0) 1048576) a0 2).2 (ao (an 131072 0) 1048576) a1 2).2 (ao (an 131072 0) 1048576) a2 4).2 (ao (an 131072 0) 1048576) (-1) 2).2 (ao (an 131072 0) 1048576)&&decide (aT [(gt (IntKind.i64.wrap a1) (a16,a17,a18,())).1]≤4294960000) then bif decide ((bC (aE (aE (aE (aE [] (ao (an 131072 0) 1048576) a0 2).2 (ao (an 131072 0) 1048576) a1 2).2 (ao (an 131072 0) 1048576) a2 4).2 (ao (an 131072 0) 1048576) (-1) 2).2 (ao (an 131072 0) 1048576) [(gt (IntKind.i64.wrap a1) (a16,a17,a18,())).1]).2.length≤4294967296) then some (Out.ret (((bC (aE (aE (aE (aE [] (ao (an 131072 0) 1048576) a0 2).2 (ao (an 131072 0) 1048576) a1 2).2 (ao (an 131072 0) 1048576) a2 4).2 (ao (an 131072 0) 1048576) (-1) 2).2 (ao (an 131072 0) 1048576) [(gt (IntKind.i64.wrap a1) (a16,a17,a18,())).1]).2,0,()),())) else none else none else none else bif bB (aE (aE (aE [] (ao (an 131072 0) 1048576) a0 2).2 (ao (an 131072 0) 1048576) a1 2).2 (ao (an 131072 0) 1048576) a2 4).2 (ao (an 131072 0) 1048576) then bif bB (aE (aE (aE (aE [] (ao (an 131072 0) 1048576) a0 2).2 (ao (an 131072 0) 1048576) a1 2).2 (ao (an 131072 0) 1048576) a2 4).2 (ao (an 131072 0) 1048576) (IntKind.i16.wrap (↑a4.length:Int)) 2).2 (ao (an 131072 0) 1048576)&&decide (aT [a4]≤4294960000) then bif bB (bC (aE (aE (aE (aE [] (ao (an 131072 0) 1048576) a0 2).2 (ao (an 131072 0) 1048576) a1 2).2 (ao (an 131072 0) 1048576) a2 4).2 (ao (an 131072 0) 1048576) (IntKind.i16.wrap (↑a4.length:Int)) 2).2 (ao (an 131072 0) 1048576) [a4]).2 (ao (an 131072 0) 1048576)&&decide (aT [(gt (IntKind.i64.wrap a1) (a16,a17,a18,())).1]≤4294960000) then bif decide ((bC (bC (aE (aE (aE (aE [] (ao (an 131072 0) 1048576) a0 2).2 (ao (an 131072 0) 1048576) a1 2).2 (ao (an 131072 0) 1048576) a2 4).2 (ao (an 131072 0) 1048576) (IntKind.i16.wrap (↑a4.length:Int)) 2).2 (ao (an 131072 0) 1048576) [a4]).2 (ao (an 131072 0) 1048576) [(gt (IntKind.i64.wrap a1) (a16,a17,a18,())).1]).2.length≤4294967296) then some (Out.ret (((bC (bC (aE (aE (aE (aE [] (ao (an 131072 0) 1048576) a0 2).2 (ao (an 131072 0) 1048576) a1 2).2 (ao (an 131072 0) 1048576) a2 4).2 (ao (an 131072 0) 1048576) (IntKind.i16.wrap (↑a4.length:Int)) 2).2 (ao (an 131072 0) 1048576) [a4]).2 (ao (an 131072 0) 1048576) [(gt (IntKind.i64.wrap a1) (a16,a17,a18,())).1]).2,0,()),())) else none else none else none else none else none else none else bif bB (aE [] (ao (an 131072 0) 1048576) a0 2).2 (ao (an 131072 0) 1048576) then bif bB (aE (aE [] (ao (an 131072 0) 1048576) a0 2).2 (ao (an 131072 0) 1048576) a1 2).2 (ao (an 131072 0) 1048576) then bif a3 then bif bB (aE (aE (aE [] (ao (an 131072 0) 1048576) a0 2).2 (ao (an 131072 0) 1048576) a1 2).2 (ao (an 131072 0) 1048576) a2 4).2 (ao (an 131072 0) 1048576) then bif bB (aE (aE (aE (aE [] (ao (an 131072 0) 1048576) a0 2).2 (ao (an 131072 0) 1048576) a1 2).2 (ao (an 131072 0) 1048576) a2 4).2 (ao (an 131072 0) 1048576) (-1) 2).2 (ao (an 131072 0) 1048576)&&decide (aT [[]]≤4294960000) then bif decide ((bC (aE (aE (aE (aE [] (ao (an 131072 0) 1048576) a0 2).2 (ao (an 131072 0) 1048576) a1 2).2 (ao (an 131072 0) 1048576) a2 4).2 (ao (an 131072 0) 1048576) (-1) 2).2 (ao (an 131072 0) 1048576) [[]]).2.length≤4294967296) then some (Out.ret (((bC (aE (aE (aE (aE [] (ao (an 131072 0) 1048576) a0 2).2 (ao (an 131072 0) 1048576) a1 2).2 (ao (an 131072 0) 1048576) a2 4).2 (ao (an 131072 0) 1048576) (-1) 2).2 (ao (an 131072 0) 1048576) [[]]).2,0,()),())) else none else none else none else bif bB (aE (aE (aE [] (ao (an 131072 0) 1048576) a0 2).2 (ao (an 131072 0) 1048576) a1 2).2 (ao (an 131072 0) 1048576) a2 4).2 (ao (an 131072 0) 1048576) then bif bB (aE (aE (aE (aE [] (ao (an 131072 0) 1048576) a0 2).2 (ao (an 131072 0) 1048576) a1 2).2 (ao (an 131072 0) 1048576) a2 4).2 (ao (an 131072 0) 1048576) (IntKind.i16.wrap (↑a4.length:Int)) 2).2 (ao (an 131072 0) 1048576)&&decide (aT [a4]≤4294960000) then bif bB (bC (aE (aE (aE (aE [] (ao (an 131072 0) 1048576) a0 2).2 (ao (an 131072 0) 1048576) a1 2).2 (ao (an 131072 0) 1048576) a2 4).2 (ao (an 131072 0) 1048576) (IntKind.i16.wrap (↑a4.length:Int)) 2).2 (ao (an 131072 0) 1048576) [a4]).2 (ao (an 131072 0) 1048576)&&decide (aT [[]]≤4294960000) then bif decide ((bC (bC (aE (aE (aE (aE [] (ao (an 131072 0) 1048576) a0 2).2 (ao (an 131072 0) 1048576) a1 2).2 (ao (an 131072 0) 1048576) a2 4).2 (ao (an 131072 0) 1048576) (IntKind.i16.wrap (↑a4.length:Int)) 2).2 (ao (an 131072 0) 1048576) [a4]).2 (ao (an 131072 0) 1048576) [[]]).2.length≤4294967296) then some (Out.ret (((bC (bC (aE (aE (aE (aE [] (ao (an 131072 0) 1048576) a0 2).2 (ao (an 131072 0) 1048576) a1 2).2 (ao (an 131072 0) 1048576) a2 4).2 (ao (an 131072 0) 1048576) (IntKind.i16.wrap (↑a4.length:Int)) 2).2 (ao (an 131072 0) 1048576) [a4]).2 (ao (an 131072 0) 1048576) [[]]).2,0,()),())) else none else none else none else none else none else none
theorem Uy (a0 a1 a2:Int)(a3:Bool)(a4:List Int)(a5:Bool)(a6:List Int)(a7 a8:Int)(a9:List bM.den)(a10 a11 a12 a13 a14:Int)(a15:List aQ.den)(a16 a17:Int)(a18:List am.den):Io.run tt Wr dr Nr nr Tryz.f11 (((a0,a1,a2,(a3,a4,()),((a5,a6,()),a7,a8,a9,()),(a10,a11,a12,a13,a14,a15,()),(a16,a17,a18,()),()),()),())=B6 a0 a1 a2 a3 a4 a5 a6 a7 a8 a9 a10 a11 a12 a13 a14 a15 a16 a17 a18:=by kernel_rfl
theorem W8:HcOk prog 11 (ah nr JP):=by
 refine aj (n:=400) hm (cs:=ML) (.cons xF (.cons Dy (.cons Pi (.cons T3 (.cons K3 (.cons Ul (.cons K2 (.cons FS (.cons z8 .nil))))))))) (lp:=Nr) (fn:=Tryz.f11) (by kernel_rfl) (by kernel_rfl) (by kernel_rfl) nr (.done (by kernel_rfl)) JP ?_
 rintro ⟨⟨⟨(k:Int),(v:Int),(co:Int),⟨(cz:Bool),(cs:List Int),⟨⟩⟩,⟨⟨(nz:Bool),(ns:List Int),⟨⟩⟩,(ak:Int),(wt:Int),(ts:List bM.den),⟨⟩⟩,⟨(fr:Int),(fw:Int),(fm:Int),(fx:Int),(fl:Int),(ft:List aQ.den),⟨⟩⟩,⟨(lr:Int),(ll:Int),(lt:List am.den),⟨⟩⟩,⟨⟩⟩,⟨⟩⟩,⟨⟩⟩ out hw ho
 obtain ⟨hg,ho⟩:=Tr.guard ho
 have hg:k=2:=of_decide_eq_true hg
 cases ho
 refine (Uy k v co cz cs nz ns ak wt ts fr fw fm fx fl ft lr ll lt).trans ?_
 unfold B6
 have hv:IntKind.i64.wrap v=v:=gB hw.1.1.2.1
 rw[hv]
 show _=some (Out.ret (((kd (k,(v,(co,((cz,(cs,())),(((nz,(ns,())),(ak,(wt,(ts,())))),((fr,(fw,(fm,(fx,(fl,(ft,())))))),((lr,(ll,(lt,()))),())))))))).1,((kd (k,(v,(co,((cz,(cs,())),(((nz,(ns,())),(ak,(wt,(ts,())))),((fr,(fw,(fm,(fx,(fl,(ft,())))))),((lr,(ll,(lt,()))),())))))))).2,())),()))
 unfold kd
 dsimp only
 generalize AQ (k,(v,(co,((cz,(cs,())),(((nz,(ns,())),(ak,(wt,(ts,())))),((fr,(fw,(fm,(fx,(fl,(ft,())))))),((lr,(ll,(lt,()))),())))))))=ot
 by_cases h1:f6 k v=0
 ·rw[ab (by simpa using h1),if_neg (not_not_intro h1)]
  by_cases h2:xe (cz,(cs,()))=0
  ·rw[ab (by simpa using h2),if_neg (not_not_intro h2)]
   cases ot with
   |false=>rw[Bool.not_false,cond_true,if_pos rfl]
   |true=>
    rw[Bool.not_true,cond_false,if_neg (by decide)]
    have hcs:cs.length≤255:=by
     unfold xe at h2
     split at h2
     ·cases h2
     ·split at h2
      ·cases h2
      ·split at h2
       ·cases h2
       ·rename_i h;exact Nat.le_of_not_lt h
    have lo:(gt v (lr,(ll,(lt,())))).1.length≤130048:=by unfold gt;exact mX _ _ _ _
    have k0:k≠0:=by omega
    have k1:k≠1:=by omega
    rw[ab (by simpa using k0)]
    rw[ab (by simpa using k1)]
    have k2:k=2:=hg
    rw[aa (by simpa using k2)]
    by_cases h4:(gt v (lr,(ll,(lt,())))).2=0
    ·rw[ab (by simpa using h4),if_neg (not_not_intro h4)]
     exact Zu k v co cz cs _ lo hcs
    ·rw[aa (by simpa using h4),if_pos h4]
  ·rw[aa (by simpa using h2),if_pos h2]
 ·rw[aa (by simpa using h1),if_pos h1]
def fy (b:List Int):jV.den×Int:=
 if (cX b 0).2.2≠0 then (YE,(cX b 0).2.2) else
 (if (m1 (cX b 0).1.2.1 (b.drop (cX b 0).2.1.toNat)).2≠0 then (YE,(m1 (cX b 0).1.2.1 (b.drop (cX b 0).2.1.toNat)).2) else (Wp (cX b 0).1 Xv fq0 (m1 (cX b 0).1.2.1 (b.drop (cX b 0).2.1.toNat)).1,0))
abbrev nq:Io:=⟨[dL],[],[],[.dat jV true false,dI],none⟩
def JO (d:nq.In):Tr nq.Res:=.ite (decide (d.1.1.length≤4294960000)&&decide ((cX d.1.1 0).1.1=2)) (.ret (.ret (((fy d.1.1).1,((fy d.1.1).2,())),()))) .no
abbrev MK:List (Nat×Hc):=[(61,ah jr uC),(62,ah kz D5),(64,ah gp pU),(63,ah gq pV),(67,ah kG Ee)]
def Wq:Hd:=bz MK
def Nq:Lp:=bo []
def B5 (a0:List Int):Option nq.Res:=bif decide (a0.length≤4294967296) then bif bi a0 0 then bif (cX a0 0).2.2 != 0 then some (Out.ret (((0,0,0,(false,[],()),((false,[],()),0,0,[],()),(0,0,0,0,0,[],()),(0,0,[],()),()),(cX a0 0).2.2,()),())) else bif bi a0 (cX a0 0).2.1 then bif (cX a0 0).1.1 == 0 then none else bif (cX a0 0).1.1 == 1 then none else bif (cX a0 0).1.1 == 2 then bif (m1 (IntKind.i64.wrap (cX a0 0).1.2.1) (aR a0 (cX a0 0).2.1 (IntKind.i64.wrap ((↑a0.length:Int) - (cX a0 0).2.1))).1).2 != 0 then some (Out.ret (((0,0,0,(false,[],()),((false,[],()),0,0,[],()),(0,0,0,0,0,[],()),(0,0,[],()),()),(m1 (IntKind.i64.wrap (cX a0 0).1.2.1) (aR a0 (cX a0 0).2.1 (IntKind.i64.wrap ((↑a0.length:Int) - (cX a0 0).2.1))).1).2,()),())) else some (Out.ret ((((cX a0 0).1.1,(cX a0 0).1.2.1,(cX a0 0).1.2.2.1,(cX a0 0).1.2.2.2,((false,[],()),0,0,[],()),(0,0,0,0,0,[],()),(m1 (IntKind.i64.wrap (cX a0 0).1.2.1) (aR a0 (cX a0 0).2.1 (IntKind.i64.wrap ((↑a0.length:Int) - (cX a0 0).2.1))).1).1,()),0,()),())) else bif (cX a0 0).2.2 != 0 then some (Out.ret (((0,0,0,(false,[],()),((false,[],()),0,0,[],()),(0,0,0,0,0,[],()),(0,0,[],()),()),(cX a0 0).2.2,()),())) else some (Out.ret ((((cX a0 0).1.1,(cX a0 0).1.2.1,(cX a0 0).1.2.2.1,(cX a0 0).1.2.2.2,((false,[],()),0,0,[],()),(0,0,0,0,0,[],()),(0,0,[],()),()),0,()),())) else none else none else none
theorem Ux (a0:List Int):Io.run tt Wq dr Nq nq Tryz.f20 ((a0,()),())=B5 a0:=by kernel_rfl
theorem W7:HcOk prog 20 (ah nq JO):=by
 refine aj (n:=400) hm (cs:=MK) (.cons xH (.cons TP (.cons pu (.cons tI (.cons TZ .nil))))) (lp:=Nq) (fn:=Tryz.f20) (by kernel_rfl) (by kernel_rfl) (by kernel_rfl) nq (.done (by kernel_rfl)) JO ?_
 rintro ⟨⟨(b:List Int),⟨⟩⟩,⟨⟩⟩ out hw ho
 obtain ⟨hg,ho⟩:=Tr.guard ho
 obtain ⟨hg,h2⟩:=Bool.and_eq_true_iff.1 hg
 have hg:b.length≤4294960000:=of_decide_eq_true hg
 have h2:(cX b 0).1.1=2:=of_decide_eq_true h2
 cases ho
 refine (Ux b).trans ?_
 unfold B5
 show _=some (Out.ret (((fy b).1,((fy b).2,())),()))
 have g0:bi b 0=true:=by simp[bi];omega
 have g1:=X9 g0
 have hl:IntKind.i64.wrap ((b.length:Int) - (cX b 0).2.1)=(b.length:Int) - (cX b 0).2.1:=by
  unfold bi at g1
  simp only[Bool.and_eq_true,decide_eq_true_eq] at g1
  exact az (by omega) (by omega)
 rw[hl,DI g1,Vj]
 refine (aa (decide_eq_true (show b.length≤4294967296 by omega)) _ _).trans ?_
 refine (aa g0 _ _).trans ?_
 unfold fy
 generalize cX b 0=r at g1 h2 ⊢
 obtain ⟨⟨k,v,co,n⟩,q,e⟩:=r
 have g1:bi b q=true:=g1
 have k2:k=2:=h2
 dsimp only
 generalize b.drop q.toNat=rest
 by_cases h1:e=0
 ·rw[ab (by simpa using h1),if_neg (not_not_intro h1),aa g1]
  have k0:k≠0:=by omega
  have k1:k≠1:=by omega
  rw[ab (by simpa using k0)]
  rw[ab (by simpa using k1)]
  rw[aa (by simpa using k2)]
  by_cases hd:(m1 v rest).2=0
  ·rw[ab (by simpa using hd),if_neg (not_not_intro hd)]
  ·rw[aa (by simpa using hd),if_pos hd]
 ·rw[aa (by simpa using h1),if_pos h1]
def kf (k v:Int)(b:List Int):cD.den×Int:=
 if f6 k v≠0 then (Uv,f6 k v) else if (al b 0 4).2.2≠0 then (Uv,(al b 0 4).2.2) else
 (if (m2 v (b.drop (al b 0 4).2.1.toNat)).2≠0 then (Uv,(m2 v (b.drop (al b 0 4).2.1.toNat)).2) else (abl k v (IntKind.i32.wrap (al b 0 4).1) K7 ZE (m2 v (b.drop (al b 0 4).2.1.toNat)).1,0))
abbrev kD:Io:=⟨[Kn,Kn,dL],[],[],[.dat cD true false,dI],none⟩
def D7 (d:kD.In):Tr kD.Res:=.ite (decide (d.1.2.2.1.length≤4294960000)&&decide (d.1.1=2)) (.ret (.ret (((kf d.1.1 d.1.2.1 d.1.2.2.1).1,((kf d.1.1 d.1.2.1 d.1.2.2.1).2,())),()))) .no
abbrev Hh:List (Nat×Hc):=[(40,ah iu uv),(61,ah jr uC),(74,ah j4 yf),(64,ah gp pU),(63,ah gq pV),(77,ah kH Ef)]
def SF:Hd:=bz Hh
def Ie:Lp:=bo []
def yt (a0 a1:Int)(a2:List Int):Option kD.Res:=bif f6 a0 a1 != 0 then some (Out.ret (((0,0,0,([],0,()),(0,[],()),(0,[],()),()),f6 a0 a1,()),())) else bif decide (a2.length≤4294967296) then bif bi a2 0 then bif (al a2 0 4).2.2 != 0 then some (Out.ret (((0,0,0,([],0,()),(0,[],()),(0,[],()),()),(al a2 0 4).2.2,()),())) else bif bi a2 (al a2 0 4).2.1 then bif a0 == 0 then none else bif a0 == 1 then none else bif a0 == 2 then bif (m2 (IntKind.i64.wrap a1) (aR a2 (al a2 0 4).2.1 (IntKind.i64.wrap ((↑a2.length:Int) - (al a2 0 4).2.1))).1).2 != 0 then some (Out.ret (((0,0,0,([],0,()),(0,[],()),(0,[],()),()),(m2 (IntKind.i64.wrap a1) (aR a2 (al a2 0 4).2.1 (IntKind.i64.wrap ((↑a2.length:Int) - (al a2 0 4).2.1))).1).2,()),())) else some (Out.ret (((a0,a1,IntKind.i32.wrap (al a2 0 4).1,([],0,()),(0,[],()),(m2 (IntKind.i64.wrap a1) (aR a2 (al a2 0 4).2.1 (IntKind.i64.wrap ((↑a2.length:Int) - (al a2 0 4).2.1))).1).1,()),0,()),())) else bif (al a2 0 4).2.2 != 0 then some (Out.ret (((0,0,0,([],0,()),(0,[],()),(0,[],()),()),(al a2 0 4).2.2,()),())) else some (Out.ret (((a0,a1,IntKind.i32.wrap (al a2 0 4).1,([],0,()),(0,[],()),(0,[],()),()),0,()),())) else none else none else none
theorem PH (a0 a1:Int)(a2:List Int):Io.run tt SF dr Ie kD Tryz.f22 ((a0,a1,a2,()),())=yt a0 a1 a2:=by kernel_rfl
theorem TR:HcOk prog 22 (ah kD D7):=by
 refine aj (n:=400) hm (cs:=Hh) (.cons xF (.cons xH (.cons FQ (.cons pu (.cons tI (.cons T0 .nil)))))) (lp:=Ie) (fn:=Tryz.f22) (by kernel_rfl) (by kernel_rfl) (by kernel_rfl) kD (.done (by kernel_rfl)) D7 ?_
 rintro ⟨⟨(k:Int),(v:Int),(b:List Int),⟨⟩⟩,⟨⟩⟩ out hw ho
 obtain ⟨hg,ho⟩:=Tr.guard ho
 obtain ⟨hg,k2⟩:=Bool.and_eq_true_iff.1 hg
 have hg:b.length≤4294960000:=of_decide_eq_true hg
 have k2:k=2:=of_decide_eq_true k2
 cases ho
 refine (PH k v b).trans ?_
 unfold yt
 show _=some (Out.ret (((kf k v b).1,((kf k v b).2,())),()))
 have g0:bi b 0=true:=by simp[bi];omega
 have g1:=tY 4 g0
 have hl:IntKind.i64.wrap ((b.length:Int) - (al b 0 4).2.1)=(b.length:Int) - (al b 0 4).2.1:=by
  unfold bi at g1
  simp only[Bool.and_eq_true,decide_eq_true_eq] at g1
  exact az (by omega) (by omega)
 have hv:IntKind.i64.wrap v=v:=gB hw.1.2.1
 rw[hl,DI g1,hv]
 unfold kf
 by_cases h0:f6 k v=0
 ·rw[ab (by simpa using h0),if_neg (not_not_intro h0),aa (decide_eq_true (show b.length≤4294967296 by omega)),aa g0]
  generalize al b 0 4=r at g1 ⊢
  obtain ⟨co,q,e⟩:=r
  have g1:bi b q=true:=g1
  dsimp only
  generalize b.drop q.toNat=rest
  by_cases h1:e=0
  ·rw[ab (by simpa using h1),if_neg (not_not_intro h1),aa g1]
   have k0:k≠0:=by omega
   have k1:k≠1:=by omega
   rw[ab (by simpa using k0)]
   rw[ab (by simpa using k1)]
   rw[aa (by simpa using k2)]
   by_cases hd:(m2 v rest).2=0
   ·rw[ab (by simpa using hd),if_neg (not_not_intro hd)]
   ·rw[aa (by simpa using hd),if_pos hd]
  ·rw[aa (by simpa using h1),if_pos h1]
 ·rw[aa (by simpa using h0),if_pos h0]
theorem RG:kd (2,(1,(7,((false,([99],())),(((false,([],())),(0,(0,(([]:List bM.den),())))),((0,(0,(0,(0,(0,(([]:List aQ.den),())))))),((-1,(0,(([]:List am.den),()))),())))))))=([0,2,0,1,0,0,0,7,0,1,99,255,255,255,255,0,0,0,0],0):=by
 have w1:gt 1 (-1,(0,(([]:List am.den),())))=([255,255,255,255,0,0,0,0],0):=(Uo (v:=1) (m:=(-1,(0,(([]:List am.den),())))) ⟨⟨by decide,by decide⟩,⟨by decide,by decide⟩,⟨Nat.zero_le _,fun x h=>absurd h (by simp)⟩,trivial⟩).symm.trans (by kernel_rfl)
 have h1:f6 2 1=0:=by kernel_rfl
 have h2:xe (false,([99],()))=0:=by kernel_rfl
 have h3:AQ (2,(1,(7,((false,([99],())),(((false,([],())),(0,(0,(([]:List bM.den),())))),((0,(0,(0,(0,(0,(([]:List aQ.den),())))))),((-1,(0,(([]:List am.den),()))),())))))))=true:=by kernel_rfl
 unfold kd
 rw[h1,h2,h3,w1]
 rfl
theorem RH:fy [0,2,0,1,0,0,0,7,0,1,99,255,255,255,255,0,0,0,0]=((2,(1,(7,((false,([99],())),(((false,([],())),(0,(0,(([]:List bM.den),())))),((0,(0,(0,(0,(0,(([]:List aQ.den),())))))),((-1,(0,(([]:List am.den),()))),()))))))),0):=by kernel_rfl
theorem RI:kf 2 1 [0,0,0,7,0,0,0,0]=((2,(1,(7,(K7,(ZE,(Y0,())))))),0):=by kernel_rfl
theorem RJ:eC (2,(1,(7,(K7,(ZE,(Y0,()))))))=([0,0,0,7,0,0,0,0],0):=by
 have w1:jJ 1 Y0=([0,0,0,0],0):=(Up (v:=1) (m:=Y0) ⟨⟨by decide,by decide⟩,⟨Nat.zero_le _,fun x h=>absurd h (by simp)⟩,trivial⟩).symm.trans (by kernel_rfl)
 have hb:ol (2,(1,(7,(K7,(ZE,(Y0,()))))))=([0,0,0,0],0):=((if_neg (by decide)).trans (if_neg (by decide))).trans w1
 have h1:f6 2 1=0:=by kernel_rfl
 have h3:pG (2,(1,(7,(K7,(ZE,(Y0,()))))))=true:=by kernel_rfl
 unfold eC
 rw[hb,h3]
 dsimp only
 rw[h1]
 rfl
abbrev kE:Io:=⟨[],[],[],[dB],none⟩
def D9 (d:kE.In):Tr kE.Res:=.ret (.ret ((true,()),()))
abbrev Hi:List (Nat×Hc):=[(11,ah nr JP),(20,ah nq JO),(13,ah kC D6),(18,ah lG D8),(22,ah kD D7),(28,ah np Gr)]
def SG:Hd:=bz Hi
def If:Lp:=bo []
def yu:Option kE.Res:=bif (kd (2,1,7,(false,[99],()),((false,[],()),0,0,[],()),(0,0,0,0,0,[],()),(-1,0,[],()),())).2 != 0 then some (Out.ret ((false,()),())) else bif (fy [0,2,0,1,0,0,0,7,0,1,99,255,255,255,255,0,0,0,0]).2 != 0 then some (Out.ret ((false,()),())) else bif (eC ((fy [0,2,0,1,0,0,0,7,0,1,99,255,255,255,255,0,0,0,0]).1.1,(fy [0,2,0,1,0,0,0,7,0,1,99,255,255,255,255,0,0,0,0]).1.2.1,(fy [0,2,0,1,0,0,0,7,0,1,99,255,255,255,255,0,0,0,0]).1.2.2.1,([],0,()),(0,[],()),(0,[],()),())).2 != 0 then some (Out.ret ((false,()),())) else bif (kf 2 1 [0,0,0,7,0,0,0,0]).2 != 0 then some (Out.ret ((false,()),())) else bif (fy [0,2,0,1,0,0,0,7,0,1,99,255,255,255,255,0,0,0,0]).1.2.2.1 != 7 then some (Out.ret ((false,()),())) else bif (kf 2 1 [0,0,0,7,0,0,0,0]).1.2.2.1 != 7 then some (Out.ret ((false,()),())) else bif decide ((kd (2,1,7,(false,[99],()),((false,[],()),0,0,[],()),(0,0,0,0,0,[],()),(-1,0,[],()),())).1=[0,2,0,1,0,0,0,7,0,1,99,255,255,255,255,0,0,0,0]) then some (Out.ret ((decide ((eC ((fy [0,2,0,1,0,0,0,7,0,1,99,255,255,255,255,0,0,0,0]).1.1,(fy [0,2,0,1,0,0,0,7,0,1,99,255,255,255,255,0,0,0,0]).1.2.1,(fy [0,2,0,1,0,0,0,7,0,1,99,255,255,255,255,0,0,0,0]).1.2.2.1,([],0,()),(0,[],()),(0,[],()),())).1=[0,0,0,7,0,0,0,0]),()),())) else some (Out.ret ((false,()),()))
theorem PI:Io.run tt SG dr If kE Tryz.f8 ((),())=yu:=by kernel_rfl
theorem TS:HcOk prog 8 (ah kE D9):=by
 refine aj (n:=400) hm (cs:=Hi) (.cons W8 (.cons W7 (.cons TQ (.cons N0 (.cons TR (.cons FH .nil)))))) (lp:=If) (fn:=Tryz.f8) (by kernel_rfl) (by kernel_rfl) (by kernel_rfl) kE (.done (by kernel_rfl)) D9 ?_
 rintro ⟨⟨⟩,⟨⟩⟩ out hw ho
 cases ho
 refine PI.trans ?_
 unfold yu
 rw[RG,RH]
 show (bif (eC (2,(1,(7,(K7,(ZE,(Y0,()))))))).2 != 0 then _ else _)=_
 rw[RJ]
 show (bif (0:Int) != 0 then _ else (bif (kf 2 1 [0,0,0,7,0,0,0,0]).2 != 0 then _ else _))=_
 rw[RI]
 rfl
abbrev fE:Io:=⟨[.dat cD true false],[],[],[dB],none⟩
def AT (c:cD.den):Bool:=dY c.2.2.2.2.1.2.1&&(bQ c&&(On c&&decide (8*aO (aC c c.1)≤4294967296)))
def pR (d:fE.In):Tr fE.Res:=.ite (AT d.1.1) (.ret (.ret ((true,()),()))) .no
abbrev yX:List (Nat×Hc):=[(8,ah kE D9),(16,ah i6 yc),(17,ah kM Ej),(18,FY (ah lG D8)),(12,ah fH uB),(15,ED)]
def Ku:Hd:=bz yX
def zO:Lp:=bo []
def sO (a0 a1 a2:Int)(a3:List aq.den)(a4 a5:Int)(a6:List ag.den)(a7:Int)(a8:List af.den):Option fE.Res:=bif On (a0,a1,a2,(a3,a4,()),(a5,a6,()),(a7,a8,()),()) then bif bQ (a0,a1,a2,(a3,a4,()),(a5,a6,()),(a7,a8,()),())&&decide (8*aO (aC (a0,a1,a2,(a3,a4,()),(a5,a6,()),(a7,a8,()),()) a0)≤4294967296) then bif dY a6 then bif dY a6 then bif (eC (a0,a1,a2,(a3,a4,()),(a5,a6,()),(a7,a8,()),())).2 != (iM (a0,a1,a2,(a3,a4,()),(a5,a6,()),(a7,a8,()),())).2 then some (Out.ret ((false,()),())) else bif (eC (a0,a1,a2,(a3,a4,()),(a5,a6,()),(a7,a8,()),())).2 != (eC (a0,a1,a2,(a3,a4,()),(a5,a6,()),(a7,a8,()),())).2 then some (Out.ret ((false,()),())) else bif bQ (a0,a1,a2,(a3,a4,()),(a5,a6,()),(a7,a8,()),())&&bQ (a0,a1,a2,(a3,a4,()),(a5,a6,()),(a7,a8,()),()) then bif qX (a0,a1,a2,(a3,a4,()),(a5,a6,()),(a7,a8,()),()) (a0,a1,a2,(a3,a4,()),(a5,a6,()),(a7,a8,()),()) then bif decide ((eC (a0,a1,a2,(a3,a4,()),(a5,a6,()),(a7,a8,()),())).1.length≤4294967000)&&decide ((eC (a0,a1,a2,(a3,a4,()),(a5,a6,()),(a7,a8,()),())).1.length≤4294967000) then bif decide ((eC (a0,a1,a2,(a3,a4,()),(a5,a6,()),(a7,a8,()),())).1=(iM (a0,a1,a2,(a3,a4,()),(a5,a6,()),(a7,a8,()),())).1)&&decide ((eC (a0,a1,a2,(a3,a4,()),(a5,a6,()),(a7,a8,()),())).1=(iM (a0,a1,a2,(a3,a4,()),(a5,a6,()),(a7,a8,()),())).1) then bif bQ (a0,a1,a2,(a3,a4,()),(a5,a6,()),(a7,a8,()),())&&bQ (a0,a1,a2,(a3,a4,()),(a5,a6,()),(a7,a8,()),()) then some (Out.ret ((qX (a0,a1,a2,(a3,a4,()),(a5,a6,()),(a7,a8,()),()) (a0,a1,a2,(a3,a4,()),(a5,a6,()),(a7,a8,()),()),()),())) else none else some (Out.ret ((false,()),())) else none else some (Out.ret ((false,()),())) else none else none else none else none else none
theorem IW (a0 a1 a2:Int)(a3:List aq.den)(a4 a5:Int)(a6:List ag.den)(a7:Int)(a8:List af.den):Io.run tt Ku dr zO fE Tryz.f4 (((a0,a1,a2,(a3,a4,()),(a5,a6,()),(a7,a8,()),()),()),())=sO a0 a1 a2 a3 a4 a5 a6 a7 a8:=by kernel_rfl
theorem KV:HcOk prog 4 (ah fE pR):=by
 refine aj (n:=400) hm (cs:=yX) (.cons TS (.cons Ps (.cons Ub (.cons (rY N0) (.cons K0 (.cons W6 .nil)))))) (lp:=zO) (fn:=Tryz.f4) (by kernel_rfl) (by kernel_rfl) (by kernel_rfl) fE (.done (by kernel_rfl)) pR ?_
 rintro ⟨⟨⟨(k:Int),(v:Int),(co:Int),⟨(us:List aq.den),(th:Int),⟨⟩⟩,⟨(fr:Int),(ft:List ag.den),⟨⟩⟩,⟨(lr:Int),(lt:List af.den),⟨⟩⟩,⟨⟩⟩,⟨⟩⟩,⟨⟩⟩ out hw ho
 obtain ⟨hg,ho⟩:=Tr.guard ho
 cases ho
 refine (IW k v co us th fr ft lr lt).trans ?_
 unfold sO
 have hg:AT (k,(v,(co,((us,(th,())),((fr,(ft,())),((lr,(lt,())),()))))))=true:=hg
 generalize hR:(k,(v,(co,((us,(th,())),((fr,(ft,())),((lr,(lt,())),()))))))=R at hg ⊢
 have hft:ft=R.2.2.2.2.1.2.1:=by rw[← hR]
 have hk:k=R.1:=by rw[← hR]
 unfold AT at hg
 simp only[Bool.and_eq_true,decide_eq_true_eq] at hg
 obtain ⟨g1,g2,g3,g4⟩:=hg
 rw[hft,hk,← DE R]
 have g4:=decide_eq_true g4
 have h6:=decide_eq_true (PD R)
 have h7:qX R R=true:=vz.2 rfl
 simp only[g1,g2,g3,g4,h6,h7,cond_true,cond_false,bne_self_eq_false,Bool.not_true,decide_true,Bool.and_self]
theorem K8 {c:cD.den}(h:iU cD c≤1048576):AT c=true:=by
 have e:iU cD c=1+(1+(1+(iU jR c.2.2.2.1+(iU ci c.2.2.2.2.1+(iU bN c.2.2.2.2.2.1+0))))):=rfl
 have h1:=Uu (m:=c.2.2.2.1) (by omega)
 have h2:=Wn (m:=c.2.2.2.2.1) (by omega)
 have h3:=Xs (m:=c.2.2.2.2.2.1) (by omega)
 unfold Gb at h1
 unfold L2 at h2
 unfold L3 at h3
 simp only[Bool.and_eq_true,decide_eq_true_eq] at h1 h2 h3
 obtain ⟨a2,a3⟩:=h1
 obtain ⟨b1,b2,b3⟩:=h2
 obtain ⟨c2,c3⟩:=h3
 unfold AT bQ On
 simp only[Bool.and_eq_true,decide_eq_true_eq]
 refine ⟨b1,⟨a2,b2,c2⟩,⟨⟨a2,by omega⟩,⟨b2,by omega⟩,c2,by omega⟩,?_⟩
 unfold aC
 split
 ·exact a3
 ·split
  ·exact b3
  ·exact c3
end
end Go.Proofs.YtomeplopmndbgaaGreat.Sym
