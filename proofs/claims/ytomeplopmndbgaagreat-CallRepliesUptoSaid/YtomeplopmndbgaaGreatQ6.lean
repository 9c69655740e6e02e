/- leatref11: requests and answers as trees. -/
import Derived.Test.YtomeplopmndbgaaGreatQ5

namespace Go.Proofs.YtomeplopmndbgaaGreat.Sym
open Go
set_option linter.unusedSimpArgs false
set_option linter.unusedVariables false
noncomputable section
abbrev aG (k n:Int):Nd:=.mk (k,(n,(false,(([]:List Int),())))) []
abbrev gO (s:List Int):Nd:=.mk (5,(0,(false,(s,())))) []
abbrev W0 (x:lx.den):Nd:=.mk (6,(0,(x.1,(x.2.1,())))) []
abbrev jE (x:oA.den):Nd:=.mk (8,(0,(x.1,(x.2.1,())))) []
abbrev bH (l:List Nd):Nd:=.mk (10,(0,(false,(([]:List Int),())))) l
abbrev bj (l:List Nd):Nd:=.mk (9,(0,(false,(([]:List Int),())))) l
theorem lF {n:Int}(h:eE .i32 n):IntKind.i64.wrap n=n:=by
 simp only[eE,IntKind.min,IntKind.max,IntKind.signed,IntKind.bits] at h
 simp at h
 exact az (by omega) (by omega)
theorem gB {n:Int}(h:eE .i16 n):IntKind.i64.wrap n=n:=by
 simp only[eE,IntKind.min,IntKind.max,IntKind.signed,IntKind.bits] at h
 simp at h
 exact az (by omega) (by omega)
def Ol (p:oM.den):Nd:=bH [aG 3 p.1,jE p.2.1]
def Jl (t:bM.den):Nd:=bH [gO t.1,bj (t.2.1.map Ol)]
@[irreducible] def QC (m:VS.den):Nd:=bH [W0 m.1,aG 2 m.2.1,aG 3 m.2.2.1,bj (m.2.2.2.1.map Jl)]
theorem QL (n:Nd):n.lab.2.2.2.1.length≤aO n:=by rw[cC];omega
theorem fJ (n:Nd):aD n.kids≤aO n:=by rw[cC];omega
theorem l6 (n:Nd)(i:Int):aO (bf n i)≤aO n:=by
 unfold bf
 split
 ·rename_i h
  have hlt:i.toNat<n.kids.length:=by omega
  rw[aH hlt]
  have:=cR (List.getElem_mem hlt)
  have:=fJ n
  omega
 ·have:=m0 n
  have h0:=cw
  rw[cC (Tre.mk _ _)]
  show 1+0+aD []≤aO n
  omega
def Ju (x:Nd):oM.den:=(IntKind.i32.wrap (bf x 0).lab.2.1,((bf x 1).lab.2.2,()))
def QH (x:Nd):bM.den:=((bf x 0).lab.2.2.2.1,((bf x 1).kids.map Ju,()))
def ei (p:bn.den):Nd:=bH [aG 3 p.1,aG 2 p.2.1,aG 4 p.2.2.1,aG 4 p.2.2.2.1,aG 4 p.2.2.2.2.1]
theorem LT {p:bn.den}(h:bn.wf p):bH [aG 3 (IntKind.i64.wrap p.1),aG 2 (IntKind.i64.wrap p.2.1),aG 4 p.2.2.1,aG 4 p.2.2.2.1,aG 4 p.2.2.2.2.1]=ei p:=by
 rw[lF h.1,gB h.2.1];rfl
def dl (t:aq.den):Nd:=bH [gO t.1,bj (t.2.1.map ei)]
@[irreducible] def ba (m:jR.den):Nd:=bH [bj (m.1.map dl),aG 3 m.2.1]
def k6 (x:Nd):bn.den:=(IntKind.i32.wrap (bf x 0).lab.2.1,(IntKind.i16.wrap (bf x 1).lab.2.1,((bf x 2).lab.2.1,((bf x 3).lab.2.1,((bf x 4).lab.2.1,())))))
def k8 (x:Nd):aq.den:=((bf x 0).lab.2.2.2.1,((bf x 1).kids.map k6,()))
@[irreducible] def qE (n:Nd):jR.den:=((bf n 0).kids.map k8,(IntKind.i32.wrap (bf n 1).lab.2.1,()))
def DF (l:List bM.den):Bool:=decide (l.length≤4294967296)&&l.all fun t=>decide (t.2.1.length≤4294967296)
abbrev tu:Lo:=⟨⟨(.any::.one (.ptr 1 0)::.one (.ptr 2 0)::.one (.onl 91 ap 7)::.one (.hol (.int IntKind.i64))::.one (.onl 91 ap 11)::.one (.hol (.int IntKind.i64))::.any::ai (ai (ai (ai (bJ (be [])))))),[none,some [.hol .bool,.hol .str,.hol (.int IntKind.i16),.hol (.int IntKind.i32),.hol (.sl 172 bM)],some [.hol (.int IntKind.i64),.hol (.int IntKind.i64),.hol .bool,.onl 5 (Ty.int IntKind.u8) 1032,.onl 91 ap 1034]]⟩,[(.exit 2,⟨(.any::.one (.ptr 1 0)::.one (.ptr 2 0)::.one (.onl 91 ap 7)::.one (.hol (.int IntKind.i64))::.one (.onl 91 ap 11)::ai (ai (ai (ai (dE []))))),[none,some [.hol .bool,.hol .str,.hol (.int IntKind.i16),.hol (.int IntKind.i32),.hol (.sl 172 bM)],some [.hol (.int IntKind.i64),.hol (.int IntKind.i64),.hol .bool,.onl 5 (Ty.int IntKind.u8) 1032,.onl 91 ap 1034]]⟩)]⟩
abbrev tr:Lo:=⟨⟨(.any::.one (.ptr 1 0)::.one (.ptr 2 0)::.one (.onl 91 ap 7)::.one (.hol (.int IntKind.i64))::.any::ai (ai (ai (ai (dE []))))),[none,some [.hol .bool,.hol .str,.hol (.int IntKind.i16),.hol (.int IntKind.i32),.hol (.sl 172 bM)],some [.hol (.int IntKind.i64),.hol (.int IntKind.i64),.hol .bool,.onl 5 (Ty.int IntKind.u8) 1032,.onl 91 ap 1034]]⟩,[(.exit 0,⟨(.any::.one (.ptr 1 0)::.one (.ptr 2 0)::.one (.onl 91 ap 7)::ai (ai (ai (ai (dE (be [])))))),[none,some [.hol .bool,.hol .str,.hol (.int IntKind.i16),.hol (.int IntKind.i32),.hol (.sl 172 bM)],some [.hol (.int IntKind.i64),.hol (.int IntKind.i64),.hol .bool,.onl 5 (Ty.int IntKind.u8) 1032,.onl 91 ap 1034]]⟩)]⟩
def YB (d:tu.st.den):Tr (ax tu.xs):=
 .ite ((decide ((0:Int)≤d.1.2.1)&&decide (d.1.2.1<(d.2.1.2.2.2.2.1.length:Int)))&&((decide (d.1.2.2.1.length=0)&&decide (d.1.2.2.2.1=0))&&decide ((d.2.1.2.2.2.2.1.getD d.1.2.1.toNat bM.zero).2.1.length≤4294967296)))
  (.ret (.ret ((),((d.1.1,(d.1.2.1,((d.2.1.2.2.2.2.1.getD d.1.2.1.toNat bM.zero).2.1.map Ol,()))),(d.2.1,(d.2.2.1,())))))) .no
def YA (d:tr.st.den):Tr (ax tr.xs):=
 .ite ((decide (d.1.1.length=0)&&decide (d.1.2.1=0))&&DF d.2.1.2.2.2.2.1)
  (.ret (.ret ((),((d.2.1.2.2.2.2.1.map Jl,()),(d.2.1,(d.2.2.1,())))))) .no
abbrev ww:Lo:=⟨⟨(be (.one (.ptr 2 0)::.one (.ptr 3 0)::.one (.hol (.sl 91 ap))::.one (.hol (.int IntKind.i64))::.one (.ptr 6 0)::.one (.hol (.sl 91 ap))::.one (.hol (.int IntKind.i64))::.any::ai (ai (ai (ai (be [])))))),[none,none,some [.hol .bool,.hol .str,.hol (.int IntKind.i16),.hol (.int IntKind.i32),.onl 172 bM 1034],some [.hol .bool,.hol .str,.hol (.int IntKind.i16),.hol (.int IntKind.i32),.onl 172 bM 1546],none,none,some [.hol .str,.onl 178 oM 3076]]⟩,[(.exit 2,⟨(be (.one (.ptr 2 0)::.one (.ptr 3 0)::.one (.hol (.sl 91 ap))::.one (.hol (.int IntKind.i64))::.one (.ptr 6 0)::.any::ai (ai (ai (ai (bJ [])))))),[none,none,some [.hol .bool,.hol .str,.hol (.int IntKind.i16),.hol (.int IntKind.i32),.onl 172 bM 1034],some [.hol .bool,.hol .str,.hol (.int IntKind.i16),.hol (.int IntKind.i32),.onl 172 bM 1546],none,none,some [.hol .str,.onl 178 oM 3076]]⟩)]⟩
abbrev zL:Lo:=⟨⟨(be (.one (.ptr 2 0)::.one (.ptr 3 0)::.one (.hol (.sl 91 ap))::.one (.hol (.int IntKind.i64))::ai (ai (ai (ai (bJ (be []))))))),[none,none,some [.hol .bool,.hol .str,.hol (.int IntKind.i16),.hol (.int IntKind.i32),.onl 172 bM 1034],some [.hol .bool,.hol .str,.hol (.int IntKind.i16),.hol (.int IntKind.i32),.onl 172 bM 1546]]⟩,[(.exit 0,⟨(be (.one (.ptr 2 0)::.one (.ptr 3 0)::ai (ai (ai (ai (dE [])))))),[none,none,some [.hol .bool,.hol .str,.hol (.int IntKind.i16),.hol (.int IntKind.i32),.onl 172 bM 1034],some [.hol .bool,.hol .str,.hol (.int IntKind.i16),.hol (.int IntKind.i32),.onl 172 bM 1546]]⟩)]⟩
def Zp (d:ww.st.den):Tr (ax ww.xs):=
 .ite ((decide (d.1.2.2.2.1=0)&&decide (d.2.2.2.1.2.1.length=0))&&decide (aD d.1.2.2.1≤4294967296))
  (.ret (.ret ((),((d.1.1,(d.1.2.1,())),(d.2.1,(d.2.2.1,((d.2.2.2.1.1,(d.1.2.2.1.map Ju,())),()))))))) .no
def aaP (d:zL.st.den):Tr (ax zL.xs):=
 .ite ((decide (d.1.2.1=0)&&decide (d.2.2.1.2.2.2.2.1.length=0))&&decide (aD d.1.1≤4294967296))
  (.ret (.ret ((),((),(d.2.1,((d.2.2.1.1,(d.2.2.1.2.1,(d.2.2.1.2.2.1,(d.2.2.1.2.2.2.1,(d.1.1.map QH,()))))),())))))) .no
abbrev fI:Io:=⟨[.dat jR true false],[],[],[du],none⟩
def cv (l:List aq.den):Bool:=decide (l.length≤4294967296)&&l.all fun t=>decide (t.2.1.length≤4294967296)
def pY (d:fI.In):Tr fI.Res:=.ite (cv d.1.1.1) (.ret (.ret ((ba d.1.1,()),()))) .no
abbrev nf:List (Nat×Hc):=[(181,ah mr BX),(182,ah hC su),(180,ah nN Gw),(183,ah j5 yi),(184,ah jt uD),(185,ah kP Ep)]
def ru:Hd:=bz nf
abbrev dj:Lo:=⟨⟨(.any::.one (.ptr 1 0)::.one (.ptr 2 0)::.one (.onl 91 ap 7)::.one (.hol (.int IntKind.i64))::.one (.onl 91 ap 11)::.one (.hol (.int IntKind.i64))::ai (ai (ai (ai (dE (bJ [])))))),[none,some [.hol (.sl 212 aq),.hol (.int IntKind.i32)],some [.hol (.int IntKind.i64),.hol (.int IntKind.i64),.hol .bool,.onl 5 (Ty.int IntKind.u8) 1032,.onl 91 ap 1034]]⟩,[(.exit 2,⟨(.any::.one (.ptr 1 0)::.one (.ptr 2 0)::.one (.onl 91 ap 7)::.one (.hol (.int IntKind.i64))::.one (.onl 91 ap 11)::.any::ai (ai (ai (ai (dE (bJ [])))))),[none,some [.hol (.sl 212 aq),.hol (.int IntKind.i32)],some [.hol (.int IntKind.i64),.hol (.int IntKind.i64),.hol .bool,.onl 5 (Ty.int IntKind.u8) 1032,.onl 91 ap 1034]]⟩)]⟩
abbrev di:Lo:=⟨⟨(.any::.one (.ptr 1 0)::.one (.ptr 2 0)::.one (.onl 91 ap 7)::.one (.hol (.int IntKind.i64))::ai (ai (ai (ai (dE (bJ (be []))))))),[none,some [.hol (.sl 212 aq),.hol (.int IntKind.i32)],some [.hol (.int IntKind.i64),.hol (.int IntKind.i64),.hol .bool,.onl 5 (Ty.int IntKind.u8) 1032,.onl 91 ap 1034]]⟩,[(.exit 0,⟨(.any::.one (.ptr 1 0)::.one (.ptr 2 0)::.one (.onl 91 ap 7)::.any::ai (ai (ai (ai (dE (bJ (be []))))))),[none,some [.hol (.sl 212 aq),.hol (.int IntKind.i32)],some [.hol (.int IntKind.i64),.hol (.int IntKind.i64),.hol .bool,.onl 5 (Ty.int IntKind.u8) 1032,.onl 91 ap 1034]]⟩)]⟩
def lC (d:dj.st.den):Tr (ax dj.xs):=
 .ite ((decide ((0:Int)≤d.1.2.1)&&decide (d.1.2.1<(d.2.1.1.length:Int)))&&((decide (d.1.2.2.1.length=0)&&decide (d.1.2.2.2.1=0))&&decide ((d.2.1.1.getD d.1.2.1.toNat aq.zero).2.1.length≤4294967296)))
  (.ret (.ret ((),((d.1.1,(d.1.2.1,((d.2.1.1.getD d.1.2.1.toNat aq.zero).2.1.map ei,()))),(d.2.1,(d.2.2.1,())))))) .no
def lB (d:di.st.den):Tr (ax di.xs):=
 .ite ((decide (d.1.1.length=0)&&decide (d.1.2.1=0))&&cv d.2.1.1)
  (.ret (.ret ((),((d.2.1.1.map dl,()),(d.2.1,(d.2.2.1,())))))) .no
def jf:Lp:=bo [(4,aP di lB),(8,aP dj lC)]
def pO {R:Type}(h11:List ap.den)(h12:Int)(h13:List ap.den)(h14:Int)(h15:List aq.den)(h16 h17 h18:Int)(h19:Bool)(h20:List Int)(h21:List ap.den)(next:List ap.den→Int→List ap.den→Int→List aq.den→Int→Int→Int→Bool→List Int→List ap.den→Option R)(out:ax dj.xs→Option R):Option R:=bif decide (0≤h12)&&decide (h12<(↑h15.length:Int)) then bif decide (h14<(↑(List.length (h15.getD h12.toNat ([],[],())).2.1):Int)) then bif decide (0≤h12)&&decide (h12<(↑h15.length:Int)) then bif decide (0≤h14)&&decide (h14<(↑(List.length (h15.getD h12.toNat ([],[],())).2.1):Int)) then bif decide (h13.length+1≤4294967296) then next (h11) (h12) (h13++[Tre.mk (10,0,false,[],()) [Tre.mk (3,IntKind.i64.wrap (List.getD (h15.getD h12.toNat ([],[],())).2.1 h14.toNat (0,0,0,0,0,())).1,false,[],()) [],Tre.mk (2,IntKind.i64.wrap (List.getD (h15.getD h12.toNat ([],[],())).2.1 h14.toNat (0,0,0,0,0,())).2.1,false,[],()) [],Tre.mk (4,(List.getD (h15.getD h12.toNat ([],[],())).2.1 h14.toNat (0,0,0,0,0,())).2.2.1,false,[],()) [],Tre.mk (4,(List.getD (h15.getD h12.toNat ([],[],())).2.1 h14.toNat (0,0,0,0,0,())).2.2.2.1,false,[],()) [],Tre.mk (4,(List.getD (h15.getD h12.toNat ([],[],())).2.1 h14.toNat (0,0,0,0,0,())).2.2.2.2.1,false,[],()) []]]) (IntKind.i64.wrap (h14+1)) (h15) (h16) (h17) (h18) (h19) (h20) (h21) else none else none else none else out (.ret ((),((h11,(h12,(h13,()))),((h15,(h16,())),((h17,(h18,(h19,(h20,(h21,()))))),()))))) else none
def j7 (n:Nat)(h11:List ap.den)(h12:Int)(h13:List ap.den)(h14:Int)(h15:List aq.den)(h16 h17 h18:Int)(h19:Bool)(h20:List Int)(h21:List ap.den):Option (ax dj.xs):=gk tt ru dr jf 0 Tryz.f119 (vQ Tryz.f119 (cI Tryz.f119 0) 0) n (dj.st.mk' ((h11,(h12,(h13,(h14,())))),((h15,(h16,())),((h17,(h18,(h19,(h20,(h21,()))))),())))) (bI dj.xs)
theorem F5 (n:Nat)(h11:List ap.den)(h12:Int)(h13:List ap.den)(h14:Int)(h15:List aq.den)(h16 h17 h18:Int)(h19:Bool)(h20:List Int)(h21:List ap.den):j7 (n+1) h11 h12 h13 h14 h15 h16 h17 h18 h19 h20 h21=pO h11 h12 h13 h14 h15 h16 h17 h18 h19 h20 h21 (j7 n) some:=by kernel_rfl
def pN {R:Type}(h2:List ap.den)(h3:Int)(h4:List aq.den)(h5 h6 h7:Int)(h8:Bool)(h9:List Int)(h10:List ap.den)(next:List ap.den→Int→List aq.den→Int→Int→Int→Bool→List Int→List ap.den→Option R)(out:ax di.xs→Option R):Option R:=bif decide (h3<(↑h4.length:Int)) then (lC ((h2,(h3,([],(0,())))),((h4,(h5,())),((h6,(h7,(h8,(h9,(h10,()))))),())))).run fun y=>match y with | .ret ((),((x43,x44,x45,()),(x46,x47,()),(x48,x49,x50,x51,x52,()),()))=>(bif decide (0≤x44)&&decide (x44<(↑x46.length:Int)) then bif decide (x43.length+1≤4294967296) then next (x43++[Tre.mk (10,0,false,[],()) [Tre.mk (5,0,false,(x46.getD x44.toNat ([],[],())).1,()) [],Tre.mk (9,0,false,[],()) x45]]) (IntKind.i64.wrap (x44+1)) (x46) (x47) (x48) (x49) (x50) (x51) (x52) else none else none) else out (.ret ((),((h2,()),((h4,(h5,())),((h6,(h7,(h8,(h9,(h10,()))))),())))))
def j6 (n:Nat)(h2:List ap.den)(h3:Int)(h4:List aq.den)(h5 h6 h7:Int)(h8:Bool)(h9:List Int)(h10:List ap.den):Option (ax di.xs):=gk tt ru dr jf 0 Tryz.f119 (cI Tryz.f119 0) n (di.st.mk' ((h2,(h3,())),((h4,(h5,())),((h6,(h7,(h8,(h9,(h10,()))))),())))) (bI di.xs)
theorem F4 (n:Nat)(h2:List ap.den)(h3:Int)(h4:List aq.den)(h5 h6 h7:Int)(h8:Bool)(h9:List Int)(h10:List ap.den):j6 (n+1) h2 h3 h4 h5 h6 h7 h8 h9 h10=pN h2 h3 h4 h5 h6 h7 h8 h9 h10 (j6 n) some:=by kernel_rfl
theorem zI {ts:List aq.den}(hw:∀t∈ts,aq.wf t)(hl:ts.length≤maxLen){i:Nat}(hi:i<ts.length)(hp:(ts[i]).2.1.length≤4294967296)(acc:List Nd)(th a' b':Int)(z':Bool)(x':List Int)(l':List Nd):∀(k j:Nat) (o:List Nd),(ts[i]).2.1.length<j+k→j≤(ts[i]).2.1.length→o.length≤j→
  j7 k acc i o j ts th a' b' z' x' l'=some (.ret ((),((acc,((i:Int),(o++((ts[i]).2.1.drop j).map ei,()))),((ts,(th,())),((a',(b',(z',(x',(l',()))))),()))))):=by
 intro k
 induction k with
 |zero=>intro j o h1 h2;omega
 |succ k ih=>
  intro j o h1 h2 h3
  rw[F5]
  unfold pO
  refine (aa (by simp;omega) _ _).trans ?_
  have hti:=hw _ (List.getElem_mem hi)
  simp only[Int.toNat_natCast,aH hi]
  generalize ts[i]=t at hp h1 h2 ih hti ⊢
  by_cases hj:j<t.2.1.length
  ·refine (aa (decide_eq_true (show (j:Int)<(t.2.1.length:Int) by omega)) _ _).trans ?_
   refine (aa (by simp;omega) _ _).trans ?_
   refine (aa (by simp;omega) _ _).trans ?_
   refine (aa (decide_eq_true (show o.length+1≤4294967296 by omega)) _ _).trans ?_
   have hpw:=hti.2.1.2 _ (List.getElem_mem hj)
   have ih':=ih (j+1) (o++[ei t.2.1[j]]) (by omega) (by omega) (by simp;omega)
   have hd:t.2.1.drop j=t.2.1[j]::t.2.1.drop (j+1):=List.drop_eq_getElem_cons hj
   rw[hd,az (n:=(j:Int)+1) (by omega) (by omega)]
   have hgp:List.getD t.2.1 ((j:Int)).toNat bn.zero=t.2.1[j]:=by simp only[Int.toNat_natCast];exact aH hj
   refine Eq.trans ?_ (ih'.trans ?_)
   ·refine congrArg (fun x=>j7 k acc i (o++[x]) _ ts th a' b' z' x' l') ?_
    show bH [aG 3 (IntKind.i64.wrap (List.getD t.2.1 ((j:Int)).toNat bn.zero).1),aG 2 (IntKind.i64.wrap (List.getD t.2.1 ((j:Int)).toNat bn.zero).2.1),aG 4 (List.getD t.2.1 ((j:Int)).toNat bn.zero).2.2.1,aG 4 (List.getD t.2.1 ((j:Int)).toNat bn.zero).2.2.2.1,aG 4 (List.getD t.2.1 ((j:Int)).toNat bn.zero).2.2.2.2.1]=_
    rw[hgp]
    exact LT hpw
   ·simp only[List.map_cons,List.append_assoc,List.singleton_append]
  ·refine (ab (decide_eq_false (show ¬(j:Int)<(t.2.1.length:Int) by omega)) _ _).trans ?_
   rw[List.drop_of_length_le (by omega)]
   simp
theorem zH {ts:List aq.den}(hw:∀t∈ts,aq.wf t)(hl:ts.length≤maxLen)(hs:cv ts=true)(th a' b':Int)(z':Bool)(x':List Int)(l':List Nd):∀(k j:Nat) (o:List Nd),ts.length<j+k→j≤ts.length→o.length≤j→
  j6 k o j ts th a' b' z' x' l'=some (.ret ((),((o++(ts.drop j).map dl,()),((ts,(th,())),((a',(b',(z',(x',(l',()))))),()))))):=by
 intro k
 have hs1:=(Bool.and_eq_true _ _▸hs).1
 have hs2:=(Bool.and_eq_true _ _▸hs).2
 have hs1:ts.length≤4294967296:=of_decide_eq_true hs1
 induction k with
 |zero=>intro j o h1 h2;omega
 |succ k ih=>
  intro j o h1 h2 h3
  rw[F4]
  unfold pN
  by_cases hj:j<ts.length
  ·refine (aa (decide_eq_true (show (j:Int)<(ts.length:Int) by omega)) _ _).trans ?_
   have hgp:ts.getD ((j:Int)).toNat aq.zero=ts[j]:=by simp only[Int.toNat_natCast];exact aH hj
   have hpl:(ts[j]).2.1.length≤4294967296:=of_decide_eq_true (List.all_eq_true.1 hs2 _ (List.getElem_mem hj))
   have c8:((decide ((0:Int)≤(j:Int))&&decide ((j:Int)<(ts.length:Int)))&&((decide (([]:List Nd).length=0)&&decide ((0:Int)=0))&&decide ((ts.getD ((j:Int)).toNat aq.zero).2.1.length≤4294967296)))=true:=by
    rw[hgp];simp;omega
   refine (aa c8 _ _).trans ?_
   refine (aa (by simp;omega) _ _).trans ?_
   refine (aa (decide_eq_true (show o.length+1≤4294967296 by omega)) _ _).trans ?_
   rw[az (n:=(j:Int)+1) (by omega) (by omega)]
   have ih':=ih (j+1) (o++[dl ts[j]]) (by omega) (by omega) (by simp;omega)
   have hd:ts.drop j=ts[j]::ts.drop (j+1):=List.drop_eq_getElem_cons hj
   rw[hd]
   refine Eq.trans ?_ (ih'.trans ?_)
   ·refine congrArg (fun x=>j6 k (o++[x]) _ ts th a' b' z' x' l') ?_
    show (bH [gO (ts.getD ((j:Int)).toNat aq.zero).1,bj ((ts.getD ((j:Int)).toNat aq.zero).2.1.map ei)])=_
    rw[hgp];rfl
   ·simp only[List.map_cons,List.append_assoc,List.singleton_append]
  ·refine (ab (decide_eq_false (show ¬(j:Int)<(ts.length:Int) by omega)) _ _).trans ?_
   rw[List.drop_of_length_le (by omega)]
   simp
def sT (a0:List aq.den)(a1:Int):Option fI.Res:=(lB (([],(0,())),((a0,(a1,())),((0,(0,(false,([],([],()))))),())))).run fun y=>match y with | .ret ((),((x70,()),(x71,x72,()),(x73,x74,x75,x76,x77,()),()))=>(some (Out.ret ((Tre.mk (10,0,false,[],()) [Tre.mk (9,0,false,[],()) x70,Tre.mk (3,IntKind.i64.wrap x72,false,[],()) []],()),())))
theorem I2 (a0:List aq.den)(a1:Int):Io.run tt ru dr jf fI Tryz.f119 (((a0,a1,()),()),())=sT a0 a1:=by kernel_rfl
theorem z9:HcOk prog 119 (ah fI pY):=by
 refine aj (n:=400) hm (cs:=nf) (.cons kU (.cons kq (.cons n6 (.cons kc (.cons iK (.cons z6 .nil)))))) (lp:=jf) (fn:=Tryz.f119) (by kernel_rfl) (by kernel_rfl) (by kernel_rfl) fI (.step (h0:=aP di lB) (by kernel_rfl) (aw (n:=400) hm (cs:=nf) (.cons kU (.cons kq (.cons n6 (.cons kc (.cons iK (.cons z6 .nil)))))) (lp:=jf) (fn:=Tryz.f119) (.step (h0:=aP dj lC) (by kernel_rfl) (aw (n:=400) hm (cs:=nf) (.cons kU (.cons kq (.cons n6 (.cons kc (.cons iK (.cons z6 .nil)))))) (lp:=jf) (fn:=Tryz.f119) (.done (by kernel_rfl)) dj lC ?_) (.done (by kernel_rfl))) di lB ?_) (.done (by kernel_rfl))) pY ?_
 ·rintro ⟨⟨(acc:List Nd),(i:Int),(o:List Nd),(j:Int),⟨⟩⟩,⟨⟨(ts:List aq.den),(th:Int),⟨⟩⟩,⟨(a':Int),(b':Int),(z':Bool),(x':List Int),(l':List Nd),⟨⟩⟩,⟨⟩⟩⟩ y hw hy
  obtain ⟨hg,hy⟩:=Tr.guard hy
  simp only[Bool.and_eq_true,decide_eq_true_eq] at hg
  obtain ⟨⟨h1,h2⟩,⟨h3,h4⟩,h5⟩:=hg
  have h1:0≤i:=h1
  have h2:i<(ts.length:Int):=h2
  have h3:o=[]:=List.eq_nil_of_length_eq_zero h3
  have h4:j=0:=h4
  obtain ⟨i,rfl⟩:=dZ h1
  subst h3
  subst h4
  have hi:i<ts.length:=by omega
  have hgp:ts.getD ((i:Int)).toNat aq.zero=ts[i]:=by simp only[Int.toNat_natCast];exact aH hi
  have h5:(ts.getD ((i:Int)).toNat aq.zero).2.1.length≤4294967296:=h5
  rw[hgp] at h5
  have hwt:ts.length≤maxLen∧∀t∈ts,aq.wf t:=by have:=hw.2.1.1;exact this
  refine ⟨(ts[i]).2.1.length+1,(zI hwt.2 hwt.1 hi h5 acc th a' b' z' x' l' ((ts[i]).2.1.length+1) 0 [] (by omega) (by omega) (by simp)).trans ?_⟩
  rw[← hy,← hgp,List.drop_zero]
  rfl
 ·rintro ⟨⟨(o:List Nd),(j:Int),⟨⟩⟩,⟨⟨(ts:List aq.den),(th:Int),⟨⟩⟩,⟨(a':Int),(b':Int),(z':Bool),(x':List Int),(l':List Nd),⟨⟩⟩,⟨⟩⟩⟩ y hw hy
  obtain ⟨hg,hy⟩:=Tr.guard hy
  simp only[Bool.and_eq_true,decide_eq_true_eq] at hg
  obtain ⟨⟨h3,h4⟩,h5⟩:=hg
  have h3:o=[]:=List.eq_nil_of_length_eq_zero h3
  have h4:j=0:=h4
  have h5:cv ts=true:=h5
  subst h3
  subst h4
  have hwt:ts.length≤maxLen∧∀t∈ts,aq.wf t:=by have:=hw.2.1.1;exact this
  refine ⟨ts.length+1,(zH hwt.2 hwt.1 h5 th a' b' z' x' l' (ts.length+1) 0 [] (by omega) (by omega) (by simp)).trans ?_⟩
  rw[← hy,List.drop_zero]
  rfl
 ·rintro ⟨⟨⟨(ts:List aq.den),(th:Int),⟨⟩⟩,⟨⟩⟩,⟨⟩⟩ out hw ho
  obtain ⟨hg,ho⟩:=Tr.guard ho
  have hg:cv ts=true:=hg
  cases ho
  refine (I2 ts th).trans ?_
  unfold sT
  have c1:((decide (([]:List Nd).length=0)&&decide ((0:Int)=0))&&cv ts)=true:=by rw[hg];rfl
  refine (aa c1 _ _).trans ?_
  show _=some (Out.ret ((ba (ts,(th,())),()),()))
  unfold ba
  have h1:IntKind.i64.wrap th=th:=lF hw.1.1.2.1
  show some (Out.ret ((bH [bj (ts.map dl),aG 3 (IntKind.i64.wrap th)],()),()))=_
  rw[h1]
abbrev kT:Io:=⟨[du],[],[],[.dat jR true false],none⟩
def EA (d:kT.In):Tr kT.Res:=.ite (decide (aO d.1.1≤4294967296)) (.ret (.ret ((qE d.1.1,()),()))) .no
abbrev s4:List (Nat×Hc):=[(164,ah tl Ri),(163,ah i9 yh),(165,ah gZ sr)]
def zl:Hd:=bz s4
abbrev dM:Lo:=⟨⟨(be (.one (.ptr 2 0)::.one (.ptr 3 0)::.one (.hol (.sl 91 ap))::.one (.hol (.int IntKind.i64))::.one (.ptr 6 0)::.one (.hol (.sl 91 ap))::.one (.hol (.int IntKind.i64))::.any::ai (ai (ai (ai (dE [])))))),[none,none,some [.onl 212 aq 1026,.hol (.int IntKind.i32)],some [.onl 212 aq 1538,.hol (.int IntKind.i32)],none,none,some [.hol .str,.onl 214 bn 3076]]⟩,[(.exit 2,⟨(be (.one (.ptr 2 0)::.one (.ptr 3 0)::.one (.hol (.sl 91 ap))::.one (.hol (.int IntKind.i64))::.one (.ptr 6 0)::.any::ai (ai (ai (ai (dE (be []))))))),[none,none,some [.onl 212 aq 1026,.hol (.int IntKind.i32)],some [.onl 212 aq 1538,.hol (.int IntKind.i32)],none,none,some [.hol .str,.onl 214 bn 3076]]⟩)]⟩
abbrev eS:Lo:=⟨⟨(be (.one (.ptr 2 0)::.one (.ptr 3 0)::.one (.hol (.sl 91 ap))::.one (.hol (.int IntKind.i64))::ai (ai (ai (ai (dE (bJ []))))))),[none,none,some [.onl 212 aq 1026,.hol (.int IntKind.i32)],some [.onl 212 aq 1538,.hol (.int IntKind.i32)]]⟩,[(.exit 0,⟨(be (.one (.ptr 2 0)::.one (.ptr 3 0)::ai (ai (ai (ai (dE (bJ (be [])))))))),[none,none,some [.onl 212 aq 1026,.hol (.int IntKind.i32)],some [.onl 212 aq 1538,.hol (.int IntKind.i32)]]⟩)]⟩
def m5 (d:dM.st.den):Tr (ax dM.xs):=
 .ite ((decide (d.1.2.2.2.1=0)&&decide (d.2.2.2.1.2.1.length=0))&&decide (aD d.1.2.2.1≤4294967296))
  (.ret (.ret ((),((d.1.1,(d.1.2.1,())),(d.2.1,(d.2.2.1,((d.2.2.2.1.1,(d.1.2.2.1.map k6,())),()))))))) .no
def pZ (d:eS.st.den):Tr (ax eS.xs):=
 .ite ((decide (d.1.2.1=0)&&decide (d.2.2.1.1.length=0))&&decide (aD d.1.1≤4294967296))
  (.ret (.ret ((),((),(d.2.1,((d.1.1.map k8,(d.2.2.1.2.1,())),())))))) .no
def mN:Lp:=bo [(5,aP eS pZ),(10,aP dM m5)]
def q7 {R:Type}(h7:List (Nd))(h8:Int)(h9:List (Nd))(h10:Int)(h11:List aq.den)(h12:Int)(h13:List aq.den)(h14:Int)(h15:List Int)(h16:List bn.den)(next:List (Nd)→Int→List (Nd)→Int→List aq.den→Int→List aq.den→Int→List Int→List bn.den→Option R)(out:ax dM.xs→Option R):Option R:=bif decide (h10<(↑h9.length:Int)) then bif decide (0≤h10)&&decide (h10<(↑h9.length:Int)) then bif decide (h16.length+1≤4294967296) then next (h7) (h8) (h9) (IntKind.i64.wrap (h10+1)) (h11) (h12) (h13) (h14) (h15) (h16++[(IntKind.i32.wrap (bf (Tre.mk (h9.getD h10.toNat (Tre.mk (0,0,false,[],()) [])).1 (h9.getD h10.toNat (Tre.mk (0,0,false,[],()) [])).2) 0).1.2.1,IntKind.i16.wrap (bf (Tre.mk (h9.getD h10.toNat (Tre.mk (0,0,false,[],()) [])).1 (h9.getD h10.toNat (Tre.mk (0,0,false,[],()) [])).2) 1).1.2.1,(bf (Tre.mk (h9.getD h10.toNat (Tre.mk (0,0,false,[],()) [])).1 (h9.getD h10.toNat (Tre.mk (0,0,false,[],()) [])).2) 2).1.2.1,(bf (Tre.mk (h9.getD h10.toNat (Tre.mk (0,0,false,[],()) [])).1 (h9.getD h10.toNat (Tre.mk (0,0,false,[],()) [])).2) 3).1.2.1,(bf (Tre.mk (h9.getD h10.toNat (Tre.mk (0,0,false,[],()) [])).1 (h9.getD h10.toNat (Tre.mk (0,0,false,[],()) [])).2) 4).1.2.1,())]) else none else none else out (.ret ((),((h7,(h8,())),((h11,(h12,())),((h13,(h14,())),((h15,(h16,())),()))))))
def pp (n:Nat)(h7:List (Nd))(h8:Int)(h9:List (Nd))(h10:Int)(h11:List aq.den)(h12:Int)(h13:List aq.den)(h14:Int)(h15:List Int)(h16:List bn.den):Option (ax dM.xs):=gk tt zl dr mN 0 Tryz.f78 (vQ Tryz.f78 (cI Tryz.f78 0) 0) n (dM.st.mk' ((h7,(h8,(h9,(h10,())))),((h11,(h12,())),((h13,(h14,())),((h15,(h16,())),()))))) (bI dM.xs)
theorem Ja (n:Nat)(h7:List (Nd))(h8:Int)(h9:List (Nd))(h10:Int)(h11:List aq.den)(h12:Int)(h13:List aq.den)(h14:Int)(h15:List Int)(h16:List bn.den):pp (n+1) h7 h8 h9 h10 h11 h12 h13 h14 h15 h16=q7 h7 h8 h9 h10 h11 h12 h13 h14 h15 h16 (pp n) some:=by kernel_rfl
def up {R:Type}(h1:List (Nd))(h2:Int)(h3:List aq.den)(h4:Int)(h5:List aq.den)(h6:Int)(next:List (Nd)→Int→List aq.den→Int→List aq.den→Int→Option R)(out:ax eS.xs→Option R):Option R:=bif decide (h2<(↑h1.length:Int)) then bif decide (0≤h2)&&decide (h2<(↑h1.length:Int)) then bif decide (0≤h2)&&decide (h2<(↑h1.length:Int)) then (m5 ((h1,(h2,((bf (Tre.mk (h1.getD h2.toNat (Tre.mk (0,0,false,[],()) [])).1 (h1.getD h2.toNat (Tre.mk (0,0,false,[],()) [])).2) 1).2,(0,())))),((h3,(h4,())),((h5,(h6,())),(((bf (Tre.mk (h1.getD h2.toNat (Tre.mk (0,0,false,[],()) [])).1 (h1.getD h2.toNat (Tre.mk (0,0,false,[],()) [])).2) 0).1.2.2.2.1,([],())),()))))).run fun y=>match y with | .ret ((),((x35,x36,()),(x37,x38,()),(x39,x40,()),(x41,x42,()),()))=>(bif decide (x39.length+1≤4294967296) then next (x35) (IntKind.i64.wrap (x36+1)) (x37) (x38) (x39++[(x41,x42,())]) (x40) else none) else none else none else out (.ret ((),((),((h3,(h4,())),((h5,(h6,())),())))))
def rO (n:Nat)(h1:List (Nd))(h2:Int)(h3:List aq.den)(h4:Int)(h5:List aq.den)(h6:Int):Option (ax eS.xs):=gk tt zl dr mN 0 Tryz.f78 (cI Tryz.f78 0) n (eS.st.mk' ((h1,(h2,())),((h3,(h4,())),((h5,(h6,())),())))) (bI eS.xs)
theorem LL (n:Nat)(h1:List (Nd))(h2:Int)(h3:List aq.den)(h4:Int)(h5:List aq.den)(h6:Int):rO (n+1) h1 h2 h3 h4 h5 h6=up h1 h2 h3 h4 h5 h6 (rO n) some:=by kernel_rfl
theorem By {ps:List Nd}(hb:aD ps≤4294967296)(c6:List Nd)(i:Int)(ts0:List aq.den)(th0:Int)(ts:List aq.den)(th:Int)(tn:List Int):∀(k j:Nat) (o:List bn.den),ps.length<j+k→j≤ps.length→o.length≤j→
  pp k c6 i ps j ts0 th0 ts th tn o=some (.ret ((),((c6,(i,())),((ts0,(th0,())),((ts,(th,())),((tn,(o++(ps.drop j).map k6,())),())))))):=by
 intro k
 have hlen:=fq ps
 induction k with
 |zero=>intro j o h1 h2;omega
 |succ k ih=>
  intro j o h1 h2 h3
  rw[Ja]
  unfold q7
  by_cases hj:j<ps.length
  ·refine (aa (decide_eq_true (show (j:Int)<(ps.length:Int) by omega)) _ _).trans ?_
   have hmem:=cR (List.getElem_mem hj)
   have ih':=ih (j+1) (o++[k6 ps[j]]) (by omega) (by omega) (by simp;omega)
   have hd:ps.drop j=ps[j]::ps.drop (j+1):=List.drop_eq_getElem_cons hj
   rw[hd,az (n:=(j:Int)+1) (by omega) (by omega)]
   simp only[Int.toNat_natCast,aH hj]
   generalize ps[j]=u at hmem ih' ⊢
   obtain ⟨ul,uk⟩:=u
   refine (aa (by simp;omega) _ _).trans ?_
   refine (aa (decide_eq_true (show o.length+1≤4294967296 by omega)) _ _).trans ?_
   refine ih'.trans ?_
   simp only[List.map_cons,List.append_assoc,List.singleton_append]
  ·refine (ab (decide_eq_false (show ¬(j:Int)<(ps.length:Int) by omega)) _ _).trans ?_
   rw[List.drop_of_length_le (by omega)]
   simp
theorem Fp {nds:List Nd}(hb:aD nds≤4294967296)(ts0:List aq.den)(th0 th:Int):∀(k j:Nat) (ts:List aq.den),nds.length<j+k→j≤nds.length→ts.length≤j→
  rO k nds j ts0 th0 ts th=some (.ret ((),((),((ts0,(th0,())),((ts++(nds.drop j).map k8,(th,())),()))))):=by
 intro k
 have hlen:=fq nds
 induction k with
 |zero=>intro j o h1 h2;omega
 |succ k ih=>
  intro j ts h1 h2 h3
  rw[LL]
  unfold up
  by_cases hj:j<nds.length
  ·refine (aa (decide_eq_true (show (j:Int)<(nds.length:Int) by omega)) _ _).trans ?_
   have hmem:=cR (List.getElem_mem hj)
   have ih':=ih (j+1) (ts++[k8 nds[j]]) (by omega) (by omega) (by simp;omega)
   have hd:nds.drop j=nds[j]::nds.drop (j+1):=List.drop_eq_getElem_cons hj
   rw[hd]
   simp only[Int.toNat_natCast,aH hj]
   generalize nds[j]=u at hmem ih' ⊢
   obtain ⟨ul,uk⟩:=u
   refine (aa (by simp;omega) _ _).trans ?_
   refine (aa (by simp;omega) _ _).trans ?_
   have hw1:=l6 (Tre.mk ul uk) 1
   have hw2:=fJ (bf (Tre.mk ul uk) 1)
   have cA:((decide ((0:Int)=0)&&decide (([]:List bn.den).length=0))&&decide (aD (bf (Tre.mk ul uk) 1).kids≤4294967296))=true:=by simp;omega
   refine (aa cA _ _).trans ?_
   refine (aa (decide_eq_true (show ts.length+1≤4294967296 by omega)) _ _).trans ?_
   rw[az (n:=(j:Int)+1) (by omega) (by omega)]
   refine ih'.trans ?_
   simp only[List.map_cons,List.append_assoc,List.singleton_append]
  ·refine (ab (decide_eq_false (show ¬(j:Int)<(nds.length:Int) by omega)) _ _).trans ?_
   rw[List.drop_of_length_le (by omega)]
   simp
def yS (a0:Nd):Option kT.Res:=(pZ (((bf (Tre.mk a0.1 a0.2) 0).2,(0,())),(([],(0,())),(([],(IntKind.i32.wrap (bf (Tre.mk a0.1 a0.2) 1).1.2.1,())),())))).run fun y=>match y with | .ret ((),((),(x53,x54,()),(x55,x56,()),()))=>(some (Out.ret (((x55,x56,()),()),())))
theorem Qa (a0:Nd):Io.run tt zl dr mN kT Tryz.f78 ((a0,()),())=yS a0:=by kernel_rfl
theorem Un:HcOk prog 78 (ah kT EA):=by
 refine aj (n:=400) hm (cs:=s4) (.cons qQ (.cons vq (.cons kp .nil))) (lp:=mN) (fn:=Tryz.f78) (by kernel_rfl) (by kernel_rfl) (by kernel_rfl) kT (.step (h0:=aP eS pZ) (by kernel_rfl) (aw (n:=400) hm (cs:=s4) (.cons qQ (.cons vq (.cons kp .nil))) (lp:=mN) (fn:=Tryz.f78) (.step (h0:=aP dM m5) (by kernel_rfl) (aw (n:=400) hm (cs:=s4) (.cons qQ (.cons vq (.cons kp .nil))) (lp:=mN) (fn:=Tryz.f78) (.done (by kernel_rfl)) dM m5 ?_) (.done (by kernel_rfl))) eS pZ ?_) (.done (by kernel_rfl))) EA ?_
 ·rintro ⟨⟨(c6:List Nd),(i:Int),(ps:List Nd),(j:Int),⟨⟩⟩,⟨⟨(ts0:List aq.den),(th0:Int),⟨⟩⟩,⟨(ts:List aq.den),(th:Int),⟨⟩⟩,⟨(tn:List Int),(o:List bn.den),⟨⟩⟩,⟨⟩⟩⟩ y hw hy
  obtain ⟨hg,hy⟩:=Tr.guard hy
  simp only[Bool.and_eq_true,decide_eq_true_eq] at hg
  obtain ⟨⟨h1,h2⟩,h3⟩:=hg
  have h1:j=0:=h1
  have h2:o=[]:=List.eq_nil_of_length_eq_zero h2
  have h3:aD ps≤4294967296:=h3
  subst h1
  subst h2
  refine ⟨ps.length+1,(By h3 c6 i ts0 th0 ts th tn (ps.length+1) 0 [] (by omega) (by omega) (by simp)).trans ?_⟩
  rw[← hy,List.drop_zero]
  rfl
 ·rintro ⟨⟨(nds:List Nd),(j:Int),⟨⟩⟩,⟨⟨(ts0:List aq.den),(th0:Int),⟨⟩⟩,⟨(ts:List aq.den),(th:Int),⟨⟩⟩,⟨⟩⟩⟩ y hw hy
  obtain ⟨hg,hy⟩:=Tr.guard hy
  simp only[Bool.and_eq_true,decide_eq_true_eq] at hg
  obtain ⟨⟨h1,h2⟩,h3⟩:=hg
  have h1:j=0:=h1
  have h2:ts=[]:=List.eq_nil_of_length_eq_zero h2
  have h3:aD nds≤4294967296:=h3
  subst h1
  subst h2
  refine ⟨nds.length+1,(Fp h3 ts0 th0 th (nds.length+1) 0 [] (by omega) (by omega) (by simp)).trans ?_⟩
  rw[← hy,List.drop_zero]
  rfl
 ·rintro ⟨⟨(n:Nd),⟨⟩⟩,⟨⟩⟩ out hw ho
  obtain ⟨hg,ho⟩:=Tr.guard ho
  have hg:aO n≤4294967296:=of_decide_eq_true hg
  cases ho
  refine (Qa n).trans ?_
  unfold yS
  obtain ⟨nl,nk⟩:=n
  have hw1:=l6 (Tre.mk nl nk) 0
  have hw2:=fJ (bf (Tre.mk nl nk) 0)
  have c1:((decide ((0:Int)=0)&&decide (([]:List aq.den).length=0))&&decide (aD (bf (Tre.mk nl nk) 0).kids≤4294967296))=true:=by simp;omega
  refine (aa c1 _ _).trans ?_
  show _=some (Out.ret ((qE (Tre.mk nl nk),()),()))
  unfold qE
  rfl
end
end Go.Proofs.YtomeplopmndbgaaGreat.Sym
namespace Go.Proofs.YtomeplopmndbgaaGreat.Sym
open Go
set_option linter.unusedSimpArgs false
set_option linter.unusedVariables false
noncomputable section
theorem rx {n:Int}(h:eE .i32 n):IntKind.i32.wrap n=n:=by
 simp only[eE,IntKind.min,IntKind.max,IntKind.signed,IntKind.bits] at h
 exact dD (by simp[eE,IntKind.min,IntKind.max,IntKind.signed,IntKind.bits];simpa using h)
theorem KE {n:Int}(h:eE .i16 n):IntKind.i16.wrap n=n:=by
 simp only[eE,IntKind.min,IntKind.max,IntKind.signed,IntKind.bits] at h
 exact dD (by simp[eE,IntKind.min,IntKind.max,IntKind.signed,IntKind.bits];simpa using h)
theorem jg {α:Type}{f:α→α}{l:List α}(h:∀x∈l,f x=x):l.map f=l:=by
 conv=>rhs;rw[← List.map_id l]
 exact List.map_congr_left h
theorem BF {p:bn.den}(h:bn.wf p):k6 (ei p)=p:=by
 obtain ⟨a,b,c,d,e,⟨⟩⟩:=p
 show (IntKind.i32.wrap a,(IntKind.i16.wrap b,_))=_
 rw[rx h.1,KE h.2.1];rfl
theorem BG {t:aq.den}(h:aq.wf t):k8 (dl t)=t:=by
 obtain ⟨n,l,⟨⟩⟩:=t
 show (n,((l.map ei).map k6,()))=_
 rw[List.map_map,jg (f:=k6 ∘ ei) (l:=l) fun p hp=>BF (h.2.1.2 p hp)]
theorem om {m:jR.den}(h:jR.wf m):qE (ba m)=m:=by
 obtain ⟨l,w,⟨⟩⟩:=m
 unfold qE ba
 show ((l.map dl).map k8,(IntKind.i32.wrap w,()))=_
 rw[rx (n:=w) h.2.1,List.map_map,jg (f:=k8 ∘ dl) (l:=l) fun t ht=>BG (h.1.2 t ht)]
open Classical in
def qX {α:Type}(a b:α):Bool:=if a=b then true else false
theorem vz {α:Type}{a b:α}:qX a b=true↔a=b:=by unfold qX;split <;> simp_all
abbrev gN:Io:=⟨[.dat jR true false],[],[],[.dat jR true false],none⟩
def uF (d:gN.In):Tr gN.Res:=.ite (cv d.1.1.1&&decide (aO (ba d.1.1)≤4294967296)) (.ret (.ret ((d.1.1,()),()))) .no
abbrev zb:List (Nat×Hc):=[(119,ah fI pY),(83,ah eJ Er),(78,ah kT EA)]
def KB:Hd:=bz zb
def zS:Lp:=bo []
def sU (a0:List aq.den)(a1:Int):Option gN.Res:=bif cv a0 then bif decide (aO (Tre.mk (ba (a0,a1,())).1 (ba (a0,a1,())).2)≤4294967296) then bif decide (aO (Tre.mk (ba (a0,a1,())).1 (ba (a0,a1,())).2)≤4294967296) then some (Out.ret ((qE (Tre.mk (ba (a0,a1,())).1 (ba (a0,a1,())).2),()),())) else none else none else none
theorem I3 (a0:List aq.den)(a1:Int):Io.run tt KB dr zS gN Tryz.f55 (((a0,a1,()),()),())=sU a0 a1:=by kernel_rfl
theorem K4:HcOk prog 55 (ah gN uF):=by
 refine aj (n:=400) hm (cs:=zb) (.cons z9 (.cons FR (.cons Un .nil))) (lp:=zS) (fn:=Tryz.f55) (by kernel_rfl) (by kernel_rfl) (by kernel_rfl) gN (.done (by kernel_rfl)) uF ?_
 rintro ⟨⟨m,⟨⟩⟩,⟨⟩⟩ out hw ho
 obtain ⟨hg,ho⟩:=Tr.guard ho
 simp only[Bool.and_eq_true,decide_eq_true_eq] at hg
 obtain ⟨h1,h2⟩:=hg
 have h1:cv m.1=true:=h1
 have h2:aO (ba m)≤4294967296:=h2
 cases ho
 have hf:=om (m:=m) hw.1.1
 obtain ⟨ts,th,⟨⟩⟩:=m
 refine (I3 ts th).trans ?_
 unfold sU
 generalize ba (ts,(th,()))=n at h2 hf ⊢
 obtain ⟨nl,nk⟩:=n
 refine (aa h1 _ _).trans ?_
 refine (aa (decide_eq_true h2) _ _).trans ?_
 refine (aa (decide_eq_true h2) _ _).trans ?_
 exact congrArg (fun x=>some (Out.ret ((x,()),()))) hf
@[irreducible] noncomputable def gi (v:Int)(m:jR.den):List Int×Int:=jO 0 true v (ba m)
def aU (a b:List Int×Int):List Int×Int:=if a.2≠0 then ([],a.2) else if b.2≠0 then ([],b.2) else (a.1++b.1,0)
mutual
def t9 (f:Fd)(v:Int):Nd→List Int×Int
 |.mk a ks=>if f.lab.2.1=9 then (if 16<ks.length then ([],9) else aU (aM ks.length 4,0) (iN (f.kids.headD f) v ks)) else if f.lab.2.1=10 then bZ v f.kids ks else bX f v (.mk a ks)
termination_by n=>(SizeOf.sizeOf n,0)
def iN (f:Fd)(v:Int):List Nd→List Int×Int
 |[]=>([],0)
 |k::ks=>aU (t9 f v k) (iN f v ks)
termination_by l=>(SizeOf.sizeOf l,0)
def bZ (v:Int):List Fd→List Nd→List Int×Int
 |f::fs,k::ks=>if gd f v=true then aU (t9 f v k) (bZ v fs ks) else bZ v fs ks
 |_,_=>([],0)
termination_by fs l=>(SizeOf.sizeOf l,0)
end
mutual
def fa (f:Fd):Nd→Prop
 |.mk a ks=>(f.lab.2.1=9→lg (f.kids.headD f) ks)∧(f.lab.2.1=10→ks.length=f.kids.length∧dz f.kids ks)
termination_by n=>(SizeOf.sizeOf n,0)
def lg (f:Fd):List Nd→Prop
 |[]=>True
 |k::ks=>fa f k∧lg f ks
termination_by l=>(SizeOf.sizeOf l,0)
def dz:List Fd→List Nd→Prop
 |f::fs,k::ks=>fa f k∧dz fs ks
 |_,_=>True
termination_by fs l=>(SizeOf.sizeOf l,0)
end
theorem cT (v:Int)(l:List Nd):bZ v [] l=([],0):=by rw[bZ];simp
theorem QJ (v:Int)(l:List Nd):cy v [] l=([],0):=by rw[cy];simp
theorem tP (f:Fd)(v:Int):∀ks:List Nd,(bS f v ks).1.length=ks.length
 |[]=>by rw[bS]
 |k::ks=>by rw[bS,List.length_cons,List.length_cons,tP f v ks]
theorem wI (f:Fd)(fs:List Fd)(v:Int):cP (f::fs) v=if gd f v=true then f::cP fs v else cP fs v:=by
 unfold cP;rw[List.filter_cons]
theorem AA (v:Int):∀(fs:List Fd) (ks:List Nd),ks.length=fs.length→(bu v fs ks).1.length=(cP fs v).length
 |[],ks,_=>by rw[qz];rfl
 |f::fs,[],h=>by simp at h
 |f::fs,k::ks,h=>by
  have ih:=AA v fs ks (by simpa using h)
  rw[bu,wI]
  split
  ·rw[List.length_cons,List.length_cons,ih]
  ·exact ih
theorem tZ (k:Int)(l:List Nd)(h:8<k):ge k (Tre.mk (k,(0,(false,(([]:List Int),())))) l)=true:=by
 unfold ge
 simp;omega
theorem Yi (v:Int):∀(N:Nat) (f:Fd) (n:Nd),aO n≤N→fa f n→bX f v (aX f v n).1=t9 f v n:=by
 intro N
 induction N with
 |zero=>intro f n h;have:=m0 n;omega
 |succ N ih=>
  rintro f ⟨a,ks⟩ h hw
  rw[cC] at h
  have hks:∀k∈ks,aO k≤N:=fun k hk=>by have:=cR hk;simp only at h;omega
  rw[fa] at hw
  rw[aX,t9]
  have hi:∀(f:Fd) (l:List Nd),(∀k∈l,aO k≤N)→lg f l→bD f v (bS f v l).1=iN f v l:=by
   intro f l
   induction l with
   |nil=>intro _ _;rw[bS,bD,iN]
   |cons k l ihl=>
    intro hk hw
    rw[lg] at hw
    rw[bS,bD,iN,ih f k (hk k (by simp)) hw.1,ihl (fun k' hk'=>hk k' (List.mem_cons_of_mem _ hk')) hw.2]
    rfl
  have hz:∀(l:List Nd) (fs:List Fd),(∀k∈l,aO k≤N)→l.length=fs.length→dz fs l→cy v (cP fs v) (bu v fs l).1=bZ v fs l:=by
   intro l
   induction l with
   |nil=>
    intro fs _ hl _
    cases fs with
    |nil=>rw[qz,cT];exact QJ _ _
    |cons f fs=>simp at hl
   |cons k l ihl=>
    intro fs hk hl hw
    cases fs with
    |nil=>simp at hl
    |cons f fs=>
     rw[dz] at hw
     have ih2:=ihl fs (fun k' hk'=>hk k' (List.mem_cons_of_mem _ hk')) (by simpa using hl) hw.2
     rw[bu,bZ,wI]
     by_cases hh:gd f v=true
     ·rw[if_pos hh,if_pos hh,if_pos hh,cy,ih f k (hk k (by simp)) hw.1,ih2]
      rfl
     ·rw[if_neg hh,if_neg hh,if_neg hh]
      exact ih2
  by_cases h9:f.lab.2.1=9
  ·rw[if_pos h9,if_pos h9,bX,h9,tZ 9 _ (by omega)]
   rw[if_neg (by decide),if_neg (by decide),if_pos rfl,tP,hi _ ks hks (hw.1 h9)]
   split
   ·rfl
   ·unfold aU;simp
  ·rw[if_neg h9,if_neg h9]
   by_cases h10:f.lab.2.1=10
   ·rw[if_pos h10,if_pos h10,bX,h10,tZ 10 _ (by omega)]
    rw[if_neg (by decide),if_neg (by decide),if_neg (by decide),if_pos rfl,bq,AA v _ _ (hw.2 h10).1,if_neg (by simp),hz ks _ hks (hw.2 h10).1 (hw.2 h10).2]
   ·rw[if_neg h10,if_neg h10]
theorem xN {k:Int}{r:Bool}{v:Int}{t:List Fd}{ks:List Nd}(ht:eD k r=(t,0))(hc:mU t=0)(hl:ks.length=t.length)(hw:dz t ks):
  jO k r v (bH ks)=if v<0∨3<v then ([],8) else if (bu v t ks).2=false then ([],7) else if (bZ v t ks).2≠0 then ([],(bZ v t ks).2) else if 130048<(bZ v t ks).1.length then ([],4) else ((bZ v t ks).1,0):=by
 have hd:fa (Tre.mk (([]:List Int),((10:Int),((0:Int),((0:Int),())))) t) (bH ks):=by
  rw[fa]
  exact ⟨fun h=>absurd (show (10:Int)=9 from h) (by decide),fun _=>⟨hl,hw⟩⟩
 have hcut:=Yi v _ _ _ (Nat.le_refl _) hd
 have ecut:aX (Tre.mk (([]:List Int),((10:Int),((0:Int),((0:Int),())))) t) v (bH ks)=(bH (bu v t ks).1,(bu v t ks).2):=by
  rw[aX];exact (if_neg (show ¬((10:Int)=9) by decide)).trans (if_pos rfl)
 have eW:t9 (Tre.mk (([]:List Int),((10:Int),((0:Int),((0:Int),())))) t) v (bH ks)=bZ v t ks:=by
  rw[t9];exact (if_neg (show ¬((10:Int)=9) by decide)).trans (if_pos rfl)
 have eV:∀l,bX (Tre.mk (([]:List Int),((10:Int),((0:Int),((0:Int),())))) t) v (bH l)=bq t v (bH l):=fun l=>by
  rw[bX]
  refine (if_neg ?_).trans ((if_neg (show ¬(10:Int)≤4 by decide)).trans ((if_neg (show ¬(10:Int)=9 by decide)).trans (if_pos rfl)))
  show ¬ ge 10 (bH l)=false
  rw[tZ 10 _ (by omega)];decide
 rw[eW,ecut,eV] at hcut
 unfold jO
 rw[ht]
 simp only
 rw[if_neg (by simp)]
 by_cases hv:v<0∨3<v
 ·rw[if_pos hv,if_pos hv]
 rw[if_neg hv,if_neg hv,ecut]
 by_cases h7:(bu v t ks).2=false
 ·rw[if_pos h7,if_pos h7]
 rw[if_neg h7,if_neg h7]
 unfold qW
 have hb:oJ t v=0:=by unfold oJ;rw[if_neg hv,hc]
 rw[hb,tZ 10 _ (by omega),if_neg (by simp),if_neg (by decide),hcut]
def Wri (r:List Int×Int)(f:aW→aW):Prop:=∀s:aW,s.2.2.length≤130048→
 (s.1≠0→(f s).1=s.1)∧(s.1=0→(f s).1=r.2)∧((f s).1=0→(((f s).2.1=false↔s.2.1=false∧s.2.2.length+r.1.length≤130048)∧((f s).2.1=false→(f s).2.2=s.2.2++r.1)))∧(f s).2.2.length≤130048
theorem Wri.seq {r1 r2:List Int×Int}{f g:aW→aW}(hf:Wri r1 f)(hg:Wri r2 g):Wri (aU r1 r2) fun s=>g (f s):=by
 intro s hs
 obtain ⟨f1,f2,f3,f4⟩:=hf s hs
 obtain ⟨g1,g2,g3,g4⟩:=hg (f s) f4
 unfold aU
 refine ⟨fun h=>?_,fun h=>?_,fun h=>?_,g4⟩
 ·have:=f1 h
  rw[g1 (by rw[this];exact h),this]
 ·have:=f2 h
  by_cases h1:r1.2=0
  ·rw[g2 (by rw[this];exact h1)]
   by_cases h2:r2.2=0
   ·simp[h1,h2]
   ·simp[h1,h2]
  ·rw[g1 (by rw[this];exact h1),this]
   simp[h1]
 ·by_cases h0:(f s).1=0
  ·have hs0:s.1=0:=by
    rcases Classical.em (s.1=0) with h' | h'
    ·exact h'
    ·rw[f1 h'] at h0;exact absurd h0 h'
   have h1:r1.2=0:=by rw[← f2 hs0];exact h0
   have h2:r2.2=0:=by rw[← g2 h0];exact h
   obtain ⟨a1,a2⟩:=f3 h0
   obtain ⟨b1,b2⟩:=g3 h
   simp only[h1,h2,ne_eq,not_true_eq_false,if_false,List.length_append]
   constructor
   ·constructor
    ·intro hx
     obtain ⟨c1,c2⟩:=b1.1 hx
     obtain ⟨c3,c4⟩:=a1.1 c1
     rw[a2 c1,List.length_append] at c2
     exact ⟨c3,by omega⟩
    ·rintro ⟨c1,c2⟩
     have c3:=a1.2 ⟨c1,by omega⟩
     exact b1.2 ⟨c3,by rw[a2 c3,List.length_append];omega⟩
   ·intro hx
    have c1:=(b1.1 hx).1
    rw[b2 hx,a2 c1,List.append_assoc]
  ·rw[g1 h0] at h;exact absurd h h0
theorem Wri.fail {e:Int}(he:e≠0):Wri ([],e) (bv e):=by
 intro s hs
 unfold bv
 refine ⟨fun h=>by rw[if_neg h],fun h=>by rw[if_pos h],fun h=>?_,by split <;> exact hs⟩
 split at h
 ·exact absurd h he
 ·rename_i h';exact absurd h h'
theorem Wri.put (x:Int)(n:Nat):Wri (aM x n,0) (ac x n):=by
 intro s hs
 refine ⟨fun h=>by unfold ac;split <;> rfl,fun h=>by unfold ac;split <;> exact h,fun h=>?_,aA _ _ hs⟩
 unfold ac
 rw[bY]
 split
 ·constructor
  ·constructor
   ·intro h';cases h'
   ·rintro ⟨_,h'⟩;omega
  ·intro h';cases h'
 ·constructor
  ·constructor
   ·intro h';exact ⟨h',by omega⟩
   ·rintro ⟨h',_⟩;exact h'
  ·intro _;rfl
theorem Wri.raw (p:List Int):Wri (p,0) (jk p):=by
 intro s hs
 refine ⟨fun h=>by unfold jk;split <;> rfl,fun h=>by unfold jk;split <;> exact h,fun h=>?_,vE _ hs⟩
 have hp:(p,(0:Int)).1.length=p.length:=rfl
 rw[hp]
 unfold jk
 split
 ·constructor
  ·constructor
   ·intro h';cases h'
   ·rintro ⟨_,h'⟩;omega
  ·intro h';cases h'
 ·constructor
  ·constructor
   ·intro h';exact ⟨h',by omega⟩
   ·rintro ⟨h',_⟩;exact h'
  ·intro _;rfl
theorem Wri.ofEq {r r':List Int×Int}{f:aW→aW}(h:Wri r f)(e:r=r'):Wri r' f:=e▸h
theorem Wri.nop:Wri ([],0) fun s=>s:=by
 intro s hs
 exact ⟨fun _=>rfl,fun h=>h,fun _=>⟨⟨fun h=>⟨h,by simpa using hs⟩,fun h=>h.1⟩,fun _=>by simp⟩,hs⟩
def pI (t:List Int):List Int×Int:=if (ca t).2=false then ([],6) else if 255<t.length then ([],4) else (aM t.length 2++t,0)
theorem Wri.str (t:List Int):Wri (pI t) (bR t):=by
 unfold pI
 by_cases h1:(ca t).2=false
 ·rw[if_pos h1]
  have:bR t=bv 6:=funext fun s=>by unfold bR;rw[if_pos h1]
  rw[this];exact Wri.fail (by decide)
 ·rw[if_neg h1]
  by_cases h2:255<t.length
  ·rw[if_pos h2]
   have:bR t=bv 4:=funext fun s=>by unfold bR;rw[if_neg h1,if_pos (by omega)]
   rw[this];exact Wri.fail (by decide)
  ·rw[if_neg h2]
   have:bR t=fun s=>jk t (ac t.length 2 s):=funext fun s=>by unfold bR;rw[if_neg h1,if_neg (by omega)]
   rw[this]
   exact ((Wri.put _ _).seq (Wri.raw _)).ofEq (by unfold aU;simp)
def Y3 (n:Bool×(List Int×Unit)):List Int×Int:=if n.1=true then (if n.2.1.length=0 then (aM (-1) 2,0) else ([],70)) else pI n.2.1
theorem Wri.name (n:Bool×(List Int×Unit)):Wri (Y3 n) (oh n):=by
 unfold Y3
 by_cases h1:n.1=true
 ·rw[if_pos h1]
  by_cases h2:n.2.1=[]
  ·rw[if_pos (by rw[h2];rfl)]
   have:oh n=ac (-1) 2:=funext fun s=>by unfold oh;rw[if_neg (fun h=>h.2 h2),if_pos h1]
   rw[this];exact Wri.put _ _
  ·rw[if_neg (fun h=>h2 (List.eq_nil_of_length_eq_zero h))]
   have:oh n=bv 70:=funext fun s=>by unfold oh;rw[if_pos ⟨h1,h2⟩]
   rw[this];exact Wri.fail (by decide)
 ·rw[if_neg h1]
  have:oh n=bR n.2.1:=funext fun s=>by unfold oh;rw[if_neg (fun h=>h1 h.1),if_neg h1]
  rw[this];exact Wri.str _
def Az (n:Bool×(List Int×Unit)):List Int×Int:=if n.1=true then (if n.2.1.length=0 then (aM (-1) 4,0) else ([],70)) else (aM n.2.1.length 4++n.2.1,0)
theorem Wri.blob (n:Bool×(List Int×Unit))(hn:n.2.1.length≤2147483647):Wri (Az n) (bV n):=by
 unfold Az
 by_cases h1:n.1=true
 ·rw[if_pos h1]
  by_cases h2:n.2.1.length=0
  ·rw[if_pos h2]
   have:bV n=ac (-1) 4:=funext fun s=>by unfold bV;rw[if_neg (fun h=>by omega),if_pos h1]
   rw[this];exact Wri.put _ _
  ·rw[if_neg h2]
   have:bV n=bv 70:=funext fun s=>by unfold bV;rw[if_pos ⟨h1,by omega⟩]
   rw[this];exact Wri.fail (by decide)
 ·rw[if_neg h1]
  have hwr:IntKind.i32.wrap (n.2.1.length:Int)=n.2.1.length:=dD (by simp[eE,IntKind.min,IntKind.max,IntKind.signed,IntKind.bits];omega)
  have:bV n=fun s=>jk n.2.1 (ac n.2.1.length 4 s):=funext fun s=>by unfold bV;rw[if_neg (fun h=>h1 h.1),if_neg h1,hwr]
  rw[this]
  exact ((Wri.put _ _).seq (Wri.raw _)).ofEq (by unfold aU;simp)
def qU {α:Type}(one:α→List Int×Int):List α→List Int×Int
 |[]=>([],0)
 |x::xs=>aU (one x) (qU one xs)
theorem Wri.fold {α:Type}{one:α→List Int×Int}{f:α→aW→aW}:∀{xs:List α},(∀x∈xs,Wri (one x) (f x))→Wri (qU one xs) fun s=>xs.foldl (fun s x=>f x s) s
 |[],_=>Wri.nop
 |x::xs,h=>(h x (by simp)).seq (Wri.fold fun y hy=>h y (List.mem_cons_of_mem _ hy))
def eY {α:Type}(one:α→List Int×Int)(xs:List α):List Int×Int:=if 16<xs.length then ([],9) else aU (aM xs.length 4,0) (qU one xs)
theorem Wri.items {α:Type}{one:α→List Int×Int}{f:α→aW→aW}{xs:List α}(h:∀x∈xs,Wri (one x) (f x)):Wri (eY one xs) (cB f xs):=by
 unfold eY
 by_cases h1:16<xs.length
 ·rw[if_pos h1]
  have:cB f xs=bv 9:=funext fun s=>by unfold cB;rw[if_pos (by omega)]
  rw[this];exact Wri.fail (by decide)
 ·rw[if_neg h1]
  have:cB f xs=fun s=>xs.foldl (fun s x=>f x s) (ac xs.length 4 s):=funext fun s=>by unfold cB;rw[if_neg (by omega)]
  rw[this]
  exact (Wri.put _ _).seq (Wri.fold h)
theorem Wri.hasE (v lo hi x:Int)(n:Nat):Wri (if lo≤v∧v≤hi then (aM x n,0) else ([],0)) (cb v lo hi x n):=by
 by_cases h:lo≤v∧v≤hi
 ·rw[if_pos h]
  have:cb v lo hi x n=ac x n:=funext fun s=>by unfold cb;rw[if_pos h]
  rw[this];exact Wri.put _ _
 ·rw[if_neg h]
  have:cb v lo hi x n=fun s=>s:=funext fun s=>by unfold cb;rw[if_neg h]
  rw[this];exact Wri.nop
theorem Wri.done {r:List Int×Int}{f:aW→aW}(h:Wri r f)(e:Int):(bP (f (e,(false,[]))),bw (f (e,(false,[]))))=if e≠0 then ([],e) else if r.2≠0 then ([],r.2) else if 130048<r.1.length then ([],4) else (r.1,0):=by
 obtain ⟨h1,h2,h3,_⟩:=h (e,(false,[])) (by simp)
 by_cases he:e=0
 ·subst he
  have h2:=h2 rfl
  by_cases hr:r.2=0
  ·have h0:(f (0,(false,[]))).1=0:=by rw[h2];exact hr
   obtain ⟨h4,h5⟩:=h3 h0
   have h4:(f (0,(false,[]))).2.1=false↔r.1.length≤130048:=
    ⟨fun hx=>by have:=(h4.1 hx).2;simpa using this,fun hx=>h4.2 ⟨rfl,by simpa using hx⟩⟩
   by_cases hl:130048<r.1.length
   ·have hf:(f (0,(false,[]))).2.1=true:=by
     cases hx:(f (0,(false,[]))).2.1 with
     |true=>rfl
     |false=>have:=h4.1 hx;omega
    simp[bP,bw,h0,hf,hr,hl]
   ·have hf:=h4.2 (by omega)
    have h6:=h5 hf
    simp[bP,bw,h0,hf,hr,hl,h6]
  ·have h0:¬(f (0,(false,[]))).1=0:=by rw[h2];exact hr
   simp[bP,bw,h2,hr]
 ·have h1:=h1 he
  simp[bP,bw,h1,he]
theorem QB {n:Int}(h:eE .i8 n):fu n 1=true:=by
 simp only[eE,IntKind.min,IntKind.max,IntKind.signed,IntKind.bits] at h
 simp at h
 unfold fu
 rw[if_neg (by decide),if_pos]
 simp;omega
theorem r4 {n:Int}(h:eE .i16 n):fu n 2=true:=by
 simp only[eE,IntKind.min,IntKind.max,IntKind.signed,IntKind.bits] at h
 simp at h
 unfold fu
 rw[if_neg (by decide),if_pos]
 simp;omega
theorem dy {n:Int}(h:eE .i32 n):fu n 4=true:=by
 simp only[eE,IntKind.min,IntKind.max,IntKind.signed,IntKind.bits] at h
 simp at h
 unfold fu
 rw[if_neg (by decide),if_pos]
 simp;omega
theorem d9 (n:Int):fu n 8=true:=by unfold fu;rw[if_pos (by decide)]
theorem AX {nm:List Int}{k lo hi:Int}{e:List Fd}{v:Int}{n:Nd}(h9:k≠9)(h10:k≠10):t9 (cE nm k lo hi e) v n=bX (cE nm k lo hi e) v n:=by
 obtain ⟨a,ks⟩:=n
 rw[t9]
 exact (if_neg h9).trans (if_neg h10)
theorem aS {nm:List Int}{k lo hi:Int}{e:List Fd}{v:Int}{n:Nd}(h9:k≠9)(h10:k≠10):(aX (cE nm k lo hi e) v n).2=true:=by
 obtain ⟨a,ks⟩:=n
 rw[aX]
 exact congrArg Prod.snd ((if_neg h9).trans (if_neg h10))
theorem aL {nm:List Int}{k lo hi:Int}{e:List Fd}{n:Nd}(h9:k≠9)(h10:k≠10):fa (cE nm k lo hi e) n:=by
 obtain ⟨a,ks⟩:=n
 rw[fa]
 exact ⟨fun h=>absurd h h9,fun h=>absurd h h10⟩
theorem VE {k n:Int}(h:k<5):ge k (aG k n)=true:=by
 unfold ge
 simp;omega
theorem b8 {nm:List Int}{k lo hi n w:Int}{e:List Fd}{v:Int}(hk:k≤4)(hw:bm k=w)(hf:fu n w=true):t9 (cE nm k lo hi e) v (aG k n)=(aM n w.toNat,0):=by
 rw[AX (by omega) (by omega),bX]
 refine (if_neg ?_).trans ((if_pos hk).trans ?_)
 ·show ¬ ge k (aG k n)=false
  rw[VE (by omega)];decide
 ·show (if fu n (bm k)=true then _ else _)=_
  rw[hw,if_pos hf]
theorem ua {nm:List Int}{lo hi:Int}{e:List Fd}{v:Int}(s:List Int):t9 (cE nm 5 lo hi e) v (gO s)=pI s:=by
 rw[AX (by decide) (by decide),bX]
 refine (if_neg ?_).trans ((if_neg (show ¬(5:Int)≤4 by decide)).trans ((if_neg (show ¬(5:Int)=9 by decide)).trans ((if_neg (show ¬(5:Int)=10 by decide)).trans ((if_neg (show ¬(false=true) by decide)).trans ?_))))
 ·show ¬ ge 5 (gO s)=false
  unfold ge;simp
 ·unfold pI
  by_cases h1:(ca s).2=false
  ·rw[if_pos h1];exact if_pos ⟨(show (5:Int)≤6 by decide),h1⟩
  ·rw[if_neg h1]
   refine (if_neg (fun h=>h1 h.2)).trans ?_
   by_cases h2:255<s.length
   ·rw[if_pos h2];exact if_pos ⟨(show (5:Int)≤6 by decide),h2⟩
   ·rw[if_neg h2];exact if_neg (fun h=>h2 h.2)
theorem L7 {nm:List Int}{lo hi:Int}{e:List Fd}{v:Int}(n:oA.den):t9 (cE nm 8 lo hi e) v (jE n)=Az n:=by
 obtain ⟨z,s,⟨⟩⟩:=n
 rw[AX (by decide) (by decide),bX]
 refine (if_neg ?_).trans ((if_neg (show ¬(8:Int)≤4 by decide)).trans ((if_neg (show ¬(8:Int)=9 by decide)).trans ((if_neg (show ¬(8:Int)=10 by decide)).trans ?_)))
 ·show ¬ ge 8 (jE (z,(s,())))=false
  unfold ge;simp
 ·unfold Az
  by_cases hz:z=true
  ·refine (if_pos hz).trans ?_
   rw[if_pos hz];rfl
  ·refine (if_neg hz).trans ?_
   rw[if_neg hz]
   exact (if_neg (fun h=>absurd (show (8:Int)≤6 from h.1) (by decide))).trans (if_neg (fun h=>absurd (show (8:Int)≤6 from h.1) (by decide)))
theorem iO {α:Type}{nm:List Int}{lo hi:Int}{g:Fd}{v:Int}(F:α→Nd)(l:List α):t9 (cE nm 9 lo hi [g]) v (bj (l.map F))=eY (fun x=>t9 g v (F x)) l:=by
 rw[t9]
 refine (if_pos rfl).trans ?_
 unfold eY
 have:∀l:List α,iN g v (l.map F)=qU (fun x=>t9 g v (F x)) l:=by
  intro l
  induction l with
  |nil=>rw[List.map_nil,iN];rfl
  |cons x l ih=>rw[List.map_cons,iN,ih];rfl
 rw[List.length_map]
 show (if 16<l.length then _ else aU _ (iN g v (l.map F)))=_
 rw[this]
theorem l7 {nm:List Int}{lo hi:Int}{fs:List Fd}{v:Int}(ks:List Nd):t9 (cE nm 10 lo hi fs) v (bH ks)=bZ v fs ks:=by
 rw[t9];exact (if_neg (show ¬((10:Int)=9) by decide)).trans (if_pos rfl)
theorem e9 {α:Type}{nm:List Int}{lo hi:Int}{g:Fd}{v:Int}(F:α→Nd)(l:List α):(aX (cE nm 9 lo hi [g]) v (bj (l.map F))).2=l.all fun x=>(aX g v (F x)).2:=by
 rw[aX]
 refine (congrArg Prod.snd (if_pos rfl)).trans ?_
 show (bS g v (l.map F)).2=_
 induction l with
 |nil=>rw[List.map_nil,bS];rfl
 |cons x l ih=>rw[List.map_cons,bS,List.all_cons,ih]
theorem ig {nm:List Int}{lo hi:Int}{fs:List Fd}{v:Int}(ks:List Nd):(aX (cE nm 10 lo hi fs) v (bH ks)).2=(bu v fs ks).2:=by
 rw[aX];exact congrArg Prod.snd ((if_neg (show ¬((10:Int)=9) by decide)).trans (if_pos rfl))
theorem dn {α:Type}{nm:List Int}{lo hi:Int}{g:Fd}(F:α→Nd)(l:List α)(h:∀x,fa g (F x)):fa (cE nm 9 lo hi [g]) (bj (l.map F)):=by
 rw[fa]
 refine ⟨fun _=>?_,fun h=>absurd (show (9:Int)=10 from h) (by decide)⟩
 show lg g (l.map F)
 induction l with
 |nil=>rw[List.map_nil,lg];trivial
 |cons x l ih=>rw[List.map_cons,lg];exact ⟨h x,ih⟩
theorem eH {nm:List Int}{lo hi:Int}{fs:List Fd}{ks:List Nd}(hl:ks.length=fs.length)(h:dz fs ks):fa (cE nm 10 lo hi fs) (bH ks):=by
 rw[fa]
 exact ⟨fun h=>absurd (show (10:Int)=9 from h) (by decide),fun _=>⟨hl,h⟩⟩
theorem cx:dz [] []:=by rw[dz];trivial;simp
theorem ay {f:Fd}{fs:List Fd}{k:Nd}{ks:List Nd}(h1:fa f k)(h2:dz fs ks):dz (f::fs) (k::ks):=by rw[dz];exact ⟨h1,h2⟩
theorem bE {f:Fd}{fs:List Fd}{k:Nd}{ks:List Nd}{v:Int}(h:gd f v=true):bZ v (f::fs) (k::ks)=aU (t9 f v k) (bZ v fs ks):=by rw[bZ,if_pos h]
theorem Jy {f:Fd}{fs:List Fd}{k:Nd}{ks:List Nd}{v:Int}(h:gd f v=false):bZ v (f::fs) (k::ks)=bZ v fs ks:=by rw[bZ,if_neg (by rw[h];decide)]
theorem bG {f:Fd}{fs:List Fd}{k:Nd}{ks:List Nd}{v:Int}(h:gd f v=true):(bu v (f::fs) (k::ks)).2=((aX f v k).2&&(bu v fs ks).2):=by rw[bu,if_pos h]
theorem Vn {f:Fd}{fs:List Fd}{k:Nd}{ks:List Nd}{v:Int}(h:gd f v=false):(bu v (f::fs) (k::ks)).2=(b9 k&&(bu v fs ks).2):=by rw[bu,if_neg (by rw[h];decide)]
theorem aK {nm:List Int}{k lo hi v:Int}{e:List Fd}(h1:lo≤v)(h2:v≤hi):gd (cE nm k lo hi e) v=true:=if_pos ⟨h1,h2⟩
theorem vD {nm:List Int}{k lo hi v:Int}{e:List Fd}(h:v<lo∨hi<v):gd (cE nm k lo hi e) v=false:=if_neg (by show ¬(lo≤v∧v≤hi);omega)
theorem AW {nm:List Int}{k lo hi:Int}{e fs:List Fd}{n:Nd}{ks:List Nd}{v:Int}:bZ v (cE nm k lo hi e::fs) (n::ks)=if lo≤v∧v≤hi then aU (t9 (cE nm k lo hi e) v n) (bZ v fs ks) else bZ v fs ks:=by
 by_cases h:lo≤v∧v≤hi
 ·rw[if_pos h,bE (aK h.1 h.2)]
 ·rw[if_neg h,Jy (vD (by omega))]
theorem dT {nm:List Int}{k lo hi:Int}{e fs:List Fd}{n:Nd}{ks:List Nd}{v:Int}:(bu v (cE nm k lo hi e::fs) (n::ks)).2=((if lo≤v∧v≤hi then (aX (cE nm k lo hi e) v n).2 else b9 n)&&(bu v fs ks).2):=by
 by_cases h:lo≤v∧v≤hi
 ·rw[if_pos h,bG (aK h.1 h.2)]
 ·rw[if_neg h,Vn (vD (by omega))]
theorem fi {v:Int}:(bu v [] []).2=true:=by rw[qz]
theorem bU {k n:Int}:b9 (aG k n)=(n == 0):=by unfold b9;by_cases h:n=0 <;> simp[h]
def okF:Nat→Int→Fd→Bool
 |0,_,_=>false
 |n+1,d,.mk a ks=>!(decide (a.1.length=0))&&(!(decide (a.2.2.1<0))&&(!(decide (3<a.2.2.2.1))&&(!(decide (a.2.2.2.1<a.2.2.1))&&(!(decide (a.2.1<1))&&(!(decide (10<a.2.1)) &&
   (if a.2.1<9 then decide (ks.length=0) else
    (!(decide (ks.length<1))&&(!(decide (16<ks.length))&&(!(decide (8<d+1))&&(k5 ks 0 ks&&ks.all fun k=>okF n (d+1) k))))&&(ou ks 5 a.2.2.1 a.2.2.2.1&&(decide (a.2.1=10) || decide (ks.length=1)))))))))
theorem k7 {d:Int}:∀{l:List Fd},(∀k∈l,dq d k=true)→cp d l=true
 |[],_=>by rw[cp]
 |k::l,h=>by rw[cp,h k (by simp),k7 (l:=l) fun k' hk'=>h k' (List.mem_cons_of_mem _ hk')];rfl
theorem Dx:∀(n:Nat) (d:Int) (f:Fd),okF n d f=true→dq d f=true
 |0,_,_,h=>by cases h
 |n+1,d,.mk a ks,h=>by
  rw[okF] at h
  simp only[Bool.and_eq_true,Bool.not_eq_true',decide_eq_false_iff_not] at h
  obtain ⟨h1,h2,h3,h4,h5,h6,h7⟩:=h
  rw[dq,if_neg h1,if_neg h2,if_neg h3,if_neg h4,if_neg h5,if_neg h6]
  by_cases h9:a.2.1<9
  ·rw[if_pos h9] at h7 ⊢
   rw[if_pos (of_decide_eq_true h7)]
  ·rw[if_neg h9] at h7 ⊢
   simp only[Bool.and_eq_true,Bool.not_eq_true',decide_eq_false_iff_not,Bool.or_eq_true,decide_eq_true_eq,List.all_eq_true] at h7
   obtain ⟨⟨g1,g2,g3,g4,g5⟩,g6,g7⟩:=h7
   have hl:cq (d+1) ks=true:=by
    rw[cq,if_neg g1,if_neg g2,if_neg g3,g4,k7 fun k hk=>Dx n _ k (g5 k hk)];rfl
   rw[hl,if_neg (by decide),g6,if_neg (by decide)]
   split
   ·rfl
   ·rename_i h10
    rw[if_pos (g7.resolve_left h10)]
theorem tQ {t:List Fd}(h:(!(decide (t.length<1))&&(!(decide (16<t.length))&&(k5 t 0 t&&t.all fun k=>okF 9 1 k)))=true):mU t=0:=by
 simp only[Bool.and_eq_true,Bool.not_eq_true',decide_eq_false_iff_not,List.all_eq_true] at h
 obtain ⟨g1,g2,g4,g5⟩:=h
 unfold mU
 rw[if_pos]
 rw[cq,if_neg g1,if_neg g2,if_neg (by decide),g4,k7 fun k hk=>Dx 9 _ k (g5 k hk)];rfl
theorem Vp:mU t4=0:=tQ rfl
theorem Vq:mU t5=0:=tQ rfl
theorem Vs:mU t7=0:=tQ rfl
theorem Vr:mU t6=0:=tQ rfl
theorem mX (k:Int)(r:Bool)(v:Int)(n:Nd):(jO k r v n).1.length≤130048:=by
 unfold jO qW
 repeat' split
 all_goals first | (simp;done) | (dsimp only;omega)
theorem BH {e v lo hi:Int}{z:Bool}:ar v z lo hi (e,(false,([]:List Int)))=((if e≠0 then e else if z=false∧(v<lo∨hi<v) then 7 else 0),(false,[])):=by
 unfold ar bv
 by_cases h:z=false∧(v<lo∨hi<v)
 ·rw[if_pos h]
  by_cases he:e=0
  ·simp[he,h]
  ·simp[he]
 ·rw[if_neg h]
  by_cases he:e=0
  ·simp[he,h]
  ·simp[he]
def Zb (p:oM.den):List Int×Int:=aU (aM p.1 4,0) (aU (Az p.2.1) ([],0))
theorem Wri.part (p:oM.den)(h:aag p=true):Wri (Zb p) (Ye p):=(Wri.put _ _).seq ((Wri.blob _ (of_decide_eq_true h)).seq Wri.nop)
theorem dk {α:Type}{f g:α→List Int×Int}{l:List α}(h:∀x∈l,f x=g x):eY f l=eY g l:=by
 have:qU f l=qU g l:=by
  induction l with
  |nil=>rfl
  |cons x l ih=>
   rw[qU,qU,h x (by simp),ih fun y hy=>h y (List.mem_cons_of_mem _ hy)]
 unfold eY
 rw[this]
theorem Wri.opt {r:List Int×Int}{g:aW→aW}(v lo hi x:Int)(n:Nat)(hg:Wri r g):Wri (if lo≤v∧v≤hi then aU (aM x n,0) r else r) (fun s=>g (cb v lo hi x n s)):=by
 by_cases h:lo≤v∧v≤hi
 ·rw[if_pos h]
  have:(fun s=>g (cb v lo hi x n s))=fun s=>g (ac x n s):=funext fun s=>by unfold cb;rw[if_pos h]
  rw[this];exact (Wri.put x n).seq hg
 ·rw[if_neg h]
  have:(fun s=>g (cb v lo hi x n s))=g:=funext fun s=>by unfold cb;rw[if_neg h]
  rw[this];exact hg
def JM (v:Int)(p:bn.den):List Int×Int:=aU (aM p.1 4,0) (aU (aM p.2.1 2,0) (aU (aM p.2.2.1 8,0)
 (if 2≤v∧v≤3 then aU (aM p.2.2.2.1 8,0) (if 3≤v∧v≤3 then aU (aM p.2.2.2.2.1 8,0) ([],0) else ([],0)) else (if 3≤v∧v≤3 then aU (aM p.2.2.2.2.1 8,0) ([],0) else ([],0)))))
def D3 (v:Int)(t:aq.den):List Int×Int:=aU (pI t.1) (aU (eY (JM v) t.2.1) ([],0))
theorem Wri.donep (v:Int)(p:bn.den):Wri (JM v p) (gQ v p):=(Wri.put _ _).seq ((Wri.put _ _).seq ((Wri.put _ _).seq (Wri.opt v 2 3 p.2.2.2.1 8 (Wri.opt v 3 3 p.2.2.2.2.1 8 Wri.nop))))
theorem Wri.gone (v:Int)(t:aq.den):Wri (D3 v t) (tT v t):=(Wri.str _).seq ((Wri.items fun p _=>Wri.donep v p).seq Wri.nop)
abbrev Sy:Fd:=cE [112,97,114,116] 10 0 3 [cE [105,110,100,101,120] 3 0 3 [],cE [99,111,100,101] 2 0 3 [],cE [98,97,115,101] 4 0 3 [],cE [116,105,109,101] 4 2 3 [],cE [115,116,97,114,116] 4 3 3 []]
abbrev YM:Fd:=cE [116,111,112,105,99] 10 0 3 [cE [110,97,109,101] 5 0 3 [],cE [112,97,114,116,115] 9 0 3 [Sy]]
theorem VI {v:Int}{p:bn.den}(hv:0≤v∧v≤3)(h:bn.wf p):t9 Sy v (ei p)=JM v p:=by
 unfold ei JM
 rw[l7,bE (aK hv.1 hv.2),bE (aK hv.1 hv.2),bE (aK hv.1 hv.2),AW,AW,cT,b8 (by decide) (w:=4) rfl (dy h.1),b8 (by decide) (w:=2) rfl (r4 h.2.1),
  b8 (by decide) (w:=8) rfl (d9 _),b8 (by decide) (w:=8) rfl (d9 _),b8 (by decide) (w:=8) rfl (d9 _)]
 rfl
theorem VJ {v:Int}{t:aq.den}(hv:0≤v∧v≤3)(h:aq.wf t):t9 YM v (dl t)=D3 v t:=by
 unfold dl D3
 rw[l7,bE (aK hv.1 hv.2),bE (aK hv.1 hv.2),cT,ua,iO,dk fun p hp=>VI hv (h.2.1.2 p hp)]
def gP (v:Int)(p:bn.den):Bool:=(if 2≤v∧v≤3 then true else (p.2.2.2.1 == 0))&&(if 3≤v∧v≤3 then true else (p.2.2.2.2.1 == 0))
theorem LP {v:Int}{p:bn.den}(hv:0≤v∧v≤3):(aX Sy v (ei p)).2=gP v p:=by
 unfold ei gP
 rw[ig,bG (aK hv.1 hv.2),bG (aK hv.1 hv.2),bG (aK hv.1 hv.2),dT,dT,fi,aS (by decide) (by decide),aS (by decide) (by decide),aS (by decide) (by decide),aS (by decide) (by decide),aS (by decide) (by decide),bU,bU]
 simp
theorem LQ {v:Int}{t:aq.den}(hv:0≤v∧v≤3):(aX YM v (dl t)).2=t.2.1.all (gP v):=by
 unfold dl
 rw[ig,bG (aK hv.1 hv.2),bG (aK hv.1 hv.2),fi,aS (by decide) (by decide),e9]
 simp only[LP hv,Bool.true_and,Bool.and_true]
theorem Jz (m:jR.den):dz t4 [bj (m.1.map dl),aG 3 m.2.1]:=by
 unfold t4 cr
 refine ay ?_ (ay (aL (by decide) (by decide)) cx)
 refine dn _ _ fun t=>eH rfl (ay (aL (by decide) (by decide)) (ay ?_ cx))
 exact dn _ _ fun p=>eH rfl (ay (aL (by decide) (by decide)) (ay (aL (by decide) (by decide)) (ay (aL (by decide) (by decide)) (ay (aL (by decide) (by decide)) (ay (aL (by decide) (by decide)) cx)))))
def ip (e:Int)(ok:Bool):Int:=if e≠0 then e else if ok=false then 7 else 0
theorem cQ (e:Int)(a b:Bool):ip (ip e a) b=ip e (a&&b):=by
 unfold ip
 by_cases he:e=0
 ·subst he;cases a <;> cases b <;> simp
 ·simp[he]
theorem ij (e:Int):ip e true=e:=by unfold ip;by_cases h:e=0 <;> simp[h]
theorem cG {e v lo hi:Int}{z:Bool}:ar v z lo hi (e,(false,([]:List Int)))=(ip e (if lo≤v∧v≤hi then true else z),(false,[])):=by
 rw[BH]
 unfold ip
 by_cases he:e=0
 ·subst he
  by_cases h:lo≤v∧v≤hi
  ·rw[if_pos h]
   have:¬(z=false∧(v<lo∨hi<v)):=by rintro ⟨_,h'⟩;omega
   simp[this]
  ·rw[if_neg h]
   have:v<lo∨hi<v:=by omega
   simp[this]
 ·simp[he]
theorem LV {e v:Int}{p:bn.den}:oe v p (e,(false,([]:List Int)))=(ip e (gP v p),(false,[])):=by
 unfold oe gP
 rw[cG,cG,cQ]
theorem wK {v:Int}:∀{ps:List bn.den} {e:Int},eB v ps (e,(false,([]:List Int)))=(ip e (ps.all (gP v)),(false,[]))
 |[],e=>by rw[List.all_nil,ij];rfl
 |p::ps,e=>by
  show eB v ps (oe v p (e,(false,[])))=_
  rw[LV,wK,cQ,List.all_cons]
theorem AL {v:Int}:∀{ts:List aq.den} {e:Int},og v ts (e,(false,([]:List Int)))=(ip e (ts.all fun t=>t.2.1.all (gP v)),(false,[]))
 |[],e=>by rw[List.all_nil,ij];rfl
 |t::ts,e=>by
  show og v ts (eB v t.2.1 (e,(false,[])))=_
  rw[wK,AL,cQ,List.all_cons]
theorem Xu {v:Int}{m:jR.den}(hm:jR.wf m):(bP (mz v m),bw (mz v m))=gi v m:=by
 unfold gi ba
 rw[xN (t:=t4) rfl Vp rfl (Jz m)]
 unfold mz
 rw[cG,AL,cQ]
 have hitems:Wri (eY (D3 v) m.1) (ez v m.1):=Wri.items fun t _=>Wri.gone v t
 have hr:=hitems.seq (Wri.opt v 1 3 m.2.1 4 Wri.nop)
 refine (hr.done _).trans ?_
 unfold bc
 by_cases hv:v<0∨3<v
 ·rw[if_pos hv,if_pos hv]
  exact if_pos (by simp[ip])
 rw[if_neg hv,if_neg hv]
 have hv':0≤v∧v≤3:=by omega
 have hcz:(bu v t4 [bj (m.1.map dl),aG 3 m.2.1]).2=((m.1.all fun t=>t.2.1.all (gP v))&&(if 1≤v∧v≤3 then true else (m.2.1 == 0))):=by
  unfold t4 cr
  rw[bG (aK hv'.1 hv'.2),dT,fi,e9,aS (by decide) (by decide),bU,Bool.and_true]
  simp only[LQ hv']
 have hwz:bZ v t4 [bj (m.1.map dl),aG 3 m.2.1]=aU (eY (D3 v) m.1) (if 1≤v∧v≤3 then aU (aM m.2.1 4,0) ([],0) else ([],0)):=by
  unfold t4 cr
  rw[bE (aK hv'.1 hv'.2),AW,cT,b8 (by decide) (w:=4) rfl (dy hm.2.1),iO,dk fun t ht=>VJ hv' (hm.1.2 t ht)]
  rfl
 rw[hcz,hwz]
 rw[Bool.and_comm]
 by_cases hz:((m.1.all fun t=>t.2.1.all (gP v))&&(if 1≤v∧v≤3 then true else (m.2.1 == 0)))=false
 ·rw[hz]
  exact (if_pos (by decide)).trans (by rfl)
 ·have hz:((m.1.all fun t=>t.2.1.all (gP v))&&(if 1≤v∧v≤3 then true else (m.2.1 == 0)))=true:=by
   cases hx:((m.1.all fun t=>t.2.1.all (gP v))&&(if 1≤v∧v≤3 then true else (m.2.1 == 0))) with
   |true=>rfl
   |false=>exact absurd hx hz
  rw[hz]
  exact (if_neg (by decide)).trans (if_neg (by decide)).symm
theorem HcOk.weakW {f:Nat}{io:Io}{Fn Fn':io.In→Tr io.Res}(h:HcOk prog f (ah io Fn))(hF:∀d y,io.wf d→(Fn' d).val=some y→(Fn d).val=some y):HcOk prog f (ah io Fn'):=by
 intro R args id A K r F G ts cst w vals hid hc Rl hv
 unfold ah at hc
 cases h1:wD io.args args (List.replicate io.obs.length Option.none) with
 |none=>rw[h1] at hc;cases hc
 |some p=>
  obtain ⟨a,β1⟩:=p
  rw[h1] at hc
  simp only at hc
  cases h2:Pd A.ob io.obs 0 β1 with
  |none=>rw[h2] at hc;cases hc
  |some q=>
   obtain ⟨o,β⟩:=q
   rw[h2] at hc
   simp only at hc
   have hn:=fun y=>hF (a,o) y ⟨FA h1 hv,KS Rl.ob h2⟩
   refine h R args id A K r F G ts cst w vals hid ?_ Rl hv
   unfold ah
   rw[h1]
   simp only[h2]
   revert hc
   cases bK ((jF (dG 0) io.args args 0++mw A.ob β (nb io.obs.length 0) io.obs 0).map (·.2))&&(bK ((jF (dG 0) io.args args 0++mw A.ob β (nb io.obs.length 0) io.obs 0).map (·.1))&&io.ok) with
   |false=>intro hc;cases hc
   |true=>
    intro hc
    obtain ⟨out,ho,hk⟩:=Tr.run_val hc
    exact (Tr.val_run (hn out ho)).trans hk
abbrev xA:Io:=rD
def Rf (d:xA.In):Tr xA.Res:=.ret (.ret (((gi d.1.1 d.1.2.1).1,((gi d.1.1 d.1.2.1).2,())),()))
theorem Xj:HcOk prog 58 (ah xA Rf):=by
 refine HcOk.weakW aac ?_
 rintro ⟨⟨(v:Int),m,⟨⟩⟩,⟨⟩⟩ y hw hy
 rw[← hy]
 have h:=Xu (v:=v) (m:=m) hw.1.2.1
 show some (Out.ret ((bP (mz v m),(bw (mz v m),())),()))=some (Out.ret (((gi v m).1,((gi v m).2,())),()))
 rw[← h]
def Gb (m:jR.den):Bool:=cv m.1&&decide (8*aO (ba m)≤4294967296)
theorem Bp {k:IntKind}:∀b:List Int,(List.map (iU (.int k)) b).sum=b.length
 |[]=>rfl
 |c::b=>by
  have:=Bp (k:=k) b
  rw[List.map_cons,List.sum_cons,this,List.length_cons]
  show 1+_=_
  omega
theorem Zy (b:List Int):iU bs b=b.length+1:=by
 show (List.map (iU (.int .u8)) b).sum+1=_
 rw[Bp]
theorem oC {T:Ty}{F:T.den→Nd}{c:Nat}:∀{l:List T.den},(∀x∈l,aO (F x)≤c*iU T x)→aD (l.map F)≤c*(l.map (iU T)).sum
 |[],_=>by rw[List.map_nil,cw];exact Nat.zero_le _
 |x::l,h=>by
  have h1:=h x (by simp)
  have h2:=oC (l:=l) fun y hy=>h y (List.mem_cons_of_mem _ hy)
  rw[List.map_cons,aJ,List.map_cons,List.sum_cons,Nat.mul_add]
  omega
theorem qJ {T:Ty}{x:T.den}:∀{l:List T.den},x∈l→iU T x≤(l.map (iU T)).sum
 |y::l,h=>by
  rw[List.map_cons,List.sum_cons]
  rcases List.mem_cons.1 h with rfl | h
  ·omega
  ·have:=qJ (l:=l) h;omega
theorem oz {T:Ty}(hT:∀x:T.den,1≤iU T x):∀l:List T.den,l.length≤(l.map (iU T)).sum
 |[]=>Nat.zero_le _
 |x::l=>by
  have:=oz hT l
  have:=hT x
  rw[List.map_cons,List.sum_cons,List.length_cons];omega
theorem ct (k n:Int):aO (aG k n)=1:=by rw[cC];show 1+0+aD []=1;rw[cw]
theorem vF (x:List Int):aO (gO x)=1+x.length:=by rw[cC];show 1+x.length+aD []=_;rw[cw];rfl
theorem JC (x:oA.den):aO (jE x)=1+x.2.1.length:=by rw[cC];show 1+x.2.1.length+aD []=_;rw[cw];rfl
theorem iP (l:List Nd):aO (bH l)=1+aD l:=by rw[cC];show 1+0+aD l=_;omega
theorem jl (l:List Nd):aO (bj l)=1+aD l:=by rw[cC];show 1+0+aD l=_;omega
theorem HG (p:bn.den):iU bn p=5:=rfl
theorem zd (t:aq.den):iU aq t=(t.1.length+1)+(((t.2.1.map (iU bn)).sum+1)+0):=rfl
theorem Wi (m:jR.den):iU jR m=((m.1.map (iU aq)).sum+1)+(1+0):=rfl
theorem Yu (p:bn.den):aO (ei p)≤3*iU bn p:=by
 rw[HG]
 show aO (bH [aG 3 p.1,aG 2 p.2.1,aG 4 p.2.2.1,aG 4 p.2.2.2.1,aG 4 p.2.2.2.2.1])≤_
 rw[iP,aJ,aJ,aJ,aJ,aJ,cw,ct,ct,ct,ct,ct]
 omega
theorem Yv (t:aq.den):aO (dl t)≤3*iU aq t:=by
 have h:=oC (T:=bn) (F:=ei) (c:=3) (l:=t.2.1) fun p _=>Yu p
 rw[zd]
 show aO (bH [gO t.1,bj (t.2.1.map ei)])≤_
 rw[iP,aJ,aJ,cw,vF,jl]
 omega
theorem Uu {m:jR.den}(h:iU jR m≤1048576):Gb m=true:=by
 have h1:=oC (T:=aq) (F:=dl) (c:=3) (l:=m.1) fun t _=>Yv t
 have h2:=oz (T:=aq) (fun t=>by rw[zd];omega) m.1
 rw[Wi] at h
 have hp:∀t∈m.1,t.2.1.length≤1048576:=fun t htm=>by
  have a1:=qJ (T:=aq) htm
  rw[zd] at a1
  have a2:=oz (T:=bn) (fun p=>by rw[HG];omega) t.2.1
  omega
 unfold Gb
 simp only[Bool.and_eq_true,decide_eq_true_eq]
 refine ⟨?_,?_⟩
 ·unfold cv
  simp only[Bool.and_eq_true,decide_eq_true_eq]
  refine ⟨by omega,List.all_eq_true.2 fun t htm=>decide_eq_true ?_⟩
  have:=hp t htm
  omega
 ·unfold ba
  show 8*aO (bH [bj (m.1.map dl),aG 3 m.2.1])≤_
  rw[iP,aJ,aJ,cw,ct,jl]
  omega
abbrev d8:Sh:=.dat (.int .i8) false false
abbrev zv:Io:=⟨[.ptr 0 0,d8],[W4],[],[dI],none⟩
def Zn (d:zv.In):Tr zv.Res:=
 .ite (bB d.2.1.1 d.2.1.2.1) (.ret (.ret (((aE d.2.1.1 d.2.1.2.1 d.1.2.1 1).1,()),(((aE d.2.1.1 d.2.1.2.1 d.1.2.1 1).2,(d.2.1.2.1,())),())))) .no
abbrev YL:List (Nat×Hc):=[(116,ah fp mJ)]
def abs:Hd:=bz YL
def YY:Lp:=bo []
def MH (a0:Int)(a1:List Int)(a2:Int):Option zv.Res:=bif bB a1 a2&&(decide (0≤1)&&decide (1≤8)) then some (Out.ret (((aE a1 a2 (IntKind.u64.wrap a0) (Int.toNat 1)).1,()),((aE a1 a2 (IntKind.u64.wrap a0) (Int.toNat 1)).2,a2,()),())) else none
theorem aaq (a0:Int)(a1:List Int)(a2:Int):Io.run tt abs dr YY zv Tryz.f196 (((),a0,()),(a1,a2,()),())=MH a0 a1 a2:=by kernel_rfl
theorem abD:HcOk prog 196 (ah zv Zn):=by
 refine aj (n:=400) hm (cs:=YL) (.cons qy .nil) (lp:=YY) (fn:=Tryz.f196) (by kernel_rfl) (by kernel_rfl) (by kernel_rfl) zv (.done (by kernel_rfl)) Zn ?_
 rintro ⟨⟨⟨⟩,(v:Int),⟨⟩⟩,⟨⟨(b:List Int),(m:Int),⟨⟩⟩,⟨⟩⟩⟩ out hw ho
 obtain ⟨hg,ho⟩:=Tr.guard ho
 have hg:bB b m=true:=hg
 cases ho
 refine (aaq v b m).trans ?_
 unfold MH
 have e:aE b m (IntKind.u64.wrap v) 1=aE b m v 1:=by unfold aE;rw[tO v (by decide)]
 simp[hg,e]
abbrev zt:Io:=⟨[.ptr 0 0,d8],rS,[],[],none⟩
def Zj (d:zt.In):Tr zt.Res:=.ite (fB d.2) (.ret (.ret ((),ch d.2.1.2.1 (ac d.1.2.1 1 (fC d.2))))) .no
abbrev YJ:List (Nat×Hc):=[(196,ah zv Zn),(195,ah fg lz)]
def abq:Hd:=bz YJ
def YW:Lp:=bo []
def Wb (a0 a1 a2:Int)(a3:Bool)(a4:List Int)(a5:Int):Option zt.Res:=bif bB a4 a5 then bif decide (a5=130048)&&decide ((aE a4 a5 a0 1).2.length≤130048) then some (Out.ret ((),((),a1,a2,a3 || decide ((aE a4 a5 a0 1).1≠0),()),((aE a4 a5 a0 1).2,130048,()),())) else none else none
theorem aan (a0 a1 a2:Int)(a3:Bool)(a4:List Int)(a5:Int):Io.run tt abq dr YW zt Tryz.f106 (((),a0,()),((),a1,a2,a3,()),(a4,a5,()),())=Wb a0 a1 a2 a3 a4 a5:=by kernel_rfl
theorem T1:HcOk prog 106 (ah zt Zj):=by
 refine aj (n:=400) hm (cs:=YJ) (.cons abD (.cons mR .nil)) (lp:=YW) (fn:=Tryz.f106) (by kernel_rfl) (by kernel_rfl) (by kernel_rfl) zt (.done (by kernel_rfl)) Zj ?_
 rintro ⟨⟨⟨⟩,(x:Int),⟨⟩⟩,⟨⟨⟨⟩,(v:Int),(e:Int),(f:Bool),⟨⟩⟩,⟨(b:List Int),(m:Int),⟨⟩⟩,⟨⟩⟩⟩ out hw ho
 obtain ⟨hg,ho⟩:=Tr.guard ho
 obtain ⟨rfl,hb⟩:=bx hg
 cases ho
 refine (aan x v e f b 130048).trans ?_
 exact E1 1 x hb
abbrev rF:Io:=⟨[.ptr 0 0],[QZ],[],[d8,dI],none⟩
def Rh (d:rF.In):Tr rF.Res:=
 .ite (bi d.2.1.1 d.2.1.2.1) (.ret (.ret ((IntKind.i8.wrap (al d.2.1.1 d.2.1.2.1 1).1,((al d.2.1.1 d.2.1.2.1 1).2.2,())),((d.2.1.1,((al d.2.1.1 d.2.1.2.1 1).2.1,())),())))) .no
abbrev Si:List (Nat×Hc):=[(166,ah d7 kk)]
def ZY:Hd:=bz Si
def TA:Lp:=bo []
def GX (a0:List Int)(a1:Int):Option rF.Res:=bif bi a0 a1&&(decide (0≤1)&&decide (1≤8)) then some (Out.ret ((IntKind.i8.wrap (al a0 a1 (Int.toNat 1)).1,(al a0 a1 (Int.toNat 1)).2.2,()),(a0,(al a0 a1 (Int.toNat 1)).2.1,()),())) else none
theorem XU (a0:List Int)(a1:Int):Io.run tt ZY dr TA rF Tryz.f205 (((),()),(a0,a1,()),())=GX a0 a1:=by kernel_rfl
theorem aad:HcOk prog 205 (ah rF Rh):=by
 refine aj (n:=400) hm (cs:=Si) (.cons n5 .nil) (lp:=TA) (fn:=Tryz.f205) (by kernel_rfl) (by kernel_rfl) (by kernel_rfl) rF (.done (by kernel_rfl)) Rh ?_
 rintro ⟨⟨⟨⟩,⟨⟩⟩,⟨⟨(b:List Int),(p:Int),⟨⟩⟩,⟨⟩⟩⟩ out hw ho
 obtain ⟨hg,ho⟩:=Tr.guard ho
 have hg:bi b p=true:=hg
 cases ho
 refine (XU b p).trans ?_
 unfold GX
 rw[aa (by simp[hg])]
 rfl
abbrev zo:Io:=⟨[.ptr 0 0,.fnc 205 true [1]],oN,[],[d8],none⟩
def Zf (d:zo.In):Tr zo.Res:=.ite (o6 d.2) (.ret (.ret ((IntKind.i8.wrap (al d.2.2.1.1 d.2.2.1.2.1 1).1,()),dc d.2.1.2.1 d.2.2.1.1 ((al d.2.2.1.1 d.2.2.1.2.1 1).2.2,(al d.2.2.1.1 d.2.2.1.2.1 1).2.1)))) .no
abbrev YG:List (Nat×Hc):=[(205,ah rF Rh)]
def abn:Hd:=bz YG
def YT:Lp:=bo []
def MB (a0 a1:Int)(a2:List Int)(a3:Int):Option zo.Res:=bif bi a2 a3 then some (Out.ret ((IntKind.i8.wrap (al a2 a3 1).1,()),((),a0,(al a2 a3 1).2.2,()),(a2,(al a2 a3 1).2.1,()),())) else none
theorem aaj (a0 a1:Int)(a2:List Int)(a3:Int):Io.run tt abn dr YT zo Tryz.f204 (((),(),()),((),a0,a1,()),(a2,a3,()),())=MB a0 a1 a2 a3:=by kernel_rfl
theorem aby:HcOk prog 204 (ah zo Zf):=by
 refine aj (n:=400) hm (cs:=YG) (.cons aad .nil) (lp:=YT) (fn:=Tryz.f204) (by kernel_rfl) (by kernel_rfl) (by kernel_rfl) zo (.done (by kernel_rfl)) Zf ?_
 rintro ⟨⟨⟨⟩,⟨⟩,⟨⟩⟩,⟨⟨⟩,(v:Int),(e:Int),⟨⟩⟩,⟨(b:List Int),(p:Int),⟨⟩⟩,⟨⟩⟩ out hw ho
 obtain ⟨hg,ho⟩:=Tr.guard ho
 have hg:au b p=true:=hg
 cases ho
 refine (aaj v e b p).trans ?_
 unfold MB
 exact aa (pH hg) _ _
abbrev zn:Io:=⟨[.ptr 0 0],oN,[],[d8],none⟩
def Ze (d:zn.In):Tr zn.Res:=.ite (o6 d.2) (.ret (.ret (((ae .i8 1 d.2.2.1.1 (eG d.2)).1,()),dc d.2.1.2.1 d.2.2.1.1 (ae .i8 1 d.2.2.1.1 (eG d.2)).2))) .no
abbrev YF:List (Nat×Hc):=[(204,ah zo Zf)]
def abm:Hd:=bz YF
def YS:Lp:=bo []
def MA (a0 a1:Int)(a2:List Int)(a3:Int):Option zn.Res:=bif a1 != 0 then some (Out.ret ((0,()),((),a0,a1,()),(a2,a3,()),())) else bif au a2 a3 then some (Out.ret ((IntKind.i8.wrap (al a2 a3 1).1,()),((),a0,(al a2 a3 1).2.2,()),(a2,(al a2 a3 1).2.1,()),())) else none
theorem aai (a0 a1:Int)(a2:List Int)(a3:Int):Io.run tt abm dr YS zn Tryz.f151 (((),()),((),a0,a1,()),(a2,a3,()),())=MA a0 a1 a2 a3:=by kernel_rfl
theorem abx:HcOk prog 151 (ah zn Ze):=by
 refine aj (n:=400) hm (cs:=YF) (.cons aby .nil) (lp:=YS) (fn:=Tryz.f151) (by kernel_rfl) (by kernel_rfl) (by kernel_rfl) zn (.done (by kernel_rfl)) Ze ?_
 rintro ⟨⟨⟨⟩,⟨⟩⟩,⟨⟨⟩,(v:Int),(e:Int),⟨⟩⟩,⟨(b:List Int),(p:Int),⟨⟩⟩,⟨⟩⟩ out hw ho
 obtain ⟨hg,ho⟩:=Tr.guard ho
 have hg:au b p=true:=hg
 cases ho
 refine (aai v e b p).trans ?_
 unfold MA
 show _=some (Out.ret (((ae .i8 1 b (e,p)).1,()),dc v b (ae .i8 1 b (e,p)).2))
 unfold ae
 by_cases h:e=0
 ·rw[if_pos h]
  refine (ab (by simpa using h) _ _).trans ?_
  exact aa hg _ _
 ·rw[if_neg h]
  exact aa (by simpa using h) _ _
abbrev ry:Io:=⟨[.ptr 0 0],wG,[],[d8],none⟩
def Q4 (d:ry.In):Tr ry.Res:=.ite (decide (d.2.1.2.2.1≠0)) (.ret (.ret ((0,()),d.2))) .no
abbrev RT:List (Nat×Hc):=[]
def ZL:Hd:=bz RT
def Tl:Lp:=bo []
def GL (a0 a1:Int):Option ry.Res:=bif a1 != 0 then some (Out.ret ((0,()),((),a0,a1,()),())) else none
theorem XE (a0 a1:Int):Io.run tt ZL dr Tl ry Tryz.f151 (((),()),((),a0,a1,()),())=GL a0 a1:=by kernel_rfl
theorem Z8:HcOk prog 151 (ah ry Q4):=by
 refine aj (n:=400) hm (cs:=RT) HcsOk.nil (lp:=Tl) (fn:=Tryz.f151) (by kernel_rfl) (by kernel_rfl) (by kernel_rfl) ry (.done (by kernel_rfl)) Q4 ?_
 rintro ⟨⟨⟨⟩,⟨⟩⟩,⟨⟨⟩,(v:Int),(e:Int),⟨⟩⟩,⟨⟩⟩ out hw ho
 obtain ⟨hg,ho⟩:=Tr.guard ho
 have hg:e≠0:=of_decide_eq_true hg
 cases ho
 refine (XE v e).trans ?_
 unfold GL
 exact aa (by simpa using hg) _ _
theorem bA {v lo hi x:Int}{n:Nat}{s:aW}(h:lo≤v∧v≤hi):cb v lo hi x n s=ac x n s:=by unfold cb;rw[if_pos h]
theorem bh {v lo hi x:Int}{n:Nat}{s:aW}(h:¬(lo≤v∧v≤hi)):cb v lo hi x n s=s:=by unfold cb;rw[if_neg h]
theorem HL (x:Int):∀(n:Nat) (v:Int),(aM x n).foldl (fun v c=>v*256+c) v=v*256 ^ n+x % 256 ^ n
 |0,v=>by simp[aM]
 |n+1,v=>by
  rw[aM,List.foldl_cons,HL x n]
  have h1:x % 256 ^ (n+1)=x % 256 ^ n+256 ^ n*((x / 256 ^ n) % 256):=by
   have hq:(0:Int)<256 ^ n:=Int.pow_pos (by decide)
   rw[Int.pow_succ]
   have hx:=Int.emod_add_mul_ediv x (256 ^ n)
   have hy:=Int.emod_add_mul_ediv (x / 256 ^ n) 256
   have h1:=Int.emod_nonneg x (Int.ne_of_gt hq)
   have h2:=Int.emod_lt_of_pos x hq
   have h3:0≤(x / 256 ^ n) % 256:=Int.emod_nonneg _ (by decide)
   have h4:(x / 256 ^ n) % 256<256:=Int.emod_lt_of_pos _ (by decide)
   generalize x % 256 ^ n=r at hx h1 h2 ⊢
   generalize hd:x / 256 ^ n=d at hx hy h3 h4 ⊢
   generalize d % 256=c at hy h3 h4 ⊢
   generalize d / 256=e at hy
   generalize (256:Int) ^ n=q at hq hx h2 ⊢
   refine ((Int.ediv_emod_unique (q:=e) (by omega)).2 ⟨?_,?_,?_⟩).2
   ·rw[← hx,← hy,Int.mul_add,Int.mul_assoc];omega
   ·have:=Int.mul_nonneg (Int.le_of_lt hq) h3;omega
   ·have:q*c≤q*255:=Int.mul_le_mul_of_nonneg_left (by omega) (Int.le_of_lt hq);omega
  rw[h1,Int.pow_succ,Int.add_mul,Int.mul_assoc,Int.mul_comm 256 (256 ^ n),Int.mul_comm ((x / 256 ^ n) % 256)]
  omega
theorem Ay (x:Int)(n:Nat):gr (aM x n)=x % 256 ^ n:=by
 unfold gr
 rw[HL];omega
theorem oB {x:Int}(h:eE .i16 x):IntKind.i16.wrap (gr (aM x 2))=x:=by
 rw[Ay]
 simp only[eE,IntKind.min,IntKind.max,IntKind.signed,IntKind.bits] at h
 simp at h
 simp[IntKind.wrap,IntKind.min,IntKind.max,IntKind.signed,IntKind.bits]
 omega
theorem dA {x:Int}(h:eE .i32 x):IntKind.i32.wrap (gr (aM x 4))=x:=by
 rw[Ay]
 simp only[eE,IntKind.min,IntKind.max,IntKind.signed,IntKind.bits] at h
 simp at h
 simp[IntKind.wrap,IntKind.min,IntKind.max,IntKind.signed,IntKind.bits]
 omega
theorem eg {x:Int}(h:eE .i64 x):IntKind.i64.wrap (gr (aM x 8))=x:=by
 rw[Ay]
 simp only[eE,IntKind.min,IntKind.max,IntKind.signed,IntKind.bits] at h
 simp at h
 simp[IntKind.wrap,IntKind.min,IntKind.max,IntKind.signed,IntKind.bits]
 omega
structure Rea {α:Type} (b:List Int) (x:α) (r:List Int) (f:aN→α×aN):Prop where
 full:∀(p:Nat) (rest:List Int),p≤b.length→b.drop p=r++rest→f (0,(p:Int))=(x,(0,((p+r.length:Nat):Int)))
 short:∀(p:Nat) (t:List Int),p≤b.length→t≠[]→b.drop p++t=r→(f (0,(p:Int))).2.1=1
 dead:∀s,s.1≠0→(f s).2.1=s.1
theorem mK {b r rest:List Int}{p:Nat}(hp:p≤b.length)(h:b.drop p=r++rest):p+r.length≤b.length∧b.drop (p+r.length)=rest:=by
 have h1:=congrArg List.length h
 simp only[List.length_drop,List.length_append] at h1
 refine ⟨by omega,?_⟩
 rw[← List.drop_drop,h,List.drop_left]
theorem Rea.seq {α β γ:Type}{b r1 r2:List Int}{x:α}{y:β}{f:aN→α×aN}{g:aN→β×aN}(c:α→β→γ)(hf:Rea b x r1 f)(hg:Rea b y r2 g):
  Rea b (c x y) (r1++r2) fun s=>(c (f s).1 (g (f s).2).1,(g (f s).2).2) where
 full:=fun p rest hp h=>by
  rw[List.append_assoc] at h
  obtain ⟨h1,h2⟩:=mK hp h
  simp only[hf.full p _ hp h,hg.full _ rest h1 h2,List.length_append,Nat.add_assoc]
 short:=fun p t hp ht h=>by
  by_cases hl:r1.length≤(b.drop p).length
  ·have h1:b.drop p=r1++(b.drop p).drop r1.length:=by
    have:(b.drop p).take r1.length=r1:=by
     have:=congrArg (List.take r1.length) h
     rwa [List.take_append_of_le_length hl,List.take_left] at this
    conv=>lhs;rw[← List.take_append_drop r1.length (b.drop p),this]
   obtain ⟨h3,h4⟩:=mK hp h1
   rw[h1,List.append_assoc] at h
   have h5:=List.append_cancel_left h
   simp only[hf.full p _ hp h1]
   exact hg.short _ t h3 ht (by rw[h4];exact h5)
  ·have h1:r1=b.drop p++r1.drop (b.drop p).length:=by
    have:r1.take (b.drop p).length=b.drop p:=by
     have:=congrArg (List.take (b.drop p).length) h
     rw[List.take_left,List.take_append_of_le_length (by omega)] at this
     exact this.symm
    conv=>lhs;rw[← List.take_append_drop (b.drop p).length r1,this]
   have h2:=hf.short p (r1.drop (b.drop p).length) hp (by intro e;have:=congrArg List.length e;simp only[List.length_drop,List.length_nil] at this hl;omega) h1.symm
   have h3:=hg.dead (f (0,(p:Int))).2 (by rw[h2];decide)
   exact h3.trans h2
 dead:=fun s hs=>by
  have h1:=hf.dead s hs
  exact (hg.dead _ (by rw[h1];exact hs)).trans h1
theorem Rea.nop {α:Type}(b:List Int)(x:α){f:aN→α×aN}(hf:∀p:Nat,f (0,(p:Int))=(x,(0,(p:Int))))(hd:∀s,s.1≠0→(f s).2.1=s.1):Rea b x [] f where
 full:=fun p rest hp h=>by rw[hf];rfl
 short:=fun p t hp ht h=>absurd (List.append_eq_nil_iff.1 h).2 ht
 dead:=hd
theorem Rea.congr {α:Type}{b r:List Int}{x:α}{f g:aN→α×aN}(h:Rea b x r f)(e:∀s,g s=f s):Rea b x r g:=by
 have:g=f:=funext e
 rw[this];exact h
theorem QA (k:IntKind)(n:Nat)(b:List Int){s:aN}(h:s.1≠0):ae k n b s=(0,s):=by unfold ae;rw[if_neg h]
theorem Rea.num {b:List Int}{k:IntKind}{n:Nat}{x:Int}(hx:k.wrap (gr (aM x n))=x):Rea b x (aM x n) (ae k n b) where
 full:=fun p rest hp h=>by
  obtain ⟨h1,h2⟩:=mK hp h
  rw[bY] at h1 ⊢
  unfold ae
  rw[if_pos rfl]
  have hr:al b (p:Int) n=(gr (aM x n),((p:Int)+n,0)):=by
   unfold al
   rw[if_neg (by omega)]
   have:((b.drop ((p:Int)).toNat).take n)=aM x n:=by
    rw[Int.toNat_natCast,h]
    have:=List.take_left (l₁:=aM x n) (l₂:=rest)
    rw[bY] at this
    exact this
   rw[this]
  simp only[hr,hx]
  simp
 short:=fun p t hp ht h=>by
  have hl:=congrArg List.length h
  rw[List.length_append,List.length_drop,bY] at hl
  have:0<t.length:=List.length_pos_iff.2 ht
  unfold ae
  rw[if_pos rfl]
  unfold al
  rw[if_pos (by omega)]
 dead:=fun s hs=>by rw[QA _ _ _ hs]
theorem oa (b:List Int)(n:Int){s:aN}(h:s.1≠0):bO b n s=([],s):=by unfold bO;rw[if_neg h]
theorem Rea.take {b:List Int}(t:List Int):Rea b t t (bO b t.length) where
 full:=fun p rest hp h=>by
  obtain ⟨h1,h2⟩:=mK hp h
  unfold bO
  rw[if_pos rfl,if_neg (by omega)]
  have hr:aR b (p:Int) (t.length:Int)=(t,((p:Int)+t.length,0)):=by
   unfold aR
   rw[if_neg (by omega),if_neg (by omega),Int.toNat_natCast,Int.toNat_natCast,h,List.take_left]
  simp only[hr]
  simp
 short:=fun p u hp ht h=>by
  have hl:=congrArg List.length h
  rw[List.length_append,List.length_drop] at hl
  have:0<u.length:=List.length_pos_iff.2 ht
  unfold bO
  rw[if_pos rfl,if_neg (by omega)]
  unfold aR
  rw[if_neg (by omega),if_pos (by omega)]
 dead:=fun s hs=>by rw[oa _ _ hs]
theorem Rea.bind {α β:Type}{b r1 r2:List Int}{x:α}{y:β}{f:aN→α×aN}{g:α→aN→β×aN}(hf:Rea b x r1 f)(hg:Rea b y r2 (g x))(a0:α)(hz:∀s,(f s).2.1≠0→(f s).1=a0)(hd:∀s,s.1≠0→(g a0 s).2.1=s.1):
  Rea b y (r1++r2) fun s=>g (f s).1 (f s).2 where
 full:=fun p rest hp h=>by
  rw[List.append_assoc] at h
  obtain ⟨h1,h2⟩:=mK hp h
  simp only[hf.full p _ hp h,hg.full _ rest h1 h2,List.length_append,Nat.add_assoc]
 short:=fun p t hp ht h=>by
  by_cases hl:r1.length≤(b.drop p).length
  ·have h1:b.drop p=r1++(b.drop p).drop r1.length:=by
    have:(b.drop p).take r1.length=r1:=by
     have:=congrArg (List.take r1.length) h
     rwa [List.take_append_of_le_length hl,List.take_left] at this
    conv=>lhs;rw[← List.take_append_drop r1.length (b.drop p),this]
   obtain ⟨h3,h4⟩:=mK hp h1
   rw[h1,List.append_assoc] at h
   have h5:=List.append_cancel_left h
   simp only[hf.full p _ hp h1]
   exact hg.short _ t h3 ht (by rw[h4];exact h5)
  ·have h1:r1=b.drop p++r1.drop (b.drop p).length:=by
    have:r1.take (b.drop p).length=b.drop p:=by
     have:=congrArg (List.take (b.drop p).length) h
     rw[List.take_left,List.take_append_of_le_length (by omega)] at this
     exact this.symm
    conv=>lhs;rw[← List.take_append_drop (b.drop p).length r1,this]
   have h2:=hf.short p (r1.drop (b.drop p).length) hp (by intro e;have:=congrArg List.length e;simp only[List.length_drop,List.length_nil] at this hl;omega) h1.symm
   have h3:=hd (f (0,(p:Int))).2 (by rw[h2];decide)
   rw[← hz (0,(p:Int)) (by rw[h2];decide)] at h3
   exact h3.trans h2
 dead:=fun s hs=>by
  have h1:=hf.dead s hs
  have h3:=hd (f s).2 (by rw[h1];exact hs)
  rw[← hz s (by rw[h1];exact hs)] at h3
  exact h3.trans h1
theorem DJ:(ca []).2=true:=by rfl
theorem tR (b:List Int)(n:Int){s:aN}(h:s.1≠0)(hn:n≤255):dV b n s=([],s):=by
 have e:ju n s=s:=by unfold ju;rw[if_neg (by omega)]
 unfold dV
 rw[e,oa b n h,if_pos DJ]
theorem Rea.text {b:List Int}(t:List Int)(hl:t.length≤255)(hu:(ca t).2=true):Rea b t t (dV b t.length):=by
 have e:∀s,ju (t.length:Int) s=s:=fun s=>by unfold ju;rw[if_neg (by omega)]
 have ht:=Rea.take (b:=b) t
 refine ⟨fun p rest hp h=>?_,fun p u hp hu' h=>?_,fun s hs=>?_⟩
 ·have h1:=ht.full p rest hp h
  unfold dV
  rw[e,h1,if_pos hu]
 ·have h1:=ht.short p u hp hu' h
  unfold dV
  rw[e]
  have h0:(bO b (t.length:Int) (0,(p:Int))).1=[]:=by
   unfold bO at h1 ⊢
   rw[if_pos rfl,if_neg (by omega)] at h1 ⊢
   simp only at h1 ⊢
   unfold aR at h1 ⊢
   split
   ·rfl
   ·split
    ·rfl
    ·rename_i h2 h3
     rw[if_neg h2,if_neg h3] at h1
     cases h1
  rw[h0,if_pos DJ];exact h1
 ·rw[tR b _ hs (by omega)]
theorem abL (k:IntKind):k.wrap 0=0:=by cases k <;> rfl
theorem qD (k:IntKind)(n:Nat)(b:List Int)(s:aN)(h:(ae k n b s).2.1≠0):(ae k n b s).1=0:=by
 unfold ae at h ⊢
 split
 ·rename_i h0
  rw[if_pos h0] at h
  unfold al at h ⊢
  split
  ·exact abL k
  ·rename_i h1
   rw[if_neg h1] at h
   exact absurd rfl h
 ·rfl
theorem Rea.str {b:List Int}(t:List Int)(hl:t.length≤255)(hu:(ca t).2=true):Rea b t (aM t.length 2++t) (cn b):=
 Rea.bind (g:=dV b) (Rea.num (b:=b) (k:=.i16) (n:=2) (x:=(t.length:Int)) (oB (by simp[eE,IntKind.min,IntKind.max,IntKind.signed,IntKind.bits];omega))) (Rea.text t hl hu) 0 (qD _ _ _) fun s hs=>by
  rw[tR b _ hs (by decide)]
def Rd {α:Type}(b:List Int)(x:α)(w:List Int×Int)(f:aN→α×aN):Prop:=w.2=0→Rea b x w.1 f
theorem AR {a b:List Int×Int}(h:(aU a b).2=0):a.2=0∧b.2=0∧(aU a b).1=a.1++b.1:=by
 unfold aU at h ⊢
 by_cases h1:a.2=0
 ·by_cases h2:b.2=0
  ·refine ⟨h1,h2,?_⟩
   simp[h1,h2]
  ·simp[h1,h2] at h
 ·simp[h1] at h
theorem Rd.seq {α β γ:Type}{b:List Int}{w1 w2:List Int×Int}{x:α}{y:β}{f:aN→α×aN}{g:aN→β×aN}(c:α→β→γ)(hf:Rd b x w1 f)(hg:Rd b y w2 g):
  Rd b (c x y) (aU w1 w2) fun s=>(c (f s).1 (g (f s).2).1,(g (f s).2).2):=by
 intro h
 obtain ⟨h1,h2,h3⟩:=AR h
 rw[h3]
 exact (hf h1).seq c (hg h2)
theorem Rd.num {b:List Int}{k:IntKind}{n:Nat}{x:Int}(hx:k.wrap (gr (aM x n))=x):Rd b x (aM x n,0) (ae k n b):=fun _=>Rea.num hx
theorem Rd.nop {α:Type}(b:List Int)(x:α):Rd b x ([],0) fun s=>(x,s):=fun _=>Rea.nop b x (fun p=>rfl) fun s _=>rfl
theorem Rd.txt {b:List Int}(t:List Int):Rd b t (pI t) (cn b):=by
 intro h
 unfold pI at h ⊢
 split at h
 ·cases h
 ·rename_i h1
  split at h
  ·cases h
  ·rename_i h2
   rw[if_neg h1,if_neg h2]
   exact Rea.str t (by omega) (by simpa using h1)
theorem Rea.map {α β:Type}{b r:List Int}{x:α}{f:aN→α×aN}(c:α→β)(h:Rea b x r f):Rea b (c x) r fun s=>(c (f s).1,(f s).2):=
 ⟨fun p rest hp hd=>by simp only[h.full p rest hp hd],fun p t hp ht hd=>h.short p t hp ht hd,fun s hs=>h.dead s hs⟩
def YD (b:List Int)(a:Int)(s:aN):oA.den×aN:=if a = -1 then ((true,(([]:List Int),())),s) else ((false,((bO b a s).1,())),(bO b a s).2)
theorem Rd.blo {b:List Int}(n:oA.den)(hn:n.2.1.length≤2147483647):Rd b n (Az n) (qA b):=by
 have e:∀s,qA b s=YD b (ae .i32 4 b s).1 (ae .i32 4 b s).2:=fun s=>rfl
 have hd:∀s:aN,s.1≠0→(YD b 0 s).2.1=s.1:=fun s hs=>by
  unfold YD
  rw[if_neg (by decide),oa b _ hs]
 obtain ⟨z,t,⟨⟩⟩:=n
 have hn:t.length≤2147483647:=hn
 intro hh
 have h:(if z=true then (if t.length=0 then (aM (-1) 4,0) else ([],70)) else (aM t.length 4++t,0):List Int×Int).2=0:=hh
 clear hh
 show Rea b _ (if z=true then (if t.length=0 then (aM (-1) 4,0) else ([],70)) else (aM t.length 4++t,0):List Int×Int).1 _
 by_cases hz:z=true
 ·rw[if_pos hz] at h ⊢
  by_cases h0:List.length t=0
  ·rw[if_pos h0] at h ⊢
   have ht:t=[]:=List.eq_nil_of_length_eq_zero h0
   subst ht
   subst hz
   have hg:Rea b (true,(([]:List Int),())) [] (YD b (-1)):=Rea.nop b _ (fun p=>by unfold YD;rw[if_pos rfl]) fun s hs=>by unfold YD;rw[if_pos rfl]
   have:=(Rea.bind (Rea.num (b:=b) (k:=.i32) (n:=4) (x:=-1) (dA (by simp[eE,IntKind.min,IntKind.max,IntKind.signed,IntKind.bits]))) hg 0 (qD _ _ _) hd).congr e
   rw[List.append_nil] at this
   exact this
  ·rw[if_neg h0] at h
   cases h
 ·rw[if_neg hz] at h ⊢
  have hz:z=false:=by simpa using hz
  subst hz
  have hg:Rea b (false,(t,())) t (YD b t.length):=((Rea.take (b:=b) t).map fun x=>(false,(x,()))).congr fun s=>by unfold YD;rw[if_neg (by omega)]
  exact (Rea.bind (Rea.num (b:=b) (k:=.i32) (n:=4) (x:=(t.length:Int)) (dA (by simp[eE,IntKind.min,IntKind.max,IntKind.signed,IntKind.bits];omega))) hg 0 (qD _ _ _) hd).congr e
theorem Rd.rep {α:Type}{b:List Int}{w:α→List Int×Int}{one:aN→α×aN}:∀{xs:List α},(∀x∈xs,Rd b x (w x) one)→Rd b xs (qU w xs) (dX one xs.length)
 |[],_=>fun _=>Rea.nop b _ (fun p=>rfl) fun s hs=>rfl
 |x::xs,h=>by
  intro hz
  have hs:=(Rd.seq List.cons (h x (by simp)) (Rd.rep fun y hy=>h y (List.mem_cons_of_mem _ hy))) hz
  refine ⟨fun p rest hp hd=>?_,fun p t hp ht hd=>?_,fun s hs=>?_⟩
  ·rw[List.length_cons,dX,if_pos rfl]
   exact hs.full p rest hp hd
  ·rw[List.length_cons,dX,if_pos rfl]
   exact hs.short p t hp ht hd
  ·rw[List.length_cons,dX,if_neg hs]
theorem Rd.list {α:Type}{b:List Int}{w:α→List Int×Int}{one:aN→α×aN}{xs:List α}(h:∀x∈xs,Rd b x (w x) one):Rd b xs (eY w xs) (jP one b):=by
 intro hz
 unfold eY at hz ⊢
 by_cases h1:16<xs.length
 ·rw[if_pos h1] at hz;cases hz
 rw[if_neg h1] at hz ⊢
 obtain ⟨_,h2,h3⟩:=AR hz
 rw[h3]
 have hr:=Rd.rep h h2
 have hg:Rea b xs (qU w xs).1 (fun s=>dX one ((xs.length:Int)).toNat (pF xs.length s)):=hr.congr fun s=>by
  rw[Int.toNat_natCast]
  have:pF (xs.length:Int) s=s:=by
   unfold pF
   split
   ·rw[if_neg (by omega),if_neg (by omega)]
   ·rfl
  rw[this]
 exact Rea.bind (g:=fun a s=>dX one a.toNat (pF a s)) (Rea.num (b:=b) (k:=.i32) (n:=4) (x:=(xs.length:Int)) (dA (by simp[eE,IntKind.min,IntKind.max,IntKind.signed,IntKind.bits];omega))) hg 0 (qD _ _ _) fun s hs=>by
  show (pF 0 s).1=s.1
  unfold pF
  rw[if_neg hs]
theorem Rd.congr {α:Type}{b:List Int}{x:α}{w:List Int×Int}{f g:aN→α×aN}(h:Rd b x w f)(e:∀s,g s=f s):Rd b x w g:=fun hz=>(h hz).congr e
theorem qB {v lo hi:Int}(h:lo≤v∧v≤hi):bg v lo hi 0=true:=if_pos ⟨rfl,h⟩
theorem kZ {v lo hi e:Int}(h:¬(lo≤v∧v≤hi)):bg v lo hi e=false:=if_neg fun h'=>h h'.2
theorem AD {v lo hi e:Int}(h:e≠0):bg v lo hi e=false:=if_neg fun h'=>h h'.1
theorem Rd.opt {b:List Int}{k:IntKind}{n:Nat}{x v lo hi:Int}(hx:k.wrap (gr (aM x n))=x)(h0:¬(lo≤v∧v≤hi)→x=0):Rd b x (if lo≤v∧v≤hi then (aM x n,0) else ([],0)) (av k n v lo hi b):=by
 intro _
 by_cases h:lo≤v∧v≤hi
 ·rw[if_pos h]
  have hn:=Rea.num (b:=b) hx
  refine ⟨fun p rest hp hd=>?_,fun p t hp ht hd=>?_,fun s hs=>?_⟩
  ·unfold av
   rw[if_pos (qB h)];exact hn.full p rest hp hd
  ·unfold av
   rw[if_pos (qB h)];exact hn.short p t hp ht hd
  ·unfold av
   rw[if_neg (by rw[AD hs];decide)]
 ·rw[if_neg h]
  have hx0:=h0 h
  subst hx0
  refine Rea.nop b _ (fun p=>?_) fun s hs=>?_
  ·unfold av
   rw[if_neg (by rw[kZ h];decide)]
  ·unfold av
   rw[if_neg (by rw[kZ h];decide)]
theorem Rd.part {b:List Int}{p:oM.den}(h:oM.wf p)(hb:p.2.1.2.1.length≤2147483647):Rd b p (Zb p) (Ok b):=
 (Rd.seq (fun a r=>(a,r)) (Rd.num (dA h.1)) (Rd.seq (fun a r=>(a,r)) (Rd.blo p.2.1 hb) (Rd.nop b ()))).congr fun s=>by unfold Ok;rfl
theorem L0 {a b:List Int×Int}(h:(aU a b).2≠0):(aU a b).1=[]:=by
 unfold aU at h ⊢
 split
 ·rfl
 ·split
  ·rfl
  ·rename_i h1 h2
   rw[if_neg h1,if_neg h2] at h
   exact absurd rfl h
theorem QG (a b:List Int×Int):aU ([],0) (aU a b)=aU a b:=by
 by_cases h:(aU a b).2=0
 ·have e:aU a b=((aU a b).1,0):=by rw[← h]
  rw[e];unfold aU;simp
 ·have:=L0 h
  have e:aU a b=([],(aU a b).2):=by rw[← this]
  generalize aU a b=c at h e ⊢
  rw[e]
  unfold aU
  simp only[List.nil_append]
  rw[if_neg (by simp),if_pos h]
theorem Rd.optSeq {β γ:Type}{b:List Int}{k:IntKind}{n:Nat}{x v lo hi:Int}{R:List Int×Int}{y:β}{g:aN→β×aN}(c:Int→β→γ)(hx:k.wrap (gr (aM x n))=x)(h0:¬(lo≤v∧v≤hi)→x=0)(hg:Rd b y R g):
  Rd b (c x y) (if lo≤v∧v≤hi then aU (aM x n,0) R else R) fun s=>(c (av k n v lo hi b s).1 (g (av k n v lo hi b s).2).1,(g (av k n v lo hi b s).2).2):=by
 by_cases h:lo≤v∧v≤hi
 ·rw[if_pos h]
  have:=Rd.seq c (Rd.opt (b:=b) (k:=k) (n:=n) (v:=v) (lo:=lo) (hi:=hi) hx h0) hg
  rw[if_pos h] at this
  exact this
 ·rw[if_neg h]
  have hx0:=h0 h
  subst hx0
  intro hz
  have hr:=hg hz
  exact (hr.map (c 0)).congr fun s=>by
   have:av k n v lo hi b s=(0,s):=by unfold av;rw[if_neg (by rw[kZ h];decide)]
   rw[this]
theorem zY {v:Int}{p:bn.den}(h:gP v p=true):(¬(2≤v∧v≤3)→p.2.2.2.1=0)∧(¬(3≤v∧v≤3)→p.2.2.2.2.1=0):=by
 unfold gP at h
 simp only[Bool.and_eq_true] at h
 refine ⟨fun hv=>?_,fun hv=>?_⟩
 ·have:=h.1;rw[if_neg hv] at this;simpa using this
 ·have:=h.2;rw[if_neg hv] at this;simpa using this
theorem Rd.done {b:List Int}{p:bn.den}{v:Int}(h:bn.wf p)(hk:gP v p=true):Rd b p (JM v p) (F9 v b):=
 (Rd.seq (fun a r=>(a,r)) (Rd.num (dA h.1)) (Rd.seq (fun a r=>(a,r)) (Rd.num (oB h.2.1)) (Rd.seq (fun a r=>(a,r)) (Rd.num (eg h.2.2.1))
  (Rd.optSeq (fun a r=>(a,r)) (eg h.2.2.2.1) (zY hk).1 (Rd.optSeq (fun a r=>(a,r)) (eg h.2.2.2.2.1) (zY hk).2 (Rd.nop b ())))))).congr fun s=>by unfold F9 Yb;rfl
theorem Rd.gone {b:List Int}{t:aq.den}{v:Int}(h:aq.wf t)(hk:t.2.1.all (gP v)=true):Rd b t (D3 v t) (Oj v b):=
 (Rd.seq (fun a r=>(a,r)) (Rd.txt t.1) (Rd.seq (fun a r=>(a,r)) (Rd.list fun p hp=>Rd.done (h.2.1.2 p hp) (List.all_eq_true.1 hk p hp)) (Rd.nop b ()))).congr fun s=>by unfold Oj AB;rfl
theorem L1 {v:Int}(fs:List Fd)(ks:List Nd):aU ([],0) (bZ v fs ks)=bZ v fs ks:=by
 induction fs generalizing ks with
 |nil=>rw[cT];rfl
 |cons f fs ih=>
  cases ks with
  |nil=>rw[bZ];rfl;all_goals simp
  |cons k ks=>
   rw[bZ]
   split
   ·exact QG _ _
   ·exact ih ks
theorem ld {nm:List Int}{k lo hi:Int}{e fs:List Fd}{n:Nd}{ks:List Nd}{v:Int}:bZ v (cE nm k lo hi e::fs) (n::ks)=aU (if lo≤v∧v≤hi then t9 (cE nm k lo hi e) v n else ([],0)) (bZ v fs ks):=by
 by_cases h:lo≤v∧v≤hi
 ·rw[if_pos h,bE (aK h.1 h.2)]
 ·rw[if_neg h,Jy (vD (by omega)),L1]
theorem Rd.map {α β:Type}{b:List Int}{x:α}{w:List Int×Int}{f:aN→α×aN}(c:α→β)(h:Rd b x w f):Rd b (c x) w fun s=>(c (f s).1,(f s).2):=fun hz=>(h hz).map c
abbrev l8:Ty:=.prod (.int .i32) (.prod (.int .i64) (.prod (.int .i32) (.prod (.int .i32) .unit)))
abbrev aQ:Ty:=.prod .str (.prod (.sl 187 l8) .unit)
abbrev Bq:Ty:=.prod (.int .i32) (.prod (.int .i32) (.prod (.int .i32) (.prod (.int .i32) (.prod (.int .i8) (.prod (.sl 185 aQ) .unit)))))
def aax (v:Int)(p:l8.den)(s:aW):aW:=ar v (p.2.2.1 == 0) 3 3 (s)
def Oo (v:Int)(ps:List l8.den)(s:aW):aW:=ps.foldl (fun s p=>aax v p s) s
def aay (v:Int)(ts:List aQ.den)(s:aW):aW:=ts.foldl (fun s t=>Oo v t.2.1 s) s
abbrev C3:Lo:=⟨⟨(.any::be (.one (.ptr 3 0)::be (.one (.ptr 6 0)::.any::ai (.one (.hol (.sl 185 aQ))::.one (.hol (.int IntKind.i64))::.one (.hol (.int IntKind.i64))::bJ (.one (.hol (.sl 187 l8))::.one (.hol (.int IntKind.i64))::.one (.hol (.int IntKind.i64))::.any::ai (ai (dE (be [])))))))),[none,none,none,some [.hol (.int IntKind.i32),.hol (.int IntKind.i32),.hol (.int IntKind.i32),.hol (.int IntKind.i32),.hol (.int IntKind.i8),.hol (.sl 185 aQ)],none,none,some [.ptr 12 0],none,none,none,none,none,some [.ptr 13 0,.hol (.int IntKind.i64),.hol (.int IntKind.i64),.hol .bool],some [.onl 5 (Ty.int IntKind.u8) 6658,.hol (.int IntKind.i64)]]⟩,[(.exit 2,⟨(.any::be (.one (.ptr 3 0)::be (.one (.ptr 6 0)::.any::ai (.one (.hol (.sl 185 aQ))::.one (.hol (.int IntKind.i64))::.one (.hol (.int IntKind.i64))::ai (ai (ai (be []))))))),[none,none,none,some [.hol (.int IntKind.i32),.hol (.int IntKind.i32),.hol (.int IntKind.i32),.hol (.int IntKind.i32),.hol (.int IntKind.i8),.hol (.sl 185 aQ)],none,none,some [.ptr 12 0],none,none,none,none,none,some [.ptr 13 0,.hol (.int IntKind.i64),.hol (.int IntKind.i64),.hol .bool],some [.onl 5 (Ty.int IntKind.u8) 6658,.hol (.int IntKind.i64)]]⟩)]⟩
abbrev C2:Lo:=⟨⟨(.any::be (.one (.ptr 3 0)::be (.one (.ptr 6 0)::.any::ai (.one (.hol (.sl 185 aQ))::.one (.hol (.int IntKind.i64))::.one (.hol (.int IntKind.i64))::ai (ai (ai (be []))))))),[none,none,none,some [.hol (.int IntKind.i32),.hol (.int IntKind.i32),.hol (.int IntKind.i32),.hol (.int IntKind.i32),.hol (.int IntKind.i8),.hol (.sl 185 aQ)],none,none,some [.ptr 12 0],none,none,none,none,none,some [.ptr 13 0,.hol (.int IntKind.i64),.hol (.int IntKind.i64),.hol .bool],some [.onl 5 (Ty.int IntKind.u8) 6658,.hol (.int IntKind.i64)]]⟩,[(.exit 0,⟨(.any::be (.one (.ptr 3 0)::be (.one (.ptr 6 0)::ai (ai (ai (ai (bJ (be [])))))))),[none,none,none,some [.hol (.int IntKind.i32),.hol (.int IntKind.i32),.hol (.int IntKind.i32),.hol (.int IntKind.i32),.hol (.int IntKind.i8),.hol (.sl 185 aQ)],none,none,some [.ptr 12 0],none,none,none,none,none,some [.ptr 13 0,.hol (.int IntKind.i64),.hol (.int IntKind.i64),.hol .bool],some [.onl 5 (Ty.int IntKind.u8) 6658,.hol (.int IntKind.i64)]]⟩)]⟩
abbrev Uq (re' wt' mi' mb' lv':Int)(ts':List aQ.den)(v:Int)(s:aW):(Int×(Int×(Int×(Int×(Int×(List aQ.den×Unit))))))×(Unit×((Int×(Int×(Bool×Unit)))×((List Int×(Int×Unit))×Unit))):=((re',(wt',(mi',(mb',(lv',(ts',())))))),((),((v,(s.1,(s.2.1,()))),((s.2.2,(130048,())),()))))
def aa1 (d:C3.st.den):Tr (ax C3.xs):=
 .ite (decide (d.1.2.2.2.2.2.1=0)&&(decide (d.1.2.2.2.2.1=(d.1.2.2.2.1.length:Int))&&(decide (d.2.2.2.2.1.2.1=130048)&&decide (d.2.2.2.2.1.1.length≤130048)))) (.ret (.ret ((),((d.1.1,(d.1.2.1,(d.1.2.2.1,()))),Uq d.2.1.1 d.2.1.2.1 d.2.1.2.2.1 d.2.1.2.2.2.1 d.2.1.2.2.2.2.1 d.2.1.2.2.2.2.2.1 d.2.2.2.1.1 (Oo d.2.2.2.1.1 d.1.2.2.2.1 (d.2.2.2.1.2.1,(d.2.2.2.1.2.2.1,d.2.2.2.2.1.1))))))) .no
def aa0 (d:C2.st.den):Tr (ax C2.xs):=
 .ite (decide (d.1.2.2.1=0)&&(decide (d.1.2.1=(d.1.1.length:Int))&&(decide (d.2.2.2.2.1.2.1=130048)&&decide (d.2.2.2.2.1.1.length≤130048)))) (.ret (.ret ((),((),Uq d.2.1.1 d.2.1.2.1 d.2.1.2.2.1 d.2.1.2.2.2.1 d.2.1.2.2.2.2.1 d.2.1.2.2.2.2.2.1 d.2.2.2.1.1 (aay d.2.2.2.1.1 d.1.1 (d.2.2.2.1.2.1,(d.2.2.2.1.2.2.1,d.2.2.2.2.1.1))))))) .no
def Y4 (p:l8.den):Nd:=bH [aG 3 p.1,aG 3 p.2.2.1,aG 4 p.2.1,aG 3 p.2.2.2.1]
def VL (t:aQ.den):Nd:=bH [gO t.1,bj (t.2.1.map Y4)]
@[irreducible] def VM (m:Bq.den):Nd:=bH [aG 3 m.1,aG 3 m.2.1,aG 3 m.2.2.1,aG 3 m.2.2.2.1,aG 1 m.2.2.2.2.1,bj (m.2.2.2.2.2.1.map VL)]
def Y5 (x:Nd):l8.den:=(IntKind.i32.wrap (bf x 0).lab.2.1,((bf x 2).lab.2.1,(IntKind.i32.wrap (bf x 1).lab.2.1,(IntKind.i32.wrap (bf x 3).lab.2.1,()))))
def aaz (x:Nd):aQ.den:=((bf x 0).lab.2.2.2.1,((bf x 1).kids.map Y5,()))
def JF (l:List aQ.den):Bool:=decide (l.length≤4294967296)&&l.all fun t=>decide (t.2.1.length≤4294967296)
abbrev wy:Lo:=⟨⟨(.any::.one (.ptr 1 0)::.one (.ptr 2 0)::.one (.onl 91 ap 7)::.one (.hol (.int IntKind.i64))::.one (.onl 91 ap 11)::.one (.hol (.int IntKind.i64))::.any::ai (ai (ai (ai (ai (ai (bJ []))))))),[none,some [.hol (.int IntKind.i32),.hol (.int IntKind.i32),.hol (.int IntKind.i32),.hol (.int IntKind.i32),.hol (.int IntKind.i8),.hol (.sl 185 aQ)],some [.hol (.int IntKind.i64),.hol (.int IntKind.i64),.hol .bool,.onl 5 (Ty.int IntKind.u8) 1032,.onl 91 ap 1034]]⟩,[(.exit 2,⟨(.any::.one (.ptr 1 0)::.one (.ptr 2 0)::.one (.onl 91 ap 7)::.one (.hol (.int IntKind.i64))::.one (.onl 91 ap 11)::ai (ai (ai (ai (ai (ai (bJ (be [])))))))),[none,some [.hol (.int IntKind.i32),.hol (.int IntKind.i32),.hol (.int IntKind.i32),.hol (.int IntKind.i32),.hol (.int IntKind.i8),.hol (.sl 185 aQ)],some [.hol (.int IntKind.i64),.hol (.int IntKind.i64),.hol .bool,.onl 5 (Ty.int IntKind.u8) 1032,.onl 91 ap 1034]]⟩)]⟩
abbrev wx:Lo:=⟨⟨(.any::.one (.ptr 1 0)::.one (.ptr 2 0)::.one (.onl 91 ap 7)::.one (.hol (.int IntKind.i64))::.any::ai (ai (ai (ai (ai (ai (bJ (be [])))))))),[none,some [.hol (.int IntKind.i32),.hol (.int IntKind.i32),.hol (.int IntKind.i32),.hol (.int IntKind.i32),.hol (.int IntKind.i8),.hol (.sl 185 aQ)],some [.hol (.int IntKind.i64),.hol (.int IntKind.i64),.hol .bool,.onl 5 (Ty.int IntKind.u8) 1032,.onl 91 ap 1034]]⟩,[(.exit 0,⟨(.any::.one (.ptr 1 0)::.one (.ptr 2 0)::.one (.onl 91 ap 7)::ai (ai (ai (ai (ai (ai (dE []))))))),[none,some [.hol (.int IntKind.i32),.hol (.int IntKind.i32),.hol (.int IntKind.i32),.hol (.int IntKind.i32),.hol (.int IntKind.i8),.hol (.sl 185 aQ)],some [.hol (.int IntKind.i64),.hol (.int IntKind.i64),.hol .bool,.onl 5 (Ty.int IntKind.u8) 1032,.onl 91 ap 1034]]⟩)]⟩
def Zr (d:wy.st.den):Tr (ax wy.xs):=
 .ite ((decide ((0:Int)≤d.1.2.1)&&decide (d.1.2.1<(d.2.1.2.2.2.2.2.1.length:Int)))&&((decide (d.1.2.2.1.length=0)&&decide (d.1.2.2.2.1=0))&&decide ((d.2.1.2.2.2.2.2.1.getD d.1.2.1.toNat aQ.zero).2.1.length≤4294967296)))
  (.ret (.ret ((),((d.1.1,(d.1.2.1,((d.2.1.2.2.2.2.2.1.getD d.1.2.1.toNat aQ.zero).2.1.map Y4,()))),(d.2.1,(d.2.2.1,())))))) .no
def Zq (d:wx.st.den):Tr (ax wx.xs):=
 .ite ((decide (d.1.1.length=0)&&decide (d.1.2.1=0))&&JF d.2.1.2.2.2.2.2.1)
  (.ret (.ret ((),((d.2.1.2.2.2.2.2.1.map VL,()),(d.2.1,(d.2.2.1,())))))) .no
abbrev zM:Lo:=⟨⟨(be (.one (.ptr 2 0)::.one (.ptr 3 0)::.one (.hol (.sl 91 ap))::.one (.hol (.int IntKind.i64))::.one (.ptr 6 0)::.one (.hol (.sl 91 ap))::.one (.hol (.int IntKind.i64))::ai (ai (ai (ai (ai (ai ([])))))))),[none,none,some [.hol (.int IntKind.i32),.hol (.int IntKind.i32),.hol (.int IntKind.i32),.hol (.int IntKind.i32),.hol (.int IntKind.i8),.onl 185 aQ 1036],some [.hol (.int IntKind.i32),.hol (.int IntKind.i32),.hol (.int IntKind.i32),.hol (.int IntKind.i32),.hol (.int IntKind.i8),.onl 185 aQ 1548],none,none,some [.hol .str,.onl 187 l8 3076]]⟩,[(.exit 2,⟨(be (.one (.ptr 2 0)::.one (.ptr 3 0)::.one (.hol (.sl 91 ap))::.one (.hol (.int IntKind.i64))::.one (.ptr 6 0)::ai (ai (ai (ai (ai (ai (be [])))))))),[none,none,some [.hol (.int IntKind.i32),.hol (.int IntKind.i32),.hol (.int IntKind.i32),.hol (.int IntKind.i32),.hol (.int IntKind.i8),.onl 185 aQ 1036],some [.hol (.int IntKind.i32),.hol (.int IntKind.i32),.hol (.int IntKind.i32),.hol (.int IntKind.i32),.hol (.int IntKind.i8),.onl 185 aQ 1548],none,none,some [.hol .str,.onl 187 l8 3076]]⟩)]⟩
abbrev C5:Lo:=⟨⟨(be (.one (.ptr 2 0)::.one (.ptr 3 0)::.one (.hol (.sl 91 ap))::.one (.hol (.int IntKind.i64))::.any::ai (ai (ai (ai (ai (ai (be [])))))))),[none,none,some [.hol (.int IntKind.i32),.hol (.int IntKind.i32),.hol (.int IntKind.i32),.hol (.int IntKind.i32),.hol (.int IntKind.i8),.onl 185 aQ 1036],some [.hol (.int IntKind.i32),.hol (.int IntKind.i32),.hol (.int IntKind.i32),.hol (.int IntKind.i32),.hol (.int IntKind.i8),.onl 185 aQ 1548]]⟩,[(.exit 0,⟨(be (.one (.ptr 2 0)::.one (.ptr 3 0)::.any::ai (ai (ai (ai (ai (ai (bJ [])))))))),[none,none,some [.hol (.int IntKind.i32),.hol (.int IntKind.i32),.hol (.int IntKind.i32),.hol (.int IntKind.i32),.hol (.int IntKind.i8),.onl 185 aQ 1036],some [.hol (.int IntKind.i32),.hol (.int IntKind.i32),.hol (.int IntKind.i32),.hol (.int IntKind.i32),.hol (.int IntKind.i8),.onl 185 aQ 1548]]⟩)]⟩
def aaQ (d:zM.st.den):Tr (ax zM.xs):=
 .ite ((decide (d.1.2.2.2.1=0)&&decide (d.2.2.2.1.2.1.length=0))&&decide (aD d.1.2.2.1≤4294967296))
  (.ret (.ret ((),((d.1.1,(d.1.2.1,())),(d.2.1,(d.2.2.1,((d.2.2.2.1.1,(d.1.2.2.1.map Y5,())),()))))))) .no
def aa3 (d:C5.st.den):Tr (ax C5.xs):=
 .ite ((decide (d.1.2.1=0)&&decide (d.2.2.1.2.2.2.2.2.1.length=0))&&decide (aD d.1.1≤4294967296))
  (.ret (.ret ((),((),(d.2.1,((d.2.2.1.1,(d.2.2.1.2.1,(d.2.2.1.2.2.1,(d.2.2.1.2.2.2.1,(d.2.2.1.2.2.2.2.1,(d.1.1.map aaz,())))))),())))))) .no
abbrev aI:Ty:=.prod (.int .i32) (.prod (.int .i16) (.prod (.int .i64) (.prod (.int .i64) (.prod (.int .i64) (.prod oA .unit)))))
abbrev ag:Ty:=.prod .str (.prod (.sl 223 aI) .unit)
abbrev ci:Ty:=.prod (.int .i32) (.prod (.sl 221 ag) .unit)
def mB (v:Int)(p:aI.den)(s:aW):aW:=bV p.2.2.2.2.2.1 (cb v 3 3 p.2.2.2.2.1 8 (cb v 2 3 p.2.2.2.1 8 (ac p.2.2.1 8 (ac p.2.1 2 (ac p.1 4 (s))))))
theorem DN {s:aW}(v:Int)(p:aI.den)(h:s.2.2.length≤130048):(mB v p s).2.2.length≤130048:=
 kX _ (f7 _ _ _ _ _ (f7 _ _ _ _ _ (aA _ _ (aA _ _ (aA _ _ (h))))))
def Wm (p:aI.den):Bool:=decide (p.2.2.2.2.2.1.2.1.length≤2147483647)
def xO (xs:List aI.den):Bool:=xs.all Wm
abbrev kJ:Io:=⟨[.dat aI true false,.ptr 0 0],tH,[],[],none⟩
def Eg (d:kJ.In):Tr kJ.Res:=.ite (fB d.2.2&&Wm d.1.1) (.ret (.ret ((),gz d.2.2.1.2.1 (mB d.2.2.1.2.1 d.1.1 (fC d.2.2))))) .no
abbrev Hr:List (Nat×Hc):=[(104,ah nB JT),(97,ah mj BQ),(98,ah dd gT),(111,ah kI xX),(95,ah iv qN)]
def SN:Hd:=bz Hr
def Im:Lp:=bo []
def yB (a0 a1 a2 a3 a4:Int)(a5:Bool)(a6:List Int)(a7 a8:Int)(a9:Bool)(a10:List Int)(a11:Int):Option kJ.Res:=bif decide (a11=130048)&&decide (a10.length≤130048) then bif decide (130048=130048)&&decide ((ac a0 4 (a8,a9,a10)).2.2.length≤130048) then bif decide (130048=130048)&&decide ((ac a1 2 (ac a0 4 (a8,a9,a10))).2.2.length≤130048) then bif decide (130048=130048)&&decide ((ac a2 8 (ac a1 2 (ac a0 4 (a8,a9,a10)))).2.2.length≤130048) then bif decide (2≤a7)&&decide (a7≤3) then bif decide (130048=130048)&&decide ((ac a2 8 (ac a1 2 (ac a0 4 (a8,a9,a10)))).2.2.length≤130048) then bif decide (130048=130048)&&decide ((ac a3 8 (ac a2 8 (ac a1 2 (ac a0 4 (a8,a9,a10))))).2.2.length≤130048) then bif decide (3≤a7)&&decide (a7≤3) then bif decide (130048=130048)&&decide ((ac a3 8 (ac a2 8 (ac a1 2 (ac a0 4 (a8,a9,a10))))).2.2.length≤130048) then bif decide (130048=130048)&&decide ((ac a4 8 (ac a3 8 (ac a2 8 (ac a1 2 (ac a0 4 (a8,a9,a10)))))).2.2.length≤130048)&&decide (a6.length≤2147483647) then some (Out.ret ((),((),()),((),a7,(bV (a5,a6,()) (ac a4 8 (ac a3 8 (ac a2 8 (ac a1 2 (ac a0 4 (a8,a9,a10))))))).1,(bV (a5,a6,()) (ac a4 8 (ac a3 8 (ac a2 8 (ac a1 2 (ac a0 4 (a8,a9,a10))))))).2.1,()),((bV (a5,a6,()) (ac a4 8 (ac a3 8 (ac a2 8 (ac a1 2 (ac a0 4 (a8,a9,a10))))))).2.2,130048,()),())) else none else none else bif decide (130048=130048)&&decide ((ac a3 8 (ac a2 8 (ac a1 2 (ac a0 4 (a8,a9,a10))))).2.2.length≤130048)&&decide (a6.length≤2147483647) then some (Out.ret ((),((),()),((),a7,(bV (a5,a6,()) (ac a3 8 (ac a2 8 (ac a1 2 (ac a0 4 (a8,a9,a10)))))).1,(bV (a5,a6,()) (ac a3 8 (ac a2 8 (ac a1 2 (ac a0 4 (a8,a9,a10)))))).2.1,()),((bV (a5,a6,()) (ac a3 8 (ac a2 8 (ac a1 2 (ac a0 4 (a8,a9,a10)))))).2.2,130048,()),())) else none else none else none else bif decide (130048=130048)&&decide ((ac a2 8 (ac a1 2 (ac a0 4 (a8,a9,a10)))).2.2.length≤130048) then bif decide (3≤a7)&&decide (a7≤3) then bif decide (130048=130048)&&decide ((ac a2 8 (ac a1 2 (ac a0 4 (a8,a9,a10)))).2.2.length≤130048) then bif decide (130048=130048)&&decide ((ac a4 8 (ac a2 8 (ac a1 2 (ac a0 4 (a8,a9,a10))))).2.2.length≤130048)&&decide (a6.length≤2147483647) then some (Out.ret ((),((),()),((),a7,(bV (a5,a6,()) (ac a4 8 (ac a2 8 (ac a1 2 (ac a0 4 (a8,a9,a10)))))).1,(bV (a5,a6,()) (ac a4 8 (ac a2 8 (ac a1 2 (ac a0 4 (a8,a9,a10)))))).2.1,()),((bV (a5,a6,()) (ac a4 8 (ac a2 8 (ac a1 2 (ac a0 4 (a8,a9,a10)))))).2.2,130048,()),())) else none else none else bif decide (130048=130048)&&decide ((ac a2 8 (ac a1 2 (ac a0 4 (a8,a9,a10)))).2.2.length≤130048)&&decide (a6.length≤2147483647) then some (Out.ret ((),((),()),((),a7,(bV (a5,a6,()) (ac a2 8 (ac a1 2 (ac a0 4 (a8,a9,a10))))).1,(bV (a5,a6,()) (ac a2 8 (ac a1 2 (ac a0 4 (a8,a9,a10))))).2.1,()),((bV (a5,a6,()) (ac a2 8 (ac a1 2 (ac a0 4 (a8,a9,a10))))).2.2,130048,()),())) else none else none else none else none else none else none
theorem PQ (a0 a1 a2 a3 a4:Int)(a5:Bool)(a6:List Int)(a7 a8:Int)(a9:Bool)(a10:List Int)(a11:Int):Io.run tt SN dr Im kJ Tryz.f129 (((a0,a1,a2,a3,a4,(a5,a6,()),()),(),()),((),()),((),a7,a8,a9,()),(a10,a11,()),())=yB a0 a1 a2 a3 a4 a5 a6 a7 a8 a9 a10 a11:=by kernel_rfl
theorem T5:HcOk prog 129 (ah kJ Eg):=by
 refine aj (n:=400) hm (cs:=Hr) (.cons Xc (.cons FM (.cons cF (.cons vo (.cons gg .nil))))) (lp:=Im) (fn:=Tryz.f129) (by kernel_rfl) (by kernel_rfl) (by kernel_rfl) kJ (.done (by kernel_rfl)) Eg ?_
 rintro ⟨⟨⟨(ix:Int),(cd:Int),(hi:Int),(st:Int),(sa:Int),⟨(rcz:Bool),(rcx:List Int),⟨⟩⟩,⟨⟩⟩,⟨⟩,⟨⟩⟩,⟨⟨⟩,⟨⟩⟩,⟨⟨⟩,(v:Int),(e:Int),(f:Bool),⟨⟩⟩,⟨(b:List Int),(m:Int),⟨⟩⟩,⟨⟩⟩ out hw ho
 obtain ⟨hg,ho⟩:=Tr.guard ho
 obtain ⟨hg,hok⟩:=Bool.and_eq_true_iff.1 hg
 obtain ⟨rfl,hb⟩:=bx (v:=v) (e:=e) (f:=f) hg
 have hbrcx:decide ((rcz,(rcx,())).2.1.length≤2147483647)=true:=hok
 cases ho
 refine (PQ ix cd hi st sa rcz rcx v e f b 130048).trans ?_
 unfold yB
 have hg:∀s:aW,s.2.2.length≤130048→(decide ((130048:Int)=130048)&&decide (s.2.2.length≤130048))=true:=fun s h=>by simpa using h
 have hb:(e,(f,b)).2.2.length≤130048:=hb
 show _=some (Out.ret ((),gz v (mB v (ix,(cd,(hi,(st,(sa,((rcz,(rcx,())),())))))) (e,f,b))))
 refine (aa (hg _ hb) _ _).trans ?_
 have l0_1:=aA ix 4 hb
 refine (aa (hg _ l0_1) _ _).trans ?_
 have l1_1:=aA cd 2 l0_1
 refine (aa (hg _ l1_1) _ _).trans ?_
 have l2_1:=aA hi 8 l1_1
 refine (aa (hg _ l2_1) _ _).trans ?_
 by_cases h3_1:2≤v∧v≤3
 ·refine (aa (by simpa using h3_1) _ _).trans ?_
  refine (aa (hg _ l2_1) _ _).trans ?_
  have l3_1:=aA st 8 l2_1
  refine (aa (hg _ l3_1) _ _).trans ?_
  by_cases h4_2:3≤v∧v≤3
  ·refine (aa (by simpa using h4_2) _ _).trans ?_
   refine (aa (hg _ l3_1) _ _).trans ?_
   have l4_2:=aA sa 8 l3_1
   refine (aa (Bool.and_eq_true_iff.2 ⟨hg _ l4_2,hbrcx⟩) _ _).trans ?_
   have l5_3:=kX (rcz,(rcx,())) l4_2
   simp only[mB,bA h3_1,bA h4_2]
  ·refine (ab (Bool.eq_false_iff.2 fun h'=>h4_2 (by simpa using h')) _ _).trans ?_
   refine (aa (Bool.and_eq_true_iff.2 ⟨hg _ l3_1,hbrcx⟩) _ _).trans ?_
   have l5_3:=kX (rcz,(rcx,())) l3_1
   simp only[mB,bA h3_1,bh h4_2]
 ·refine (ab (Bool.eq_false_iff.2 fun h'=>h3_1 (by simpa using h')) _ _).trans ?_
  refine (aa (hg _ l2_1) _ _).trans ?_
  by_cases h4_2:3≤v∧v≤3
  ·refine (aa (by simpa using h4_2) _ _).trans ?_
   refine (aa (hg _ l2_1) _ _).trans ?_
   have l4_2:=aA sa 8 l2_1
   refine (aa (Bool.and_eq_true_iff.2 ⟨hg _ l4_2,hbrcx⟩) _ _).trans ?_
   have l5_3:=kX (rcz,(rcx,())) l4_2
   simp only[mB,bh h3_1,bA h4_2]
  ·refine (ab (Bool.eq_false_iff.2 fun h'=>h4_2 (by simpa using h')) _ _).trans ?_
   refine (aa (Bool.and_eq_true_iff.2 ⟨hg _ l2_1,hbrcx⟩) _ _).trans ?_
   have l5_3:=kX (rcz,(rcx,())) l2_1
   simp only[mB,bh h3_1,bh h4_2]
def qG (v:Int)(xs:List aI.den)(s:aW):aW:=cB (mB v) xs s
abbrev qf:Io:=⟨[.ptr 0 0,.dat (.sl 223 aI) false false,.fnc 129 false [2]],oE,[],[],none⟩
def Gt (d:qf.In):Tr qf.Res:=.ite (me d.2&&xO d.1.2.1) (.ret (.ret ((),gA d.2.1.2.1 (qG d.2.1.2.1 d.1.2.1 (mf d.2))))) .no
abbrev OG:List (Nat×Hc):=[(194,ah cJ gI),(98,ah dd gT),(129,ah kJ Eg)]
theorem Pl:HcOk prog 128 (ah qf Gt):=
 HW (gx:=Wm) (one:=mB) (sps:=qG) (fun _ _ _=>rfl) (fun v _ _ h3=>DN v _ h3) (cs:=OG) (.cons fv (.cons cF (.cons T5 .nil))) (fn:=Tryz.f128) (by kernel_rfl) (by kernel_rfl) (by kernel_rfl) (by kernel_rfl) (by kernel_rfl) (by kernel_rfl) (by intros;kernel_rfl) (by intros;kernel_rfl)
def A5 (v:Int)(t:ag.den)(s:aW):aW:=qG v t.2.1 (bR t.1 s)
def HM (t:ag.den):Bool:=xO t.2.1
def dY (xs:List ag.den):Bool:=xs.all HM
abbrev iZ:Io:=⟨[.dat ag true false,.ptr 0 0],tH,[],[],none⟩
def xZ (d:iZ.In):Tr iZ.Res:=.ite (fB d.2.2&&HM d.1.1) (.ret (.ret ((),gz d.2.2.1.2.1 (A5 d.2.2.1.2.1 d.1.1 (fC d.2.2))))) .no
abbrev CI:List (Nat×Hc):=[(101,ah mp BS),(128,ah qf Gt)]
def OQ:Hd:=bz CI
def Db:Lp:=bo []
def vZ (a0:List Int)(a1:List aI.den)(a2 a3:Int)(a4:Bool)(a5:List Int)(a6:Int):Option iZ.Res:=bif decide (a6=130048)&&decide (a5.length≤130048) then bif decide (130048=130048)&&decide ((bR a0 (a3,a4,a5)).2.2.length≤130048)&&xO a1 then some (Out.ret ((),((),()),((),a2,(qG a2 a1 (bR a0 (a3,a4,a5))).1,(qG a2 a1 (bR a0 (a3,a4,a5))).2.1,()),((qG a2 a1 (bR a0 (a3,a4,a5))).2.2,130048,()),())) else none else none
theorem Li (a0:List Int)(a1:List aI.den)(a2 a3:Int)(a4:Bool)(a5:List Int)(a6:Int):Io.run tt OQ dr Db iZ Tryz.f127 (((a0,a1,()),(),()),((),()),((),a2,a3,a4,()),(a5,a6,()),())=vZ a0 a1 a2 a3 a4 a5 a6:=by kernel_rfl
theorem Pm:HcOk prog 127 (ah iZ xZ):=by
 refine aj (n:=400) hm (cs:=CI) (.cons FN (.cons Pl .nil)) (lp:=Db) (fn:=Tryz.f127) (by kernel_rfl) (by kernel_rfl) (by kernel_rfl) iZ (.done (by kernel_rfl)) xZ ?_
 rintro ⟨⟨⟨(t:List Int),(ps:List aI.den),⟨⟩⟩,⟨⟩,⟨⟩⟩,⟨⟨⟩,⟨⟩⟩,⟨⟨⟩,(v:Int),(e:Int),(f:Bool),⟨⟩⟩,⟨(b:List Int),(m:Int),⟨⟩⟩,⟨⟩⟩ out hw ho
 obtain ⟨hg,ho⟩:=Tr.guard ho
 obtain ⟨hg,h5⟩:=Bool.and_eq_true_iff.1 hg
 have h5:xO ps=true:=h5
 obtain ⟨rfl,hb⟩:=bx (v:=v) (e:=e) (f:=f) hg
 cases ho
 refine (Li t ps v e f b 130048).trans ?_
 unfold vZ
 refine (aa (by simpa using hb) _ _).trans ?_
 refine (aa (Bool.and_eq_true_iff.2 ⟨by simpa using il (s:=(e,f,b)) t hb,h5⟩) _ _).trans ?_
 rfl
theorem vI {s:aW}(v:Int)(t:ag.den)(h:s.2.2.length≤130048):(A5 v t s).2.2.length≤130048:=cY (fun x s=>DN v x) _ (il _ h)
def kg (v:Int)(xs:List ag.den)(s:aW):aW:=cB (A5 v) xs s
abbrev nD:Io:=⟨[.ptr 0 0,.dat (.sl 221 ag) false false,.fnc 127 false [2]],oE,[],[],none⟩
def BT (d:nD.In):Tr nD.Res:=.ite (me d.2&&dY d.1.2.1) (.ret (.ret ((),gA d.2.1.2.1 (kg d.2.1.2.1 d.1.2.1 (mf d.2))))) .no
abbrev Kh:List (Nat×Hc):=[(194,ah cJ gI),(98,ah dd gT),(127,ah iZ xZ)]
theorem rU:HcOk prog 126 (ah nD BT):=
 HW (gx:=HM) (one:=A5) (sps:=kg) (fun _ _ _=>rfl) (fun v _ _ h3=>vI v _ h3) (cs:=Kh) (.cons fv (.cons cF (.cons Pm .nil))) (fn:=Tryz.f126) (by kernel_rfl) (by kernel_rfl) (by kernel_rfl) (by kernel_rfl) (by kernel_rfl) (by kernel_rfl) (by intros;kernel_rfl) (by intros;kernel_rfl)
def r6 (v:Int)(p:aI.den)(s:aW):aW:=ar v (p.2.2.2.2.1 == 0) 3 3 (ar v (p.2.2.2.1 == 0) 2 3 (s))
def f9 (v:Int)(ps:List aI.den)(s:aW):aW:=ps.foldl (fun s p=>r6 v p s) s
def vG (v:Int)(ts:List ag.den)(s:aW):aW:=ts.foldl (fun s t=>f9 v t.2.1 s) s
def uc (v:Int)(m:ci.den):aW:=kg v m.2.1 (cb v 1 3 m.1 4 (vG v m.2.1 (ar v (m.1 == 0) 1 3 (bc v,(false,([]:List Int))))))
abbrev nC:Io:=⟨[dI,.dat ci true false],[],[],[dO,dI],none⟩
def Q8 (d:nC.In):Tr nC.Res:=.ite (dY d.1.2.1.2.1) (.ret (.ret ((bP (uc d.1.1 d.1.2.1),(bw (uc d.1.1 d.1.2.1),())),()))) .no
abbrev xo:List (Nat×Hc):=[(93,ah mm BR),(94,ah fG m3),(95,ah iv qN),(98,ah dd gT),(126,ah nD BT),(105,ah jq uA)]
def E6:Hd:=bz xo
abbrev fN:Lo:=⟨⟨(.any::be (.one (.ptr 3 0)::be (.one (.ptr 6 0)::dE (bJ (.one (.hol (.sl 221 ag))::.one (.hol (.int IntKind.i64))::.one (.hol (.int IntKind.i64))::bJ (.one (.hol (.sl 223 aI))::.one (.hol (.int IntKind.i64))::.one (.hol (.int IntKind.i64))::ai (dE (bJ (be []))))))))),[none,none,none,some [.hol (.int IntKind.i32),.hol (.sl 221 ag)],none,none,some [.ptr 12 0],none,none,none,none,none,some [.ptr 13 0,.hol (.int IntKind.i64),.hol (.int IntKind.i64),.hol .bool],some [.onl 5 (Ty.int IntKind.u8) 6658,.hol (.int IntKind.i64)]]⟩,[(.exit 2,⟨(.any::be (.one (.ptr 3 0)::be (.one (.ptr 6 0)::dE (bJ (.one (.hol (.sl 221 ag))::.one (.hol (.int IntKind.i64))::.one (.hol (.int IntKind.i64))::.any::ai (ai (bJ []))))))),[none,none,none,some [.hol (.int IntKind.i32),.hol (.sl 221 ag)],none,none,some [.ptr 12 0],none,none,none,none,none,some [.ptr 13 0,.hol (.int IntKind.i64),.hol (.int IntKind.i64),.hol .bool],some [.onl 5 (Ty.int IntKind.u8) 6658,.hol (.int IntKind.i64)]]⟩)]⟩
abbrev fM:Lo:=⟨⟨(.any::be (.one (.ptr 3 0)::be (.one (.ptr 6 0)::dE (bJ (.one (.hol (.sl 221 ag))::.one (.hol (.int IntKind.i64))::.one (.hol (.int IntKind.i64))::.any::ai (ai (bJ []))))))),[none,none,none,some [.hol (.int IntKind.i32),.hol (.sl 221 ag)],none,none,some [.ptr 12 0],none,none,none,none,none,some [.ptr 13 0,.hol (.int IntKind.i64),.hol (.int IntKind.i64),.hol .bool],some [.onl 5 (Ty.int IntKind.u8) 6658,.hol (.int IntKind.i64)]]⟩,[(.exit 0,⟨(.any::be (.one (.ptr 3 0)::be (.one (.ptr 6 0)::ai (ai (ai (bJ [])))))),[none,none,none,some [.hol (.int IntKind.i32),.hol (.sl 221 ag)],none,none,some [.ptr 12 0],none,none,none,none,none,some [.ptr 13 0,.hol (.int IntKind.i64),.hol (.int IntKind.i64),.hol .bool],some [.onl 5 (Ty.int IntKind.u8) 6658,.hol (.int IntKind.i64)]]⟩)]⟩
abbrev vr (th':Int)(ts':List ag.den)(v:Int)(s:aW):(Int×(List ag.den×Unit))×(Unit×((Int×(Int×(Bool×Unit)))×((List Int×(Int×Unit))×Unit))):=((th',(ts',())),((),((v,(s.1,(s.2.1,()))),((s.2.2,(130048,())),()))))
def oR (d:fN.st.den):Tr (ax fN.xs):=
 .ite (decide (d.1.2.2.2.2.2.1=0)&&(decide (d.1.2.2.2.2.1=(d.1.2.2.2.1.length:Int))&&(decide (d.2.2.2.2.1.2.1=130048)&&decide (d.2.2.2.2.1.1.length≤130048)))) (.ret (.ret ((),((d.1.1,(d.1.2.1,(d.1.2.2.1,()))),vr d.2.1.1 d.2.1.2.1 d.2.2.2.1.1 (f9 d.2.2.2.1.1 d.1.2.2.2.1 (d.2.2.2.1.2.1,(d.2.2.2.1.2.2.1,d.2.2.2.2.1.1))))))) .no
def oQ (d:fM.st.den):Tr (ax fM.xs):=
 .ite (decide (d.1.2.2.1=0)&&(decide (d.1.2.1=(d.1.1.length:Int))&&(decide (d.2.2.2.2.1.2.1=130048)&&decide (d.2.2.2.2.1.1.length≤130048)))) (.ret (.ret ((),((),vr d.2.1.1 d.2.1.2.1 d.2.2.2.1.1 (vG d.2.2.2.1.1 d.1.1 (d.2.2.2.1.2.1,(d.2.2.2.1.2.2.1,d.2.2.2.2.1.1))))))) .no
def qn:Lp:=bo [(5,aP fM oQ),(8,aP fN oR)]
def wP {R:Type}(h13:List ag.den)(h14 h15:Int)(h16:List aI.den)(h17 h18 h19:Int)(h20:List ag.den)(h21 h22:Int)(h23:Bool)(h24:List Int)(h25:Int)(next:List ag.den→Int→Int→List aI.den→Int→Int→Int→List ag.den→Int→Int→Bool→List Int→Int→Option R)(out:ax fN.xs→Option R):Option R:=bif decide (h18<h17) then bif decide (0≤h18)&&decide (h18<(↑h16.length:Int)) then bif decide (h25=130048)&&decide (h24.length≤130048) then bif decide (130048=130048)&&decide ((ar h21 ((h16.getD h18.toNat (0,0,0,0,0,(false,[],()),())).2.2.2.1 == 0) 2 3 (h22,h23,h24)).2.2.length≤130048) then next (h13) (h14) (h15) (h16) (h17) (IntKind.i64.wrap (h18+1)) (h19) (h20) (h21) ((ar h21 ((h16.getD h18.toNat (0,0,0,0,0,(false,[],()),())).2.2.2.2.1 == 0) 3 3 (ar h21 ((h16.getD h18.toNat (0,0,0,0,0,(false,[],()),())).2.2.2.1 == 0) 2 3 (h22,h23,h24))).1) ((ar h21 ((h16.getD h18.toNat (0,0,0,0,0,(false,[],()),())).2.2.2.2.1 == 0) 3 3 (ar h21 ((h16.getD h18.toNat (0,0,0,0,0,(false,[],()),())).2.2.2.1 == 0) 2 3 (h22,h23,h24))).2.1) ((ar h21 ((h16.getD h18.toNat (0,0,0,0,0,(false,[],()),())).2.2.2.2.1 == 0) 3 3 (ar h21 ((h16.getD h18.toNat (0,0,0,0,0,(false,[],()),())).2.2.2.1 == 0) 2 3 (h22,h23,h24))).2.2) (130048) else none else none else none else out (.ret ((),((h13,(h14,(h15,()))),((h19,(h20,())),((),((h21,(h22,(h23,()))),((h24,(h25,())),())))))))
def uX (n:Nat)(h13:List ag.den)(h14 h15:Int)(h16:List aI.den)(h17 h18 h19:Int)(h20:List ag.den)(h21 h22:Int)(h23:Bool)(h24:List Int)(h25:Int):Option (ax fN.xs):=gk tt E6 dr qn 0 Tryz.f59 (vQ Tryz.f59 (cI Tryz.f59 0) 0) n (fN.st.mk' ((h13,(h14,(h15,(h16,(h17,(h18,())))))),((h19,(h20,())),((),((h21,(h22,(h23,()))),((h24,(h25,())),())))))) (bI fN.xs)
theorem Qd (n:Nat)(h13:List ag.den)(h14 h15:Int)(h16:List aI.den)(h17 h18 h19:Int)(h20:List ag.den)(h21 h22:Int)(h23:Bool)(h24:List Int)(h25:Int):uX (n+1) h13 h14 h15 h16 h17 h18 h19 h20 h21 h22 h23 h24 h25=wP h13 h14 h15 h16 h17 h18 h19 h20 h21 h22 h23 h24 h25 (uX n) some:=by kernel_rfl
def wO {R:Type}(h3:List ag.den)(h4 h5 h6:Int)(h7:List ag.den)(h8 h9:Int)(h10:Bool)(h11:List Int)(h12:Int)(next:List ag.den→Int→Int→Int→List ag.den→Int→Int→Bool→List Int→Int→Option R)(out:ax fM.xs→Option R):Option R:=bif decide (h5<h4) then bif decide (0≤h5)&&decide (h5<(↑h3.length:Int)) then (oR ((h3,(h4,(h5,((h3.getD h5.toNat ([],[],())).2.1,((↑(List.length (h3.getD h5.toNat ([],[],())).2.1):Int),(0,())))))),((h6,(h7,())),((),((h8,(h9,(h10,()))),((h11,(h12,())),())))))).run fun y=>match y with | .ret ((),((x49,x50,x51,()),(x52,x53,()),(),(x54,x55,x56,()),(x57,x58,()),()))=>(next (x49) (x50) (IntKind.i64.wrap (x51+1)) (x52) (x53) (x54) (x55) (x56) (x57) (x58)) else none else out (.ret ((),((),((h6,(h7,())),((),((h8,(h9,(h10,()))),((h11,(h12,())),())))))))
def qj (n:Nat)(h3:List ag.den)(h4 h5 h6:Int)(h7:List ag.den)(h8 h9:Int)(h10:Bool)(h11:List Int)(h12:Int):Option (ax fM.xs):=gk tt E6 dr qn 0 Tryz.f59 (cI Tryz.f59 0) n (fM.st.mk' ((h3,(h4,(h5,()))),((h6,(h7,())),((),((h8,(h9,(h10,()))),((h11,(h12,())),())))))) (bI fM.xs)
theorem Qc (n:Nat)(h3:List ag.den)(h4 h5 h6:Int)(h7:List ag.den)(h8 h9:Int)(h10:Bool)(h11:List Int)(h12:Int):qj (n+1) h3 h4 h5 h6 h7 h8 h9 h10 h11 h12=wO h3 h4 h5 h6 h7 h8 h9 h10 h11 h12 (qj n) some:=by kernel_rfl
theorem DL {s:aW}(v:Int)(p:aI.den)(h:s.2.2.length≤130048):(r6 v p s).2.2.length≤130048:=bp _ _ _ _ (bp _ _ _ _ h)
theorem AZ {s:aW}(v:Int)(ps:List aI.den)(h:s.2.2.length≤130048):(f9 v ps s).2.2.length≤130048:=gl (fun x s=>DL v x) ps s h
theorem QO {s:aW}(v:Int)(ts:List ag.den)(h:s.2.2.length≤130048):(vG v ts s).2.2.length≤130048:=gl (one:=fun (t:ag.den) (s:aW)=>f9 v t.2.1 s) (fun x s h=>AZ v x.2.1 h) ts s h
theorem H0 (us:List ag.den)(n i th':Int)(ts':List ag.den)(v:Int){ps:List aI.den}(hl:ps.length≤maxLen):∀(k j:Nat) (s:aW),ps.length<j+k→j≤ps.length→s.2.2.length≤130048→
  uX k us n i ps (ps.length:Int) j th' ts' v s.1 s.2.1 s.2.2 130048=some (.ret ((),((us,(n,(i,()))),vr th' ts' v ((ps.drop j).foldl (fun s p=>r6 v p s) s)))):=by
 intro k
 have hg:∀s:aW,s.2.2.length≤130048→(decide ((130048:Int)=130048)&&decide (s.2.2.length≤130048))=true:=fun s h=>by simpa using h
 induction k with
 |zero=>intro j s h;omega
 |succ k ih=>
  intro j s h1 h2 q0
  rw[Qd]
  unfold wP
  by_cases hi:j<ps.length
  ·refine (aa (decide_eq_true (show (j:Int)<(ps.length:Int) by omega)) _ _).trans ?_
   refine (aa (by simpa using hi) _ _).trans ?_
   simp only[Int.toNat_natCast,aH hi,bb hi hl]
   refine (aa (hg _ q0) _ _).trans ?_
   have q1:=bp (s:=s) v (ps[j].2.2.2.1 == 0) 2 3 q0
   refine (aa (hg _ q1) _ _).trans ?_
   have q2:=bp (s:=ar v (ps[j].2.2.2.1 == 0) 2 3 s) v (ps[j].2.2.2.2.1 == 0) 3 3 q1
   rw[List.drop_eq_getElem_cons hi]
   exact ih (j+1) (r6 v ps[j] s) (by omega) (by omega) (DL _ _ q0)
  ·refine (ab (by simp;omega) _ _).trans ?_
   rw[List.drop_of_length_le (by omega)]
   rfl
theorem HZ {us:List ag.den}(th':Int)(ts':List ag.den)(v:Int)(hl:us.length≤maxLen):∀(k j:Nat) (s:aW),us.length<j+k→j≤us.length→s.2.2.length≤130048→
  qj k us (us.length:Int) j th' ts' v s.1 s.2.1 s.2.2 130048=some (.ret ((),((),vr th' ts' v ((us.drop j).foldl (fun s t=>f9 v t.2.1 s) s)))):=by
 intro k
 induction k with
 |zero=>intro j s h;omega
 |succ k ih=>
  intro j s h1 h2 h3
  rw[Qc]
  unfold wO
  by_cases hi:j<us.length
  ·refine (aa (decide_eq_true (show (j:Int)<(us.length:Int) by omega)) _ _).trans ?_
   refine (aa (by simpa using hi) _ _).trans ?_
   simp only[Int.toNat_natCast,aH hi]
   have c1:(decide ((0:Int)=0)&&(decide ((us[j].2.1.length:Int)=(us[j].2.1.length:Int))&&(decide ((130048:Int)=130048)&&decide (s.2.2.length≤130048))))=true:=by simpa using h3
   have e1:oR ((us,((us.length:Int),((j:Int),(us[j].2.1,((us[j].2.1.length:Int),(0,())))))),((th',(ts',())),((),((v,(s.1,(s.2.1,()))),((s.2.2,(130048,())),())))))=
     .ite true (.ret (.ret ((),((us,((us.length:Int),((j:Int),()))),vr th' ts' v (f9 v us[j].2.1 s))))) .no:=congrArg (fun c=>Tr.ite c _ _) c1
   rw[e1]
   show qj k us (us.length:Int) (IntKind.i64.wrap ((j:Int)+1)) th' ts' v (f9 v us[j].2.1 s).1 (f9 v us[j].2.1 s).2.1 (f9 v us[j].2.1 s).2.2 130048=_
   rw[bb hi hl,List.drop_eq_getElem_cons hi]
   exact ih (j+1) (f9 v us[j].2.1 s) (by omega) (by omega) (AZ _ _ h3)
  ·refine (ab (by simp;omega) _ _).trans ?_
   rw[List.drop_of_length_le (by omega)]
   rfl
def Ck (a0 a1:Int)(a2:List ag.den):Option nC.Res:=(oQ ((a2,((↑a2.length:Int),(0,()))),((a1,(a2,())),((),((a0,((ar a0 (a1 == 0) 1 3 (bc a0,false,[])).1,((ar a0 (a1 == 0) 1 3 (bc a0,false,[])).2.1,()))),(((ar a0 (a1 == 0) 1 3 (bc a0,false,[])).2.2,(130048,())),())))))).run fun y=>match y with | .ret ((),((),(x76,x77,()),(),(x78,x79,x80,()),(x81,x82,()),()))=>(bif decide (x82=130048)&&decide (x81.length≤130048) then bif decide (1≤x78)&&decide (x78≤3) then bif decide (130048=130048)&&decide (x81.length≤130048) then bif decide (130048=130048)&&decide ((ac x76 4 (x79,x80,x81)).2.2.length≤130048)&&dY x77 then bif decide (130048=130048)&&decide ((kg x78 x77 (ac x76 4 (x79,x80,x81))).2.2.length≤130048) then some (Out.ret ((bP (kg x78 x77 (ac x76 4 (x79,x80,x81))),bw (kg x78 x77 (ac x76 4 (x79,x80,x81))),()),())) else none else none else none else bif decide (130048=130048)&&decide (x81.length≤130048)&&dY x77 then bif decide (130048=130048)&&decide ((kg x78 x77 (x79,x80,x81)).2.2.length≤130048) then some (Out.ret ((bP (kg x78 x77 (x79,x80,x81)),bw (kg x78 x77 (x79,x80,x81)),()),())) else none else none else none)
theorem UM (a0 a1:Int)(a2:List ag.den):Io.run tt E6 dr qn nC Tryz.f59 ((a0,(a1,a2,()),()),())=Ck a0 a1 a2:=by kernel_rfl
theorem Xd:HcOk prog 59 (ah nC Q8):=by
 refine aj (n:=400) hm (cs:=xo) (.cons jM (.cons ey (.cons gg (.cons cF (.cons rU (.cons gD .nil)))))) (lp:=qn) (fn:=Tryz.f59) (by kernel_rfl) (by kernel_rfl) (by kernel_rfl) nC (.step (h0:=aP fM oQ) (by kernel_rfl) (aw (n:=400) hm (cs:=xo) (.cons jM (.cons ey (.cons gg (.cons cF (.cons rU (.cons gD .nil)))))) (lp:=qn) (fn:=Tryz.f59) (.step (h0:=aP fN oR) (by kernel_rfl) (aw (n:=400) hm (cs:=xo) (.cons jM (.cons ey (.cons gg (.cons cF (.cons rU (.cons gD .nil)))))) (lp:=qn) (fn:=Tryz.f59) (.done (by kernel_rfl)) fN oR ?_) (.done (by kernel_rfl))) fM oQ ?_) (.done (by kernel_rfl))) Q8 ?_
 ·rintro ⟨⟨(us:List ag.den),(n:Int),(i:Int),(ps:List aI.den),(pn:Int),(pj:Int),⟨⟩⟩,⟨⟨(th':Int),(ts':List ag.den),⟨⟩⟩,⟨⟩,⟨(v:Int),(e:Int),(f:Bool),⟨⟩⟩,⟨(b:List Int),(m:Int),⟨⟩⟩,⟨⟩⟩⟩ y hw hy
  obtain ⟨hg,hy⟩:=Tr.guard hy
  simp only[Bool.and_eq_true,decide_eq_true_eq] at hg
  obtain ⟨rfl,rfl,rfl,h4⟩:=hg
  have h4:b.length≤130048:=h4
  have hl:ps.length≤maxLen:=hw.1.2.2.2.1.1
  refine ⟨ps.length+1,(H0 us n i th' ts' v hl (ps.length+1) 0 (e,(f,b)) (by omega) (by omega) h4).trans ?_⟩
  rw[← hy];rfl
 ·rintro ⟨⟨(us:List ag.den),(n:Int),(i:Int),⟨⟩⟩,⟨⟨(th':Int),(ts':List ag.den),⟨⟩⟩,⟨⟩,⟨(v:Int),(e:Int),(f:Bool),⟨⟩⟩,⟨(b:List Int),(m:Int),⟨⟩⟩,⟨⟩⟩⟩ y hw hy
  obtain ⟨hg,hy⟩:=Tr.guard hy
  simp only[Bool.and_eq_true,decide_eq_true_eq] at hg
  obtain ⟨rfl,rfl,rfl,h4⟩:=hg
  have h4:b.length≤130048:=h4
  have hl:us.length≤maxLen:=hw.1.1.1
  refine ⟨us.length+1,(HZ th' ts' v hl (us.length+1) 0 (e,(f,b)) (by omega) (by omega) h4).trans ?_⟩
  rw[← hy];rfl
 ·rintro ⟨⟨(v:Int),⟨(th:Int),(ts:List ag.den),⟨⟩⟩,⟨⟩⟩,⟨⟩⟩ out hw ho
  obtain ⟨hg,ho⟩:=Tr.guard ho
  have hok:dY ts=true:=hg
  clear hg
  cases ho
  refine (UM v th ts).trans ?_
  unfold Ck
  have hg:∀s:aW,s.2.2.length≤130048→(decide ((130048:Int)=130048)&&decide (s.2.2.length≤130048))=true:=fun s h=>by simpa using h
  have q0:(bc v,(false,([]:List Int))).2.2.length≤130048:=by simp
  have q1:=bp (s:=(bc v,(false,([]:List Int)))) v (th == 0) 1 3 q0
  have c1:(decide ((0:Int)=0)&&(decide ((ts.length:Int)=(ts.length:Int))&&(decide ((130048:Int)=130048)&&decide ((ar v (th == 0) 1 3 (bc v,(false,([]:List Int)))).2.2.length≤130048))))=true:=by simpa using q1
  have e1:oQ ((ts,((ts.length:Int),(0,()))),((th,(ts,())),((),((v,((ar v (th == 0) 1 3 (bc v,(false,([]:List Int)))).1,((ar v (th == 0) 1 3 (bc v,(false,([]:List Int)))).2.1,()))),(((ar v (th == 0) 1 3 (bc v,(false,([]:List Int)))).2.2,(130048,())),())))))=
    .ite true (.ret (.ret ((),((),vr th ts v (vG v ts (ar v (th == 0) 1 3 (bc v,(false,([]:List Int))))))))) .no:=congrArg (fun c=>Tr.ite c _ _) c1
  rw[e1]
  have r0:=QO v ts q1
  refine (aa (hg _ r0) _ _).trans ?_
  by_cases h0_0:1≤v∧v≤3
  ·refine (aa (by simpa using h0_0) _ _).trans ?_
   refine (aa (hg _ r0) _ _).trans ?_
   have l0_0:=aA th 4 r0
   refine (aa (by rw[hok,Bool.and_true];exact hg _ l0_0) _ _).trans ?_
   have l1_1:=cY (fun x s=>vI v x) ts l0_0
   refine (aa (hg _ l1_1) _ _).trans ?_
   simp only[uc,bA h0_0]
  ·refine (ab (Bool.eq_false_iff.2 fun h'=>h0_0 (by simpa using h')) _ _).trans ?_
   refine (aa (by rw[hok,Bool.and_true];exact hg _ r0) _ _).trans ?_
   have l1_1:=cY (fun x s=>vI v x) ts r0
   refine (aa (hg _ l1_1) _ _).trans ?_
   simp only[uc,bh h0_0]
@[irreducible] noncomputable def Mc (v:Int)(b:List Int)(s:aN):aI.den×aN:=
 (((ae .i32 4 b s).1,((ae .i16 2 b (ae .i32 4 b s).2).1,((ae .i64 8 b (ae .i16 2 b (ae .i32 4 b s).2).2).1,((av .i64 8 v 2 3 b (ae .i64 8 b (ae .i16 2 b (ae .i32 4 b s).2).2).2).1,((av .i64 8 v 3 3 b (av .i64 8 v 2 3 b (ae .i64 8 b (ae .i16 2 b (ae .i32 4 b s).2).2).2).2).1,((qA b (av .i64 8 v 3 3 b (av .i64 8 v 2 3 b (ae .i64 8 b (ae .i16 2 b (ae .i32 4 b s).2).2).2).2).2).1,())))))),(qA b (av .i64 8 v 3 3 b (av .i64 8 v 2 3 b (ae .i64 8 b (ae .i16 2 b (ae .i32 4 b s).2).2).2).2).2).2)
@[irreducible] noncomputable def Gd (v:Int)(b:List Int)(s:aN):List aI.den×aN:=jP (Mc v b) b s
@[irreducible] noncomputable def VO (v:Int)(b:List Int)(s:aN):ag.den×aN:=(((cn b s).1,((Gd v b (cn b s).2).1,())),(Gd v b (cn b s).2).2)
def jS (p:aI.den):Nd:=bH [aG 3 p.1,aG 2 p.2.1,aG 4 p.2.2.1,aG 4 p.2.2.2.1,aG 4 p.2.2.2.2.1,jE p.2.2.2.2.2.1]
theorem VN {p:aI.den}(h:aI.wf p):bH [aG 3 (IntKind.i64.wrap p.1),aG 2 (IntKind.i64.wrap p.2.1),aG 4 p.2.2.1,aG 4 p.2.2.2.1,aG 4 p.2.2.2.2.1,jE p.2.2.2.2.2.1]=jS p:=by
 rw[lF (n:=p.1) h.1,gB (n:=p.2.1) h.2.1];rfl
def fb (t:ag.den):Nd:=bH [gO t.1,bj (t.2.1.map jS)]
@[irreducible] def br (m:ci.den):Nd:=bH [aG 3 m.1,bj (m.2.1.map fb)]
def A4 (x:Nd):aI.den:=(IntKind.i32.wrap (bf x 0).lab.2.1,(IntKind.i16.wrap (bf x 1).lab.2.1,((bf x 2).lab.2.1,((bf x 3).lab.2.1,((bf x 4).lab.2.1,((bf x 5).lab.2.2,()))))))
def r7 (x:Nd):ag.den:=((bf x 0).lab.2.2.2.1,((bf x 1).kids.map A4,()))
@[irreducible] def vH (n:Nd):ci.den:=(IntKind.i32.wrap (bf n 0).lab.2.1,((bf n 1).kids.map r7,()))
theorem Mb {p:aI.den}(h:aI.wf p):A4 (jS p)=p:=by
 obtain ⟨(ix:Int),(cd:Int),(hi:Int),(st:Int),(sa:Int),⟨(rcz:Bool),(rcx:List Int),⟨⟩⟩,⟨⟩⟩:=p
 show (IntKind.i32.wrap ix,(IntKind.i16.wrap cd,(hi,(st,(sa,((rcz,(rcx,())),()))))))=_
 rw[rx (n:=ix) h.1,KE (n:=cd) h.2.1]
 try rfl
theorem JG {t:ag.den}(h:ag.wf t):r7 (fb t)=t:=by
 obtain ⟨n,l,⟨⟩⟩:=t
 show (n,((l.map jS).map A4,()))=_
 rw[List.map_map,jg (f:=A4 ∘ jS) (l:=l) fun p hp=>Mb (h.2.1.2 p hp)]
theorem pK {m:ci.den}(h:ci.wf m):vH (br m)=m:=by
 obtain ⟨(th:Int),(ts:List ag.den),⟨⟩⟩:=m
 unfold vH br
 show (IntKind.i32.wrap th,((ts.map fb).map r7,()))=_
 rw[rx (n:=th) h.1,List.map_map,jg (f:=r7 ∘ fb) (l:=ts) fun t ht=>JG (h.2.1.2 t ht)]
abbrev hJ:Io:=⟨[.dat ci true false],[],[],[du],none⟩
def c7 (l:List ag.den):Bool:=decide (l.length≤4294967296)&&l.all fun t=>decide (t.2.1.length≤4294967296)
def sE (d:hJ.In):Tr hJ.Res:=.ite (c7 d.1.1.2.1) (.ret (.ret ((br d.1.1,()),()))) .no
abbrev p6:List (Nat×Hc):=[(181,ah mr BX),(180,ah nN Gw),(183,ah j5 yi),(184,ah jt uD),(182,ah hC su)]
def uQ:Hd:=bz p6
abbrev dP:Lo:=⟨⟨(.any::.one (.ptr 1 0)::.one (.ptr 2 0)::.one (.onl 91 ap 7)::.one (.hol (.int IntKind.i64))::.one (.onl 91 ap 11)::.one (.hol (.int IntKind.i64))::.any::ai (ai (ai (ai (dE (bJ (be []))))))),[none,some [.hol (.int IntKind.i32),.hol (.sl 221 ag)],some [.hol (.int IntKind.i64),.hol (.int IntKind.i64),.hol .bool,.onl 5 (Ty.int IntKind.u8) 1032,.onl 91 ap 1034]]⟩,[(.exit 2,⟨(.any::.one (.ptr 1 0)::.one (.ptr 2 0)::.one (.onl 91 ap 7)::.one (.hol (.int IntKind.i64))::.one (.onl 91 ap 11)::ai (ai (ai (ai (ai []))))),[none,some [.hol (.int IntKind.i32),.hol (.sl 221 ag)],some [.hol (.int IntKind.i64),.hol (.int IntKind.i64),.hol .bool,.onl 5 (Ty.int IntKind.u8) 1032,.onl 91 ap 1034]]⟩)]⟩
abbrev dN:Lo:=⟨⟨(.any::.one (.ptr 1 0)::.one (.ptr 2 0)::.one (.onl 91 ap 7)::.one (.hol (.int IntKind.i64))::.any::ai (ai (ai (ai (ai []))))),[none,some [.hol (.int IntKind.i32),.hol (.sl 221 ag)],some [.hol (.int IntKind.i64),.hol (.int IntKind.i64),.hol .bool,.onl 5 (Ty.int IntKind.u8) 1032,.onl 91 ap 1034]]⟩,[(.exit 0,⟨(.any::.one (.ptr 1 0)::.one (.ptr 2 0)::.one (.onl 91 ap 7)::ai (ai (ai (ai (ai (be [])))))),[none,some [.hol (.int IntKind.i32),.hol (.sl 221 ag)],some [.hol (.int IntKind.i64),.hol (.int IntKind.i64),.hol .bool,.onl 5 (Ty.int IntKind.u8) 1032,.onl 91 ap 1034]]⟩)]⟩
def m7 (d:dP.st.den):Tr (ax dP.xs):=
 .ite ((decide ((0:Int)≤d.1.2.1)&&decide (d.1.2.1<(d.2.1.2.1.length:Int)))&&((decide (d.1.2.2.1.length=0)&&decide (d.1.2.2.2.1=0))&&decide ((d.2.1.2.1.getD d.1.2.1.toNat ag.zero).2.1.length≤4294967296)))
  (.ret (.ret ((),((d.1.1,(d.1.2.1,((d.2.1.2.1.getD d.1.2.1.toNat ag.zero).2.1.map jS,()))),(d.2.1,(d.2.2.1,())))))) .no
def m6 (d:dN.st.den):Tr (ax dN.xs):=
 .ite ((decide (d.1.1.length=0)&&decide (d.1.2.1=0))&&c7 d.2.1.2.1)
  (.ret (.ret ((),((d.2.1.2.1.map fb,()),(d.2.1,(d.2.2.1,())))))) .no
def km:Lp:=bo [(4,aP dN m6),(8,aP dP m7)]
def q9 {R:Type}(h11:List ap.den)(h12:Int)(h13:List ap.den)(h14 h15:Int)(h16:List ag.den)(h17 h18:Int)(h19:Bool)(h20:List Int)(h21:List ap.den)(next:List ap.den→Int→List ap.den→Int→Int→List ag.den→Int→Int→Bool→List Int→List ap.den→Option R)(out:ax dP.xs→Option R):Option R:=bif decide (0≤h12)&&decide (h12<(↑h16.length:Int)) then bif decide (h14<(↑(List.length (h16.getD h12.toNat ([],[],())).2.1):Int)) then bif decide (0≤h12)&&decide (h12<(↑h16.length:Int)) then bif decide (0≤h14)&&decide (h14<(↑(List.length (h16.getD h12.toNat ([],[],())).2.1):Int)) then bif decide (h13.length+1≤4294967296) then next (h11) (h12) (h13++[Tre.mk (10,0,false,[],()) [Tre.mk (3,IntKind.i64.wrap (List.getD (h16.getD h12.toNat ([],[],())).2.1 h14.toNat (0,0,0,0,0,(false,[],()),())).1,false,[],()) [],Tre.mk (2,IntKind.i64.wrap (List.getD (h16.getD h12.toNat ([],[],())).2.1 h14.toNat (0,0,0,0,0,(false,[],()),())).2.1,false,[],()) [],Tre.mk (4,(List.getD (h16.getD h12.toNat ([],[],())).2.1 h14.toNat (0,0,0,0,0,(false,[],()),())).2.2.1,false,[],()) [],Tre.mk (4,(List.getD (h16.getD h12.toNat ([],[],())).2.1 h14.toNat (0,0,0,0,0,(false,[],()),())).2.2.2.1,false,[],()) [],Tre.mk (4,(List.getD (h16.getD h12.toNat ([],[],())).2.1 h14.toNat (0,0,0,0,0,(false,[],()),())).2.2.2.2.1,false,[],()) [],Tre.mk (8,0,(List.getD (h16.getD h12.toNat ([],[],())).2.1 h14.toNat (0,0,0,0,0,(false,[],()),())).2.2.2.2.2.1) []]]) (IntKind.i64.wrap (h14+1)) (h15) (h16) (h17) (h18) (h19) (h20) (h21) else none else none else none else out (.ret ((),((h11,(h12,(h13,()))),((h15,(h16,())),((h17,(h18,(h19,(h20,(h21,()))))),()))))) else none
def lV (n:Nat)(h11:List ap.den)(h12:Int)(h13:List ap.den)(h14 h15:Int)(h16:List ag.den)(h17 h18:Int)(h19:Bool)(h20:List Int)(h21:List ap.den):Option (ax dP.xs):=gk tt uQ dr km 0 Tryz.f120 (vQ Tryz.f120 (cI Tryz.f120 0) 0) n (dP.st.mk' ((h11,(h12,(h13,(h14,())))),((h15,(h16,())),((h17,(h18,(h19,(h20,(h21,()))))),())))) (bI dP.xs)
theorem Jc (n:Nat)(h11:List ap.den)(h12:Int)(h13:List ap.den)(h14 h15:Int)(h16:List ag.den)(h17 h18:Int)(h19:Bool)(h20:List Int)(h21:List ap.den):lV (n+1) h11 h12 h13 h14 h15 h16 h17 h18 h19 h20 h21=q9 h11 h12 h13 h14 h15 h16 h17 h18 h19 h20 h21 (lV n) some:=by kernel_rfl
def q8 {R:Type}(h2:List ap.den)(h3 h4:Int)(h5:List ag.den)(h6 h7:Int)(h8:Bool)(h9:List Int)(h10:List ap.den)(next:List ap.den→Int→Int→List ag.den→Int→Int→Bool→List Int→List ap.den→Option R)(out:ax dN.xs→Option R):Option R:=bif decide (h3<(↑h5.length:Int)) then (m7 ((h2,(h3,([],(0,())))),((h4,(h5,())),((h6,(h7,(h8,(h9,(h10,()))))),())))).run fun y=>match y with | .ret ((),((x43,x44,x45,()),(x46,x47,()),(x48,x49,x50,x51,x52,()),()))=>(bif decide (0≤x44)&&decide (x44<(↑x47.length:Int)) then bif decide (x43.length+1≤4294967296) then next (x43++[Tre.mk (10,0,false,[],()) [Tre.mk (5,0,false,(x47.getD x44.toNat ([],[],())).1,()) [],Tre.mk (9,0,false,[],()) x45]]) (IntKind.i64.wrap (x44+1)) (x46) (x47) (x48) (x49) (x50) (x51) (x52) else none else none) else out (.ret ((),((h2,()),((h4,(h5,())),((h6,(h7,(h8,(h9,(h10,()))))),())))))
def lU (n:Nat)(h2:List ap.den)(h3 h4:Int)(h5:List ag.den)(h6 h7:Int)(h8:Bool)(h9:List Int)(h10:List ap.den):Option (ax dN.xs):=gk tt uQ dr km 0 Tryz.f120 (cI Tryz.f120 0) n (dN.st.mk' ((h2,(h3,())),((h4,(h5,())),((h6,(h7,(h8,(h9,(h10,()))))),())))) (bI dN.xs)
theorem Jb (n:Nat)(h2:List ap.den)(h3 h4:Int)(h5:List ag.den)(h6 h7:Int)(h8:Bool)(h9:List Int)(h10:List ap.den):lU (n+1) h2 h3 h4 h5 h6 h7 h8 h9 h10=q8 h2 h3 h4 h5 h6 h7 h8 h9 h10 (lU n) some:=by kernel_rfl
theorem BA {ts:List ag.den}(hw:∀t∈ts,ag.wf t)(hl:ts.length≤maxLen){i:Nat}(hi:i<ts.length)(hp:(ts[i]).2.1.length≤4294967296)(acc:List Nd)(th a' b':Int)(z':Bool)(x':List Int)(l':List Nd):∀(k j:Nat) (o:List Nd),(ts[i]).2.1.length<j+k→j≤(ts[i]).2.1.length→o.length≤j→
  lV k acc i o j th ts a' b' z' x' l'=some (.ret ((),((acc,((i:Int),(o++((ts[i]).2.1.drop j).map jS,()))),((th,(ts,())),((a',(b',(z',(x',(l',()))))),()))))):=by
 intro k
 induction k with
 |zero=>intro j o h1 h2;omega
 |succ k ih=>
  intro j o h1 h2 h3
  rw[Jc]
  unfold q9
  refine (aa (by simp;omega) _ _).trans ?_
  have hti:=hw _ (List.getElem_mem hi)
  simp only[Int.toNat_natCast,aH hi]
  generalize ts[i]=t at hp h1 h2 ih hti ⊢
  by_cases hj:j<t.2.1.length
  ·refine (aa (decide_eq_true (show (j:Int)<(t.2.1.length:Int) by omega)) _ _).trans ?_
   refine (aa (by simp;omega) _ _).trans ?_
   refine (aa (by simp;omega) _ _).trans ?_
   refine (aa (decide_eq_true (show o.length+1≤4294967296 by omega)) _ _).trans ?_
   have hpw:=hti.2.1.2 _ (List.getElem_mem hj)
   have ih':=ih (j+1) (o++[jS t.2.1[j]]) (by omega) (by omega) (by simp;omega)
   have hd:t.2.1.drop j=t.2.1[j]::t.2.1.drop (j+1):=List.drop_eq_getElem_cons hj
   rw[hd,az (n:=(j:Int)+1) (by omega) (by omega)]
   have hgp:List.getD t.2.1 ((j:Int)).toNat aI.zero=t.2.1[j]:=by simp only[Int.toNat_natCast];exact aH hj
   refine Eq.trans ?_ (ih'.trans ?_)
   ·refine congrArg (fun x=>lV k acc i (o++[x]) _ th ts a' b' z' x' l') ?_
    show bH [aG 3 (IntKind.i64.wrap (List.getD t.2.1 ((j:Int)).toNat aI.zero).1),aG 2 (IntKind.i64.wrap (List.getD t.2.1 ((j:Int)).toNat aI.zero).2.1),aG 4 (List.getD t.2.1 ((j:Int)).toNat aI.zero).2.2.1,aG 4 (List.getD t.2.1 ((j:Int)).toNat aI.zero).2.2.2.1,aG 4 (List.getD t.2.1 ((j:Int)).toNat aI.zero).2.2.2.2.1,jE (List.getD t.2.1 ((j:Int)).toNat aI.zero).2.2.2.2.2.1]=_
    rw[hgp]
    exact VN hpw
   ·simp only[List.map_cons,List.append_assoc,List.singleton_append]
  ·refine (ab (decide_eq_false (show ¬(j:Int)<(t.2.1.length:Int) by omega)) _ _).trans ?_
   rw[List.drop_of_length_le (by omega)]
   simp
theorem Bz {ts:List ag.den}(hw:∀t∈ts,ag.wf t)(hl:ts.length≤maxLen)(hs:c7 ts=true)(th a' b':Int)(z':Bool)(x':List Int)(l':List Nd):∀(k j:Nat) (o:List Nd),ts.length<j+k→j≤ts.length→o.length≤j→
  lU k o j th ts a' b' z' x' l'=some (.ret ((),((o++(ts.drop j).map fb,()),((th,(ts,())),((a',(b',(z',(x',(l',()))))),()))))):=by
 intro k
 have hs1:=(Bool.and_eq_true _ _▸hs).1
 have hs2:=(Bool.and_eq_true _ _▸hs).2
 have hs1:ts.length≤4294967296:=of_decide_eq_true hs1
 induction k with
 |zero=>intro j o h1 h2;omega
 |succ k ih=>
  intro j o h1 h2 h3
  rw[Jb]
  unfold q8
  by_cases hj:j<ts.length
  ·refine (aa (decide_eq_true (show (j:Int)<(ts.length:Int) by omega)) _ _).trans ?_
   have hgp:ts.getD ((j:Int)).toNat ag.zero=ts[j]:=by simp only[Int.toNat_natCast];exact aH hj
   have hpl:(ts[j]).2.1.length≤4294967296:=of_decide_eq_true (List.all_eq_true.1 hs2 _ (List.getElem_mem hj))
   have c8:((decide ((0:Int)≤(j:Int))&&decide ((j:Int)<(ts.length:Int)))&&((decide (([]:List Nd).length=0)&&decide ((0:Int)=0))&&decide ((ts.getD ((j:Int)).toNat ag.zero).2.1.length≤4294967296)))=true:=by
    rw[hgp];simp;omega
   refine (aa c8 _ _).trans ?_
   refine (aa (by simp;omega) _ _).trans ?_
   refine (aa (decide_eq_true (show o.length+1≤4294967296 by omega)) _ _).trans ?_
   rw[az (n:=(j:Int)+1) (by omega) (by omega)]
   have ih':=ih (j+1) (o++[fb ts[j]]) (by omega) (by omega) (by simp;omega)
   have hd:ts.drop j=ts[j]::ts.drop (j+1):=List.drop_eq_getElem_cons hj
   rw[hd]
   refine Eq.trans ?_ (ih'.trans ?_)
   ·refine congrArg (fun x=>lU k (o++[x]) _ th ts a' b' z' x' l') ?_
    show (bH [gO (ts.getD ((j:Int)).toNat ag.zero).1,bj ((ts.getD ((j:Int)).toNat ag.zero).2.1.map jS)])=_
    rw[hgp];rfl
   ·simp only[List.map_cons,List.append_assoc,List.singleton_append]
  ·refine (ab (decide_eq_false (show ¬(j:Int)<(ts.length:Int) by omega)) _ _).trans ?_
   rw[List.drop_of_length_le (by omega)]
   simp
def wh (a0:Int)(a1:List ag.den):Option hJ.Res:=(m6 (([],(0,())),((a0,(a1,())),((0,(0,(false,([],([],()))))),())))).run fun y=>match y with | .ret ((),((x70,()),(x71,x72,()),(x73,x74,x75,x76,x77,()),()))=>(some (Out.ret ((Tre.mk (10,0,false,[],()) [Tre.mk (3,IntKind.i64.wrap x71,false,[],()) [],Tre.mk (9,0,false,[],()) x70],()),())))
theorem LA (a0:Int)(a1:List ag.den):Io.run tt uQ dr km hJ Tryz.f120 (((a0,a1,()),()),())=wh a0 a1:=by kernel_rfl
theorem DB:HcOk prog 120 (ah hJ sE):=by
 refine aj (n:=400) hm (cs:=p6) (.cons kU (.cons n6 (.cons kc (.cons iK (.cons kq .nil))))) (lp:=km) (fn:=Tryz.f120) (by kernel_rfl) (by kernel_rfl) (by kernel_rfl) hJ (.step (h0:=aP dN m6) (by kernel_rfl) (aw (n:=400) hm (cs:=p6) (.cons kU (.cons n6 (.cons kc (.cons iK (.cons kq .nil))))) (lp:=km) (fn:=Tryz.f120) (.step (h0:=aP dP m7) (by kernel_rfl) (aw (n:=400) hm (cs:=p6) (.cons kU (.cons n6 (.cons kc (.cons iK (.cons kq .nil))))) (lp:=km) (fn:=Tryz.f120) (.done (by kernel_rfl)) dP m7 ?_) (.done (by kernel_rfl))) dN m6 ?_) (.done (by kernel_rfl))) sE ?_
 ·rintro ⟨⟨(acc:List Nd),(i:Int),(o:List Nd),(j:Int),⟨⟩⟩,⟨⟨(th:Int),(ts:List ag.den),⟨⟩⟩,⟨(a':Int),(b':Int),(z':Bool),(x':List Int),(l':List Nd),⟨⟩⟩,⟨⟩⟩⟩ y hw hy
  obtain ⟨hg,hy⟩:=Tr.guard hy
  simp only[Bool.and_eq_true,decide_eq_true_eq] at hg
  obtain ⟨⟨h1,h2⟩,⟨h3,h4⟩,h5⟩:=hg
  have h1:0≤i:=h1
  have h2:i<(ts.length:Int):=h2
  have h3:o=[]:=List.eq_nil_of_length_eq_zero h3
  have h4:j=0:=h4
  obtain ⟨i,rfl⟩:=dZ h1
  subst h3
  subst h4
  have hi:i<ts.length:=by omega
  have hgp:ts.getD ((i:Int)).toNat ag.zero=ts[i]:=by simp only[Int.toNat_natCast];exact aH hi
  have h5:(ts.getD ((i:Int)).toNat ag.zero).2.1.length≤4294967296:=h5
  rw[hgp] at h5
  have hwt:ts.length≤maxLen∧∀t∈ts,ag.wf t:=by have:=hw.2.1.2.1;exact this
  refine ⟨(ts[i]).2.1.length+1,(BA hwt.2 hwt.1 hi h5 acc th a' b' z' x' l' ((ts[i]).2.1.length+1) 0 [] (by omega) (by omega) (by simp)).trans ?_⟩
  rw[← hy,← hgp,List.drop_zero]
  rfl
 ·rintro ⟨⟨(o:List Nd),(j:Int),⟨⟩⟩,⟨⟨(th:Int),(ts:List ag.den),⟨⟩⟩,⟨(a':Int),(b':Int),(z':Bool),(x':List Int),(l':List Nd),⟨⟩⟩,⟨⟩⟩⟩ y hw hy
  obtain ⟨hg,hy⟩:=Tr.guard hy
  simp only[Bool.and_eq_true,decide_eq_true_eq] at hg
  obtain ⟨⟨h3,h4⟩,h5⟩:=hg
  have h3:o=[]:=List.eq_nil_of_length_eq_zero h3
  have h4:j=0:=h4
  have h5:c7 ts=true:=h5
  subst h3
  subst h4
  have hwt:ts.length≤maxLen∧∀t∈ts,ag.wf t:=by have:=hw.2.1.2.1;exact this
  refine ⟨ts.length+1,(Bz hwt.2 hwt.1 h5 th a' b' z' x' l' (ts.length+1) 0 [] (by omega) (by omega) (by simp)).trans ?_⟩
  rw[← hy,List.drop_zero]
  rfl
 ·rintro ⟨⟨⟨(th:Int),(ts:List ag.den),⟨⟩⟩,⟨⟩⟩,⟨⟩⟩ out hw ho
  obtain ⟨hg,ho⟩:=Tr.guard ho
  have hg:c7 ts=true:=hg
  cases ho
  refine (LA th ts).trans ?_
  unfold wh
  have c1:((decide (([]:List Nd).length=0)&&decide ((0:Int)=0))&&c7 ts)=true:=by rw[hg];rfl
  refine (aa c1 _ _).trans ?_
  show _=some (Out.ret ((br (th,(ts,())),()),()))
  unfold br
  have hth:IntKind.i64.wrap th=th:=lF hw.1.1.1
  show some (Out.ret ((bH [aG 3 (IntKind.i64.wrap th),bj (ts.map fb)],()),()))=_
  rw[hth]
abbrev nQ:Io:=⟨[du],[],[],[.dat ci true false],none⟩
def J0 (d:nQ.In):Tr nQ.Res:=.ite (decide (aO d.1.1≤4294967296)) (.ret (.ret ((vH d.1.1,()),()))) .no
abbrev xt:List (Nat×Hc):=[(164,ah tl Ri),(165,ah gZ sr)]
def Fa:Hd:=bz xt
abbrev eT:Lo:=⟨⟨(be (.one (.ptr 2 0)::.one (.ptr 3 0)::.one (.hol (.sl 91 ap))::.one (.hol (.int IntKind.i64))::.one (.ptr 6 0)::.one (.hol (.sl 91 ap))::.one (.hol (.int IntKind.i64))::.any::ai (ai (ai (ai (dE (bJ []))))))),[none,none,some [.hol (.int IntKind.i32),.onl 221 ag 1028],some [.hol (.int IntKind.i32),.onl 221 ag 1540],none,none,some [.hol .str,.onl 223 aI 3076]]⟩,[(.exit 2,⟨(be (.one (.ptr 2 0)::.one (.ptr 3 0)::.one (.hol (.sl 91 ap))::.one (.hol (.int IntKind.i64))::.one (.ptr 6 0)::.any::ai (ai (ai (ai (dE (bJ (be [])))))))),[none,none,some [.hol (.int IntKind.i32),.onl 221 ag 1028],some [.hol (.int IntKind.i32),.onl 221 ag 1540],none,none,some [.hol .str,.onl 223 aI 3076]]⟩)]⟩
abbrev fZ:Lo:=⟨⟨(be (.one (.ptr 2 0)::.one (.ptr 3 0)::.one (.hol (.sl 91 ap))::.one (.hol (.int IntKind.i64))::ai (ai (ai (ai (ai [])))))),[none,none,some [.hol (.int IntKind.i32),.onl 221 ag 1028],some [.hol (.int IntKind.i32),.onl 221 ag 1540]]⟩,[(.exit 0,⟨(be (.one (.ptr 2 0)::.one (.ptr 3 0)::ai (ai (ai (ai (ai (be []))))))),[none,none,some [.hol (.int IntKind.i32),.onl 221 ag 1028],some [.hol (.int IntKind.i32),.onl 221 ag 1540]]⟩)]⟩
def p2 (d:eT.st.den):Tr (ax eT.xs):=
 .ite ((decide (d.1.2.2.2.1=0)&&decide (d.2.2.2.1.2.1.length=0))&&decide (aD d.1.2.2.1≤4294967296))
  (.ret (.ret ((),((d.1.1,(d.1.2.1,())),(d.2.1,(d.2.2.1,((d.2.2.2.1.1,(d.1.2.2.1.map A4,())),()))))))) .no
def sF (d:fZ.st.den):Tr (ax fZ.xs):=
 .ite ((decide (d.1.2.1=0)&&decide (d.2.2.1.2.1.length=0))&&decide (aD d.1.1≤4294967296))
  (.ret (.ret ((),((),(d.2.1,((d.2.2.1.1,(d.1.1.map r7,())),())))))) .no
def qs:Lp:=bo [(5,aP fZ sF),(10,aP eT p2)]
def uq {R:Type}(h7:List (Nd))(h8:Int)(h9:List (Nd))(h10 h11:Int)(h12:List ag.den)(h13:Int)(h14:List ag.den)(h15:List Int)(h16:List aI.den)(next:List (Nd)→Int→List (Nd)→Int→Int→List ag.den→Int→List ag.den→List Int→List aI.den→Option R)(out:ax eT.xs→Option R):Option R:=bif decide (h10<(↑h9.length:Int)) then bif decide (0≤h10)&&decide (h10<(↑h9.length:Int)) then bif decide (List.length (bf (Tre.mk (h9.getD h10.toNat (Tre.mk (0,0,false,[],()) [])).1 (h9.getD h10.toNat (Tre.mk (0,0,false,[],()) [])).2) 5).1.2.2.2.1≤4294967296) then bif decide (h16.length+1≤4294967296) then next (h7) (h8) (h9) (IntKind.i64.wrap (h10+1)) (h11) (h12) (h13) (h14) (h15) (h16++[(IntKind.i32.wrap (bf (Tre.mk (h9.getD h10.toNat (Tre.mk (0,0,false,[],()) [])).1 (h9.getD h10.toNat (Tre.mk (0,0,false,[],()) [])).2) 0).1.2.1,IntKind.i16.wrap (bf (Tre.mk (h9.getD h10.toNat (Tre.mk (0,0,false,[],()) [])).1 (h9.getD h10.toNat (Tre.mk (0,0,false,[],()) [])).2) 1).1.2.1,(bf (Tre.mk (h9.getD h10.toNat (Tre.mk (0,0,false,[],()) [])).1 (h9.getD h10.toNat (Tre.mk (0,0,false,[],()) [])).2) 2).1.2.1,(bf (Tre.mk (h9.getD h10.toNat (Tre.mk (0,0,false,[],()) [])).1 (h9.getD h10.toNat (Tre.mk (0,0,false,[],()) [])).2) 3).1.2.1,(bf (Tre.mk (h9.getD h10.toNat (Tre.mk (0,0,false,[],()) [])).1 (h9.getD h10.toNat (Tre.mk (0,0,false,[],()) [])).2) 4).1.2.1,(bf (Tre.mk (h9.getD h10.toNat (Tre.mk (0,0,false,[],()) [])).1 (h9.getD h10.toNat (Tre.mk (0,0,false,[],()) [])).2) 5).1.2.2,())]) else none else none else none else out (.ret ((),((h7,(h8,())),((h11,(h12,())),((h13,(h14,())),((h15,(h16,())),()))))))
def rP (n:Nat)(h7:List (Nd))(h8:Int)(h9:List (Nd))(h10 h11:Int)(h12:List ag.den)(h13:Int)(h14:List ag.den)(h15:List Int)(h16:List aI.den):Option (ax eT.xs):=gk tt Fa dr qs 0 Tryz.f79 (vQ Tryz.f79 (cI Tryz.f79 0) 0) n (eT.st.mk' ((h7,(h8,(h9,(h10,())))),((h11,(h12,())),((h13,(h14,())),((h15,(h16,())),()))))) (bI eT.xs)
theorem LM (n:Nat)(h7:List (Nd))(h8:Int)(h9:List (Nd))(h10 h11:Int)(h12:List ag.den)(h13:Int)(h14:List ag.den)(h15:List Int)(h16:List aI.den):rP (n+1) h7 h8 h9 h10 h11 h12 h13 h14 h15 h16=uq h7 h8 h9 h10 h11 h12 h13 h14 h15 h16 (rP n) some:=by kernel_rfl
def w4 {R:Type}(h1:List (Nd))(h2 h3:Int)(h4:List ag.den)(h5:Int)(h6:List ag.den)(next:List (Nd)→Int→Int→List ag.den→Int→List ag.den→Option R)(out:ax fZ.xs→Option R):Option R:=bif decide (h2<(↑h1.length:Int)) then bif decide (0≤h2)&&decide (h2<(↑h1.length:Int)) then bif decide (0≤h2)&&decide (h2<(↑h1.length:Int)) then (p2 ((h1,(h2,((bf (Tre.mk (h1.getD h2.toNat (Tre.mk (0,0,false,[],()) [])).1 (h1.getD h2.toNat (Tre.mk (0,0,false,[],()) [])).2) 1).2,(0,())))),((h3,(h4,())),((h5,(h6,())),(((bf (Tre.mk (h1.getD h2.toNat (Tre.mk (0,0,false,[],()) [])).1 (h1.getD h2.toNat (Tre.mk (0,0,false,[],()) [])).2) 0).1.2.2.2.1,([],())),()))))).run fun y=>match y with | .ret ((),((x35,x36,()),(x37,x38,()),(x39,x40,()),(x41,x42,()),()))=>(bif decide (x40.length+1≤4294967296) then next (x35) (IntKind.i64.wrap (x36+1)) (x37) (x38) (x39) (x40++[(x41,x42,())]) else none) else none else none else out (.ret ((),((),((h3,(h4,())),((h5,(h6,())),())))))
def vf (n:Nat)(h1:List (Nd))(h2 h3:Int)(h4:List ag.den)(h5:Int)(h6:List ag.den):Option (ax fZ.xs):=gk tt Fa dr qs 0 Tryz.f79 (cI Tryz.f79 0) n (fZ.st.mk' ((h1,(h2,())),((h3,(h4,())),((h5,(h6,())),())))) (bI fZ.xs)
theorem Qq (n:Nat)(h1:List (Nd))(h2 h3:Int)(h4:List ag.den)(h5:Int)(h6:List ag.den):vf (n+1) h1 h2 h3 h4 h5 h6=w4 h1 h2 h3 h4 h5 h6 (vf n) some:=by kernel_rfl
theorem Fq {ps:List Nd}(hb:aD ps≤4294967296)(c6:List Nd)(i th0:Int)(ts0:List ag.den)(th:Int)(ts:List ag.den)(tn:List Int):∀(k j:Nat) (o:List aI.den),ps.length<j+k→j≤ps.length→o.length≤j→
  rP k c6 i ps j th0 ts0 th ts tn o=some (.ret ((),((c6,(i,())),((th0,(ts0,())),((th,(ts,())),((tn,(o++(ps.drop j).map A4,())),())))))):=by
 intro k
 have hlen:=fq ps
 induction k with
 |zero=>intro j o h1 h2;omega
 |succ k ih=>
  intro j o h1 h2 h3
  rw[LM]
  unfold uq
  by_cases hj:j<ps.length
  ·refine (aa (decide_eq_true (show (j:Int)<(ps.length:Int) by omega)) _ _).trans ?_
   have hmem:=cR (List.getElem_mem hj)
   have ih':=ih (j+1) (o++[A4 ps[j]]) (by omega) (by omega) (by simp;omega)
   have hd:ps.drop j=ps[j]::ps.drop (j+1):=List.drop_eq_getElem_cons hj
   rw[hd,az (n:=(j:Int)+1) (by omega) (by omega)]
   simp only[Int.toNat_natCast,aH hj]
   generalize ps[j]=u at hmem ih' ⊢
   obtain ⟨ul,uk⟩:=u
   refine (aa (by simp;omega) _ _).trans ?_
   refine (aa (decide_eq_true (show (bf (Tre.mk ul uk) 5).lab.2.2.2.1.length≤4294967296 by have:=l6 (Tre.mk ul uk) 5;have:=QL (bf (Tre.mk ul uk) 5);omega)) _ _).trans ?_
   refine (aa (decide_eq_true (show o.length+1≤4294967296 by omega)) _ _).trans ?_
   refine ih'.trans ?_
   simp only[List.map_cons,List.append_assoc,List.singleton_append]
  ·refine (ab (decide_eq_false (show ¬(j:Int)<(ps.length:Int) by omega)) _ _).trans ?_
   rw[List.drop_of_length_le (by omega)]
   simp
theorem Ia {nds:List Nd}(hb:aD nds≤4294967296)(th0:Int)(ts0:List ag.den)(th:Int):∀(k j:Nat) (ts:List ag.den),nds.length<j+k→j≤nds.length→ts.length≤j→
  vf k nds j th0 ts0 th ts=some (.ret ((),((),((th0,(ts0,())),((th,(ts++(nds.drop j).map r7,())),()))))):=by
 intro k
 have hlen:=fq nds
 induction k with
 |zero=>intro j o h1 h2;omega
 |succ k ih=>
  intro j ts h1 h2 h3
  rw[Qq]
  unfold w4
  by_cases hj:j<nds.length
  ·refine (aa (decide_eq_true (show (j:Int)<(nds.length:Int) by omega)) _ _).trans ?_
   have hmem:=cR (List.getElem_mem hj)
   have ih':=ih (j+1) (ts++[r7 nds[j]]) (by omega) (by omega) (by simp;omega)
   have hd:nds.drop j=nds[j]::nds.drop (j+1):=List.drop_eq_getElem_cons hj
   rw[hd]
   simp only[Int.toNat_natCast,aH hj]
   generalize nds[j]=u at hmem ih' ⊢
   obtain ⟨ul,uk⟩:=u
   refine (aa (by simp;omega) _ _).trans ?_
   refine (aa (by simp;omega) _ _).trans ?_
   have hw1:=l6 (Tre.mk ul uk) 1
   have hw2:=fJ (bf (Tre.mk ul uk) 1)
   have cA:((decide ((0:Int)=0)&&decide (([]:List aI.den).length=0))&&decide (aD (bf (Tre.mk ul uk) 1).kids≤4294967296))=true:=by simp;omega
   refine (aa cA _ _).trans ?_
   refine (aa (decide_eq_true (show ts.length+1≤4294967296 by omega)) _ _).trans ?_
   rw[az (n:=(j:Int)+1) (by omega) (by omega)]
   refine ih'.trans ?_
   simp only[List.map_cons,List.append_assoc,List.singleton_append]
  ·refine (ab (decide_eq_false (show ¬(j:Int)<(nds.length:Int) by omega)) _ _).trans ?_
   rw[List.drop_of_length_le (by omega)]
   simp
def CB (a0:Nd):Option nQ.Res:=(sF (((bf (Tre.mk a0.1 a0.2) 1).2,(0,())),((0,([],())),((IntKind.i32.wrap (bf (Tre.mk a0.1 a0.2) 0).1.2.1,([],())),())))).run fun y=>match y with | .ret ((),((),(x53,x54,()),(x55,x56,()),()))=>(some (Out.ret (((x55,x56,()),()),())))
theorem U7 (a0:Nd):Io.run tt Fa dr qs nQ Tryz.f79 ((a0,()),())=CB a0:=by kernel_rfl
theorem Xq:HcOk prog 79 (ah nQ J0):=by
 refine aj (n:=400) hm (cs:=xt) (.cons qQ (.cons kp .nil)) (lp:=qs) (fn:=Tryz.f79) (by kernel_rfl) (by kernel_rfl) (by kernel_rfl) nQ (.step (h0:=aP fZ sF) (by kernel_rfl) (aw (n:=400) hm (cs:=xt) (.cons qQ (.cons kp .nil)) (lp:=qs) (fn:=Tryz.f79) (.step (h0:=aP eT p2) (by kernel_rfl) (aw (n:=400) hm (cs:=xt) (.cons qQ (.cons kp .nil)) (lp:=qs) (fn:=Tryz.f79) (.done (by kernel_rfl)) eT p2 ?_) (.done (by kernel_rfl))) fZ sF ?_) (.done (by kernel_rfl))) J0 ?_
 ·rintro ⟨⟨(c6:List Nd),(i:Int),(ps:List Nd),(j:Int),⟨⟩⟩,⟨⟨(th0:Int),(ts0:List ag.den),⟨⟩⟩,⟨(th:Int),(ts:List ag.den),⟨⟩⟩,⟨(tn:List Int),(o:List aI.den),⟨⟩⟩,⟨⟩⟩⟩ y hw hy
  obtain ⟨hg,hy⟩:=Tr.guard hy
  simp only[Bool.and_eq_true,decide_eq_true_eq] at hg
  obtain ⟨⟨h1,h2⟩,h3⟩:=hg
  have h1:j=0:=h1
  have h2:o=[]:=List.eq_nil_of_length_eq_zero h2
  have h3:aD ps≤4294967296:=h3
  subst h1
  subst h2
  refine ⟨ps.length+1,(Fq h3 c6 i th0 ts0 th ts tn (ps.length+1) 0 [] (by omega) (by omega) (by simp)).trans ?_⟩
  rw[← hy,List.drop_zero]
  rfl
 ·rintro ⟨⟨(nds:List Nd),(j:Int),⟨⟩⟩,⟨⟨(th0:Int),(ts0:List ag.den),⟨⟩⟩,⟨(th:Int),(ts:List ag.den),⟨⟩⟩,⟨⟩⟩⟩ y hw hy
  obtain ⟨hg,hy⟩:=Tr.guard hy
  simp only[Bool.and_eq_true,decide_eq_true_eq] at hg
  obtain ⟨⟨h1,h2⟩,h3⟩:=hg
  have h1:j=0:=h1
  have h2:ts=[]:=List.eq_nil_of_length_eq_zero h2
  have h3:aD nds≤4294967296:=h3
  subst h1
  subst h2
  refine ⟨nds.length+1,(Ia h3 th0 ts0 th (nds.length+1) 0 [] (by omega) (by omega) (by simp)).trans ?_⟩
  rw[← hy,List.drop_zero]
  rfl
 ·rintro ⟨⟨(n:Nd),⟨⟩⟩,⟨⟩⟩ out hw ho
  obtain ⟨hg,ho⟩:=Tr.guard ho
  have hg:aO n≤4294967296:=of_decide_eq_true hg
  cases ho
  refine (U7 n).trans ?_
  unfold CB
  obtain ⟨nl,nk⟩:=n
  have hw1:=l6 (Tre.mk nl nk) 1
  have hw2:=fJ (bf (Tre.mk nl nk) 1)
  have c1:((decide ((0:Int)=0)&&decide (([]:List ag.den).length=0))&&decide (aD (bf (Tre.mk nl nk) 1).kids≤4294967296))=true:=by simp;omega
  refine (aa c1 _ _).trans ?_
  show _=some (Out.ret ((vH (Tre.mk nl nk),()),()))
  unfold vH
  rfl
abbrev jd:Io:=⟨[.dat ci true false],[],[],[.dat ci true false],none⟩
def ym (d:jd.In):Tr jd.Res:=.ite (c7 d.1.1.2.1&&decide (aO (br d.1.1)≤4294967296)) (.ret (.ret ((d.1.1,()),()))) .no
abbrev CU:List (Nat×Hc):=[(120,ah hJ sE),(83,ah eJ Er),(79,ah nQ J0)]
def O3:Hd:=bz CU
def Dn:Lp:=bo []
def wi (a0:Int)(a1:List ag.den):Option jd.Res:=bif c7 a1 then bif decide (aO (Tre.mk (br (a0,a1,())).1 (br (a0,a1,())).2)≤4294967296) then bif decide (aO (Tre.mk (br (a0,a1,())).1 (br (a0,a1,())).2)≤4294967296) then some (Out.ret ((vH (Tre.mk (br (a0,a1,())).1 (br (a0,a1,())).2),()),())) else none else none else none
theorem LB (a0:Int)(a1:List ag.den):Io.run tt O3 dr Dn jd Tryz.f56 (((a0,a1,()),()),())=wi a0 a1:=by kernel_rfl
theorem PB:HcOk prog 56 (ah jd ym):=by
 refine aj (n:=400) hm (cs:=CU) (.cons DB (.cons FR (.cons Xq .nil))) (lp:=Dn) (fn:=Tryz.f56) (by kernel_rfl) (by kernel_rfl) (by kernel_rfl) jd (.done (by kernel_rfl)) ym ?_
 rintro ⟨⟨m,⟨⟩⟩,⟨⟩⟩ out hw ho
 obtain ⟨hg,ho⟩:=Tr.guard ho
 simp only[Bool.and_eq_true,decide_eq_true_eq] at hg
 obtain ⟨h1,h2⟩:=hg
 have h1:c7 m.2.1=true:=h1
 have h2:aO (br m)≤4294967296:=h2
 cases ho
 have hf:=pK (m:=m) hw.1.1
 obtain ⟨th,ts,⟨⟩⟩:=m
 refine (LB th ts).trans ?_
 unfold wi
 generalize br (th,(ts,()))=n at h2 hf ⊢
 obtain ⟨nl,nk⟩:=n
 refine (aa h1 _ _).trans ?_
 refine (aa (decide_eq_true h2) _ _).trans ?_
 refine (aa (decide_eq_true h2) _ _).trans ?_
 exact congrArg (fun x=>some (Out.ret ((x,()),()))) hf
@[irreducible] noncomputable def jT (v:Int)(m:ci.den):List Int×Int:=jO 1 true v (br m)
def V0 (v:Int)(p:aI.den):List Int×Int:=aU (aM p.1 4,0) (aU (aM p.2.1 2,0) (aU (aM p.2.2.1 8,0) (aU (if 2≤v∧v≤3 then (aM p.2.2.2.1 8,0) else ([],0)) (aU (if 3≤v∧v≤3 then (aM p.2.2.2.2.1 8,0) else ([],0)) (aU (Az p.2.2.2.2.2.1) (([],0)))))))
def V1 (v:Int)(t:ag.den):List Int×Int:=aU (pI t.1) (aU (eY (V0 v) t.2.1) ([],0))
def aaG (v:Int)(m:ci.den):List Int×Int:=aU (if 1≤v∧v≤3 then (aM m.1 4,0) else ([],0)) (aU (eY (V1 v) m.2.1) (([],0)))
theorem Wri.frP (v:Int)(p:aI.den)(h:Wm p=true):Wri (V0 v p) (mB v p):=(Wri.put p.1 4).seq ((Wri.put p.2.1 2).seq ((Wri.put p.2.2.1 8).seq ((Wri.hasE v 2 3 p.2.2.2.1 8).seq ((Wri.hasE v 3 3 p.2.2.2.2.1 8).seq ((Wri.blob p.2.2.2.2.2.1 (of_decide_eq_true h)).seq (Wri.nop))))))
theorem Wri.frT (v:Int)(t:ag.den)(h:HM t=true):Wri (V1 v t) (A5 v t):=(Wri.str _).seq ((Wri.items fun p hp=>Wri.frP v p (List.all_eq_true.1 h p hp)).seq Wri.nop)
abbrev ZB:Fd:=cE [112,97,114,116] 10 0 3 [cE [105,110,100,101,120] 3 0 3 [],cE [99,111,100,101] 2 0 3 [],cE [104,105,103,104] 4 0 3 [],cE [115,116,97,98,108,101] 4 2 3 [],cE [115,116,97,114,116] 4 3 3 [],cE [114,101,99,115] 8 0 3 []]
abbrev abi:Fd:=cE [116,111,112,105,99] 10 0 3 [cE [110,97,109,101] 5 0 3 [],cE [112,97,114,116,115] 9 0 3 [ZB]]
theorem Yj {v:Int}{p:aI.den}(hv:0≤v∧v≤3)(h:aI.wf p):t9 ZB v (jS p)=V0 v p:=by
 unfold jS V0
 rw[l7,bE (aK hv.1 hv.2),bE (aK hv.1 hv.2),bE (aK hv.1 hv.2),ld,ld,bE (aK hv.1 hv.2),cT,b8 (by decide) (w:=4) rfl (dy h.1),b8 (by decide) (w:=2) rfl (r4 h.2.1),b8 (by decide) (w:=8) rfl (d9 p.2.2.1),b8 (by decide) (w:=8) rfl (d9 p.2.2.2.1),b8 (by decide) (w:=8) rfl (d9 p.2.2.2.2.1),L7]
 try rfl
theorem Yk {v:Int}{t:ag.den}(hv:0≤v∧v≤3)(h:ag.wf t):t9 abi v (fb t)=V1 v t:=by
 unfold fb V1
 rw[l7,bE (aK hv.1 hv.2),bE (aK hv.1 hv.2),cT,ua,iO,dk fun p hp=>Yj hv (h.2.1.2 p hp)]
def oF (v:Int)(p:aI.den):Bool:=(if 2≤v∧v≤3 then true else (p.2.2.2.1 == 0))&&((if 3≤v∧v≤3 then true else (p.2.2.2.2.1 == 0)))
theorem Qu {v:Int}{p:aI.den}(hv:0≤v∧v≤3):(aX ZB v (jS p)).2=oF v p:=by
 unfold jS oF
 rw[ig,bG (aK hv.1 hv.2),bG (aK hv.1 hv.2),bG (aK hv.1 hv.2),dT,dT,bG (aK hv.1 hv.2),fi,aS (by decide) (by decide),aS (by decide) (by decide),aS (by decide) (by decide),aS (by decide) (by decide),aS (by decide) (by decide),aS (by decide) (by decide),bU,bU]
 simp only[Bool.true_and,Bool.and_true]
theorem Qv {v:Int}{t:ag.den}(hv:0≤v∧v≤3):(aX abi v (fb t)).2=t.2.1.all (oF v):=by
 unfold fb
 rw[ig,bG (aK hv.1 hv.2),bG (aK hv.1 hv.2),fi,aS (by decide) (by decide),e9]
 simp only[Qu hv,Bool.true_and,Bool.and_true]
theorem L8 (m:ci.den):dz t5 [aG 3 m.1,bj (m.2.1.map fb)]:=by
 unfold t5 cr
 refine ay (aL (by decide) (by decide)) (ay ?_ cx)
 refine dn _ _ fun t=>eH rfl (ay (aL (by decide) (by decide)) (ay ?_ cx))
 exact dn _ _ fun p=>eH rfl (ay (aL (by decide) (by decide)) (ay (aL (by decide) (by decide)) (ay (aL (by decide) (by decide)) (ay (aL (by decide) (by decide)) (ay (aL (by decide) (by decide)) (ay (aL (by decide) (by decide)) cx))))))
def IJ (v:Int)(m:ci.den):Bool:=(if 1≤v∧v≤3 then true else (m.1 == 0))&&((m.2.1.all fun t=>t.2.1.all (oF v)))
theorem QN {e v:Int}{p:aI.den}:r6 v p (e,(false,([]:List Int)))=(ip e (oF v p),(false,[])):=by
 unfold r6 oF
 rw[cG,cG,cQ]
theorem A3 {v:Int}:∀{ps:List aI.den} {e:Int},f9 v ps (e,(false,([]:List Int)))=(ip e (ps.all (oF v)),(false,[]))
 |[],e=>by rw[List.all_nil,ij];rfl
 |p::ps,e=>by
  show f9 v ps (r6 v p (e,(false,[])))=_
  rw[QN,A3,cQ,List.all_cons]
theorem DM {v:Int}:∀{ts:List ag.den} {e:Int},vG v ts (e,(false,([]:List Int)))=(ip e (ts.all fun t=>t.2.1.all (oF v)),(false,[]))
 |[],e=>by rw[List.all_nil,ij];rfl
 |t::ts,e=>by
  show vG v ts (f9 v t.2.1 (e,(false,[])))=_
  rw[A3,DM,cQ,List.all_cons]
theorem abc {v:Int}{m:ci.den}(hv:0≤v∧v≤3):(bu v t5 [aG 3 m.1,bj (m.2.1.map fb)]).2=IJ v m:=by
 unfold t5 cr IJ
 rw[dT,bG (aK hv.1 hv.2),fi,aS (by decide) (by decide),e9,bU]
 simp only[Qv hv,Bool.true_and,Bool.and_true,Bool.and_assoc]
theorem abM {v:Int}{m:ci.den}(hv:0≤v∧v≤3)(hm:ci.wf m):bZ v t5 [aG 3 m.1,bj (m.2.1.map fb)]=aaG v m:=by
 unfold t5 cr aaG
 rw[ld,bE (aK hv.1 hv.2),cT,b8 (by decide) (w:=4) rfl (dy hm.1),iO,dk fun t ht=>Yk hv (hm.2.1.2 t ht)]
 try rfl
theorem ZF {v:Int}{m:ci.den}(hm:ci.wf m)(hok:dY m.2.1=true):(bP (uc v m),bw (uc v m))=jT v m:=by
 unfold jT br
 rw[xN (t:=t5) rfl Vq rfl (L8 m)]
 unfold uc
 rw[cG,DM,cQ]
 have hr:Wri (aaG v m) _:=(Wri.hasE v 1 3 m.1 4).seq ((Wri.items fun t ht=>Wri.frT v t (List.all_eq_true.1 hok t ht)).seq (Wri.nop))
 refine (hr.done _).trans ?_
 unfold bc
 by_cases hv:v<0∨3<v
 ·rw[if_pos hv,if_pos hv]
  exact if_pos (by simp[ip])
 rw[if_neg hv,if_neg hv]
 have hv':0≤v∧v≤3:=by omega
 rw[abc hv',abM hv' hm]
 show (if ip 0 (IJ v m)≠0 then _ else _)=_
 cases hz:IJ v m
 ·exact (if_pos (by decide)).trans (show ([],ip 0 (IJ v m))=_ by rw[hz];rfl)
 ·exact (if_neg (by decide)).trans (if_neg (by decide)).symm
abbrev td:Io:=nC
def Mq (d:td.In):Tr td.Res:=.ite (dY d.1.2.1.2.1) (.ret (.ret (((jT d.1.1 d.1.2.1).1,((jT d.1.1 d.1.2.1).2,())),()))) .no
theorem T2:HcOk prog 59 (ah td Mq):=by
 refine HcOk.weakW Xd ?_
 rintro ⟨⟨(v:Int),m,⟨⟩⟩,⟨⟩⟩ y hw hy
 obtain ⟨hg,hy⟩:=Tr.guard hy
 refine (aa hg _ _).trans ?_
 rw[← hy]
 have h:=ZF (v:=v) (m:=m) hw.1.2.1 hg
 show some (Out.ret ((bP (uc v m),(bw (uc v m),())),()))=some (Out.ret (((jT v m).1,((jT v m).2,())),()))
 rw[← h]
theorem Dz {v:Int}{p:aI.den}(h:oF v p=true):(¬(2≤v∧v≤3)→p.2.2.2.1=0)∧(¬(3≤v∧v≤3)→p.2.2.2.2.1=0):=by
 unfold oF at h
 simp only[Bool.and_eq_true] at h
 exact ⟨fun hv=>by have h1:=h.1;rw[if_neg hv] at h1;simpa using h1,fun hv=>by have h1:=h.2;rw[if_neg hv] at h1;simpa using h1⟩
theorem Rd.frP {b:List Int}{p:aI.den}{v:Int}(h:aI.wf p)(hk:oF v p=true)(hb:p.2.2.2.2.2.1.2.1.length≤2147483647):Rd b p (V0 v p) (Mc v b):=
 (Rd.seq (fun a r=>(a,r)) (Rd.num (dA h.1)) (Rd.seq (fun a r=>(a,r)) (Rd.num (oB h.2.1)) (Rd.seq (fun a r=>(a,r)) (Rd.num (eg h.2.2.1)) (Rd.seq (fun a r=>(a,r)) (Rd.opt (eg h.2.2.2.1) (Dz hk).1) (Rd.seq (fun a r=>(a,r)) (Rd.opt (eg h.2.2.2.2.1) (Dz hk).2) (Rd.seq (fun a r=>(a,r)) (Rd.blo p.2.2.2.2.2.1 hb) (Rd.nop b ()))))))).congr fun s=>by unfold Mc;rfl
theorem Rd.frT {b:List Int}{t:ag.den}{v:Int}(h:ag.wf t)(hk:t.2.1.all (oF v)=true)(hb:HM t=true):Rd b t (V1 v t) (VO v b):=
 (Rd.seq (fun a r=>(a,r)) (Rd.txt t.1) (Rd.seq (fun a r=>(a,r)) (Rd.list fun p hp=>Rd.frP (h.2.1.2 p hp) (List.all_eq_true.1 hk p hp) (of_decide_eq_true (List.all_eq_true.1 hb p hp))) (Rd.nop b ()))).congr fun s=>by unfold VO Gd;rfl
def L2 (m:ci.den):Bool:=dY m.2.1&&(c7 m.2.1&&decide (8*aO (br m)≤4294967296))
theorem EW (p:aI.den):iU aI p=p.2.2.2.2.2.1.2.1.length+7:=by
 show 1+(1+(1+(1+(1+((1+(iU bs p.2.2.2.2.2.1.2.1+0))+0)))))=_
 rw[Zy];omega
theorem EX (t:ag.den):iU ag t=(t.1.length+1)+(((t.2.1.map (iU aI)).sum+1)+0):=rfl
theorem Wg (m:ci.den):iU ci m=1+(((m.2.1.map (iU ag)).sum+1)+(0)):=rfl
theorem aaJ (p:aI.den):aO (jS p)≤3*iU aI p:=by
 rw[EW]
 show aO (bH [aG 3 p.1,aG 2 p.2.1,aG 4 p.2.2.1,aG 4 p.2.2.2.1,aG 4 p.2.2.2.2.1,jE p.2.2.2.2.2.1])≤_
 rw[iP,aJ,aJ,aJ,aJ,aJ,aJ,cw,ct,ct,ct,ct,ct,JC]
 omega
theorem aaK (t:ag.den):aO (fb t)≤3*iU ag t:=by
 have h:=oC (T:=aI) (F:=jS) (c:=3) (l:=t.2.1) fun p _=>aaJ p
 rw[EX]
 show aO (bH [gO t.1,bj (t.2.1.map jS)])≤_
 rw[iP,aJ,aJ,cw,vF,jl]
 omega
theorem Wn {m:ci.den}(h:iU ci m≤1048576):L2 m=true:=by
 have h1:=oC (T:=ag) (F:=fb) (c:=3) (l:=m.2.1) fun t _=>aaK t
 have h2:=oz (T:=ag) (fun t=>by rw[EX];omega) m.2.1
 rw[Wg] at h
 have hp:∀t∈m.2.1,t.2.1.length≤1048576∧∀p∈t.2.1,p.2.2.2.2.2.1.2.1.length≤1048576:=fun t htm=>by
  have a1:=qJ (T:=ag) htm
  rw[EX] at a1
  have a2:=oz (T:=aI) (fun p=>by rw[EW];omega) t.2.1
  refine ⟨by omega,fun p hp=>?_⟩
  have a3:=qJ (T:=aI) hp
  rw[EW] at a3
  omega
 unfold L2
 simp only[Bool.and_eq_true,decide_eq_true_eq]
 refine ⟨?_,?_,?_⟩
 ·refine List.all_eq_true.2 fun t htm=>List.all_eq_true.2 fun p hpm=>decide_eq_true ?_
  have:=(hp t htm).2 p hpm
  omega
 ·unfold c7
  simp only[Bool.and_eq_true,decide_eq_true_eq]
  refine ⟨by omega,List.all_eq_true.2 fun t htm=>decide_eq_true ?_⟩
  have:=(hp t htm).1
  omega
 ·unfold br
  show 8*aO (bH [aG 3 m.1,bj (m.2.1.map fb)])≤_
  rw[iP,aJ,aJ,cw,ct,jl]
  omega
abbrev bd:Ty:=.prod (.int .i32) (.prod (.int .i32) (.prod (.int .i64) (.prod (.int .i32) .unit)))
abbrev am:Ty:=.prod .str (.prod (.sl 198 bd) .unit)
abbrev dF:Ty:=.prod (.int .i32) (.prod (.int .i8) (.prod (.sl 196 am) .unit))
def mC (v:Int)(p:bd.den)(s:aW):aW:=cb v 0 0 p.2.2.2.1 4 (ac p.2.2.1 8 (cb v 3 3 p.2.1 4 (ac p.1 4 (s))))
theorem DS {s:aW}(v:Int)(p:bd.den)(h:s.2.2.length≤130048):(mC v p s).2.2.length≤130048:=
 f7 _ _ _ _ _ (aA _ _ (f7 _ _ _ _ _ (aA _ _ (h))))
abbrev kK:Io:=⟨[.dat bd true false,.ptr 0 0],tH,[],[],none⟩
def Eh (d:kK.In):Tr kK.Res:=.ite (fB d.2.2) (.ret (.ret ((),gz d.2.2.1.2.1 (mC d.2.2.1.2.1 d.1.1 (fC d.2.2))))) .no
abbrev Hs:List (Nat×Hc):=[(98,ah dd gT),(111,ah kI xX),(95,ah iv qN)]
def SO:Hd:=bz Hs
def Ip:Lp:=bo []
def yC (a0 a1 a2 a3 a4 a5:Int)(a6:Bool)(a7:List Int)(a8:Int):Option kK.Res:=bif decide (a8=130048)&&decide (a7.length≤130048) then bif decide (130048=130048)&&decide ((ac a0 4 (a5,a6,a7)).2.2.length≤130048) then bif decide (3≤a4)&&decide (a4≤3) then bif decide (130048=130048)&&decide ((ac a0 4 (a5,a6,a7)).2.2.length≤130048) then bif decide (130048=130048)&&decide ((ac a1 4 (ac a0 4 (a5,a6,a7))).2.2.length≤130048) then bif decide (130048=130048)&&decide ((ac a2 8 (ac a1 4 (ac a0 4 (a5,a6,a7)))).2.2.length≤130048) then bif decide (0≤a4)&&decide (a4≤0) then bif decide (130048=130048)&&decide ((ac a2 8 (ac a1 4 (ac a0 4 (a5,a6,a7)))).2.2.length≤130048) then some (Out.ret ((),((),()),((),a4,(ac a3 4 (ac a2 8 (ac a1 4 (ac a0 4 (a5,a6,a7))))).1,(ac a3 4 (ac a2 8 (ac a1 4 (ac a0 4 (a5,a6,a7))))).2.1,()),((ac a3 4 (ac a2 8 (ac a1 4 (ac a0 4 (a5,a6,a7))))).2.2,130048,()),())) else none else some (Out.ret ((),((),()),((),a4,(ac a2 8 (ac a1 4 (ac a0 4 (a5,a6,a7)))).1,(ac a2 8 (ac a1 4 (ac a0 4 (a5,a6,a7)))).2.1,()),((ac a2 8 (ac a1 4 (ac a0 4 (a5,a6,a7)))).2.2,130048,()),())) else none else none else none else bif decide (130048=130048)&&decide ((ac a0 4 (a5,a6,a7)).2.2.length≤130048) then bif decide (130048=130048)&&decide ((ac a2 8 (ac a0 4 (a5,a6,a7))).2.2.length≤130048) then bif decide (0≤a4)&&decide (a4≤0) then bif decide (130048=130048)&&decide ((ac a2 8 (ac a0 4 (a5,a6,a7))).2.2.length≤130048) then some (Out.ret ((),((),()),((),a4,(ac a3 4 (ac a2 8 (ac a0 4 (a5,a6,a7)))).1,(ac a3 4 (ac a2 8 (ac a0 4 (a5,a6,a7)))).2.1,()),((ac a3 4 (ac a2 8 (ac a0 4 (a5,a6,a7)))).2.2,130048,()),())) else none else some (Out.ret ((),((),()),((),a4,(ac a2 8 (ac a0 4 (a5,a6,a7))).1,(ac a2 8 (ac a0 4 (a5,a6,a7))).2.1,()),((ac a2 8 (ac a0 4 (a5,a6,a7))).2.2,130048,()),())) else none else none else none else none
theorem PR (a0 a1 a2 a3 a4 a5:Int)(a6:Bool)(a7:List Int)(a8:Int):Io.run tt SO dr Ip kK Tryz.f115 (((a0,a1,a2,a3,()),(),()),((),()),((),a4,a5,a6,()),(a7,a8,()),())=yC a0 a1 a2 a3 a4 a5 a6 a7 a8:=by kernel_rfl
theorem T6:HcOk prog 115 (ah kK Eh):=by
 refine aj (n:=400) hm (cs:=Hs) (.cons cF (.cons vo (.cons gg .nil))) (lp:=Ip) (fn:=Tryz.f115) (by kernel_rfl) (by kernel_rfl) (by kernel_rfl) kK (.done (by kernel_rfl)) Eh ?_
 rintro ⟨⟨⟨(ix:Int),(ep:Int),(ti:Int),(mo:Int),⟨⟩⟩,⟨⟩,⟨⟩⟩,⟨⟨⟩,⟨⟩⟩,⟨⟨⟩,(v:Int),(e:Int),(f:Bool),⟨⟩⟩,⟨(b:List Int),(m:Int),⟨⟩⟩,⟨⟩⟩ out hw ho
 obtain ⟨hg,ho⟩:=Tr.guard ho
 obtain ⟨rfl,hb⟩:=bx (v:=v) (e:=e) (f:=f) hg
 cases ho
 refine (PR ix ep ti mo v e f b 130048).trans ?_
 unfold yC
 have hg:∀s:aW,s.2.2.length≤130048→(decide ((130048:Int)=130048)&&decide (s.2.2.length≤130048))=true:=fun s h=>by simpa using h
 have hb:(e,(f,b)).2.2.length≤130048:=hb
 show _=some (Out.ret ((),gz v (mC v (ix,(ep,(ti,(mo,())))) (e,f,b))))
 refine (aa (hg _ hb) _ _).trans ?_
 have l0_1:=aA ix 4 hb
 refine (aa (hg _ l0_1) _ _).trans ?_
 by_cases h1_1:3≤v∧v≤3
 ·refine (aa (by simpa using h1_1) _ _).trans ?_
  refine (aa (hg _ l0_1) _ _).trans ?_
  have l1_1:=aA ep 4 l0_1
  refine (aa (hg _ l1_1) _ _).trans ?_
  have l2_2:=aA ti 8 l1_1
  refine (aa (hg _ l2_2) _ _).trans ?_
  by_cases h3_2:0≤v∧v≤0
  ·refine (aa (by simpa using h3_2) _ _).trans ?_
   refine (aa (hg _ l2_2) _ _).trans ?_
   have l3_2:=aA mo 4 l2_2
   simp only[mC,bA h1_1,bA h3_2]
  ·refine (ab (Bool.eq_false_iff.2 fun h'=>h3_2 (by simpa using h')) _ _).trans ?_
   simp only[mC,bA h1_1,bh h3_2]
 ·refine (ab (Bool.eq_false_iff.2 fun h'=>h1_1 (by simpa using h')) _ _).trans ?_
  refine (aa (hg _ l0_1) _ _).trans ?_
  have l2_2:=aA ti 8 l0_1
  refine (aa (hg _ l2_2) _ _).trans ?_
  by_cases h3_2:0≤v∧v≤0
  ·refine (aa (by simpa using h3_2) _ _).trans ?_
   refine (aa (hg _ l2_2) _ _).trans ?_
   have l3_2:=aA mo 4 l2_2
   simp only[mC,bh h1_1,bA h3_2]
  ·refine (ab (Bool.eq_false_iff.2 fun h'=>h3_2 (by simpa using h')) _ _).trans ?_
   simp only[mC,bh h1_1,bh h3_2]
def qH (v:Int)(xs:List bd.den)(s:aW):aW:=cB (mC v) xs s
abbrev qg:Io:=⟨[.ptr 0 0,.dat (.sl 198 bd) false false,.fnc 115 false [2]],oE,[],[],none⟩
def Gu (d:qg.In):Tr qg.Res:=.ite (me d.2) (.ret (.ret ((),gA d.2.1.2.1 (qH d.2.1.2.1 d.1.2.1 (mf d.2))))) .no
abbrev OH:List (Nat×Hc):=[(194,ah cJ gI),(98,ah dd gT),(115,ah kK Eh)]
theorem Pn:HcOk prog 114 (ah qg Gu):=
 qi (one:=mC) (sps:=qH) (fun _ _ _=>rfl) (fun v _ _ h3=>DS v _ h3) (cs:=OH) (.cons fv (.cons cF (.cons T6 .nil))) (fn:=Tryz.f114) (by kernel_rfl) (by kernel_rfl) (by kernel_rfl) (by kernel_rfl) (by kernel_rfl) (by kernel_rfl) (by intros;kernel_rfl) (by intros;kernel_rfl)
def A9 (v:Int)(t:am.den)(s:aW):aW:=qH v t.2.1 (bR t.1 s)
abbrev i3:Io:=⟨[.dat am true false,.ptr 0 0],tH,[],[],none⟩
def x7 (d:i3.In):Tr i3.Res:=.ite (fB d.2.2) (.ret (.ret ((),gz d.2.2.1.2.1 (A9 d.2.2.1.2.1 d.1.1 (fC d.2.2))))) .no
abbrev CJ:List (Nat×Hc):=[(101,ah mp BS),(114,ah qg Gu)]
def OR:Hd:=bz CJ
def Dc:Lp:=bo []
def v6 (a0:List Int)(a1:List bd.den)(a2 a3:Int)(a4:Bool)(a5:List Int)(a6:Int):Option i3.Res:=bif decide (a6=130048)&&decide (a5.length≤130048) then bif decide (130048=130048)&&decide ((bR a0 (a3,a4,a5)).2.2.length≤130048) then some (Out.ret ((),((),()),((),a2,(qH a2 a1 (bR a0 (a3,a4,a5))).1,(qH a2 a1 (bR a0 (a3,a4,a5))).2.1,()),((qH a2 a1 (bR a0 (a3,a4,a5))).2.2,130048,()),())) else none else none
theorem Lk (a0:List Int)(a1:List bd.den)(a2 a3:Int)(a4:Bool)(a5:List Int)(a6:Int):Io.run tt OR dr Dc i3 Tryz.f113 (((a0,a1,()),(),()),((),()),((),a2,a3,a4,()),(a5,a6,()),())=v6 a0 a1 a2 a3 a4 a5 a6:=by kernel_rfl
theorem Po:HcOk prog 113 (ah i3 x7):=by
 refine aj (n:=400) hm (cs:=CJ) (.cons FN (.cons Pn .nil)) (lp:=Dc) (fn:=Tryz.f113) (by kernel_rfl) (by kernel_rfl) (by kernel_rfl) i3 (.done (by kernel_rfl)) x7 ?_
 rintro ⟨⟨⟨(t:List Int),(ps:List bd.den),⟨⟩⟩,⟨⟩,⟨⟩⟩,⟨⟨⟩,⟨⟩⟩,⟨⟨⟩,(v:Int),(e:Int),(f:Bool),⟨⟩⟩,⟨(b:List Int),(m:Int),⟨⟩⟩,⟨⟩⟩ out hw ho
 obtain ⟨hg,ho⟩:=Tr.guard ho
 obtain ⟨rfl,hb⟩:=bx (v:=v) (e:=e) (f:=f) hg
 cases ho
 refine (Lk t ps v e f b 130048).trans ?_
 unfold v6
 refine (aa (by simpa using hb) _ _).trans ?_
 refine (aa (by simpa using il (s:=(e,f,b)) t hb) _ _).trans ?_
 rfl
theorem vK {s:aW}(v:Int)(t:am.den)(h:s.2.2.length≤130048):(A9 v t s).2.2.length≤130048:=cY (fun x s=>DS v x) _ (il _ h)
def kh (v:Int)(xs:List am.den)(s:aW):aW:=cB (A9 v) xs s
abbrev nG:Io:=⟨[.ptr 0 0,.dat (.sl 196 am) false false,.fnc 113 false [2]],oE,[],[],none⟩
def BU (d:nG.In):Tr nG.Res:=.ite (me d.2) (.ret (.ret ((),gA d.2.1.2.1 (kh d.2.1.2.1 d.1.2.1 (mf d.2))))) .no
abbrev Ki:List (Nat×Hc):=[(194,ah cJ gI),(98,ah dd gT),(113,ah i3 x7)]
theorem rV:HcOk prog 112 (ah nG BU):=
 qi (one:=A9) (sps:=kh) (fun _ _ _=>rfl) (fun v _ _ h3=>vK v _ h3) (cs:=Ki) (.cons fv (.cons cF (.cons Po .nil))) (fn:=Tryz.f112) (by kernel_rfl) (by kernel_rfl) (by kernel_rfl) (by kernel_rfl) (by kernel_rfl) (by kernel_rfl) (by intros;kernel_rfl) (by intros;kernel_rfl)
def r8 (v:Int)(p:bd.den)(s:aW):aW:=ar v (p.2.2.2.1 == 0) 0 0 (ar v (p.2.1 == 0) 3 3 (s))
def ga (v:Int)(ps:List bd.den)(s:aW):aW:=ps.foldl (fun s p=>r8 v p s) s
def vJ (v:Int)(ts:List am.den)(s:aW):aW:=ts.foldl (fun s t=>ga v t.2.1 s) s
def ue (v:Int)(m:dF.den):aW:=kh v m.2.2.1 (cb v 2 3 m.2.1 1 (ac m.1 4 (vJ v m.2.2.1 (ar v (m.2.1 == 0) 2 3 (bc v,(false,([]:List Int)))))))
abbrev nF:Io:=⟨[dI,.dat dF true false],[],[],[dO,dI],none⟩
def Q9 (d:nF.In):Tr nF.Res:=.ret (.ret ((bP (ue d.1.1 d.1.2.1),(bw (ue d.1.1 d.1.2.1),())),()))
abbrev xp:List (Nat×Hc):=[(93,ah mm BR),(94,ah fG m3),(95,ah iv qN),(98,ah dd gT),(106,ah zt Zj),(112,ah nG BU),(105,ah jq uA)]
def E7:Hd:=bz xp
abbrev fQ:Lo:=⟨⟨(.any::be (.one (.ptr 3 0)::be (.one (.ptr 6 0)::dE (bJ (.one (.hol (.sl 196 am))::.one (.hol (.int IntKind.i64))::.one (.hol (.int IntKind.i64))::bJ (.one (.hol (.sl 198 bd))::.one (.hol (.int IntKind.i64))::.one (.hol (.int IntKind.i64))::ai (ai (be [])))))))),[none,none,none,some [.hol (.int IntKind.i32),.hol (.int IntKind.i8),.hol (.sl 196 am)],none,none,some [.ptr 12 0],none,none,none,none,none,some [.ptr 13 0,.hol (.int IntKind.i64),.hol (.int IntKind.i64),.hol .bool],some [.onl 5 (Ty.int IntKind.u8) 6658,.hol (.int IntKind.i64)]]⟩,[(.exit 2,⟨(.any::be (.one (.ptr 3 0)::be (.one (.ptr 6 0)::dE (bJ (.one (.hol (.sl 196 am))::.one (.hol (.int IntKind.i64))::.one (.hol (.int IntKind.i64))::.any::ai (ai (dE []))))))),[none,none,none,some [.hol (.int IntKind.i32),.hol (.int IntKind.i8),.hol (.sl 196 am)],none,none,some [.ptr 12 0],none,none,none,none,none,some [.ptr 13 0,.hol (.int IntKind.i64),.hol (.int IntKind.i64),.hol .bool],some [.onl 5 (Ty.int IntKind.u8) 6658,.hol (.int IntKind.i64)]]⟩)]⟩
abbrev fP:Lo:=⟨⟨(.any::be (.one (.ptr 3 0)::be (.one (.ptr 6 0)::dE (bJ (.one (.hol (.sl 196 am))::.one (.hol (.int IntKind.i64))::.one (.hol (.int IntKind.i64))::.any::ai (ai (dE []))))))),[none,none,none,some [.hol (.int IntKind.i32),.hol (.int IntKind.i8),.hol (.sl 196 am)],none,none,some [.ptr 12 0],none,none,none,none,none,some [.ptr 13 0,.hol (.int IntKind.i64),.hol (.int IntKind.i64),.hol .bool],some [.onl 5 (Ty.int IntKind.u8) 6658,.hol (.int IntKind.i64)]]⟩,[(.exit 0,⟨(.any::be (.one (.ptr 3 0)::be (.one (.ptr 6 0)::ai (ai (ai (dE [])))))),[none,none,none,some [.hol (.int IntKind.i32),.hol (.int IntKind.i8),.hol (.sl 196 am)],none,none,some [.ptr 12 0],none,none,none,none,none,some [.ptr 13 0,.hol (.int IntKind.i64),.hol (.int IntKind.i64),.hol .bool],some [.onl 5 (Ty.int IntKind.u8) 6658,.hol (.int IntKind.i64)]]⟩)]⟩
abbrev vt (re' lv':Int)(ts':List am.den)(v:Int)(s:aW):(Int×(Int×(List am.den×Unit)))×(Unit×((Int×(Int×(Bool×Unit)))×((List Int×(Int×Unit))×Unit))):=((re',(lv',(ts',()))),((),((v,(s.1,(s.2.1,()))),((s.2.2,(130048,())),()))))
def oU (d:fQ.st.den):Tr (ax fQ.xs):=
 .ite (decide (d.1.2.2.2.2.2.1=0)&&(decide (d.1.2.2.2.2.1=(d.1.2.2.2.1.length:Int))&&(decide (d.2.2.2.2.1.2.1=130048)&&decide (d.2.2.2.2.1.1.length≤130048)))) (.ret (.ret ((),((d.1.1,(d.1.2.1,(d.1.2.2.1,()))),vt d.2.1.1 d.2.1.2.1 d.2.1.2.2.1 d.2.2.2.1.1 (ga d.2.2.2.1.1 d.1.2.2.2.1 (d.2.2.2.1.2.1,(d.2.2.2.1.2.2.1,d.2.2.2.2.1.1))))))) .no
def oT (d:fP.st.den):Tr (ax fP.xs):=
 .ite (decide (d.1.2.2.1=0)&&(decide (d.1.2.1=(d.1.1.length:Int))&&(decide (d.2.2.2.2.1.2.1=130048)&&decide (d.2.2.2.2.1.1.length≤130048)))) (.ret (.ret ((),((),vt d.2.1.1 d.2.1.2.1 d.2.1.2.2.1 d.2.2.2.1.1 (vJ d.2.2.2.1.1 d.1.1 (d.2.2.2.1.2.1,(d.2.2.2.1.2.2.1,d.2.2.2.2.1.1))))))) .no
def qo:Lp:=bo [(5,aP fP oT),(8,aP fQ oU)]
def wS {R:Type}(h15:List am.den)(h16 h17:Int)(h18:List bd.den)(h19 h20 h21 h22:Int)(h23:List am.den)(h24 h25:Int)(h26:Bool)(h27:List Int)(h28:Int)(next:List am.den→Int→Int→List bd.den→Int→Int→Int→Int→List am.den→Int→Int→Bool→List Int→Int→Option R)(out:ax fQ.xs→Option R):Option R:=bif decide (h20<h19) then bif decide (0≤h20)&&decide (h20<(↑h18.length:Int)) then bif decide (h28=130048)&&decide (h27.length≤130048) then bif decide (130048=130048)&&decide ((ar h24 ((h18.getD h20.toNat (0,0,0,0,())).2.1 == 0) 3 3 (h25,h26,h27)).2.2.length≤130048) then next (h15) (h16) (h17) (h18) (h19) (IntKind.i64.wrap (h20+1)) (h21) (h22) (h23) (h24) ((ar h24 ((h18.getD h20.toNat (0,0,0,0,())).2.2.2.1 == 0) 0 0 (ar h24 ((h18.getD h20.toNat (0,0,0,0,())).2.1 == 0) 3 3 (h25,h26,h27))).1) ((ar h24 ((h18.getD h20.toNat (0,0,0,0,())).2.2.2.1 == 0) 0 0 (ar h24 ((h18.getD h20.toNat (0,0,0,0,())).2.1 == 0) 3 3 (h25,h26,h27))).2.1) ((ar h24 ((h18.getD h20.toNat (0,0,0,0,())).2.2.2.1 == 0) 0 0 (ar h24 ((h18.getD h20.toNat (0,0,0,0,())).2.1 == 0) 3 3 (h25,h26,h27))).2.2) (130048) else none else none else none else out (.ret ((),((h15,(h16,(h17,()))),((h21,(h22,(h23,()))),((),((h24,(h25,(h26,()))),((h27,(h28,())),())))))))
def uZ (n:Nat)(h15:List am.den)(h16 h17:Int)(h18:List bd.den)(h19 h20 h21 h22:Int)(h23:List am.den)(h24 h25:Int)(h26:Bool)(h27:List Int)(h28:Int):Option (ax fQ.xs):=gk tt E7 dr qo 0 Tryz.f45 (vQ Tryz.f45 (cI Tryz.f45 0) 0) n (fQ.st.mk' ((h15,(h16,(h17,(h18,(h19,(h20,())))))),((h21,(h22,(h23,()))),((),((h24,(h25,(h26,()))),((h27,(h28,())),())))))) (bI fQ.xs)
theorem Qg (n:Nat)(h15:List am.den)(h16 h17:Int)(h18:List bd.den)(h19 h20 h21 h22:Int)(h23:List am.den)(h24 h25:Int)(h26:Bool)(h27:List Int)(h28:Int):uZ (n+1) h15 h16 h17 h18 h19 h20 h21 h22 h23 h24 h25 h26 h27 h28=wS h15 h16 h17 h18 h19 h20 h21 h22 h23 h24 h25 h26 h27 h28 (uZ n) some:=by kernel_rfl
def wR {R:Type}(h4:List am.den)(h5 h6 h7 h8:Int)(h9:List am.den)(h10 h11:Int)(h12:Bool)(h13:List Int)(h14:Int)(next:List am.den→Int→Int→Int→Int→List am.den→Int→Int→Bool→List Int→Int→Option R)(out:ax fP.xs→Option R):Option R:=bif decide (h6<h5) then bif decide (0≤h6)&&decide (h6<(↑h4.length:Int)) then (oU ((h4,(h5,(h6,((h4.getD h6.toNat ([],[],())).2.1,((↑(List.length (h4.getD h6.toNat ([],[],())).2.1):Int),(0,())))))),((h7,(h8,(h9,()))),((),((h10,(h11,(h12,()))),((h13,(h14,())),())))))).run fun y=>match y with | .ret ((),((x54,x55,x56,()),(x57,x58,x59,()),(),(x60,x61,x62,()),(x63,x64,()),()))=>(next (x54) (x55) (IntKind.i64.wrap (x56+1)) (x57) (x58) (x59) (x60) (x61) (x62) (x63) (x64)) else none else out (.ret ((),((),((h7,(h8,(h9,()))),((),((h10,(h11,(h12,()))),((h13,(h14,())),())))))))
def qk (n:Nat)(h4:List am.den)(h5 h6 h7 h8:Int)(h9:List am.den)(h10 h11:Int)(h12:Bool)(h13:List Int)(h14:Int):Option (ax fP.xs):=gk tt E7 dr qo 0 Tryz.f45 (cI Tryz.f45 0) n (fP.st.mk' ((h4,(h5,(h6,()))),((h7,(h8,(h9,()))),((),((h10,(h11,(h12,()))),((h13,(h14,())),())))))) (bI fP.xs)
theorem Qf (n:Nat)(h4:List am.den)(h5 h6 h7 h8:Int)(h9:List am.den)(h10 h11:Int)(h12:Bool)(h13:List Int)(h14:Int):qk (n+1) h4 h5 h6 h7 h8 h9 h10 h11 h12 h13 h14=wR h4 h5 h6 h7 h8 h9 h10 h11 h12 h13 h14 (qk n) some:=by kernel_rfl
theorem DP {s:aW}(v:Int)(p:bd.den)(h:s.2.2.length≤130048):(r8 v p s).2.2.length≤130048:=bp _ _ _ _ (bp _ _ _ _ h)
theorem A7 {s:aW}(v:Int)(ps:List bd.den)(h:s.2.2.length≤130048):(ga v ps s).2.2.length≤130048:=gl (fun x s=>DP v x) ps s h
theorem QR {s:aW}(v:Int)(ts:List am.den)(h:s.2.2.length≤130048):(vJ v ts s).2.2.length≤130048:=gl (one:=fun (t:am.den) (s:aW)=>ga v t.2.1 s) (fun x s h=>A7 v x.2.1 h) ts s h
theorem H2 (us:List am.den)(n i re' lv':Int)(ts':List am.den)(v:Int){ps:List bd.den}(hl:ps.length≤maxLen):∀(k j:Nat) (s:aW),ps.length<j+k→j≤ps.length→s.2.2.length≤130048→
  uZ k us n i ps (ps.length:Int) j re' lv' ts' v s.1 s.2.1 s.2.2 130048=some (.ret ((),((us,(n,(i,()))),vt re' lv' ts' v ((ps.drop j).foldl (fun s p=>r8 v p s) s)))):=by
 intro k
 have hg:∀s:aW,s.2.2.length≤130048→(decide ((130048:Int)=130048)&&decide (s.2.2.length≤130048))=true:=fun s h=>by simpa using h
 induction k with
 |zero=>intro j s h;omega
 |succ k ih=>
  intro j s h1 h2 q0
  rw[Qg]
  unfold wS
  by_cases hi:j<ps.length
  ·refine (aa (decide_eq_true (show (j:Int)<(ps.length:Int) by omega)) _ _).trans ?_
   refine (aa (by simpa using hi) _ _).trans ?_
   simp only[Int.toNat_natCast,aH hi,bb hi hl]
   refine (aa (hg _ q0) _ _).trans ?_
   have q1:=bp (s:=s) v (ps[j].2.1 == 0) 3 3 q0
   refine (aa (hg _ q1) _ _).trans ?_
   have q2:=bp (s:=ar v (ps[j].2.1 == 0) 3 3 s) v (ps[j].2.2.2.1 == 0) 0 0 q1
   rw[List.drop_eq_getElem_cons hi]
   exact ih (j+1) (r8 v ps[j] s) (by omega) (by omega) (DP _ _ q0)
  ·refine (ab (by simp;omega) _ _).trans ?_
   rw[List.drop_of_length_le (by omega)]
   rfl
theorem H1 {us:List am.den}(re' lv':Int)(ts':List am.den)(v:Int)(hl:us.length≤maxLen):∀(k j:Nat) (s:aW),us.length<j+k→j≤us.length→s.2.2.length≤130048→
  qk k us (us.length:Int) j re' lv' ts' v s.1 s.2.1 s.2.2 130048=some (.ret ((),((),vt re' lv' ts' v ((us.drop j).foldl (fun s t=>ga v t.2.1 s) s)))):=by
 intro k
 induction k with
 |zero=>intro j s h;omega
 |succ k ih=>
  intro j s h1 h2 h3
  rw[Qf]
  unfold wR
  by_cases hi:j<us.length
  ·refine (aa (decide_eq_true (show (j:Int)<(us.length:Int) by omega)) _ _).trans ?_
   refine (aa (by simpa using hi) _ _).trans ?_
   simp only[Int.toNat_natCast,aH hi]
   have c1:(decide ((0:Int)=0)&&(decide ((us[j].2.1.length:Int)=(us[j].2.1.length:Int))&&(decide ((130048:Int)=130048)&&decide (s.2.2.length≤130048))))=true:=by simpa using h3
   have e1:oU ((us,((us.length:Int),((j:Int),(us[j].2.1,((us[j].2.1.length:Int),(0,())))))),((re',(lv',(ts',()))),((),((v,(s.1,(s.2.1,()))),((s.2.2,(130048,())),())))))=
     .ite true (.ret (.ret ((),((us,((us.length:Int),((j:Int),()))),vt re' lv' ts' v (ga v us[j].2.1 s))))) .no:=congrArg (fun c=>Tr.ite c _ _) c1
   rw[e1]
   show qk k us (us.length:Int) (IntKind.i64.wrap ((j:Int)+1)) re' lv' ts' v (ga v us[j].2.1 s).1 (ga v us[j].2.1 s).2.1 (ga v us[j].2.1 s).2.2 130048=_
   rw[bb hi hl,List.drop_eq_getElem_cons hi]
   exact ih (j+1) (ga v us[j].2.1 s) (by omega) (by omega) (A7 _ _ h3)
  ·refine (ab (by simp;omega) _ _).trans ?_
   rw[List.drop_of_length_le (by omega)]
   rfl
def Cm (a0 a1 a2:Int)(a3:List am.den):Option nF.Res:=(oT ((a3,((↑a3.length:Int),(0,()))),((a1,(a2,(a3,()))),((),((a0,((ar a0 (a2 == 0) 2 3 (bc a0,false,[])).1,((ar a0 (a2 == 0) 2 3 (bc a0,false,[])).2.1,()))),(((ar a0 (a2 == 0) 2 3 (bc a0,false,[])).2.2,(130048,())),())))))).run fun y=>match y with | .ret ((),((),(x84,x85,x86,()),(),(x87,x88,x89,()),(x90,x91,()),()))=>(bif decide (x91=130048)&&decide (x90.length≤130048) then bif decide (130048=130048)&&decide ((ac x84 4 (x88,x89,x90)).2.2.length≤130048) then bif decide (2≤x87)&&decide (x87≤3) then bif decide (130048=130048)&&decide ((ac x84 4 (x88,x89,x90)).2.2.length≤130048) then bif decide (130048=130048)&&decide ((ac x85 1 (ac x84 4 (x88,x89,x90))).2.2.length≤130048) then bif decide (130048=130048)&&decide ((kh x87 x86 (ac x85 1 (ac x84 4 (x88,x89,x90)))).2.2.length≤130048) then some (Out.ret ((bP (kh x87 x86 (ac x85 1 (ac x84 4 (x88,x89,x90)))),bw (kh x87 x86 (ac x85 1 (ac x84 4 (x88,x89,x90)))),()),())) else none else none else none else bif decide (130048=130048)&&decide ((ac x84 4 (x88,x89,x90)).2.2.length≤130048) then bif decide (130048=130048)&&decide ((kh x87 x86 (ac x84 4 (x88,x89,x90))).2.2.length≤130048) then some (Out.ret ((bP (kh x87 x86 (ac x84 4 (x88,x89,x90))),bw (kh x87 x86 (ac x84 4 (x88,x89,x90))),()),())) else none else none else none else none)
theorem UO (a0 a1 a2:Int)(a3:List am.den):Io.run tt E7 dr qo nF Tryz.f45 ((a0,(a1,a2,a3,()),()),())=Cm a0 a1 a2 a3:=by kernel_rfl
theorem Xe:HcOk prog 45 (ah nF Q9):=by
 refine aj (n:=400) hm (cs:=xp) (.cons jM (.cons ey (.cons gg (.cons cF (.cons T1 (.cons rV (.cons gD .nil))))))) (lp:=qo) (fn:=Tryz.f45) (by kernel_rfl) (by kernel_rfl) (by kernel_rfl) nF (.step (h0:=aP fP oT) (by kernel_rfl) (aw (n:=400) hm (cs:=xp) (.cons jM (.cons ey (.cons gg (.cons cF (.cons T1 (.cons rV (.cons gD .nil))))))) (lp:=qo) (fn:=Tryz.f45) (.step (h0:=aP fQ oU) (by kernel_rfl) (aw (n:=400) hm (cs:=xp) (.cons jM (.cons ey (.cons gg (.cons cF (.cons T1 (.cons rV (.cons gD .nil))))))) (lp:=qo) (fn:=Tryz.f45) (.done (by kernel_rfl)) fQ oU ?_) (.done (by kernel_rfl))) fP oT ?_) (.done (by kernel_rfl))) Q9 ?_
 ·rintro ⟨⟨(us:List am.den),(n:Int),(i:Int),(ps:List bd.den),(pn:Int),(pj:Int),⟨⟩⟩,⟨⟨(re':Int),(lv':Int),(ts':List am.den),⟨⟩⟩,⟨⟩,⟨(v:Int),(e:Int),(f:Bool),⟨⟩⟩,⟨(b:List Int),(m:Int),⟨⟩⟩,⟨⟩⟩⟩ y hw hy
  obtain ⟨hg,hy⟩:=Tr.guard hy
  simp only[Bool.and_eq_true,decide_eq_true_eq] at hg
  obtain ⟨rfl,rfl,rfl,h4⟩:=hg
  have h4:b.length≤130048:=h4
  have hl:ps.length≤maxLen:=hw.1.2.2.2.1.1
  refine ⟨ps.length+1,(H2 us n i re' lv' ts' v hl (ps.length+1) 0 (e,(f,b)) (by omega) (by omega) h4).trans ?_⟩
  rw[← hy];rfl
 ·rintro ⟨⟨(us:List am.den),(n:Int),(i:Int),⟨⟩⟩,⟨⟨(re':Int),(lv':Int),(ts':List am.den),⟨⟩⟩,⟨⟩,⟨(v:Int),(e:Int),(f:Bool),⟨⟩⟩,⟨(b:List Int),(m:Int),⟨⟩⟩,⟨⟩⟩⟩ y hw hy
  obtain ⟨hg,hy⟩:=Tr.guard hy
  simp only[Bool.and_eq_true,decide_eq_true_eq] at hg
  obtain ⟨rfl,rfl,rfl,h4⟩:=hg
  have h4:b.length≤130048:=h4
  have hl:us.length≤maxLen:=hw.1.1.1
  refine ⟨us.length+1,(H1 re' lv' ts' v hl (us.length+1) 0 (e,(f,b)) (by omega) (by omega) h4).trans ?_⟩
  rw[← hy];rfl
 ·rintro ⟨⟨(v:Int),⟨(re:Int),(lv:Int),(ts:List am.den),⟨⟩⟩,⟨⟩⟩,⟨⟩⟩ out hw ho
  cases ho
  refine (UO v re lv ts).trans ?_
  unfold Cm
  have hg:∀s:aW,s.2.2.length≤130048→(decide ((130048:Int)=130048)&&decide (s.2.2.length≤130048))=true:=fun s h=>by simpa using h
  have q0:(bc v,(false,([]:List Int))).2.2.length≤130048:=by simp
  have q1:=bp (s:=(bc v,(false,([]:List Int)))) v (lv == 0) 2 3 q0
  have c1:(decide ((0:Int)=0)&&(decide ((ts.length:Int)=(ts.length:Int))&&(decide ((130048:Int)=130048)&&decide ((ar v (lv == 0) 2 3 (bc v,(false,([]:List Int)))).2.2.length≤130048))))=true:=by simpa using q1
  have e1:oT ((ts,((ts.length:Int),(0,()))),((re,(lv,(ts,()))),((),((v,((ar v (lv == 0) 2 3 (bc v,(false,([]:List Int)))).1,((ar v (lv == 0) 2 3 (bc v,(false,([]:List Int)))).2.1,()))),(((ar v (lv == 0) 2 3 (bc v,(false,([]:List Int)))).2.2,(130048,())),())))))=
    .ite true (.ret (.ret ((),((),vt re lv ts v (vJ v ts (ar v (lv == 0) 2 3 (bc v,(false,([]:List Int))))))))) .no:=congrArg (fun c=>Tr.ite c _ _) c1
  rw[e1]
  have r0:=QR v ts q1
  refine (aa (hg _ r0) _ _).trans ?_
  have l0_0:=aA re 4 r0
  refine (aa (hg _ l0_0) _ _).trans ?_
  by_cases h1_0:2≤v∧v≤3
  ·refine (aa (by simpa using h1_0) _ _).trans ?_
   refine (aa (hg _ l0_0) _ _).trans ?_
   have l1_0:=aA lv 1 l0_0
   refine (aa (hg _ l1_0) _ _).trans ?_
   have l2_1:=cY (fun x s=>vK v x) ts l1_0
   refine (aa (hg _ l2_1) _ _).trans ?_
   simp only[ue,bA h1_0]
  ·refine (ab (Bool.eq_false_iff.2 fun h'=>h1_0 (by simpa using h')) _ _).trans ?_
   refine (aa (hg _ l0_0) _ _).trans ?_
   have l2_1:=cY (fun x s=>vK v x) ts l0_0
   refine (aa (hg _ l2_1) _ _).trans ?_
   simp only[ue,bh h1_0]
end
end Go.Proofs.YtomeplopmndbgaaGreat.Sym
