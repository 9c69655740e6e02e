/- leatref07: badBlob, blob, body, Check, Put. -/
import Derived.Test.YthpcdhgpplmneaaGreatDoorQ5

set_option linter.unusedVariables false
set_option linter.unusedSimpArgs false
namespace Go.Proofs.YthpcdhgpplmneaaGreatDoor.Sym
open Go
open Go.IntKind (i8 i16 i32 i64 u8 u16 u32 u64)
noncomputable section
abbrev nY:Io:=⟨[Gc],[],[],[dB],none⟩
def JP (d:nY.In):Tr nY.Res:=.ret (.ret ((fC d.1.1,()),()))
abbrev Kk:List (Nat×Hc):=[]
def PY:Hd:=bG Kk
def Lm:Lp:=bM []
def J4 (a0:Bool)(a1:LI):Option nY.Res:=bif a0 then oR ((decide (0<(↑a1.length:Int)),()),()) else oR ((false,()),())
theorem O7 (a0:Bool)(a1:LI):Io.run tt PY dr Lm nY Tryz.f173 (((a0,a1,()),()),())=J4 a0 a1:=by kernel_rfl
theorem Qg:HcOk prog 173 (ah nY JP):=by
 refine bQ (cs:=Kk) .nil (lp:=Lm) (fn:=Tryz.f173) nY (.done (by kernel_rfl)) JP ?_
 rintro ⟨⟨⟨(n:Bool),(b:LI),⟨⟩⟩,⟨⟩⟩,⟨⟩⟩ out hw ho
 cases ho
 refine (O7 n b).trans ?_
 cases n <;> rfl
abbrev iF:Io:=⟨[Gc],[],[],[dO],none⟩
def yN (d:iF.In):Tr iF.Res:=.ite (decide ((bI d.1.1).length≤4294967296)) (.ret (.ret ((bI d.1.1,()),()))) .no
abbrev BM:List (Nat×Hc):=[(121,ah jE wb),(24,ah lf AY)]
def K0:Hd:=bG BM
def CI:Lp:=bM []
def tY (a0:Bool)(a1:LI):Option iF.Res:=bif a0 then oR ((aH (aC (-1)),()),()) else bif decide ((aH (aC (↑a1.length:Int))).length+a1.length≤4294967296) then oR ((aH (aC (↑a1.length:Int))++a1,()),()) else none
theorem I5 (a0:Bool)(a1:LI):Io.run tt K0 dr CI iF Tryz.f175 (((a0,a1,()),()),())=tY a0 a1:=by kernel_rfl
theorem LZ:HcOk prog 175 (ah iF yN):=by
 refine bQ (cs:=BM) (.cons Ar (.cons xR .nil)) (lp:=CI) (fn:=Tryz.f175) iF (.done (by kernel_rfl)) yN ?_
 rintro ⟨⟨⟨(n:Bool),(b:LI),⟨⟩⟩,⟨⟩⟩,⟨⟩⟩ out hw ho
 obtain ⟨hg,ho⟩:=Tr.guard ho
 have hg:(bI (n,b,())).length≤4294967296:=of_decide_eq_true hg
 cases ho
 refine (I5 n b).trans ?_
 show _=oR ((bI (n,b,()),()),())
 unfold tY
 cases n with
 |true=>rfl
 |false=>
  have e:bI (false,b,())=aH (aC b.length)++b:=rfl
  rw[e] at hg ⊢
  simp only[zH] at hg
  rw[af rfl,aa (by simp;omega)]
abbrev jg:Io:=⟨[BP],[],[],[dO],none⟩
def yG (d:jg.In):Tr jg.Res:=.ite (gd d.1.1) (.ret (.ret ((cg d.1.1,()),()))) .no
abbrev sE:List (Nat×Hc):=[(121,ah jE wb),(24,ah lf AY),(175,ah iF yN)]
def Gt:Hd:=bG sE
abbrev dZ:Lo:=⟨⟨(.any::.one (.ptr 1 0)::.any::.one (.onl 5 (Ty.int u8) 7)::.one hI::ai (ai (ai (dm (bz []))))),[none,some [hI,hJ,hL,.hol (.sl 5 (Ty.int u8)),hL,.hol (.sl 5 (Ty.int u8)),.hol (.sl 206 (Ty.str.prod ((Ty.bool.prod ((Ty.sl 5 (Ty.int u8)).prod Ty.unit)).prod Ty.unit)))]]⟩,[(.exit 0,⟨(.any::bk (.one (.onl 5 (Ty.int u8) 7)::.any::ai (ai (ai (dm (bz [])))))),[]⟩)]⟩
def lF (d:dZ.st.den):Tr (ap dZ.xs):=
 .ite (decide (d.1.2.1=(0:Int))&&decide (d.1.1.length+(cb d.2.1.2.2.2.2.2.2.1).length≤4294967296)) (.ret (.ret ((),((d.1.1++cb d.2.1.2.2.2.2.2.2.1,()),())))) .no
def sT:Lp:=bM [(8,aD dZ lF)]
def r9 {R:Type}(h7:LI)(h8 h9 h10:Int)(h11:Bool)(h12:LI)(h13:Bool)(h14:LI)(h15:List fS.den)(next:LI→Int→Int→Int→Bool→LI→Bool→LI→List fS.den→Option R)(out:ap dZ.xs→Option R):Option R:=bif decide (h8<(↑h15.length:Int)) then bif decide (0≤h8)&&decide (h8<(↑h15.length:Int)) then bif decide (h7.length+(aH (aC (↑(List.length (h15.getD h8.toNat ([],(false,[],()),())).1):Int))).length≤4294967296) then bif decide (List.length (h7++aH (aC (↑(List.length (h15.getD h8.toNat ([],(false,[],()),())).1):Int)))+List.length (h15.getD h8.toNat ([],(false,[],()),())).1≤4294967296) then bif decide (0≤h8)&&decide (h8<(↑h15.length:Int)) then bif decide ((bI ((h15.getD h8.toNat ([],(false,[],()),())).2.1.1,(h15.getD h8.toNat ([],(false,[],()),())).2.1.2.1,())).length≤4294967296) then bif decide (List.length (h7++aH (aC (↑(List.length (h15.getD h8.toNat ([],(false,[],()),())).1):Int))++(h15.getD h8.toNat ([],(false,[],()),())).1)+(bI ((h15.getD h8.toNat ([],(false,[],()),())).2.1.1,(h15.getD h8.toNat ([],(false,[],()),())).2.1.2.1,())).length≤4294967296) then next (h7++aH (aC (↑(List.length (h15.getD h8.toNat ([],(false,[],()),())).1):Int))++(h15.getD h8.toNat ([],(false,[],()),())).1++bI ((h15.getD h8.toNat ([],(false,[],()),())).2.1.1,(h15.getD h8.toNat ([],(false,[],()),())).2.1.2.1,())) (i64.wrap (h8+1)) (h9) (h10) (h11) (h12) (h13) (h14) (h15) else none else none else none else none else none else none else out (.ret ((),((h7,()),())))
def qQ (n:Nat)(h7:LI)(h8 h9 h10:Int)(h11:Bool)(h12:LI)(h13:Bool)(h14:LI)(h15:List fS.den):Option (ap dZ.xs):=fJ tt Gt dr sT 0 Tryz.f153 (bP Tryz.f153 0) n (dZ.st.mk' ((h7,(h8,())),((h9,(h10,(h11,(h12,(h13,(h14,(h15,()))))))),()))) (bt dZ.xs)
theorem Jj (n:Nat)(h7:LI)(h8 h9 h10:Int)(h11:Bool)(h12:LI)(h13:Bool)(h14:LI)(h15:List fS.den):qQ (n+1) h7 h8 h9 h10 h11 h12 h13 h14 h15=r9 h7 h8 h9 h10 h11 h12 h13 h14 h15 (qQ n) some:=by kernel_rfl
theorem Ir (h9 h10:Int)(h11:Bool)(h12:LI)(h13:Bool)(h14:LI)(hs:List eB)(hm:hs.length≤maxLen):∀(k i:Nat) (o:LI),i≤hs.length→hs.length<i+k→o.length+(cb (hs.drop i)).length≤4294967296→
  qQ k o (i:Int) h9 h10 h11 h12 h13 h14 hs=some (.ret ((),((o++cb (hs.drop i),()),()))):=by
 intro k
 induction k with
 |zero=>intro i o h1 h2;omega
 |succ k ih=>
  intro i o h1 h2 h3
  rw[Jj]
  unfold r9
  by_cases h4:i<hs.length
  ·have e:(hs.getD (i:Int).toNat ([],(false,[],()),()):eB)=hs[i]:=aA h4
   rw[zE h4,← e] at h3 ⊢
   rw[b7 h4 hm]
   generalize (hs.getD (i:Int).toNat ([],(false,[],()),()):eB)=x at *
   obtain ⟨x1,⟨x2,x3,⟨⟩⟩,⟨⟩⟩:=x
   have eW:cb ((x1,(x2,x3,()),())::hs.drop (i+1))=aH (aC x1.length)++(x1++bI (x2,x3,()))++cb (hs.drop (i+1)):=by simp[cb,AL]
   rw[eW] at h3 ⊢
   simp only[zH] at h3
   rw[aa (by simpa using h4),aa (by simp[h4]),aa (by simp;omega),aa (by simp;omega),aa (by simp[h4]),aa (by simp;omega),aa (by simp;omega)]
   refine (ih (i+1) _ h4 (by omega) (by simp only[zH];omega)).trans ?_
   simp only[zK]
  ·rw[zI (by omega)]
   rw[af (by simpa using h4)]
   simp[cb]
def wK (a0 a1:Int)(a2:Bool)(a3:LI)(a4:Bool)(a5:LI)(a6:List fS.den):Option jg.Res:=bif decide ([0].length+(aH (aC a0)).length≤4294967296) then bif decide (List.length ([0]++aH (aC a0))+(aH (aC (i64.wrap a1))).length≤4294967296) then bif decide ((bI (a2,a3,())).length≤4294967296) then bif decide (List.length ([0]++aH (aC a0)++aH (aC (i64.wrap a1)))+(bI (a2,a3,())).length≤4294967296) then bif decide ((bI (a4,a5,())).length≤4294967296) then bif decide (List.length ([0]++aH (aC a0)++aH (aC (i64.wrap a1))++bI (a2,a3,()))+(bI (a4,a5,())).length≤4294967296) then bif decide (List.length ([0]++aH (aC a0)++aH (aC (i64.wrap a1))++bI (a2,a3,())++bI (a4,a5,()))+(aH (aC (↑a6.length:Int))).length≤4294967296) then (lF (([0]++aH (aC a0)++aH (aC (i64.wrap a1))++bI (a2,a3,())++bI (a4,a5,())++aH (aC (↑a6.length:Int)),(0,())),((a0,(a1,(a2,(a3,(a4,(a5,(a6,()))))))),()))).run fun y=>match y with | .ret ((),((x26,()),()))=>(oR ((x26,()),())) else none else none else none else none else none else none else none
theorem Mu (a0 a1:Int)(a2:Bool)(a3:LI)(a4:Bool)(a5:LI)(a6:List fS.den):Io.run tt Gt dr sT jg Tryz.f153 (((a0,a1,(a2,a3,()),(a4,a5,()),a6,()),()),())=wK a0 a1 a2 a3 a4 a5 a6:=by kernel_rfl
theorem Hp:HcOk prog 153 (ah jg yG):=by
 have hcs:HcsOk prog sE:=.cons Ar (.cons xR (.cons LZ .nil))
 refine bQ (cs:=sE) hcs (lp:=sT) (fn:=Tryz.f153) jg
  (.step (h0:=aD dZ lF) (by kernel_rfl) (f9 (cs:=sE) hcs (lp:=sT) (fn:=Tryz.f153) (.done (by kernel_rfl)) dZ lF ?_) (.done (by kernel_rfl))) yG ?_
 ·rintro ⟨⟨(o:LI),(i:Int),⟨⟩⟩,⟨(h9:Int),(h10:Int),(h11:Bool),(h12:LI),(h13:Bool),(h14:LI),(hs:List eB),⟨⟩⟩,⟨⟩⟩ y hw hy
  obtain ⟨hg,hy⟩:=Tr.guard hy
  simp only[zA,zB] at hg
  obtain ⟨hi,hl⟩:=hg
  have hi:i=0:=hi
  subst hi
  refine ⟨hs.length+1,(Ir h9 h10 h11 h12 h13 h14 hs hw.2.1.2.2.2.2.2.2.1.1 _ 0 o (by omega) (by omega) hl).trans ?_⟩
  rw[← hy]
  rfl
 ·rintro ⟨⟨⟨(a0:Int),(a1:Int),⟨(a2:Bool),(a3:LI),⟨⟩⟩,⟨(a4:Bool),(a5:LI),⟨⟩⟩,(a6:List eB),⟨⟩⟩,⟨⟩⟩,⟨⟩⟩ out hw ho
  obtain ⟨hg,ho⟩:=Tr.guard ho
  cases ho
  refine (Mu a0 a1 a2 a3 a4 a5 a6).trans ?_
  have ha1:bH .i32 a1:=hw.1.1.2.1
  have ha1 : -2147483648≤a1∧a1≤2147483647:=by simpa [bH,IntKind.min,IntKind.max,IntKind.signed,IntKind.bits] using ha1
  have hg:(cg (a0,a1,(a2,a3,()),(a4,a5,()),a6,())).length≤4294967000:=of_decide_eq_true hg
  show _=oR ((cg (a0,a1,(a2,a3,()),(a4,a5,()),a6,()),()),())
  have eb:cg (a0,a1,(a2,a3,()),(a4,a5,()),a6,())=[0]++aH (aC a0)++aH (aC a1)++bI (a2,a3,())++bI (a4,a5,())++aH (aC a6.length)++cb a6:=by
   simp[cg]
  rw[eb] at hg ⊢
  simp only[zH] at hg
  unfold wK
  rw[ae (n:=a1) (by omega) (by omega),aa (by simp;omega),aa (by simp;omega),aa (by simp;omega),aa (by simp;omega),aa (by simp;omega),aa (by simp;omega),aa (by simp;omega)]
  unfold lF
  simp only[Tr.run_ite,Tr.run_ret]
  rw[if_pos (by simp;omega)]
abbrev iA:Io:=⟨[BP],[],[],[dI],none⟩
def yE (d:iA.In):Tr iA.Res:=.ite (gd d.1.1) (.ret (.ret ((bi d.1.1,()),()))) .no
abbrev pd:List (Nat×Hc):=[(173,ah nY JP),(174,ah lV Fj),(153,ah jg yG)]
def B9:Hd:=bG pd
abbrev dh:Lo:=⟨⟨(.any::.one (.ptr 1 0)::.any::.one hI::ai (ai (ai []))),[none,some [hI,hJ,hL,.hol (.sl 5 (Ty.int u8)),hL,.hol (.sl 5 (Ty.int u8)),.hol (.sl 206 (Ty.str.prod ((Ty.bool.prod ((Ty.sl 5 (Ty.int u8)).prod Ty.unit)).prod Ty.unit)))]]⟩,[(.ret,⟨(bk (.one hI::.any::ai (ai (ai [])))),[]⟩),(.exit 0,⟨(.any::.one (.ptr 1 0)::ai (ai (ai (bk [])))),[none,some [hI,hJ,hL,.hol (.sl 5 (Ty.int u8)),hL,.hol (.sl 5 (Ty.int u8)),.hol (.sl 206 (Ty.str.prod ((Ty.bool.prod ((Ty.sl 5 (Ty.int u8)).prod Ty.unit)).prod Ty.unit)))]]⟩)]⟩
def jU (d:dh.st.den):Tr (ap dh.xs):=
 .ite (decide (d.1.1=(0:Int))) (.ite (decide (dp d.2.1.2.2.2.2.2.2.1=(0:Int))) (.ret (.pan (.ret ((),((),(d.2.1,())))))) (.ret (.ret ((),((dp d.2.1.2.2.2.2.2.2.1,()),()))))) .no
def px:Lp:=bM [(9,aD dh jU)]
def qb {R:Type}(h7 h8 h9:Int)(h10:Bool)(h11:LI)(h12:Bool)(h13:LI)(h14:List fS.den)(next:Int→Int→Int→Bool→LI→Bool→LI→List fS.den→Option R)(out:ap dh.xs→Option R):Option R:=bif decide (h7<(↑h14.length:Int)) then bif decide (0≤h7)&&decide (h7<(↑h14.length:Int)) then bif !(cv (h14.getD h7.toNat ([],(false,[],()),())).1).2 then out (.ret ((),((6,()),()))) else bif decide (0≤h7)&&decide (h7<(↑h14.length:Int)) then bif fC ((h14.getD h7.toNat ([],(false,[],()),())).2.1.1,(h14.getD h7.toNat ([],(false,[],()),())).2.1.2.1,()) then out (.ret ((),((70,()),()))) else next (i64.wrap (h7+1)) (h8) (h9) (h10) (h11) (h12) (h13) (h14) else none else none else out (.pan (.ret ((),((),((h8,(h9,(h10,(h11,(h12,(h13,(h14,()))))))),())))))
def oq (n:Nat)(h7 h8 h9:Int)(h10:Bool)(h11:LI)(h12:Bool)(h13:LI)(h14:List fS.den):Option (ap dh.xs):=fJ tt B9 dr px 0 Tryz.f152 (bP Tryz.f152 0) n (dh.st.mk' ((h7,()),((h8,(h9,(h10,(h11,(h12,(h13,(h14,()))))))),()))) (bt dh.xs)
theorem EV (n:Nat)(h7 h8 h9:Int)(h10:Bool)(h11:LI)(h12:Bool)(h13:LI)(h14:List fS.den):oq (n+1) h7 h8 h9 h10 h11 h12 h13 h14=qb h7 h8 h9 h10 h11 h12 h13 h14 (oq n) some:=by kernel_rfl
theorem El (h8 h9:Int)(h10:Bool)(h11:LI)(h12:Bool)(h13:LI)(hs:List eB)(hm:hs.length≤maxLen):∀(k i:Nat),i≤hs.length→hs.length<i+k→
  oq k (i:Int) h8 h9 h10 h11 h12 h13 hs=if dp (hs.drop i)=0 then some (.pan (.ret ((),((),((h8,(h9,(h10,(h11,(h12,(h13,(hs,()))))))),()))))) else some (.ret ((),((dp (hs.drop i),()),()))):=by
 intro k
 induction k with
 |zero=>intro i h1 h2;omega
 |succ k ih=>
  intro i h1 h2
  rw[EV]
  unfold qb
  by_cases h3:i<hs.length
  ·have e:(hs.getD (i:Int).toNat ([],(false,[],()),()):eB)=hs[i]:=aA h3
   rw[zE h3,← e,b7 h3 hm]
   generalize (hs.getD (i:Int).toNat ([],(false,[],()),()):eB)=x
   obtain ⟨x1,⟨x2,x3,⟨⟩⟩,⟨⟩⟩:=x
   rw[aa (by simpa using h3),aa (by simp[h3])]
   by_cases h4:(cv x1).2=false
   ·have eE:dp ((x1,(x2,x3,()),())::hs.drop (i+1))=6:=by unfold dp;rw[if_pos h4]
    rw[eE,aa (by simpa using h4)]
    rfl
   ·rw[af (by simpa using h4),aa (by simp[h3])]
    by_cases h5:fC (x2,x3,())=true
    ·have eE:dp ((x1,(x2,x3,()),())::hs.drop (i+1))=70:=by unfold dp;rw[if_neg h4,if_pos h5]
     rw[eE,aa h5]
     rfl
    ·have eE:dp ((x1,(x2,x3,()),())::hs.drop (i+1))=dp (hs.drop (i+1)):=by rw[dp,if_neg h4,if_neg h5]
     rw[eE,af (by simpa using h5)]
     exact ih (i+1) h3 (by omega)
  ·rw[zI (by omega)]
   rw[af (by simpa using h3)]
   rfl
def tT (a0 a1:Int)(a2:Bool)(a3:LI)(a4:Bool)(a5:LI)(a6:List fS.den):Option iA.Res:=bif decide (a1<0) then oR ((72,()),()) else bif fC (a2,a3,()) then oR ((70,()),()) else bif fC (a4,a5,()) then oR ((70,()),()) else bif decide (16<(↑a6.length:Int)) then oR ((9,()),()) else (jU ((0,()),((a0,(a1,(a2,(a3,(a4,(a5,(a6,()))))))),()))).run fun y=>match y with | .ret ((),((x32,()),()))=>(oR ((x32,()),())) | .pan (.ret ((),((),(x33,x34,x35,x36,x37,x38,x39,()),())))=>(bif gd (x33,x34,(x35,x36,()),(x37,x38,()),x39,()) then bif decide (16384<(↑(cg (x33,x34,(x35,x36,()),(x37,x38,()),x39,())).length:Int)) then oR ((4,()),()) else oR ((0,()),()) else none)
theorem IZ (a0 a1:Int)(a2:Bool)(a3:LI)(a4:Bool)(a5:LI)(a6:List fS.den):Io.run tt B9 dr px iA Tryz.f152 (((a0,a1,(a2,a3,()),(a4,a5,()),a6,()),()),())=tT a0 a1 a2 a3 a4 a5 a6:=by kernel_rfl
theorem LS:HcOk prog 152 (ah iA yE):=by
 have hcs:HcsOk prog pd:=.cons Qg (.cons LU (.cons Hp .nil))
 refine bQ (cs:=pd) hcs (lp:=px) (fn:=Tryz.f152) iA
  (.step (h0:=aD dh jU) (by kernel_rfl) (f9 (cs:=pd) hcs (lp:=px) (fn:=Tryz.f152) (.done (by kernel_rfl)) dh jU ?_) (.done (by kernel_rfl))) yE ?_
 ·rintro ⟨⟨(i:Int),⟨⟩⟩,⟨(h8:Int),(h9:Int),(h10:Bool),(h11:LI),(h12:Bool),(h13:LI),(hs:List eB),⟨⟩⟩,⟨⟩⟩ y hw hy
  obtain ⟨hg,hy⟩:=Tr.guard hy
  have hi:i=0:=of_decide_eq_true hg
  subst hi
  refine ⟨hs.length+1,(El h8 h9 h10 h11 h12 h13 hs hw.2.1.2.2.2.2.2.2.1.1 _ 0 (by omega) (by omega)).trans ?_⟩
  rw[← hy]
  simp only[Tr.val_ite,zB,Tr.val_ret,List.drop_zero]
 ·rintro ⟨⟨⟨(a0:Int),(a1:Int),⟨(a2:Bool),(a3:LI),⟨⟩⟩,⟨(a4:Bool),(a5:LI),⟨⟩⟩,(a6:List eB),⟨⟩⟩,⟨⟩⟩,⟨⟩⟩ out hw ho
  obtain ⟨hg,ho⟩:=Tr.guard ho
  cases ho
  refine (IZ a0 a1 a2 a3 a4 a5 a6).trans ?_
  have hg:gd (a0,a1,(a2,a3,()),(a4,a5,()),a6,())=true:=hg
  unfold tT jU
  show _=oR ((bi (a0,a1,(a2,a3,()),(a4,a5,()),a6,()),()),())
  simp only[Tr.run_ite,Tr.run_ret]
  have eS:s8 (a0,a1,(a2,a3,()),(a4,a5,()),a6,())=if a1<0 then 72 else if fC (a2,a3,())=true∨fC (a4,a5,())=true then 70 else if 16<(a6.length:Int) then 9 else dp a6:=rfl
  by_cases h1:a1<0
  ·rw[if_pos h1] at eS
   rw[aa (by simpa using h1)]
   unfold bi
   rw[eS]
   rfl
  rw[if_neg h1] at eS
  rw[af (by simpa using h1)]
  by_cases h2:fC (a2,a3,())=true
  ·rw[if_pos (.inl h2)] at eS
   rw[aa h2]
   unfold bi
   rw[eS]
   rfl
  rw[af (by simpa using h2)]
  by_cases h3:fC (a4,a5,())=true
  ·rw[if_pos (.inr h3)] at eS
   rw[aa h3]
   unfold bi
   rw[eS]
   rfl
  rw[if_neg (show ¬(fC (a2,a3,())=true∨fC (a4,a5,())=true) from fun h=>h.elim h2 h3)] at eS
  rw[af (by simpa using h3)]
  by_cases h4:16<(a6.length:Int)
  ·rw[if_pos h4] at eS
   rw[aa (by simpa using h4)]
   unfold bi
   rw[eS]
   rfl
  rw[if_neg h4] at eS
  rw[af (by simpa using h4),if_pos (by simp)]
  by_cases h5:dp a6=0
  ·rw[if_pos (decide_eq_true h5)]
   rw[aa hg]
   unfold bi
   rw[if_neg (az (eS.trans h5))]
   simp only[cond_eq_ite,zB]
   split
   ·rfl
   ·rfl
  ·rw[if_neg (by simpa using h5)]
   unfold bi
   rw[eS,if_pos h5]
abbrev kz:Io:=⟨[BP],[],[],[dL,dI],none⟩
def DN (d:kz.In):Tr kz.Res:=.ite (gd d.1.1) (.ret (.ret (((ck d.1.1).1,(ck d.1.1).2,()),()))) .no
abbrev FP:List (Nat×Hc):=[(152,ah iA yE),(153,ah jg yG),(121,ah jE wb),(24,ah lf AY)]
def NT:Hd:=bG FP
def GS:Lp:=bM []
def wJ (a0 a1:Int)(a2:Bool)(a3:LI)(a4:Bool)(a5:LI)(a6:List fS.den):Option kz.Res:=bif gd (a0,a1,(a2,a3,()),(a4,a5,()),a6,()) then bif bi (a0,a1,(a2,a3,()),(a4,a5,()),a6,()) != 0 then oR (([],bi (a0,a1,(a2,a3,()),(a4,a5,()),a6,()),()),()) else bif gd (a0,a1,(a2,a3,()),(a4,a5,()),a6,()) then bif decide ((aH (aC (↑(cg (a0,a1,(a2,a3,()),(a4,a5,()),a6,())).length:Int))).length+(cg (a0,a1,(a2,a3,()),(a4,a5,()),a6,())).length≤4294967296) then oR ((aH (aC (↑(cg (a0,a1,(a2,a3,()),(a4,a5,()),a6,())).length:Int))++cg (a0,a1,(a2,a3,()),(a4,a5,()),a6,()),0,()),()) else none else none else none
theorem Mt (a0 a1:Int)(a2:Bool)(a3:LI)(a4:Bool)(a5:LI)(a6:List fS.den):Io.run tt NT dr GS kz Tryz.f119 (((a0,a1,(a2,a3,()),(a4,a5,()),a6,()),()),())=wJ a0 a1 a2 a3 a4 a5 a6:=by kernel_rfl
theorem OD:HcOk prog 119 (ah kz DN):=by
 refine bQ (cs:=FP) (.cons LS (.cons Hp (.cons Ar (.cons xR .nil)))) (lp:=GS) (fn:=Tryz.f119) kz (.done (by kernel_rfl)) DN ?_
 rintro ⟨⟨⟨(a0:Int),(a1:Int),⟨(a2:Bool),(a3:LI),⟨⟩⟩,⟨(a4:Bool),(a5:LI),⟨⟩⟩,(a6:List eB),⟨⟩⟩,⟨⟩⟩,⟨⟩⟩ out hw ho
 obtain ⟨hg,ho⟩:=Tr.guard ho
 cases ho
 refine (Mt a0 a1 a2 a3 a4 a5 a6).trans ?_
 show _=oR (((ck (a0,a1,(a2,a3,()),(a4,a5,()),a6,())).1,(ck (a0,a1,(a2,a3,()),(a4,a5,()),a6,())).2,()),())
 have hg:gd (a0,a1,(a2,a3,()),(a4,a5,()),a6,())=true:=hg
 unfold wJ
 generalize ((a0,a1,(a2,a3,()),(a4,a5,()),a6,()):oV)=r at *
 have hl:(cg r).length≤4294967000:=of_decide_eq_true hg
 rw[aa hg,aa hg]
 by_cases h1:bi r=0
 ·have e2:ck r=(aH (aC (cg r).length)++cg r,0):=by unfold ck;rw[if_pos h1]
  have:=m9 (aC (cg r).length)
  rw[e2,af (by simpa using h1),aa (by simp;omega)]
 ·have e2:ck r=([],bi r):=by unfold ck;rw[if_neg h1]
  rw[e2,aa (by simpa using h1)]
end
end Go.Proofs.YthpcdhgpplmneaaGreatDoor.Sym
namespace Go.Proofs.YthpcdhgpplmneaaGreatDoor.Sym
open Go
noncomputable section
end
end Go.Proofs.YthpcdhgpplmneaaGreatDoor.Sym
namespace Go.Proofs.YthpcdhgpplmneaaGreatDoor.Sym
open Go
open Go.IntKind (i8 i16 i32 i64 u8 u16 u32 u64)
noncomputable section
def Can:Bool→LI→Prop
 |_,[]=>False
 |f,[c]=>0≤c∧c<128∧(f=true→c≠0)
 |_,c::d::l=>128≤c∧c≤255∧Can true (d::l)
theorem Can.pos:∀{l:LI},Can true l→1≤bc l
 |[],h=>h.elim
 |[c],h=>by
  obtain ⟨h1,h2,h3⟩:=h
  have:=h3 rfl
  simp only[bc]
  omega
 |c::d::l,h=>by
  have:=Can.pos h.2.2
  rw[bc]
  omega
theorem Can.dig:∀{l:LI} (n:Nat) (f:Bool),Can f l→l.length≤n+1→fL n (bc l)++[gy n (bc l)]=l
 |[],n,f,h,hl=>h.elim
 |[c],n,f,h,hl=>by
  obtain ⟨h1,h2,h3⟩:=h
  have e:bc [c]=c:=by simp only[bc];omega
  rw[e]
  cases n with
  |zero=>rfl
  |succ n=>
   have:¬ 127<c:=by omega
   simp[fL,gy,this]
 |c::d::l,n,f,h,hl=>by
  obtain ⟨h1,h2,h3⟩:=h
  have hp:=h3.pos
  cases n with
  |zero=>simp at hl
  |succ n=>
   have ih:=Can.dig n true h3 (by simpa using hl)
   have e:bc (c::d::l)=c % 128+128*bc (d::l):=rfl
   have e1:(c % 128+128*bc (d::l)) / 128=bc (d::l):=by omega
   have e2:(c % 128+128*bc (d::l)) % 128+128=c:=by omega
   have e3:127<c % 128+128*bc (d::l):=by omega
   rw[e,fL,gy,if_pos e3,if_pos e3,e1,e2,List.cons_append,ih]
theorem uX:∀j:Nat,(1:Int)≤128 ^ j
 |0=>by simp
 |j+1=>by
  have:=uX j
  rw[Int.pow_succ]
  omega
theorem Dh (most:Nat)(top:Int)(h0:0≤top)(ht:top<128):∀(l:LI) (i:Nat),(∀c∈l,0≤c∧c≤255)→i<most→(bo most top l i).2=0→
  ∃m:Nat,(bo most top l i).1=i+m∧m<l.length∧i+m<most∧Can (decide (0<i)) (l.take (m+1))∧bc (l.take (m+1))<128 ^ (most - 1 - i)*(top+1)
 |[],i,hc,hi,h=>by simp[bo] at h
 |c::l,i,hc,hi,h=>by
  have hcc:=hc c (by simp)
  simp only[bo] at h ⊢
  split at h
  ·cases h
  rename_i h1
  rw[if_neg h1]
  split at h
  ·rename_i h2
   rw[if_pos h2]
   split at h
   ·cases h
   rename_i h3
   rw[if_neg h3]
   refine ⟨0,by simp,by simp,by omega,?_,?_⟩
   ·refine ⟨hcc.1,h2,fun hf hz=>h3 ⟨hz,by simpa using hf⟩⟩
   ·have e:bc ((c::l).take (0+1))=c:=by simp only[List.take_succ_cons,List.take_zero,bc];omega
    rw[e]
    by_cases hm:i+1=most
    ·rw[show most - 1 - i=0 by omega]
     have:¬ top<c:=fun h=>h1 ⟨hm,h⟩
     simp;omega
    ·obtain ⟨j,hj⟩:∃j,most - 1 - i=j+1:=⟨most - 2 - i,by omega⟩
     rw[hj,Int.pow_succ]
     have hp:(1:Int)≤128 ^ j:=uX j
     have:(1:Int)*128*1≤128 ^ j*128*(top+1):=Int.mul_le_mul (Int.mul_le_mul_of_nonneg_right hp (by omega)) (by omega) (by omega) (Int.mul_nonneg (by omega) (by omega))
     omega
  ·rename_i h2
   rw[if_neg h2]
   have hne:i+1<most:=by
    rcases Nat.lt_or_ge (i+1) most with h | h'
    ·exact h
    ·exact absurd ⟨by omega,by omega⟩ h1
   obtain ⟨m,g1,g2,g3,g4,g5⟩:=Dh most top h0 ht l (i+1) (fun c hc'=>hc c (by simp[hc'])) hne h
   refine ⟨m+1,by rw[g1];push_cast;omega,by simp;omega,by omega,?_,?_⟩
   ·obtain ⟨d,l',rfl⟩:∃d l',l=d::l':=by
     cases l with
     |nil=>simp at g2
     |cons d l'=>exact ⟨d,l',rfl⟩
    rw[List.take_succ_cons,List.take_succ_cons] at *
    refine ⟨by omega,hcc.2,?_⟩
    simpa using g4
   ·rw[List.take_succ_cons,bc]
    obtain ⟨j,hj⟩:∃j,most - 1 - i=j+1:=⟨most - 2 - i,by omega⟩
    rw[show most - 1 - (i+1)=j by omega] at g5
    rw[hj,Int.pow_succ]
    have e:(128:Int) ^ j*128*(top+1)=128*(128 ^ j*(top+1)):=by
     rw[Int.mul_comm (128 ^ j) 128,Int.mul_assoc]
    rw[e]
    omega
def pc (b:LI)(p q:Int):LI:=(b.take q.toNat).drop p.toNat
theorem jG {b:LI}{p q r:Int}(h0:0≤p)(h1:p≤q)(h2:q≤r):pc b p q++pc b q r=pc b p r:=by
 unfold pc
 obtain ⟨P,rfl⟩:=au h0
 obtain ⟨Q,rfl⟩:=au (show 0≤q by omega)
 obtain ⟨R,rfl⟩:=au (show 0≤r by omega)
 simp only[zG]
 have e:b.take Q=(b.take R).take Q:=by rw[List.take_take,Nat.min_eq_left (by omega)]
 rw[e,List.drop_take]
 have e2:(b.take R).drop Q=((b.take R).drop P).drop (Q - P):=by rw[List.drop_drop,show P+(Q - P)=Q by omega]
 rw[e2,List.take_append_drop]
theorem HB {b:LI}{q n:Int}(h0:0≤q)(h1:0≤n):(b.drop q.toNat).take n.toNat=pc b q (q+n):=by
 unfold pc
 rw[List.drop_take,show (q+n).toNat - q.toNat=n.toNat by omega]
theorem L1 {b:LI}{p q:Int}(h0:0≤p)(h1:p≤q)(h2:q≤b.length):((pc b p q).length:Int)=q - p:=by
 unfold pc
 simp only[List.length_drop,List.length_take]
 omega
def aZ (b:LI):Prop:=∀c∈b,0≤c∧c≤255
theorem yb {most:Nat}{top:Int}(h0:0≤top)(ht:top<128)(hm:0<most)(hm':most≤10)(hB:128 ^ (most - 1)*(top+1)≤18446744073709551616){b:LI}(hb:aZ b){p:Int}(h:(ab most top b p).2.2=0):
  aH (ab most top b p).1=pc b p (ab most top b p).2.1∧0≤(ab most top b p).1∧(ab most top b p).1<128 ^ (most - 1)*(top+1):=by
 obtain ⟨k1,k2,k3⟩:=mt h
 unfold ab at h k2 k3 ⊢
 by_cases hp:p<0∨(b.length:Int)<p
 ·rw[if_pos hp] at h;cases h
 rw[if_neg hp] at h k2 k3 ⊢
 by_cases hr:(bo most top (b.drop p.toNat) 0).2=0
 rotate_left
 ·rw[if_neg hr] at h;exact absurd h hr
 rw[if_pos hr] at k2 k3 ⊢
 obtain ⟨m,g1,g2,g3,g4,g5⟩:=Dh most top h0 ht (b.drop p.toNat) 0 (fun c hc=>hb c (List.mem_of_mem_drop hc)) hm hr
 rw[g1] at k2 k3 ⊢
 simp only at k2 k3 ⊢
 have e1:((((0:Nat):Int)+(m:Int))+1).toNat=m+1:=by omega
 rw[e1]
 have hpos:=(vx ((b.drop p.toNat).take (m+1))).1
 rw[Nat.sub_zero] at g5
 rw[Int.emod_eq_of_lt hpos (by omega)]
 refine ⟨?_,hpos,g5⟩
 have hd:=Can.dig 10 _ g4 (by rw[List.length_take];omega)
 unfold aH
 rw[hd]
 unfold pc
 rw[List.drop_take,show (p+(((0:Nat):Int)+m)+1).toNat - p.toNat=m+1 by omega]
theorem Oe {n:Int}:bH .i32 n↔-2147483648≤n∧n≤2147483647:=by simp[bH,IntKind.min,IntKind.max,IntKind.signed,IntKind.bits]
theorem HW {u:Int}(h:0≤u):aC (al u)=u:=by
 unfold aC al
 split <;> split <;> omega
theorem j9 {b:LI}(hb:aZ b){p:Int}(h:(ag b p).2.2=0):aH (aC (ag b p).1)=pc b p (ag b p).2.1:=by
 obtain ⟨h1,h2,h3⟩:=yb (most:=5) (top:=15) (by decide) (by decide) (by decide) (by decide) (by decide) hb (show (ab 5 15 b p).2.2=0 from h)
 have h3:(ab 5 15 b p).1<4294967296:=h3
 have e:(ag b p).1=al (ab 5 15 b p).1:=by
  show IntKind.wrap .i32 (al (ab 5 15 b p).1)=_
  refine bK (k:=.i32) (Oe.2 ?_)
  unfold al
  split <;> omega
 rw[e,HW h2]
 exact h1
theorem E0 {b:LI}(hb:aZ b){p:Int}(h:(ab 10 1 b p).2.2=0):aH (aC (al (ab 10 1 b p).1))=pc b p (ab 10 1 b p).2.1:=by
 obtain ⟨h1,h2,h3⟩:=yb (most:=10) (top:=1) (by decide) (by decide) (by decide) (by decide) (by decide) hb h
 rw[HW h2]
 exact h1
theorem Jr {b:LI}{p l:Int}(hl : -1≤l)(h:(ac b p l).2.2=0):(ag b p).2.2=0∧
  ((l<0∧(ag b p).1 = -1∧ac b p l=((true,[],()),(ag b p).2.1,0)) ∨
   (0≤(ag b p).1∧(ag b p).2.1+(ag b p).1≤b.length∧ac b p l=((false,pc b (ag b p).2.1 ((ag b p).2.1+(ag b p).1),()),(ag b p).2.1+(ag b p).1,0))):=by
 unfold ac at h ⊢
 by_cases h0:(ag b p).2.2=0
 rotate_left
 ·rw[if_pos h0] at h;exact absurd h h0
 have hk:=dF h0
 rw[if_neg (az h0)] at h ⊢
 by_cases h1:(ag b p).1<l
 ·rw[if_pos h1] at h;cases h
 rw[if_neg h1] at h ⊢
 by_cases h2:(ag b p).1<0
 ·rw[if_pos h2]
  exact ⟨h0,.inl ⟨by omega,by omega,rfl⟩⟩
 rw[if_neg h2] at h ⊢
 by_cases h3:(b.length:Int) - (ag b p).2.1<(ag b p).1
 ·rw[if_pos h3] at h;cases h
 rw[if_neg h3,HB (by omega) (by omega)]
 exact ⟨h0,.inr ⟨by omega,by omega,rfl⟩⟩
theorem jw {b:LI}(hb:aZ b){p l:Int}(hl : -1≤l)(h:(ac b p l).2.2=0):
  bI (ac b p l).1=pc b p (ac b p l).2.1∧fC (ac b p l).1=false∧0≤p∧p<(ac b p l).2.1∧(ac b p l).2.1≤b.length∧(0≤l→(ac b p l).1.1=false):=by
 obtain ⟨h0,h1 | h1⟩:=Jr hl h
 ·obtain ⟨h1,h2,e⟩:=h1
  have hk:=dF h0
  have hd:=j9 hb h0
  rw[e]
  refine ⟨?_,by simp[fC],hk.1,hk.2.1,hk.2.2,fun h=>by omega⟩
  rw[h2] at hd
  exact hd
 ·obtain ⟨h1,h2,e⟩:=h1
  have hk:=dF h0
  have hd:=j9 hb h0
  rw[e]
  refine ⟨?_,by simp[fC],hk.1,by simp only;omega,by simpa using h2,fun _=>rfl⟩
  show aH (aC ((pc b (ag b p).2.1 ((ag b p).2.1+(ag b p).1)).length:Int))++pc b (ag b p).2.1 ((ag b p).2.1+(ag b p).1)=_
  rw[L1 (by omega) (by omega) h2,show (ag b p).2.1+(ag b p).1 - (ag b p).2.1=(ag b p).1 by omega,hd,jG hk.1 (by omega) (by omega)]
theorem nr {b:LI}(hb:aZ b):∀(n:Nat) (o:List eB) (p:Int),0≤p→p≤b.length→(ax b n o p).2.2=0→
  ∃hs:List eB,(ax b n o p).1=o++hs∧hs.length=n∧cb hs=pc b p (ax b n o p).2.1∧dp hs=0∧p≤(ax b n o p).2.1∧(ax b n o p).2.1≤b.length
 |0,o,p,h0,h1,h=>by
  refine ⟨[],by simp[ax],rfl,?_,rfl,Int.le_refl _,h1⟩
  show []=pc b p p
  unfold pc
  rw[zI (by simp;omega)]
 |n+1,o,p,h0,h1,h=>by
  rw[nu] at h ⊢
  by_cases hH:(bb b p).2.2=0
  rotate_left
  ·rw[if_pos hH] at h;exact absurd h hH
  rw[if_neg (az hH)] at h ⊢
  unfold bb at hH
  by_cases a1:(ac b p 0).2.2=0
  rotate_left
  ·rw[if_pos a1] at hH;exact absurd hH a1
  rw[if_neg (az a1)] at hH
  by_cases a2:(cv (ac b p 0).1.2.1).2=false
  ·rw[if_pos a2] at hH;cases hH
  rw[if_neg a2] at hH
  have hH:(ac b (ac b p 0).2.1 (-1)).2.2=0:=hH
  have eH:bb b p=(((ac b p 0).1.2.1,(ac b (ac b p 0).2.1 (-1)).1,()),(ac b (ac b p 0).2.1 (-1)).2.1,(ac b (ac b p 0).2.1 (-1)).2.2):=by
   unfold bb;rw[if_neg (az a1),if_neg a2]
  rw[eH] at h ⊢
  simp only at h ⊢
  obtain ⟨k1,k2,k3,k4,k5,k6⟩:=jw hb (by decide) a1
  obtain ⟨q1,q2,q3,q4,q5,q6⟩:=jw hb (by decide) hH
  have k6:=k6 (Int.le_refl 0)
  obtain ⟨hs,g1,g2,g3,g4,g5,g6⟩:=nr hb n _ _ (show 0≤(ac b (ac b p 0).2.1 (-1)).2.1 by omega) q5 h
  refine ⟨((ac b p 0).1.2.1,(ac b (ac b p 0).2.1 (-1)).1,())::hs,by rw[g1];simp,by simp[g2],?_,?_,by omega,g6⟩
  ·have e1:cb (((ac b p 0).1.2.1,(ac b (ac b p 0).2.1 (-1)).1,())::hs)=(aH (aC (ac b p 0).1.2.1.length)++(ac b p 0).1.2.1)++bI (ac b (ac b p 0).2.1 (-1)).1++cb hs:=by
    simp[cb,AL]
   have e2:aH (aC (ac b p 0).1.2.1.length)++(ac b p 0).1.2.1=pc b p (ac b p 0).2.1:=by
    rw[← k1]
    unfold bI
    rw[if_neg (by rw[k6];decide)]
   rw[e1,e2,q1,g3,jG k3 (by omega) (by omega),jG k3 (by omega) (by omega)]
  ·unfold dp
   rw[if_neg a2,if_neg (by rw[q2];decide)]
   exact g4
theorem AK {b:LI}(hb:aZ b){p:Int}(h:(av b p).2.2=0):
  aH (aC (av b p).1.length)++cb (av b p).1=pc b p (av b p).2.1∧dp (av b p).1=0∧((av b p).1.length:Int)≤16∧0≤p∧p<(av b p).2.1∧(av b p).2.1≤b.length:=by
 unfold av at h ⊢
 by_cases c5:(ag b p).2.2=0
 rotate_left
 ·rw[if_pos c5] at h;exact absurd h c5
 rw[if_neg (az c5)] at h ⊢
 by_cases c6:(ag b p).1<0
 ·rw[if_pos c6] at h;cases h
 rw[if_neg c6] at h ⊢
 by_cases c7:16<(ag b p).1
 ·rw[if_pos c7] at h;cases h
 rw[if_neg c7] at h ⊢
 have hk:=dF c5
 obtain ⟨hs,g1,g2,g3,g4,g5,g6⟩:=nr hb (ag b p).1.toNat [] (ag b p).2.1 (by omega) hk.2.2 h
 rw[List.nil_append] at g1
 have hl:(hs.length:Int)=(ag b p).1:=by omega
 rw[g1,hl,j9 hb c5,g3,jG hk.1 (by omega) g5]
 exact ⟨rfl,g4,by omega,hk.1,by omega,g6⟩
theorem E3 {b:LI}(hb:aZ b)(h:(aQ b).2=0):cg (aQ b).1=b∧s8 (aQ b).1=0:=by
 unfold aQ at h ⊢
 by_cases h0:b.length=0
 ·rw[if_pos h0] at h;cases h
 rw[if_neg h0] at h ⊢
 by_cases h1:b.getD 0 0=0
 rotate_left
 ·rw[if_pos h1] at h;cases h
 rw[if_neg (az h1)] at h ⊢
 by_cases h2:(ab 10 1 b 1).2.2=0
 rotate_left
 ·rw[if_pos h2] at h;exact absurd h h2
 rw[if_neg (az h2)] at h ⊢
 have d1:=E0 hb h2
 have k1:=mt h2
 generalize al (ab 10 1 b 1).1=v1 at *
 generalize (ab 10 1 b 1).2.1=q1 at *
 by_cases c1:(ag b q1).2.2=0
 rotate_left
 ·rw[if_pos c1] at h;exact absurd h c1
 rw[if_neg (az c1)] at h ⊢
 by_cases c2:(ag b q1).1<0
 ·rw[if_pos c2] at h;cases h
 rw[if_neg c2] at h ⊢
 have d2:=j9 hb c1
 have k2:=dF c1
 generalize (ag b q1).1=v2 at *
 generalize (ag b q1).2.1=q2 at *
 by_cases c3:(ac b q2 (-1)).2.2=0
 rotate_left
 ·rw[if_pos c3] at h;exact absurd h c3
 rw[if_neg (az c3)] at h ⊢
 obtain ⟨d3,b3,k3⟩:=jw hb (by decide) c3
 generalize (ac b q2 (-1)).1=B1 at *
 generalize (ac b q2 (-1)).2.1=q3 at *
 by_cases c4:(ac b q3 (-1)).2.2=0
 rotate_left
 ·rw[if_pos c4] at h;exact absurd h c4
 rw[if_neg (az c4)] at h ⊢
 obtain ⟨d4,b4,k4⟩:=jw hb (by decide) c4
 generalize (ac b q3 (-1)).1=B2 at *
 generalize (ac b q3 (-1)).2.1=q4 at *
 by_cases c5:(av b q4).2.2=0
 rotate_left
 ·rw[if_pos c5] at h;exact absurd h c5
 rw[if_neg (az c5)] at h ⊢
 obtain ⟨d5,e5,n5,k5⟩:=AK hb c5
 generalize (av b q4).1=hs at *
 generalize (av b q4).2.1=q5 at *
 by_cases c6:q5<(b.length:Int)
 ·rw[if_pos c6] at h;cases h
 rw[if_neg c6]
 refine ⟨?_,?_⟩
 ·show 0::(aH (aC v1)++(aH (aC v2)++(bI B1++(bI B2++(aH (aC hs.length)++cb hs)))))=b
  rw[d1,d2,d3,d4,d5,jG (by omega) (by omega) (by omega),jG (by omega) (by omega) (by omega),jG (by omega) (by omega) (by omega),jG (by omega) (by omega) (by omega),show q5=b.length by omega]
  unfold pc
  rw[zG,List.take_length]
  obtain ⟨c,l,rfl⟩:∃c l,b=c::l:=by
   cases b with
   |nil=>exact absurd rfl h0
   |cons c l=>exact ⟨c,l,rfl⟩
  have h1:c=0:=h1
  rw[h1]
  rfl
 ·show (if v2<0 then 72 else if fC B1=true∨fC B2=true then 70 else if 16<(hs.length:Int) then 9 else dp hs)=0
  rw[if_neg c2,if_neg (by rw[b3,b4];simp),if_neg (by omega),e5]
theorem E1 {b:LI}(hb:aZ b){p:Int}(h:(an b p).2.2=0):
  0≤p∧p<(an b p).2.1∧(an b p).2.1≤b.length∧bi (an b p).1=0∧ck (an b p).1=(pc b p (an b p).2.1,0)∧gd (an b p).1=true:=by
 unfold an at h ⊢
 by_cases c1:(ag b p).2.2=0
 rotate_left
 ·rw[if_pos c1] at h;exact absurd h c1
 rw[if_neg (az c1)] at h ⊢
 by_cases c2:(ag b p).1<0
 ·rw[if_pos c2] at h;cases h
 rw[if_neg c2] at h ⊢
 by_cases c3:16384<(ag b p).1
 ·rw[if_pos c3] at h;cases h
 rw[if_neg c3] at h ⊢
 by_cases c4:(b.length:Int) - (ag b p).2.1<(ag b p).1
 ·rw[if_pos c4] at h;cases h
 rw[if_neg c4] at h ⊢
 have d1:=j9 hb c1
 have k1:=dF c1
 generalize (ag b p).1=n at *
 generalize (ag b p).2.1=q at *
 rw[HB (by omega) (by omega)] at h ⊢
 by_cases c5:(aQ (pc b q (q+n))).2=0
 rotate_left
 ·rw[if_pos c5] at h;exact absurd h c5
 rw[if_neg (az c5)] at h ⊢
 have hb2:aZ (pc b q (q+n)):=fun c hc=>hb c (List.mem_of_mem_take (List.mem_of_mem_drop hc))
 obtain ⟨e1,e2⟩:=E3 hb2 c5
 have hl:=L1 (b:=b) (p:=q) (q:=q+n) (by omega) (by omega) (by omega)
 generalize (aQ (pc b q (q+n))).1=r at *
 have hbl:((cg r).length:Int)=n:=by rw[e1];omega
 have hc:bi r=0:=by
  unfold bi
  rw[if_neg (az e2),if_neg (by omega)]
 refine ⟨k1.1,by simp only;omega,by simp only;omega,hc,?_,?_⟩
 ·unfold ck
  rw[if_pos hc,hbl,d1,e1,jG k1.1 (by omega) (by omega)]
 ·unfold gd
  rw[zB]
  omega
theorem bytesOf {b:LI}(h:Ty.wf bs b):aZ b:=fun c hc=>by
 have:=h.2 c hc
 exact Ef.1 this
end
end Go.Proofs.YthpcdhgpplmneaaGreatDoor.Sym
namespace Go.Proofs.YthpcdhgpplmneaaGreatDoor.Sym
open Go
noncomputable section
theorem Gd:∀(n:Nat) (u:Int) (f:Bool),0≤u→u<128 ^ (n+1)→(f=true→1≤u)→Can f (fL n u++[gy n u])∧bc (fL n u++[gy n u])=u∧(fL n u++[gy n u]).length≤n+1
 |0,u,f,h0,h1,hf=>by
  have h1:u<128:=h1
  refine ⟨⟨h0,h1,fun h=>by have:=hf h;show u≠0;omega⟩,?_,by simp[fL]⟩
  show u % 128+128*0=u
  omega
 |n+1,u,f,h0,h1,hf=>by
  by_cases h:127<u
  ·rw[Int.pow_succ] at h1
   obtain ⟨g1,g2,g3⟩:=Gd n (u / 128) true (by omega) (Int.ediv_lt_of_lt_mul (by omega) h1) (fun _=>by omega)
   have e:fL (n+1) u++[gy (n+1) u]=(u % 128+128)::(fL n (u / 128)++[gy n (u / 128)]):=by
    rw[fL,gy,if_pos h,if_pos h,List.cons_append]
   rw[e]
   obtain ⟨d,l,hl⟩:∃d l,fL n (u / 128)++[gy n (u / 128)]=d::l:=by
    cases hx:fL n (u / 128)++[gy n (u / 128)] with
    |nil=>simp at hx
    |cons d l=>exact ⟨d,l,rfl⟩
   rw[hl] at g1 g2 g3 ⊢
   refine ⟨⟨by omega,by omega,g1⟩,?_,by simp at g3 ⊢;omega⟩
   show (u % 128+128) % 128+128*bc (d::l)=u
   rw[g2]
   omega
  ·have e:fL (n+1) u++[gy (n+1) u]=[u]:=by
    rw[fL,gy,if_neg h,if_neg h];rfl
   rw[e]
   refine ⟨⟨h0,by omega,fun h=>by have:=hf h;omega⟩,?_,by simp⟩
   show u % 128+128*0=u
   omega
theorem Jn {u:Int}(h0:0≤u)(h:u<18446744073709551616):Can false (aH u)∧bc (aH u)=u∧0<(aH u).length:=
 have g:=Gd 10 u false h0 (Int.lt_of_lt_of_le h (by decide)) (fun h=>by cases h)
 ⟨g.1,g.2.1,by simp[aH]⟩
theorem rM (most:Nat)(top:Int)(ht:top<128):∀(l rest:LI) (i:Nat),Can (decide (0<i)) l→i<most→bc l<128 ^ (most - 1 - i)*(top+1)→bo most top (l++rest) i=(((i+l.length - 1:Nat):Int),0)
 |[],rest,i,hc,_,_=>hc.elim
 |[c],rest,i,hc,hi,hv=>by
  obtain ⟨h1,h2,h3⟩:=hc
  have e:bc [c]=c:=by simp only[bc];omega
  rw[e] at hv
  simp only[List.cons_append,List.nil_append,bo]
  have hn:¬(i+1=most∧top<c):=by
   rintro ⟨h4,h5⟩
   rw[show most - 1 - i=0 by omega] at hv
   simp at hv
   omega
  have hz:¬(c=0∧0<i):=fun h=>h3 (by simpa using h.2) h.1
  rw[if_neg hn,if_pos h2,if_neg hz]
  simp
 |c::d::l,rest,i,hc,hi,hv=>by
  obtain ⟨h1,h2,h3⟩:=hc
  have hp:=h3.pos
  have e:bc (c::d::l)=c % 128+128*bc (d::l):=rfl
  rw[e] at hv
  have hne:i+1<most:=by
   rcases Nat.lt_or_ge (i+1) most with h | h
   ·exact h
   ·rw[show most - 1 - i=0 by omega] at hv
    simp at hv
    omega
  obtain ⟨j,hj⟩:∃j,most - 1 - i=j+1:=⟨most - 2 - i,by omega⟩
  rw[hj,Int.pow_succ] at hv
  have e2:(128:Int) ^ j*128*(top+1)=128*(128 ^ j*(top+1)):=by rw[Int.mul_comm (128 ^ j) 128,Int.mul_assoc]
  rw[e2] at hv
  have ih:=rM most top ht (d::l) rest (i+1) (by simpa using h3) hne (by rw[show most - 1 - (i+1)=j by omega];omega)
  rw[List.cons_append,bo,if_neg (fun h=>by omega),if_neg (by omega),ih]
  simp only[zN,zD,and_true]
  congr 1
  omega
def Has (b:LI)(p:Int)(X:LI):Prop:=0≤p∧p≤b.length∧∃rest,b.drop p.toNat=X++rest
theorem Has.left {b:LI}{p:Int}{X Y:LI}(h:Has b p (X++Y)):Has b p X:=by
 obtain ⟨h0,h1,rest,h2⟩:=h
 exact ⟨h0,h1,Y++rest,by rw[h2,zK]⟩
theorem Has.len {b:LI}{p:Int}{X:LI}(h:Has b p X):p+X.length≤b.length:=by
 obtain ⟨h0,h1,rest,h2⟩:=h
 have:=congrArg List.length h2
 simp only[List.length_drop,zH] at this
 omega
theorem Has.right {b:LI}{p:Int}{X Y:LI}(h:Has b p (X++Y)):Has b (p+X.length) Y:=by
 have hl:=h.left.len
 obtain ⟨h0,h1,rest,h2⟩:=h
 refine ⟨by omega,hl,rest,?_⟩
 rw[show (p+X.length).toNat=p.toNat+X.length by omega,← List.drop_drop,h2,zK,List.drop_left]
theorem Has.take {b:LI}{p:Int}{X:LI}(h:Has b p X):(b.drop p.toNat).take X.length=X:=by
 obtain ⟨h0,h1,rest,h2⟩:=h
 rw[h2,List.take_left]
theorem M0 {most:Nat}{top:Int}(ht:top<128)(hm:0<most)(hB:128 ^ (most - 1)*(top+1)≤18446744073709551616){b:LI}{p u:Int}(h0:0≤u)(hu:u<128 ^ (most - 1)*(top+1))(h:Has b p (aH u)):
  ab most top b p=(u,p+(aH u).length,0):=by
 obtain ⟨hp,hl,rest,hd⟩:=h
 obtain ⟨c1,c2,c3⟩:=Jn h0 (by omega)
 have hr:=rM most top ht (aH u) rest 0 c1 hm (by rw[c2];simpa using hu)
 have e1:((0+(aH u).length - 1:Nat):Int)=(aH u).length - 1:=by omega
 rw[e1] at hr
 unfold ab
 rw[if_neg (by omega),hd,hr,if_pos rfl]
 simp only
 rw[show ((aH u).length - 1+1:Int).toNat=(aH u).length by omega,List.take_left,c2,Int.emod_eq_of_lt h0 (by omega),show p+((aH u).length - 1)+1=p+(aH u).length by omega]
theorem Ps {v:Int}:al (aC v)=v:=by
 unfold aC al
 split <;> split <;> omega
theorem Jo {b:LI}{p v:Int}(h1 : -9223372036854775808≤v)(h2:v≤9223372036854775807)(h:Has b p (aH (aC v))):ab 10 1 b p=(aC v,p+(aH (aC v)).length,0):=by
 have hz:0≤aC v∧aC v<18446744073709551616:=by unfold aC;split <;> omega
 exact M0 (most:=10) (top:=1) (by decide) (by decide) (by decide) hz.1 hz.2 h
end
end Go.Proofs.YthpcdhgpplmneaaGreatDoor.Sym
namespace Go.Proofs.YthpcdhgpplmneaaGreatDoor.Sym
open Go
open Go.IntKind (i8 i16 i32 i64 u8 u16 u32 u64)
noncomputable section
theorem j6 (x k:Int):∀(n m:Nat),m≤n→aU (x+256 ^ n*k) m=aU x m
 |_,0,_=>rfl
 |n,m+1,h=>by
  rw[aU,aU,j6 x k n m (by omega)]
  congr 1
  have hp:(256:Int) ^ n=256 ^ m*(256*256 ^ (n - m - 1)):=by
   rw[← Int.pow_succ',← Int.pow_add]
   congr 1;omega
  have hq:(256:Int) ^ m≠0:=Int.ne_of_gt (Int.pow_pos (by decide))
  rw[hp,Int.mul_assoc,Int.add_mul_ediv_left _ _ hq,Int.mul_assoc,Int.add_mul_emod_self_left]
theorem KE (l:LI):∀v:Int,l.foldl (fun v c=>v*256+c) v=v*256 ^ l.length+aS l:=by
 induction l with
 |nil=>intro v;simp[aS]
 |cons c l ih=>
  intro v
  unfold aS
  rw[List.foldl_cons,List.foldl_cons,ih,ih (0*256+c),zN,Int.pow_succ,Int.add_mul,Int.zero_mul,Int.zero_add,Int.mul_assoc,Int.mul_comm 256]
  omega
theorem pJ:∀{l:LI},byteR l→aU (aS l) l.length=l
 |[],_=>rfl
 |c::l,h=>by
  have hc:=h c (by simp)
  have hl:byteR l:=fun d hd=>h d (by simp[hd])
  have hb:=rK l fun d hd=>⟨(hl d hd).1,by have:=(hl d hd).2;omega⟩
  have e:aS (c::l)=aS l+256 ^ l.length*c:=by
   have:=KE l (0*256+c)
   unfold aS
   rw[List.foldl_cons,this,Int.zero_mul,Int.zero_add,Int.mul_comm]
   unfold aS;omega
  have hq:(0:Int)<256 ^ l.length:=Int.pow_pos (by decide)
  rw[zN,aU,e,j6 _ _ _ _ (Nat.le_refl _),pJ hl,Int.add_mul_ediv_left _ _ (Int.ne_of_gt hq),Int.ediv_eq_zero_of_lt hb.1 hb.2]
  congr 1
  omega
theorem QE {l:LI}(h:byteR l)(hl:l.length=2):aU (i16.wrap (aS l)) 2=l:=by
 have key:∃t,i16.wrap (aS l)=aS l+256 ^ 2*t:=⟨(i16.wrap (aS l) - aS l) / 65536,by simp[IntKind.wrap,IntKind.min,IntKind.max,IntKind.signed,IntKind.bits];omega⟩
 obtain ⟨t,e⟩:=key
 rw[e,j6 _ _ _ _ (Nat.le_refl _)]
 have:=pJ h;rw[hl] at this;exact this
theorem QF {l:LI}(h:byteR l)(hl:l.length=4):aU (i32.wrap (aS l)) 4=l:=by
 have key:∃t,i32.wrap (aS l)=aS l+256 ^ 4*t:=⟨(i32.wrap (aS l) - aS l) / 4294967296,by simp[IntKind.wrap,IntKind.min,IntKind.max,IntKind.signed,IntKind.bits];omega⟩
 obtain ⟨t,e⟩:=key
 rw[e,j6 _ _ _ _ (Nat.le_refl _)]
 have:=pJ h;rw[hl] at this;exact this
theorem QG {l:LI}(h:byteR l)(hl:l.length=8):aU (i64.wrap (aS l)) 8=l:=by
 have key:∃t,i64.wrap (aS l)=aS l+256 ^ 8*t:=⟨(i64.wrap (aS l) - aS l) / 18446744073709551616,by simp[IntKind.wrap,IntKind.min,IntKind.max,IntKind.signed,IntKind.bits];omega⟩
 obtain ⟨t,e⟩:=key
 rw[e,j6 _ _ _ _ (Nat.le_refl _)]
 have:=pJ h;rw[hl] at this;exact this
theorem OP (b:LI)(p:Int):pc b p p=[]:=by
 unfold pc
 exact List.drop_eq_nil_of_le (by rw[List.length_take];omega)
theorem uY {blk:LI}(hb:aZ blk)(f:Int):∀(n i:Nat) (p:Int) (out:List bm),(aE blk f n i p out).2.2=0→0≤p→p≤blk.length→
  ∃rs:List bm,(aE blk f n i p out).1=out++rs∧rs.length=n∧p≤(aE blk f n i p out).2.1∧(aE blk f n i p out).2.1≤blk.length∧
   (∀acc,bp f rs i acc=(acc++pc blk p (aE blk f n i p out).2.1,0))∧ct f rs i=true∧(i=0→0<n→aM rs=f)∧∀r∈rs,bH .i64 r.1
 |0,i,p,out,h,h0,h1=>⟨[],(List.append_nil out).symm,rfl,Int.le_refl p,h1,fun acc=>by
   show (acc,(0:Int))=(acc++pc blk p p,0)
   rw[OP,List.append_nil],rfl,fun _ h=>by omega,fun r h=>by cases h⟩
 |n+1,i,p,out,h,h0,h1=>by
  have e:aE blk f (n+1) i p out=if (an blk p).2.2≠0 then ([],0,(an blk p).2.2) else if (an blk p).1.2.1≠(i:Int) then ([],0,72) else if i=0∧(an blk p).1.1≠0∨aP (f+(an blk p).1.1)=false then ([],0,86)
    else aE blk f n (i+1) (an blk p).2.1 (out++[(f+(an blk p).1.1,(an blk p).1.2.2.1,(an blk p).1.2.2.2.1,(an blk p).1.2.2.2.2.1,())]):=rfl
  rw[e] at h ⊢
  by_cases c1:(an blk p).2.2=0
  rotate_left
  ·rw[if_pos c1] at h;exact absurd h c1
  rw[if_neg (az c1)] at h ⊢
  by_cases c2:(an blk p).1.2.1=(i:Int)
  rotate_left
  ·rw[if_pos c2] at h;cases h
  rw[if_neg (az c2)] at h ⊢
  by_cases c3:i=0∧(an blk p).1.1≠0∨aP (f+(an blk p).1.1)=false
  ·rw[if_pos c3] at h;cases h
  rw[if_neg c3] at h ⊢
  obtain ⟨k1,k2,k3,k4,k5,k6⟩:=E1 hb c1
  obtain ⟨b1,b2⟩:=Di blk p
  obtain ⟨rs,r1,r2,r3,r4,r5,r6,r7,r8⟩:=uY hb f n (i+1) _ _ h (by omega) k3
  generalize an blk p=x at *
  obtain ⟨⟨d,o,K,V,hs,⟨⟩⟩,q,er⟩:=x
  simp only at k1 k2 k3 k4 k5 k6 b1 b2 r1 r3 r4 r5 c2 c3 h ⊢
  subst c2
  generalize aE blk f n (i+1) q (out++[(f+d,K,V,hs,())])=y at *
  have eR:cH f i (f+d,K,V,hs,())=(d,(i:Int),K,V,hs,()):=by
   unfold cH
   simp only
   rw[show f+d - f=d by omega]
  refine ⟨(f+d,K,V,hs,())::rs,by rw[r1];simp,by simp[r2],by omega,r4,fun acc=>?_,?_,fun hi _=>?_,fun r hr=>?_⟩
  ·have e2:bp f ((f+d,K,V,hs,())::rs) i acc=if aP (f+d - f)=false then ([],86) else if bi (cH f i (f+d,K,V,hs,()))≠0 then ([],bi (cH f i (f+d,K,V,hs,()))) else bp f rs (i+1) (acc++(ck (cH f i (f+d,K,V,hs,()))).1):=rfl
   rw[e2,eR,show f+d - f=d by omega,if_neg (by rw[fm.2 (jC b1)];decide),if_neg (az k4),k5,r5]
   simp only
   rw[zK,jG k1 (by omega) r3]
  ·show (gd (cH f i (f+d,K,V,hs,()))&&ct f rs (i+1))=true
   rw[eR,k6,r6];rfl
  ·show f+d=f
   have:d=0:=Classical.byContradiction fun hd=>c3 (.inl ⟨hi,hd⟩)
   omega
  ·rcases List.mem_cons.1 hr with rfl | hr
   ·have hft:aP (f+d)=true:=by
     cases hh:aP (f+d) with
     |true=>rfl
     |false=>exact absurd (.inr hh) c3
    have:=fm.1 hft
    show bH .i64 (f+d)
    simp[bH,IntKind.min,IntKind.max,IntKind.signed,IntKind.bits];omega
   ·exact r8 r hr
theorem t5 {b:LI}(h:aZ b)(i:Nat):0≤b.getD i 0∧b.getD i 0≤255:=by
 rw[List.getD_eq_getElem?_getD]
 cases e:b[i]? with
 |none=>exact ⟨by decide,by decide⟩
 |some x=>exact h x (List.mem_of_getElem? e)
theorem xc {a b:LI}(ha:aZ a)(hb:aZ b):aZ (a++b):=fun c hc=>by
 rcases List.mem_append.1 hc with h | h
 ·exact ha c h
 ·exact hb c h
theorem dv:aZ []:=fun c h=>by cases h
theorem pM (d:Nat):∀(n:Nat) (out:LI),aZ out→aZ (ch d n out)
 |0,_,h=>h
 |n+1,out,h=>pM d n _ (xc h fun c hc=>by
   have:=t5 h (out.length - d)
   simp only[List.mem_singleton] at hc
   rw[hc];exact this)
theorem Df {b:LI}(hb:aZ b):aZ (aN b).1.1:=by
 unfold aN
 split
 ·split
  ·exact dv
  ·exact fun c hc=>hb c (List.mem_of_mem_drop (List.mem_of_mem_take hc))
 ·split
  ·exact dv
  ·split <;> exact dv
theorem pO:∀(k:Nat) (b out:LI) (m:Int),aZ b→aZ out→aZ (bn k b out m).1
 |0,_,_,_,_,h=>h
 |k+1,b,out,m,hb,h=>by
  unfold bn
  split
  ·exact h
  split
  ·exact dv
  split
  ·exact dv
  rename_i h3
  refine pO k _ _ _ (fun c hc=>hb c (List.mem_of_mem_drop hc)) ?_
  unfold aX at h3 ⊢
  split
  ·exact dv
  split
  ·exact dv
  exact pM _ _ _ (xc h (Df hb))
theorem vv {b:LI}(hb:aZ b):aZ (aY b).1:=by
 unfold aY
 repeat' split
 all_goals first | exact dv | skip
 rw[dE]
 exact pO _ _ _ _ (fun c hc=>hb c (List.mem_of_mem_drop hc)) dv
theorem vY {b:LI}(hb:aZ b)(pk:Bool):aZ (aO b pk).1:=by
 unfold aO
 split
 ·exact vv fun c hc=>hb c (List.mem_of_mem_drop hc)
 split
 ·exact dv
 exact fun c hc=>hb c (List.mem_of_mem_drop hc)
theorem EZ (b:LI)(pk:Bool):(aO b pk).1.length≤32768:=by
 unfold aO
 split
 ·exact rO _
 split
 ·simp
 simp only
 omega
structure DecOk (b blk:LI) (rs:List bm):Prop where
 head:bd b true=0
 body:aO b (decide (b.getD 22 0=1))=(blk,0)
 rows:ez rs=(blk,0)
 len:(rs.length:Int)=ar b 57 4
 first:aM rs=ar b 27 8
 last:cj rs=ar b 35 8
 room:ct (aM rs) rs 0=true
 times:∀r∈rs,bH .i64 r.1
theorem H8 {b:LI}(hb:aZ b){rs:List bm}(h:eV b=(rs,0)):∃blk,DecOk b blk rs:=by
 unfold eV at h
 by_cases c1:bd b true=0
 rotate_left
 ·rw[if_pos c1] at h;exact absurd (congrArg Prod.snd h) c1
 rw[if_neg (az c1)] at h
 by_cases c2:(aO b (decide (b.getD 22 0=1))).2=0
 rotate_left
 ·rw[if_pos c2] at h;exact absurd (congrArg Prod.snd h) c2
 rw[if_neg (az c2)] at h
 have hby:=vY hb (decide (b.getD 22 0=1))
 have hle:=EZ b (decide (b.getD 22 0=1))
 have hbk:aO b (decide (b.getD 22 0=1))=((aO b (decide (b.getD 22 0=1))).1,0):=Prod.ext rfl c2
 generalize (aO b (decide (b.getD 22 0=1))).1=blk at *
 obtain ⟨k1,_,_,_,_,_,_,_,_,k2,k3,_⟩:=gP c1
 unfold cO at h
 by_cases c3:(aE blk (ar b 27 8) (ar b 57 4).toNat 0 0 []).2.2=0
 rotate_left
 ·rw[if_pos c3] at h;exact absurd (congrArg Prod.snd h) c3
 rw[if_neg (az c3)] at h
 obtain ⟨rs',r1,r2,r3,r4,r5,r6,r7,r8⟩:=uY hby (ar b 27 8) _ 0 0 [] c3 (Int.le_refl 0) (by omega)
 rw[List.nil_append] at r1
 rw[r1] at h
 by_cases c4:(aE blk (ar b 27 8) (ar b 57 4).toNat 0 0 []).2.1<(blk.length:Int)
 ·rw[if_pos c4] at h;cases congrArg Prod.snd h
 rw[if_neg c4] at h
 have hq:(aE blk (ar b 27 8) (ar b 57 4).toNat 0 0 []).2.1=(blk.length:Int):=by omega
 rw[hq] at r5
 by_cases c5:cj rs'=ar b 35 8
 rotate_left
 ·rw[if_pos c5] at h;cases congrArg Prod.snd h
 rw[if_neg (az c5)] at h
 obtain rfl:rs'=rs:=congrArg Prod.fst h
 have hF:=r7 rfl (by omega)
 have hp:pc blk 0 (blk.length:Int)=blk:=by
  unfold pc
  rw[zG,List.take_length];rfl
 have h5:=r5 []
 rw[hp,List.nil_append] at h5
 refine ⟨blk,c1,hbk,?_,by omega,hF,c5,by rw[hF];exact r6,r8⟩
 unfold ez
 rw[hF,h5,if_neg (az rfl),if_neg (by simp only;omega)]
theorem t4 {b:LI}(h:aZ b):byteR b:=fun c hc=>⟨(h c hc).1,by have:=(h c hc).2;omega⟩
theorem sy {b:LI}(h:aZ b){p:Nat}(hp:p+8≤b.length):aU (ar b p 8) 8=(b.drop p).take 8:=by
 unfold ar
 have h1:=dz h p 8
 rw[← AE h1 (cI hp)]
 exact QG (t4 h1) (cI hp)
theorem o5 {b:LI}(h:aZ b){p:Nat}(hp:p+4≤b.length):aU (ar b p 4) 4=(b.drop p).take 4:=by
 unfold ar
 have h1:=dz h p 4
 rw[← m8 h1 (cI hp)]
 exact QF (t4 h1) (cI hp)
theorem Nv {b:LI}(h:aZ b){p:Nat}(hp:p+2≤b.length):aU (ar b p 2) 2=(b.drop p).take 2:=by
 unfold ar
 have h1:=dz h p 2
 rw[← s5 h1 (cI hp)]
 exact QE (t4 h1) (cI hp)
theorem qt (b:LI)(p n:Nat):(b.drop p).take n++b.drop (p+n)=b.drop p:=by
 rw[← List.drop_drop,List.take_append_drop]
structure BatR (x:bR):Prop where
 w1:bH .i64 x.1
 w2:bH .i32 x.2.1
 w3:bH .i64 x.2.2.1
 w4:bH .i16 x.2.2.2.1
 w5:bH .i32 x.2.2.2.2.1
 w6:∀r∈x.2.2.2.2.2.1,bH .i64 r.1
theorem BatR.of {x:bR}(hx:Ty.wf fN x):BatR x:=⟨hx.1,hx.2.1,hx.2.2.1,hx.2.2.2.1,hx.2.2.2.2.1,fun r hr=>(hx.2.2.2.2.2.1.2 r hr).1⟩
theorem HM {b:LI}(h:aZ b){p:Nat}(hp:p+8≤b.length):bH .i64 (ar b p 8):=by
 unfold ar
 rw[← AE (dz h p 8) (cI hp)]
 exact bL _ _
theorem HL {b:LI}(h:aZ b){p:Nat}(hp:p+4≤b.length):bH .i32 (ar b p 4):=by
 unfold ar
 rw[← m8 (dz h p 4) (cI hp)]
 exact bL _ _
theorem Pj {b:LI}(h:aZ b){p:Nat}(hp:p+2≤b.length):bH .i16 (ar b p 2):=by
 unfold ar
 rw[← s5 (dz h p 2) (cI hp)]
 exact bL _ _
theorem Eb {b:LI}(hb:aZ b){x:bR}(h:ao b=(x,0)):∃blk,DecOk b blk x.2.2.2.2.2.1∧du x=0∧qZ x (b.getD 22 0) (b.drop 61)=b∧BatR x:=by
 unfold ao at h
 by_cases c1:(eV b).2=0
 rotate_left
 ·rw[if_pos c1] at h;exact absurd (congrArg Prod.snd h) c1
 rw[if_neg (az c1)] at h
 have hE:eV b=((eV b).1,0):=by rw[← c1]
 generalize (eV b).1=rs at *
 obtain rfl:=congrArg Prod.fst h
 obtain ⟨blk,D⟩:=H8 hb hE
 refine ⟨blk,D,?_,?_,?_⟩
 ·obtain ⟨k1,_,_,_,_,k5,_,_,k8,k9,k10,_⟩:=gP D.head
  have hl:=D.len
  have e:du (ar b 0 8,ar b 12 4,ar b 43 8,ar b 51 2,ar b 53 4,rs,())=if bh (ar b 0 8)=true then 80 else if aW (ar b 43 8) (ar b 51 2) (ar b 53 4)=true then 84 else if rs=[] then 85 else if 256<(rs.length:Int) then 9 else (ez rs).2:=rfl
  rw[e,if_neg (by rw[k5];decide),if_neg (by rw[k8];decide),if_neg (fun h=>by rw[h] at hl;simp at hl;omega),if_neg (by omega),D.rows]
 ·obtain ⟨k1,k2,k3,k4,k4',k5,k6,k7,k8,k9,k10,k11⟩:=gP D.head
  have hl:(rs.length:Int)=ar b 57 4:=D.len
  have hF:aM rs=ar b 27 8:=D.first
  have hL:cj rs=ar b 35 8:=D.last
  have hS:eN b=true:=by
   cases h:eN b with
   |true=>rfl
   |false=>exact absurd ⟨rfl,h⟩ k4'
  have hS:(b.drop 17).take 4=aU (cG 0 (b.drop 21)) 4:=by
   unfold eN at hS
   split at hS
   ·assumption
   ·cases hS
  have hM:ar b 8 4=49+((b.drop 61).length:Int):=by
   unfold aj at k2 k3
   split at k2
   ·cases k2
   rename_i m1
   rw[if_neg m1] at k3
   split at k2
   ·cases k2
   rename_i m2
   rw[if_neg m2] at k3
   split at k2
   ·cases k2
   rename_i m3
   rw[if_neg m3] at k3
   split at k2
   ·cases k2
   rename_i m4
   rw[if_neg m4] at k3
   split at k2
   ·cases k2
   rename_i m5
   rw[if_neg m5] at k3
   have k3:ar b 8 4+12=(b.length:Int):=k3
   rw[List.length_drop]
   omega
  have e22:=t5 hb 22
  have h21:aU (b.getD 22 0) 2=(b.drop 21).take 2:=by
   rw[PK (by omega),k6]
   rcases (by omega:b.getD 22 0=0∨b.getD 22 0=1) with h | h <;> rw[h] <;> rfl
  have t57:aU (rs.length:Int) 4++b.drop 61=b.drop 57:=by rw[hl,o5 hb (by omega),qt b 57 4]
  have t53:aU (ar b 53 4) 4++b.drop 57=b.drop 53:=by rw[o5 hb (by omega),qt b 53 4]
  have t51:aU (ar b 51 2) 2++b.drop 53=b.drop 51:=by rw[Nv hb (by omega),qt b 51 2]
  have t43:aU (ar b 43 8) 8++b.drop 51=b.drop 43:=by rw[sy hb (by omega),qt b 43 8]
  have t35:aU (cj rs) 8++b.drop 43=b.drop 35:=by rw[hL,sy hb (by omega),qt b 35 8]
  have t27:aU (aM rs) 8++b.drop 35=b.drop 27:=by rw[hF,sy hb (by omega),qt b 27 8]
  have t23:aU ((rs.length:Int) - 1) 4++b.drop 27=b.drop 23:=by rw[hl,← k11,o5 hb (by omega),qt b 23 4]
  have t21:aU (b.getD 22 0) 2++b.drop 23=b.drop 21:=by rw[h21,qt b 21 2]
  have t17:aU (cG 0 (b.drop 21)) 4++b.drop 21=b.drop 17:=by rw[← hS,qt b 17 4]
  have t16:[2]++b.drop 17=b.drop 16:=by rw[← k4,← Ng (by omega),qt b 16 1]
  have t12:aU (ar b 12 4) 4++b.drop 16=b.drop 12:=by rw[o5 hb (by omega),qt b 12 4]
  have t8:aU (49+((b.drop 61).length:Int)) 4++b.drop 12=b.drop 8:=by rw[← hM,o5 hb (by omega),qt b 8 4]
  have t0:aU (ar b 0 8) 8++b.drop 8=b:=by
   have:=sy hb (p:=0) (by omega)
   rw[this];exact qt b 0 8
  have hT:eo (ar b 0 8,ar b 12 4,ar b 43 8,ar b 51 2,ar b 53 4,rs,()) (b.getD 22 0) (b.drop 61)=b.drop 21:=by
   show aU (b.getD 22 0) 2++(aU ((rs.length:Int) - 1) 4++(aU (aM rs) 8++(aU (cj rs) 8++(aU (ar b 43 8) 8++(aU (ar b 51 2) 2++(aU (ar b 53 4) 4++(aU (rs.length:Int) 4++b.drop 61)))))))=_
   rw[t57,t53,t51,t43,t35,t27,t23,t21]
  show aU (ar b 0 8) 8++(aU (49+((b.drop 61).length:Int)) 4++(aU (ar b 12 4) 4++([2]++(aU (cG 0 (eo (ar b 0 8,ar b 12 4,ar b 43 8,ar b 51 2,ar b 53 4,rs,()) (b.getD 22 0) (b.drop 61))) 4++eo (ar b 0 8,ar b 12 4,ar b 43 8,ar b 51 2,ar b 53 4,rs,()) (b.getD 22 0) (b.drop 61)))))=b
  rw[hT,t17,t16,t12,t8,t0]
 ·obtain ⟨k1,_⟩:=gP D.head
  exact ⟨HM hb (by omega),HL hb (by omega),HM hb (by omega),Pj hb (by omega),HL hb (by omega),D.times⟩
theorem qq {x:bR}(h:du x=0):bh x.1=false∧aW x.2.2.1 x.2.2.2.1 x.2.2.2.2.1=false∧1≤x.2.2.2.2.2.1.length∧x.2.2.2.2.2.1.length≤256∧(ez x.2.2.2.2.2.1).2=0:=by
 unfold du at h
 split at h
 ·cases h
 rename_i h1
 split at h
 ·cases h
 rename_i h2
 split at h
 ·cases h
 rename_i h3
 split at h
 ·cases h
 rename_i h4
 exact ⟨by simpa using h1,by simpa using h2,List.length_pos_iff.2 h3,by omega,h⟩
theorem J1 {rs:List bm}(h:(ez rs).2=0):(bp (aM rs) rs 0 []).2=0∧(ez rs).1=(bp (aM rs) rs 0 []).1∧(ez rs).1.length≤32768:=by
 unfold ez at h ⊢
 by_cases c1:(bp (aM rs) rs 0 []).2=0
 rotate_left
 ·rw[if_pos c1] at h;exact absurd h c1
 rw[if_neg (az c1)] at h ⊢
 by_cases c2:32768<((bp (aM rs) rs 0 []).1.length:Int)
 ·rw[if_pos c2] at h;cases h
 rw[if_neg c2] at h ⊢
 exact ⟨c1,rfl,by simp only;omega⟩
theorem JY (x:bR)(a:Int)(raw:LI):(qZ x a raw).length=61+raw.length:=by
 unfold qZ eo
 simp only[zH,vi,List.length_singleton]
 omega
abbrev bZ:Ty:=.prod (.int .i64) (.prod (.int .i64) (.prod (.int .i64) (.prod (.int .i64) (.prod (.int .i64) (.prod (.int .i64) (.prod (.int .i16) (.prod (.int .i32) .unit)))))))
abbrev bj:Type:=Int×Int×Int×Int×Int×Int×Int×Int×Unit
abbrev Nd:Ty:=.sl 46 bZ
abbrev Re:Ty:=.prod Nd (.prod (.int .i64) (.prod (.int .i64) (.prod (.int .i64) .unit)))
abbrev Px:Type:=List bj×Int×Int×Int×Unit
abbrev QX:Sh:=.dat bZ true false
abbrev QY:Sh:=.dat Nd false false
abbrev PM:Sh:=.dat Nd false true
abbrev Ku:Sh:=.dat Re true false
abbrev Gb:Sh:=.dat (.sl 77 fN) false false
def HK (x:bR)(p n:Int):bj:=(x.1,(x.2.2.2.2.2.1.length:Int),p,n,cj x.2.2.2.2.2.1,x.2.2.1,x.2.2.2.1,x.2.2.2.2.1,())
def bN (b:LI):Nat→Int→Int→List (bj×bR)×Int×Int×Int
 |0,p,q=>([],p,q,0)
 |k+1,p,q=>
  if (b.length:Int)≤p then ([],p,q,0)
  else if (aj b p).2≠0 then ([],p,q,(aj b p).2)
  else if (ao ((b.drop p.toNat).take (aj b p).1.toNat)).2≠0 then ([],p,q,(ao ((b.drop p.toNat).take (aj b p).1.toNat)).2)
  else if (ao ((b.drop p.toNat).take (aj b p).1.toNat)).1.1≠q then ([],p,q,190)
  else ((HK (ao ((b.drop p.toNat).take (aj b p).1.toNat)).1 p (aj b p).1,(ao ((b.drop p.toNat).take (aj b p).1.toNat)).1) ::
    (bN b k (p+(aj b p).1) (q+((ao ((b.drop p.toNat).take (aj b p).1.toNat)).1.2.2.2.2.2.1.length:Int))).1,
   (bN b k (p+(aj b p).1) (q+((ao ((b.drop p.toNat).take (aj b p).1.toNat)).1.2.2.2.2.2.1.length:Int))).2)
def aw (b:LI)(base:Int):List (bj×bR)×Int×Int×Int:=bN b (b.length+1) 0 base
def aG (b:LI)(base:Int):Px:=((aw b base).1.map (·.1),(aw b base).2.1,(aw b base).2.2.1,(aw b base).2.2.2,())
def aB (time base:Int):List bm→Nat→Int×Int×Bool→Int×Int×Bool
 |[],_,f=>f
 |r::rs,i,f=>aB time base rs (i+1) (if f.2.2=false∧time≤r.1 then (base+i,r.1,true) else f)
def bE (time:Int)(xs:List (bj×bR))(f:Int×Int×Bool):Int×Int×Bool:=xs.foldl (fun f x=>aB time x.2.1 x.2.2.2.2.2.2.1 0 f) f
def cR (b:LI)(base time:Int):Int×Int×Bool:=bE time (aw b base).1 (0,0,false)
def aK (from_:Int)(es:List bj):Nat:=(es.takeWhile fun e=>decide (e.1≤from_)).length
def ci (at_ most:Int):List bj→Int→Int
 |[],e=>e
 |x::xs,e=>if most<x.2.2.1+x.2.2.2.1 - at_ then e else ci at_ most xs (x.2.2.1+x.2.2.2.1)
def fG:List bj→Bool
 |[]=>true
 |x::xs=>(match xs with
  |[]=>true
  |y::_=>decide (x.1≤y.1))&&fG xs
def fD (x:bR):Bool:=decide (0≤x.1)&&(decide (x.1≤4611686018427387648)&&decide (x.2.2.2.2.2.1.length≤256))
def eQ:bj:=(0,0,0,0,0,0,0,0,())
def b9 (b:LI)(base from_ most:Int):LI×Int:=
 if from_<base∨(aw b base).2.2.1<from_ then ([],221)
 else if from_=(aw b base).2.2.1 then ([],0)
 else
  (let es:=(aw b base).1.map (·.1)
   let f:=es.getD (aK from_ es - 1) eQ
   ((b.take (ci f.2.2.1 most (es.drop (aK from_ es)) (f.2.2.1+f.2.2.2.1)).toNat).drop f.2.2.1.toNat,0))
def pN (es:List bj):Bool:=es.all fun e=>decide (0≤e.2.2.1)&&(decide (e.2.2.1≤4294960000)&&(decide (0≤e.2.2.2.1)&&decide (e.2.2.2.1≤4294960000)))
def Tiles (len:Int):List bj→Int→Int→Int→Int→Prop
 |[],p,q,p',q'=>p=p'∧q=q'
 |e::es,p,q,p',q'=>(e.1=q∧e.2.2.1=p∧61≤e.2.2.2.1∧e.2.2.2.1≤36000∧p+e.2.2.2.1≤len∧1≤e.2.1∧e.2.1≤256∧0≤q∧q≤4611686018427387648)∧Tiles len es (p+e.2.2.2.1) (q+e.2.1) p' q'
theorem gQ {b:LI}(hb:aZ b)(p n:Nat):aZ ((b.drop p).take n):=fun c hc=>hb c (List.mem_of_mem_drop (List.mem_of_mem_take hc))
theorem fU {p:LI}(hp:aZ p)(h:(ao p).2=0):0≤(ao p).1.1∧(ao p).1.1≤4611686018427387648∧1≤(ao p).1.2.2.2.2.2.1.length∧(ao p).1.2.2.2.2.2.1.length≤256:=by
 have hx:ao p=((ao p).1,0):=Prod.ext rfl h
 obtain ⟨blk,D,h1,h2,hR⟩:=Eb hp hx
 obtain ⟨g1,g2,g3,g4,g5⟩:=qq h1
 unfold bh at g1
 simp only[Bool.or_eq_false_iff,decide_eq_false_iff_not] at g1
 exact ⟨by omega,by omega,g3,g4⟩
theorem vJ {b:LI}(hb:aZ b):∀(k:Nat) (p q:Int),0≤p→p≤b.length→Tiles b.length ((bN b k p q).1.map (·.1)) p q (bN b k p q).2.1 (bN b k p q).2.2.1∧p≤(bN b k p q).2.1∧(bN b k p q).2.1≤b.length
 |0,p,q,h0,h1=>⟨⟨rfl,rfl⟩,Int.le_refl p,h1⟩
 |k+1,p,q,h0,h1=>by
  unfold bN
  split
  ·exact ⟨⟨rfl,rfl⟩,Int.le_refl p,h1⟩
  split
  ·exact ⟨⟨rfl,rfl⟩,Int.le_refl p,h1⟩
  rename_i c2
  split
  ·exact ⟨⟨rfl,rfl⟩,Int.le_refl p,h1⟩
  rename_i c3
  split
  ·exact ⟨⟨rfl,rfl⟩,Int.le_refl p,h1⟩
  rename_i c4
  have c2:(aj b p).2=0:=Classical.byContradiction c2
  have c3:=Classical.byContradiction c3
  have c4:=Classical.byContradiction c4
  have hm:=fk c2
  have hx:=fU (gQ hb p.toNat (aj b p).1.toNat) c3
  obtain ⟨g1,g2,g3⟩:=vJ hb k (p+(aj b p).1) (q+((ao ((b.drop p.toNat).take (aj b p).1.toNat)).1.2.2.2.2.2.1.length:Int)) (by omega) (by omega)
  rw[c4] at hx
  refine ⟨⟨⟨c4,rfl,hm.1,hm.2.1,hm.2.2.1,?_,?_,hx.1,hx.2.1⟩,g1⟩,Int.le_trans (b:=p+(aj b p).1) (by omega) g2,g3⟩
  ·show (1:Int)≤((ao ((b.drop p.toNat).take (aj b p).1.toNat)).1.2.2.2.2.2.1.length:Int);omega
  ·show ((ao ((b.drop p.toNat).take (aj b p).1.toNat)).1.2.2.2.2.2.1.length:Int)≤256;omega
theorem qj {b:LI}(hb:aZ b)(base:Int):Tiles b.length ((aw b base).1.map (·.1)) 0 base (aw b base).2.1 (aw b base).2.2.1∧0≤(aw b base).2.1∧(aw b base).2.1≤b.length:=vJ hb _ 0 base (Int.le_refl 0) (by omega)
theorem Tiles.ok {len:Int}(hl:len≤4294950000):∀{es:List bj} {p q p' q':Int},0≤p→Tiles len es p q p' q'→pN es=true∧fG es=true∧q≤q'∧p≤p'∧(∀e∈es,q≤e.1∧e.1+e.2.1≤q'∧p≤e.2.2.1∧e.2.2.1+e.2.2.2.1≤len∧61≤e.2.2.2.1∧e.2.2.1+e.2.2.2.1≤p')∧(es=[]→q=q')
 |[],p,q,p',q',_,h=>⟨rfl,rfl,by rw[h.2];exact Int.le_refl _,by rw[h.1];exact Int.le_refl _,fun e he=>(by cases he),fun _=>h.2⟩
 |e::es,p,q,p',q',h0,⟨⟨e1,e2,e3,e4,e5,e6,e7,e8,e9⟩,h⟩=>by
  obtain ⟨g1,g2,g3,g4,g5,g6⟩:=Tiles.ok hl (by omega) h
  refine ⟨?_,?_,by omega,by omega,fun x hx=>?_,fun h=>by cases h⟩
  ·unfold pN
   rw[List.all_cons,zA]
   refine ⟨?_,g1⟩
   simp only[zA,zB]
   omega
  ·unfold fG
   rw[zA]
   refine ⟨?_,g2⟩
   cases es with
   |nil=>rfl
   |cons y ys=>
    have:=(g5 y (by simp)).1
    exact decide_eq_true (by omega)
  ·rcases List.mem_cons.1 hx with rfl | hx
   ·omega
   ·have:=g5 x hx;omega
theorem Tiles.len {len:Int}:∀{es:List bj} {p q p' q':Int},p≤len→Tiles len es p q p' q'→61*(es.length:Int)≤len - p
 |[],p,q,p',q',h,_=>by simp;omega
 |e::es,p,q,p',q',h,⟨⟨e1,e2,e3,e4,e5,e6,e7,e8,e9⟩,ht⟩=>by
  have:=Tiles.len (by omega) ht
  rw[zN]
  push_cast
  omega
theorem AI:∀{es:List bj},fG es=true→∀(i j:Nat) (hi:i≤j) (hj:j<es.length),(es[i]'(by omega)).1≤(es[j]).1
 |[],_,i,j,_,hj=>by simp at hj
 |x::xs,h,i,j,hi,hj=>by
  unfold fG at h
  rw[zA] at h
  cases j with
  |zero=>
   have:i=0:=by omega
   subst this;exact Int.le_refl _
  |succ j=>
   cases i with
   |succ i=>exact AI h.2 i j (by omega) (by simpa using hj)
   |zero=>
    cases xs with
    |nil=>simp at hj
    |cons y ys=>
     have h1:x.1≤y.1:=of_decide_eq_true h.1
     have h2:=AI h.2 0 j (Nat.zero_le _) (by simpa using hj)
     exact Int.le_trans h1 h2
theorem ta (f:Int):∀es:List bj,aK f es≤es.length
 |[]=>Nat.le_refl 0
 |x::xs=>by
  have:=ta f xs
  unfold aK at this ⊢
  rw[List.takeWhile_cons]
  split
  ·rw[zN,zN];omega
  ·exact Nat.zero_le _
theorem HS {f:Int}:∀{es:List bj} {i:Nat} (hi:i<aK f es),(es[i]'(Nat.lt_of_lt_of_le hi (ta f es))).1≤f
 |[],i,hi=>by simp[aK] at hi
 |x::xs,i,hi=>by
  have e:aK f (x::xs)=if x.1≤f then aK f xs+1 else 0:=by
   unfold aK
   rw[List.takeWhile_cons]
   by_cases c:x.1≤f
   ·rw[if_pos (decide_eq_true c),if_pos c];rfl
   ·rw[if_neg (by simpa using c),if_neg c];rfl
  rw[e] at hi
  by_cases c:x.1≤f
  ·rw[if_pos c] at hi
   cases i with
   |zero=>exact c
   |succ i=>exact HS (es:=xs) (by omega)
  ·rw[if_neg c] at hi;omega
theorem HR {f:Int}:∀{es:List bj},fG es=true→∀{i:Nat} (hi:i<es.length),aK f es≤i→f<(es[i]).1
 |[],_,i,hi,_=>by simp at hi
 |x::xs,hs,i,hi,h=>by
  have e:aK f (x::xs)=if x.1≤f then aK f xs+1 else 0:=by
   unfold aK
   rw[List.takeWhile_cons]
   by_cases c:x.1≤f
   ·rw[if_pos (decide_eq_true c),if_pos c];rfl
   ·rw[if_neg (by simpa using c),if_neg c];rfl
  rw[e] at h
  by_cases c:x.1≤f
  ·rw[if_pos c] at h
   cases i with
   |zero=>omega
   |succ i=>
    unfold fG at hs
    rw[zA] at hs
    exact HR hs.2 (by simpa using hi) (by omega)
  ·have:=AI hs 0 i (Nat.zero_le _) hi
   have h0:((x::xs)[0]).1=x.1:=rfl
   omega
theorem Tiles.drop {len:Int}:∀{es:List bj} {p q p' q':Int},Tiles len es p q p' q'→∀(i:Nat) (hi:i<es.length),Tiles len (es.drop (i+1)) ((es[i]).2.2.1+(es[i]).2.2.2.1) ((es[i]).1+(es[i]).2.1) p' q'
 |[],_,_,_,_,_,i,hi=>by simp at hi
 |e::es,p,q,p',q',⟨⟨e1,e2,_⟩,h⟩,0,_=>by
  show Tiles len es (e.2.2.1+e.2.2.2.1) (e.1+e.2.1) p' q'
  rw[e1,e2];exact h
 |e::es,p,q,p',q',⟨_,h⟩,i+1,hi=>h.drop i (by simpa using hi)
theorem Gf {a m lo hi:Int}:∀(es:List bj) (e:Int),lo≤e→e≤hi→(∀x∈es,lo≤x.2.2.1+x.2.2.2.1∧x.2.2.1+x.2.2.2.1≤hi)→lo≤ci a m es e∧ci a m es e≤hi
 |[],e,h1,h2,_=>⟨h1,h2⟩
 |x::xs,e,h1,h2,h=>by
  unfold ci
  split
  ·exact ⟨h1,h2⟩
  ·obtain ⟨h3,h4⟩:=h x (by simp)
   exact Gf xs _ h3 h4 fun y hy=>h y (by simp[hy])
theorem Nk {f:Int}{es:List bj}(h:0<es.length)(h0:(es[0]).1≤f):1≤aK f es:=by
 cases es with
 |nil=>simp at h
 |cons x xs=>
  have h0:x.1≤f:=h0
  unfold aK
  rw[List.takeWhile_cons,if_pos (decide_eq_true h0),zN]
  omega
theorem Pf {b:LI}(hb:aZ b)(hl:b.length≤4294950000){base f:Int}(most:Int)(h1:base≤f)(h2:f<(aw b base).2.2.1){es:List bj}(hes:es=(aw b base).1.map (·.1)):∃u:Nat,aK f es=u+1∧∃hu:u<es.length,
  0≤(es[u]).2.2.1∧(es[u]).2.2.1≤(b.length:Int)∧(es[u]).2.2.1≤ci (es[u]).2.2.1 most (es.drop (u+1)) ((es[u]).2.2.1+(es[u]).2.2.2.1)∧ci (es[u]).2.2.1 most (es.drop (u+1)) ((es[u]).2.2.1+(es[u]).2.2.2.1)≤(b.length:Int)∧0≤(es[u]).2.2.2.1∧(es[u]).2.2.2.1≤36000:=by
 obtain ⟨ht,hp0,hp1⟩:=qj hb base
 rw[← hes] at ht
 obtain ⟨g1,g2,g3,g4,g5,g6⟩:=ht.ok (by omega) (Int.le_refl 0)
 have hne:0<es.length:=by
  rcases Nat.eq_zero_or_pos es.length with h | h
  ·have:=g6 (List.length_eq_zero_iff.1 h);omega
  ·exact h
 have h0:(es[0]).1=base:=by
  cases es with
  |nil=>simp at hne
  |cons x xs=>exact ht.1.1
 have hu1:=Nk (f:=f) hne (by omega)
 have hu2:=ta f es
 obtain ⟨u,hu⟩:∃u,aK f es=u+1:=⟨_,(Nat.sub_add_cancel hu1).symm⟩
 have hlt:u<es.length:=by omega
 refine ⟨u,hu,hlt,?_⟩
 have hx:=g5 (es[u]) (List.getElem_mem hlt)
 have hxx:es[u].2.2.2.1≤36000:=by
  have key:∀{es:List bj} {p q p' q':Int},Tiles b.length es p q p' q'→∀(i:Nat) (hi:i<es.length),(es[i]).2.2.2.1≤36000:=by
   intro es
   induction es with
   |nil=>intro p q p' q' h i hi;simp at hi
   |cons e es ih=>
    intro p q p' q' h i hi
    cases i with
    |zero=>exact h.1.2.2.2.1
    |succ i=>exact ih h.2 i (by simpa using hi)
  exact key ht u hlt
 have hd:=ht.drop u hlt
 obtain ⟨_,_,_,_,k5,_⟩:=hd.ok (by omega) (by omega)
 have he:=Gf (a:=(es[u]).2.2.1) (m:=most) (lo:=(es[u]).2.2.1) (hi:=(b.length:Int)) (es.drop (u+1)) ((es[u]).2.2.1+(es[u]).2.2.2.1) (by omega) (by omega) fun x hx'=>by
  have:=k5 x hx'
  omega
 exact ⟨by omega,by omega,he.1,he.2,by omega,hxx⟩
abbrev PF:List Sh:=[PM,dI,cw,dI]
abbrev Lz:List Sh:=[QY,dI,cw,dI]
abbrev iq:Io:=⟨[QX,BO,.ptr 0 0],[PF],[],[],none⟩
def yt (d:iq.In):Tr iq.Res:=.ite (decide (d.2.1.1.length≤4294960000)) (.ret (.ret ((),((d.2.1.1++[d.1.1],d.2.1.2),())))) .no
abbrev Bz:List (Nat×Hc):=[]
def KP:Hd:=bG Bz
def CC:Lp:=bM []
def tJ (a0 a1 a2 a3 a4 a5 a6 a7 a8 a9 a10 a11 a12:Int)(a13:List aR.den)(a14:List bZ.den)(a15 a16 a17:Int):Option iq.Res:=bif decide (a14.length+1≤4294967296) then oR ((),(a14++[(a0,a1,a2,a3,a4,a5,a6,a7,())],a15,a16,a17,()),()) else none
theorem IP (a0 a1 a2 a3 a4 a5 a6 a7 a8 a9 a10 a11 a12:Int)(a13:List aR.den)(a14:List bZ.den)(a15 a16 a17:Int):Io.run tt KP dr CC iq Tryz.f53 (((a0,a1,a2,a3,a4,a5,a6,a7,()),(a8,a9,a10,a11,a12,a13,()),(),()),(a14,a15,a16,a17,()),())=tJ a0 a1 a2 a3 a4 a5 a6 a7 a8 a9 a10 a11 a12 a13 a14 a15 a16 a17:=by kernel_rfl
theorem LH:HcOk prog 53 (ah iq yt):=by
 refine bQ (cs:=Bz) HcsOk.nil (lp:=CC) (fn:=Tryz.f53) iq (.done (by kernel_rfl)) yt ?_
 rintro ⟨⟨⟨(a0:Int),(a1:Int),(a2:Int),(a3:Int),(a4:Int),(a5:Int),(a6:Int),(a7:Int),⟨⟩⟩,⟨(x1:Int),(x2:Int),(x3:Int),(x4:Int),(x5:Int),(rs:List bm),⟨⟩⟩,⟨⟩,⟨⟩⟩,⟨⟨(es:List bj),(l:Int),(n:Int),(w:Int),⟨⟩⟩,⟨⟩⟩⟩ out hw ho
 obtain ⟨hg,ho⟩:=Tr.guard ho
 have hg:es.length≤4294960000:=of_decide_eq_true hg
 cases ho
 refine (IP a0 a1 a2 a3 a4 a5 a6 a7 x1 x2 x3 x4 x5 rs es l n w).trans ?_
 unfold tJ
 exact aa (decide_eq_true (by show es.length+1≤4294967296;omega)) _ _
abbrev iu:Io:=⟨[dL,cw,.fnc 53 false [0]],[PF],[],[dI,cw,dI],none⟩
def yv (d:iu.In):Tr iu.Res:=
 .ite (decide (d.1.1.length≤4294950000)&&decide (d.2.1.1.length=0)) (.ret (.ret (((aw d.1.1 d.1.2.1).2.1,((aw d.1.1 d.1.2.1).2.2.1,((aw d.1.1 d.1.2.1).2.2.2,()))),(((aw d.1.1 d.1.2.1).1.map (·.1),d.2.1.2),())))) .no
abbrev BB:List (Nat×Hc):=[(67,ah gG tg),(56,ah kk Fg),(53,ah iq yt)]
def ut:Hd:=bG BB
abbrev cz:Lo:=⟨⟨[.one (.hol (.sl 5 (Ty.int u8))),.any,.one (.fnp 53 false [0]),.any,.any,.any,.one hI,.one hI,.any,.one hI,.any,.one (.ptr 12 0),.one hI,.any,.any,.any,.any,.any,.any,.any,.any,.any,.any,.any,.any,.any,.any,.any,.any,.any,.any,.any,.any,.any,.any,.any,.any,.any,.any,.any,.any,.any,.any,.any,.any,.any,.any,.any,.any,.any,.any,.any,.any,.any,.any,.any,.any,.any,.one (.hol (.sl 91 aR)),.one hI,.one hI,.any,.any,.any,.any,.any,.any,.any,.any,.any,.any,.any,.any,.any,.any,.any,.any,.any,.any,.any,.any,.any,.any,.any,.any,.any,.any,.any,.any,.any,.any,.any,.any,.any,.any,.any,.any],[some [.onl 46 bZ 2,hI,hI,hI],none,none,none,none,none,none,none,none,none,none,none,some [hI,hJ,hI,hK,hJ,.hol (.sl 91 aR)]]⟩,[(.exit 2,⟨[.one (.hol (.sl 5 (Ty.int u8))),.any,.one (.fnp 53 false [0]),.any,.any,.any,.one hI,.one hI,.any,.one hI,.any,.one (.ptr 12 0),.one hI,.any,.any,.any,.any,.any,.any,.any,.any,.any,.any,.any,.any,.any,.any,.any,.any,.any,.any,.any,.any,.any,.any,.any,.any,.any,.any,.any,.any,.any,.any,.any,.any,.any,.any,.any,.any,.any,.any,.any,.any,.any,.any,.any,.any,.any,.any,.any,.any,.any,.any,.any,.any,.any,.any,.any,.any,.any,.any,.any,.any,.any,.any,.any,.any,.any,.any,.any,.any,.any,.any,.any,.any,.any,.any,.any,.any,.any,.any,.any,.any,.any,.any,.any,.any],[some [.onl 46 bZ 2,hI,hI,hI],none,none,none,none,none,none,none,none,none,none,none,some [hI,hJ,hI,hK,hJ,.hol (.sl 91 aR)]]⟩)]⟩
abbrev cN:Lo:=⟨⟨[.one (.hol (.sl 5 (Ty.int u8))),.any,.one (.fnp 53 false [0]),.any,.any,.any,.one hI,.one hI,.any,.any,.any,.any,.any,.any,.any,.any,.any,.any,.any,.any,.any,.any,.any,.any,.any,.any,.any,.any,.any,.any,.any,.any,.any,.any,.any,.any,.any,.any,.any,.any,.any,.any,.any,.any,.any,.any,.any,.any,.any,.any,.any,.any,.any,.any,.any,.any,.any,.any,.any,.any,.any,.any,.any,.any,.any,.any,.any,.any,.any,.any,.any,.any,.any,.any,.any,.any,.any,.any,.any,.any,.any,.any,.any,.any,.any,.any,.any,.any,.any,.any,.any,.any,.any,.any,.any,.any,.any],[some [.onl 46 bZ 2,hI,hI,hI]]⟩,[(.ret,⟨(bz (bk (.one hI::.one hI::.one hI::ai (ai (ai (ai (ai (dm [])))))))),[some [.onl 46 bZ 2,hI,hI,hI]]⟩),(.exit 0,⟨(bz (bk (.one hI::.one hI::.any::ai (ai (ai (ai (ai (dm [])))))))),[some [.onl 46 bZ 2,hI,hI,hI]]⟩)]⟩
def gX (d:cz.st.den):Tr (ap cz.xs):=
 .ite (decide (d.1.2.2.2.2.2.2.1=(d.1.2.2.2.2.2.1.length:Int))&&(decide (d.1.2.2.2.2.2.2.2.1=0)&&decide (d.1.2.2.2.2.2.1.length≤256)))
  (.ret (.ret ((),((d.1.1,(d.1.2.1,(d.1.2.2.1,(d.1.2.2.2.1,(bu d.1.2.2.2.2.2.1 d.1.2.2.2.2.1,()))))),d.2)))) .no
def en (W:List (bj×bR)×Int×Int×Int)(es:List bj)(l n w:Int):ap cN.xs:=
 if W.2.2.2=0 then .pan (.ret ((),((W.2.1,(W.2.2.1,())),((es++(W).1.map (·.1),(l,(n,(w,())))),())))) else .ret ((),((W.2.1,(W.2.2.1,(W.2.2.2,()))),((es++(W).1.map (·.1),(l,(n,(w,())))),())))
def jO (d:cN.st.den):Tr (ap cN.xs):=
 .ite (decide (d.1.2.1=0)&&(decide (d.1.1.length≤4294950000)&&decide (d.2.1.1.length=0))) (.ite (decide ((aw d.1.1 d.1.2.2.1).2.2.2=0)) (.ret (.pan (.ret ((),(((aw d.1.1 d.1.2.2.1).2.1,((aw d.1.1 d.1.2.2.1).2.2.1,())),((d.2.1.1++(aw d.1.1 d.1.2.2.1).1.map (·.1),d.2.1.2),())))))) (.ret (.ret ((),(((aw d.1.1 d.1.2.2.1).2.1,((aw d.1.1 d.1.2.2.1).2.2.1,((aw d.1.1 d.1.2.2.1).2.2.2,()))),((d.2.1.1++(aw d.1.1 d.1.2.2.1).1.map (·.1),d.2.1.2),())))))) .no
def jZ:Lp:=bM [(3,aD cN jO),(14,aD cz gX)]
def ny {R:Type}(h34:LI)(h35 h36 h37 h38:Int)(h39:List aR.den)(h40 h41:Int)(h42:List bZ.den)(h43 h44 h45 h46 h47 h48 h49 h50:Int)(h51:List aR.den)(next:LI→Int→Int→Int→Int→List aR.den→Int→Int→List bZ.den→Int→Int→Int→Int→Int→Int→Int→Int→List aR.den→Option R)(out:ap cz.xs→Option R):Option R:=bif decide (h41<h40) then bif decide (0≤h41)&&decide (h41<(↑h39.length:Int)) then next (h34) (h35) (h36) (h37) (cp h38 (h39.getD h41.toNat (0,(false,[],()),(false,[],()),[],())).1) (h39) (h40) (i64.wrap (h41+1)) (h42) (h43) (h44) (h45) (h46) (h47) (h48) (h49) (h50) (h51) else none else out (.ret ((),((h34,(h35,(h36,(h37,(h38,()))))),((h42,(h43,(h44,(h45,())))),((h46,(h47,(h48,(h49,(h50,(h51,())))))),())))))
def l6 (n:Nat)(h34:LI)(h35 h36 h37 h38:Int)(h39:List aR.den)(h40 h41:Int)(h42:List bZ.den)(h43 h44 h45 h46 h47 h48 h49 h50:Int)(h51:List aR.den):Option (ap cz.xs):=fJ tt ut dr jZ 1 Tryz.f50 (E7 Tryz.f50 (bP Tryz.f50 0) 0) n (cz.st.mk' ((h34,(h35,(h36,(h37,(h38,(h39,(h40,(h41,())))))))),((h42,(h43,(h44,(h45,())))),((h46,(h47,(h48,(h49,(h50,(h51,())))))),())))) (bt cz.xs)
theorem C3 (n:Nat)(h34:LI)(h35 h36 h37 h38:Int)(h39:List aR.den)(h40 h41:Int)(h42:List bZ.den)(h43 h44 h45 h46 h47 h48 h49 h50:Int)(h51:List aR.den):l6 (n+1) h34 h35 h36 h37 h38 h39 h40 h41 h42 h43 h44 h45 h46 h47 h48 h49 h50 h51=ny h34 h35 h36 h37 h38 h39 h40 h41 h42 h43 h44 h45 h46 h47 h48 h49 h50 h51 (l6 n) some:=by kernel_rfl
def p4 {R:Type}(h6:LI)(h7 h8:Int)(h9:List bZ.den)(h10 h11 h12:Int)(next:LI→Int→Int→List bZ.den→Int→Int→Int→Option R)(out:ap cN.xs→Option R):Option R:=bif decide (h7<(↑h6.length:Int)) then bif decide (h6.length≤4294960000) then bif (aj h6 h7).2 != 0 then out (.ret ((),((h7,(h8,((aj h6 h7).2,()))),((h9,(h10,(h11,(h12,())))),())))) else bif decide (0≤h7)&&(decide (h7≤i64.wrap (h7+(aj h6 h7).1))&&decide (i64.wrap (h7+(aj h6 h7).1)≤(↑h6.length:Int))) then bif decide ((List.drop h7.toNat (List.take (i64.wrap (h7+(aj h6 h7).1)).toNat h6)).length≤4294960000) then bif (ao (List.drop h7.toNat (List.take (i64.wrap (h7+(aj h6 h7).1)).toNat h6))).2 != 0 then out (.ret ((),((h7,(h8,((ao (List.drop h7.toNat (List.take (i64.wrap (h7+(aj h6 h7).1)).toNat h6))).2,()))),((h9,(h10,(h11,(h12,())))),())))) else bif (ao (List.drop h7.toNat (List.take (i64.wrap (h7+(aj h6 h7).1)).toNat h6))).1.1 != h8 then out (.ret ((),((h7,(h8,(190,()))),((h9,(h10,(h11,(h12,())))),())))) else bif decide (0≤0)&&decide (0<(↑(List.length (ao (List.drop h7.toNat (List.take (i64.wrap (h7+(aj h6 h7).1)).toNat h6))).1.2.2.2.2.2.1):Int)) then (gX ((h6,(h7,(h8,((aj h6 h7).1,((List.getD (ao (List.drop h7.toNat (List.take (i64.wrap (h7+(aj h6 h7).1)).toNat h6))).1.2.2.2.2.2.1 (Int.toNat 0) (0,(false,[],()),(false,[],()),[],())).1,((ao (List.drop h7.toNat (List.take (i64.wrap (h7+(aj h6 h7).1)).toNat h6))).1.2.2.2.2.2.1,((↑(List.length (ao (List.drop h7.toNat (List.take (i64.wrap (h7+(aj h6 h7).1)).toNat h6))).1.2.2.2.2.2.1):Int),(0,())))))))),((h9,(h10,(h11,(h12,())))),(((ao (List.drop h7.toNat (List.take (i64.wrap (h7+(aj h6 h7).1)).toNat h6))).1.1,((ao (List.drop h7.toNat (List.take (i64.wrap (h7+(aj h6 h7).1)).toNat h6))).1.2.1,((ao (List.drop h7.toNat (List.take (i64.wrap (h7+(aj h6 h7).1)).toNat h6))).1.2.2.1,((ao (List.drop h7.toNat (List.take (i64.wrap (h7+(aj h6 h7).1)).toNat h6))).1.2.2.2.1,((ao (List.drop h7.toNat (List.take (i64.wrap (h7+(aj h6 h7).1)).toNat h6))).1.2.2.2.2.1,((ao (List.drop h7.toNat (List.take (i64.wrap (h7+(aj h6 h7).1)).toNat h6))).1.2.2.2.2.2.1,())))))),())))).run fun y=>match y with | .ret ((),((x85,x86,x87,x88,x89,()),(x90,x91,x92,x93,()),(x94,x95,x96,x97,x98,x99,()),()))=>(bif decide (x90.length≤4294960000) then next (x85) (i64.wrap (x86+x88)) (i64.wrap (x87+(↑x99.length:Int))) (x90++[(x94,(↑x99.length:Int),x86,x88,x89,x96,x97,x98,())]) (x91) (x92) (x93) else none) else none else none else none else none else out (.pan (.ret ((),((h7,(h8,())),((h9,(h10,(h11,(h12,())))),())))))
def kL (n:Nat)(h6:LI)(h7 h8:Int)(h9:List bZ.den)(h10 h11 h12:Int):Option (ap cN.xs):=fJ tt ut dr jZ 1 Tryz.f50 (bP Tryz.f50 0) n (cN.st.mk' ((h6,(h7,(h8,()))),((h9,(h10,(h11,(h12,())))),()))) (bt cN.xs)
theorem EN (n:Nat)(h6:LI)(h7 h8:Int)(h9:List bZ.den)(h10 h11 h12:Int):kL (n+1) h6 h7 h8 h9 h10 h11 h12=p4 h6 h7 h8 h9 h10 h11 h12 (kL n) some:=by kernel_rfl
theorem vd (p q:Int)(es:List bj)(l n w:Int):en ([],p,q,0) es l n w=.pan (.ret ((),((p,(q,())),((es,(l,(n,(w,())))),())))):=by
 unfold en;rw[if_pos rfl];simp
theorem iI {w':Int}(h:w'≠0)(p q:Int)(es:List bj)(l n w:Int):en ([],p,q,w') es l n w=.ret ((),((p,(q,(w',()))),((es,(l,(n,(w,())))),()))):=by
 unfold en;rw[if_neg h];simp
theorem vc (e:bj)(x:bR)(W:List (bj×bR)×Int×Int×Int)(es:List bj)(l n w:Int):en ((e,x)::W.1,W.2) es l n w=en W (es++[e]) l n w:=by
 unfold en;simp
theorem vR (b:LI)(p q m:Int)(rs:List bm)(hl:rs.length≤256)(es:List bj)(l n w x1 x2 x3 x4 x5:Int)(xs:List bm):∀(k i:Nat) (t:Int),rs.length<i+k→i≤rs.length→
  l6 k b p q m t rs (rs.length:Int) i es l n w x1 x2 x3 x4 x5 xs=some (.ret ((),((b,(p,(q,(m,(bu (rs.drop i) t,()))))),((es,(l,(n,(w,())))),((x1,(x2,(x3,(x4,(x5,(xs,())))))),()))))):=by
 intro k
 induction k with
 |zero=>intro i t h;omega
 |succ k ih=>
  intro i t h1 h2
  rw[C3]
  unfold ny
  by_cases hi:i<rs.length
  rotate_left
  ·refine bF (decide_eq_false (by omega)) ?_
   rw[zI (by omega)]
   rfl
  refine bT (decide_eq_true (by omega)) ?_
  refine bT (by simpa using hi) ?_
  have e:List.getD rs (i:Int).toNat (0,(false,[],()),(false,[],()),[],())=rs[i]:=by rw[zG,aA hi]
  rw[e,zE hi,ae (n:=(i:Int)+1) (by omega) (by omega)]
  exact ih (i+1) _ (by omega) (by omega)
theorem zt (b:LI)(hb:aZ b)(hl:b.length≤4294950000):∀(k:Nat) (p q:Int) (es:List bj) (l n w:Int),0≤p→p≤b.length→(b.length:Int)<p+k→61*(es.length:Int)≤p→
  kL k b p q es l n w=some (en (bN b k p q) es l n w):=by
 intro k
 induction k with
 |zero=>intro p q es l n w h0 h1 h2;omega
 |succ k ih=>
  intro p q es l n w h0 h1 h2 h3
  rw[EN]
  unfold p4 bN
  by_cases c1:p<b.length
  rotate_left
  ·refine bF (decide_eq_false c1) ?_
   rw[if_pos (by omega),vd]
  refine bT (decide_eq_true c1) ?_
  refine bT (decide_eq_true (by omega)) ?_
  rw[if_neg (by omega:¬(b.length:Int)≤p)]
  by_cases c2:(aj b p).2=0
  rotate_left
  ·refine bT (by simpa using c2) ?_
   rw[if_pos c2,iI c2]
  refine bF (by rw[c2];rfl) ?_
  rw[if_neg (fun h=>h c2)]
  have hm:=fk c2
  have hx:=fU (gQ hb p.toNat (aj b p).1.toNat)
  generalize (aj b p).1=m at *
  have hd:List.drop p.toNat (List.take (p+m).toNat b)=(b.drop p.toNat).take m.toNat:=by
   rw[List.drop_take,show (p+m).toNat - p.toNat=m.toNat by omega]
  rw[ae (n:=p+m) (by omega) (by omega),hd]
  refine bT (by simp only[zA,zB];omega) ?_
  refine bT (decide_eq_true (by rw[List.length_take,List.length_drop];omega)) ?_
  generalize ao ((b.drop p.toNat).take m.toNat)=D at *
  obtain ⟨⟨(x1:Int),(x2:Int),(x3:Int),(x4:Int),(x5:Int),(rs:List bm),⟨⟩⟩,(z:Int)⟩:=D
  by_cases c3:z=0
  rotate_left
  ·refine bT (by simpa using c3) ?_
   rw[if_pos c3,iI c3]
  refine bF (by simpa using c3) ?_
  rw[if_neg (fun h=>h c3)]
  obtain ⟨y1,y2,y3,y4⟩:=hx c3
  have y1:0≤x1:=y1
  have y2:x1≤4611686018427387648:=y2
  have y3:1≤rs.length:=y3
  have y4:rs.length≤256:=y4
  by_cases c4:x1=q
  rotate_left
  ·refine bT (by simpa using c4) ?_
   rw[if_pos c4,iI (show (190:Int)≠0 by decide)]
  refine bF (by simpa using c4) ?_
  rw[if_neg (fun h=>h c4)]
  refine bT (by simp only[zA,zB];exact ⟨by decide,by show 0<(rs.length:Int);omega⟩) ?_
  unfold gX
  refine bT (by simp only[zA,zB];exact ⟨trivial,trivial,y4⟩) ?_
  have eL:bu rs (List.getD rs (Int.toNat 0) (0,(false,[],()),(false,[],()),[],())).1=cj rs:=by
   cases rs with
   |nil=>simp at y3
   |cons r l=>
    show bu l (cp r.1 r.1)=bu l r.1
    have:cp r.1 r.1=r.1:=by unfold cp;split <;> rfl
    rw[this]
  show (bif decide (es.length≤4294960000) then kL k b (i64.wrap (p+m)) (i64.wrap (q+(rs.length:Int))) (es++[(x1,((rs.length:Int),(p,(m,(bu rs (List.getD rs (Int.toNat 0) (0,(false,[],()),(false,[],()),[],())).1,(x3,(x4,(x5,()))))))))]) l n w else none)=_
  refine bT (decide_eq_true (by omega)) ?_
  rw[eL,ae (n:=p+m) (by omega) (by omega),ae (n:=q+(rs.length:Int)) (by omega) (by omega)]
  refine (ih (p+m) (q+(rs.length:Int)) _ l n w (by omega) (by omega) (by omega) (by rw[zH,List.length_singleton];push_cast;omega)).trans ?_
  exact congrArg some (vc _ _ _ es l n w).symm
def tL (a0:LI)(a1:Int)(a2:List bZ.den)(a3 a4 a5:Int):Option iu.Res:=(jO ((a0,(0,(a1,()))),((a2,(a3,(a4,(a5,())))),()))).run fun y=>match y with | .ret ((),((x113,x114,x115,()),(x116,x117,x118,x119,()),()))=>(oR ((x113,x114,x115,()),(x116,x117,x118,x119,()),())) | .pan (.ret ((),((x120,x121,()),(x122,x123,x124,x125,()),())))=>(oR ((x120,x121,0,()),(x122,x123,x124,x125,()),()))
theorem IR (a0:LI)(a1:Int)(a2:List bZ.den)(a3 a4 a5:Int):Io.run tt ut dr jZ iu Tryz.f50 ((a0,a1,(),()),(a2,a3,a4,a5,()),())=tL a0 a1 a2 a3 a4 a5:=by kernel_rfl
theorem nP:HcsOk prog BB:=.cons Ao (.cons LD (.cons LH .nil))
theorem LK:HcOk prog 50 (ah iu yv):=by
 refine bQ nP (lp:=jZ) (fn:=Tryz.f50) iu (.step (h0:=aD cN jO) (by kernel_rfl) (f9 nP (lp:=jZ) (fn:=Tryz.f50) (.step (h0:=aD cz gX) (by kernel_rfl) (f9 nP (lp:=jZ) (fn:=Tryz.f50) (.done (by kernel_rfl)) cz gX ?_) (.done (by kernel_rfl))) cN jO ?_) (.done (by kernel_rfl))) yv ?_
 ·rintro ⟨⟨(b:LI),(p:Int),(q:Int),(m:Int),(t:Int),(rs:List bm),(j:Int),(i:Int),⟨⟩⟩,⟨⟨(es:List bj),(l:Int),(n:Int),(w:Int),⟨⟩⟩,⟨(x1:Int),(x2:Int),(x3:Int),(x4:Int),(x5:Int),(xs:List bm),⟨⟩⟩,⟨⟩⟩⟩ y hw hy
  obtain ⟨hg,hy⟩:=Tr.guard hy
  simp only[zA,zB] at hg
  obtain ⟨h1,h2,h3⟩:=hg
  have h1:j=(rs.length:Int):=h1
  have h2:i=0:=h2
  have h3:rs.length≤256:=h3
  subst h1 h2
  refine ⟨rs.length+1,(vR b p q m rs h3 es l n w x1 x2 x3 x4 x5 xs (rs.length+1) 0 t (by omega) (Nat.zero_le _)).trans ?_⟩
  rw[← hy,List.drop_zero];rfl
 ·rintro ⟨⟨(b:LI),(p:Int),(q:Int),⟨⟩⟩,⟨⟨(es:List bj),(l:Int),(n:Int),(w:Int),⟨⟩⟩,⟨⟩⟩⟩ y hw hy
  obtain ⟨hg,hy⟩:=Tr.guard hy
  simp only[zA,zB] at hg
  obtain ⟨h1,h2,h3⟩:=hg
  have h3:es.length=0:=h3
  have h1:p=0:=h1
  have h2:b.length≤4294950000:=h2
  subst h1
  refine ⟨b.length+1,(zt b (bytesOf hw.1.1) h2 (b.length+1) 0 q es l n w (by omega) (by omega) (by omega) (by omega)).trans ?_⟩
  unfold en
  show some (if (aw b q).2.2.2=0 then _ else _)=_
  by_cases c:(aw b q).2.2.2=0
  ·rw[if_pos c]
   exact ((aa (decide_eq_true c) _ _).symm.trans hy)
  ·rw[if_neg c]
   exact ((af (decide_eq_false c) _ _).symm.trans hy)
 ·rintro ⟨⟨(b:LI),(q:Int),⟨⟩,⟨⟩⟩,⟨⟨(es:List bj),(l:Int),(n:Int),(w:Int),⟨⟩⟩,⟨⟩⟩⟩ out hw ho
  obtain ⟨hg,ho⟩:=Tr.guard ho
  rw[zA] at hg
  obtain ⟨h2,h3⟩:=hg
  have h2:b.length≤4294950000:=of_decide_eq_true h2
  have h3:es.length=0:=of_decide_eq_true h3
  have h3:es=[]:=zF h3
  subst h3
  have h2':b.length≤4294950000:=of_decide_eq_true h2
  clear h2
  cases ho
  refine (IR b q [] l n w).trans ?_
  unfold tL jO
  refine bT (by simp only[zA,zB];exact ⟨trivial,h2',rfl⟩) ?_
  by_cases c:(aw b q).2.2.2=0
  ·refine bT (decide_eq_true c) ?_
   show _=oR (((aw b q).2.1,((aw b q).2.2.1,((aw b q).2.2.2,()))),(((aw b q).1.map (·.1),(l,(n,(w,())))),()))
   rw[c];rfl
  ·exact af (decide_eq_false c) _ _
abbrev ja:Io:=⟨[dL,cw],[],[],[Ku],none⟩
def yr (d:ja.In):Tr ja.Res:=.ite (decide (d.1.1.length≤4294950000)) (.ret (.ret ((aG d.1.1 d.1.2.1,()),()))) .no
abbrev FC:List (Nat×Hc):=[(50,ah iu yv)]
def NJ:Hd:=bG FC
def GI:Lp:=bM []
def wu (a0:LI)(a1:Int):Option ja.Res:=bif decide (a0.length≤4294950000)&&decide (([]:List bj).length=0) then oR (((List.map (fun (x:bj×bR)=>x.1) (aw a0 a1).1,(aw a0 a1).2.1,(aw a0 a1).2.2.1,(aw a0 a1).2.2.2,()),()),()) else none
theorem Me (a0:LI)(a1:Int):Io.run tt NJ dr GI ja Tryz.f25 ((a0,a1,()),())=wu a0 a1:=by kernel_rfl
theorem Hk:HcOk prog 25 (ah ja yr):=by
 refine bQ (cs:=FC) (.cons LK .nil) (lp:=GI) (fn:=Tryz.f25) ja (.done (by kernel_rfl)) yr ?_
 rintro ⟨⟨(b:LI),(base:Int),⟨⟩⟩,⟨⟩⟩ out hw ho
 obtain ⟨hg,ho⟩:=Tr.guard ho
 cases ho
 refine (Me b base).trans ?_
 unfold wu
 exact aa (by rw[zA];exact ⟨hg,rfl⟩) _ _
abbrev im:Io:=⟨[QX,BO,.ptr 0 0,.ptr 1 0,.ptr 2 0,.ptr 3 0],[[dB],[cw],[cw],[cw]],[],[],none⟩
def yo (d:im.In):Tr im.Res:=.ite (fD d.1.2.1) (.ret (.ret ((),(((aB d.2.2.1.1 d.1.2.1.1 d.1.2.1.2.2.2.2.2.1 0 (d.2.2.2.1.1,d.2.2.2.2.1.1,d.2.1.1)).2.2,()),(d.2.2.1,(((aB d.2.2.1.1 d.1.2.1.1 d.1.2.1.2.2.2.2.2.1 0 (d.2.2.2.1.1,d.2.2.2.2.1.1,d.2.1.1)).1,()),(((aB d.2.2.1.1 d.1.2.1.1 d.1.2.1.2.2.2.2.2.1 0 (d.2.2.2.1.1,d.2.2.2.2.1.1,d.2.1.1)).2.1,()),()))))))) .no
abbrev t9:List (Nat×Hc):=[]
def B4:Hd:=bG t9
abbrev cZ:Lo:=⟨⟨(bk (.one (.ptr 0 0)::.one (.ptr 1 0)::.one (.ptr 2 0)::.one (.ptr 3 0)::.any::.one (.ptr 11 0)::.any::bk (.one (.hol (.sl 91 aR))::.one hI::.one hI::.any::ai (bk [])))),[some [hL],some [hI],some [hI],some [hI],none,none,none,none,none,none,none,some [hI,hJ,hI,hK,hJ,.hol (.sl 91 aR)]]⟩,[(.exit 0,⟨(.any::ai (ai ([]))),[some [hL],some [hI],some [hI],some [hI]]⟩)]⟩
def jL (d:cZ.st.den):Tr (ap cZ.xs):=
 .ite (decide (d.1.2.1=(d.1.1.length:Int))&&(decide (d.1.2.2.1=0)&&(decide (d.1.1.length≤256)&&(decide (0≤d.2.2.2.2.2.1.1)&&decide (d.2.2.2.2.2.1.1≤(4611686018427387648:Int))))))
  (.ret (.ret ((),((),(((aB d.2.2.1.1 d.2.2.2.2.2.1.1 d.1.1 0 (d.2.2.2.1.1,d.2.2.2.2.1.1,d.2.1.1)).2.2,()),(d.2.2.1,(((aB d.2.2.1.1 d.2.2.2.2.2.1.1 d.1.1 0 (d.2.2.2.1.1,d.2.2.2.2.1.1,d.2.1.1)).1,()),(((aB d.2.2.1.1 d.2.2.2.2.2.1.1 d.1.1 0 (d.2.2.2.1.1,d.2.2.2.2.1.1,d.2.1.1)).2.1,()),())))))))) .no
def pq:Lp:=bM [(3,aD cZ jL)]
def pY {R:Type}(h18:List aR.den)(h19 h20:Int)(h21:Bool)(h22 h23 h24 h25 h26 h27 h28 h29:Int)(h30:List aR.den)(next:List aR.den→Int→Int→Bool→Int→Int→Int→Int→Int→Int→Int→Int→List aR.den→Option R)(out:ap cZ.xs→Option R):Option R:=bif decide (h20<h19) then bif decide (0≤h20)&&decide (h20<(↑h18.length:Int)) then bif !h21 then bif decide (h22≤(h18.getD h20.toNat (0,(false,[],()),(false,[],()),[],())).1) then next (h18) (h19) (i64.wrap (h20+1)) (true) (h22) (i64.wrap (h25+h20)) ((h18.getD h20.toNat (0,(false,[],()),(false,[],()),[],())).1) (h25) (h26) (h27) (h28) (h29) (h30) else next (h18) (h19) (i64.wrap (h20+1)) (h21) (h22) (h23) (h24) (h25) (h26) (h27) (h28) (h29) (h30) else next (h18) (h19) (i64.wrap (h20+1)) (h21) (h22) (h23) (h24) (h25) (h26) (h27) (h28) (h29) (h30) else none else out (.ret ((),((),((h21,()),((h22,()),((h23,()),((h24,()),())))))))
def oa (n:Nat)(h18:List aR.den)(h19 h20:Int)(h21:Bool)(h22 h23 h24 h25 h26 h27 h28 h29:Int)(h30:List aR.den):Option (ap cZ.xs):=fJ tt B4 dr pq 4 Tryz.f51 (bP Tryz.f51 0) n (cZ.st.mk' ((h18,(h19,(h20,()))),((h21,()),((h22,()),((h23,()),((h24,()),((h25,(h26,(h27,(h28,(h29,(h30,())))))),()))))))) (bt cZ.xs)
theorem EK (n:Nat)(h18:List aR.den)(h19 h20:Int)(h21:Bool)(h22 h23 h24 h25 h26 h27 h28 h29:Int)(h30:List aR.den):oa (n+1) h18 h19 h20 h21 h22 h23 h24 h25 h26 h27 h28 h29 h30=pY h18 h19 h20 h21 h22 h23 h24 h25 h26 h27 h28 h29 h30 (oa n) some:=by kernel_rfl
theorem zp (rs:List bm)(hl:rs.length≤256)(time base:Int)(hb0:0≤base)(hb1:base≤4611686018427387648)(x1 x2 x3 x4:Int)(xs:List bm):∀(k i:Nat) (fd:Bool) (of wh:Int),rs.length<i+k→i≤rs.length→
  oa k rs (rs.length:Int) i fd time of wh base x1 x2 x3 x4 xs=some (.ret ((),((),(((aB time base (rs.drop i) i (of,wh,fd)).2.2,()),((time,()),(((aB time base (rs.drop i) i (of,wh,fd)).1,()),(((aB time base (rs.drop i) i (of,wh,fd)).2.1,()),()))))))):=by
 intro k
 induction k with
 |zero=>intro i fd of wh h;omega
 |succ k ih=>
  intro i fd of wh h1 h2
  rw[EK]
  unfold pY
  by_cases hi:i<rs.length
  rotate_left
  ·refine bF (decide_eq_false (by omega)) ?_
   rw[zI (by omega)]
   rfl
  refine bT (decide_eq_true (by omega)) ?_
  refine bT (by simpa using hi) ?_
  have e:List.getD rs (i:Int).toNat (0,(false,[],()),(false,[],()),[],())=rs[i]:=by rw[zG,aA hi]
  rw[e,zE hi,ae (n:=(i:Int)+1) (by omega) (by omega),ae (n:=base+(i:Int)) (by omega) (by omega)]
  have e2:aB time base (rs[i]::rs.drop (i+1)) i (of,wh,fd)=aB time base (rs.drop (i+1)) (i+1) (if fd=false∧time≤rs[i].1 then (base+i,rs[i].1,true) else (of,wh,fd)):=rfl
  rw[e2]
  cases fd with
  |true=>
   refine (af rfl _ _).trans ?_
   rw[if_neg (fun h=>by cases h.1)]
   exact ih (i+1) true of wh (by omega) (by omega)
  |false=>
   refine (aa rfl _ _).trans ?_
   by_cases c:time≤rs[i].1
   ·refine bT (decide_eq_true c) ?_
    rw[if_pos ⟨rfl,c⟩]
    exact ih (i+1) true _ _ (by omega) (by omega)
   ·refine bF (decide_eq_false c) ?_
    rw[if_neg (fun h=>c h.2)]
    exact ih (i+1) false of wh (by omega) (by omega)
def tH (a0 a1 a2 a3 a4 a5 a6 a7 a8 a9 a10 a11 a12:Int)(a13:List aR.den)(a14:Bool)(a15 a16 a17:Int):Option im.Res:=(jL ((a13,((↑a13.length:Int),(0,()))),((a14,()),((a15,()),((a16,()),((a17,()),((a8,(a9,(a10,(a11,(a12,(a13,())))))),()))))))).run fun y=>match y with | .ret ((),((),(x74,()),(x75,()),(x76,()),(x77,()),()))=>(oR ((),(x74,()),(x75,()),(x76,()),(x77,()),()))
theorem IN (a0 a1 a2 a3 a4 a5 a6 a7 a8 a9 a10 a11 a12:Int)(a13:List aR.den)(a14:Bool)(a15 a16 a17:Int):Io.run tt B4 dr pq im Tryz.f51 (((a0,a1,a2,a3,a4,a5,a6,a7,()),(a8,a9,a10,a11,a12,a13,()),(),(),(),(),()),(a14,()),(a15,()),(a16,()),(a17,()),())=tH a0 a1 a2 a3 a4 a5 a6 a7 a8 a9 a10 a11 a12 a13 a14 a15 a16 a17:=by kernel_rfl
theorem LF:HcOk prog 51 (ah im yo):=by
 refine bQ (cs:=t9) HcsOk.nil (lp:=pq) (fn:=Tryz.f51) im (.step (h0:=aD cZ jL) (by kernel_rfl) (f9 (cs:=t9) HcsOk.nil (lp:=pq) (fn:=Tryz.f51) (.done (by kernel_rfl)) cZ jL ?_) (.done (by kernel_rfl))) yo ?_
 ·rintro ⟨⟨(rs:List bm),(m:Int),(i:Int),⟨⟩⟩,⟨⟨(fd:Bool),⟨⟩⟩,⟨(time:Int),⟨⟩⟩,⟨(of:Int),⟨⟩⟩,⟨(wh:Int),⟨⟩⟩,⟨(base:Int),(x1:Int),(x2:Int),(x3:Int),(x4:Int),(xs:List bm),⟨⟩⟩,⟨⟩⟩⟩ y hw hy
  obtain ⟨hg,hy⟩:=Tr.guard hy
  simp only[zA,zB] at hg
  obtain ⟨h1,h2,h3,h4,h5⟩:=hg
  have h1:m=(rs.length:Int):=h1
  have h2:i=0:=h2
  have h3:rs.length≤256:=h3
  have h4:0≤base:=h4
  have h5:base≤4611686018427387648:=h5
  subst h1 h2
  refine ⟨rs.length+1,(zp rs h3 time base h4 h5 x1 x2 x3 x4 xs (rs.length+1) 0 fd of wh (by omega) (Nat.zero_le _)).trans ?_⟩
  rw[← hy,List.drop_zero];rfl
 ·rintro ⟨⟨⟨(a0:Int),(a1:Int),(a2:Int),(a3:Int),(a4:Int),(a5:Int),(a6:Int),(a7:Int),⟨⟩⟩,⟨(x1:Int),(x2:Int),(x3:Int),(x4:Int),(x5:Int),(rs:List bm),⟨⟩⟩,⟨⟩,⟨⟩,⟨⟩,⟨⟩,⟨⟩⟩,⟨⟨(fd:Bool),⟨⟩⟩,⟨(time:Int),⟨⟩⟩,⟨(of:Int),⟨⟩⟩,⟨(wh:Int),⟨⟩⟩,⟨⟩⟩⟩ out hw ho
  obtain ⟨hg,ho⟩:=Tr.guard ho
  have hg:(decide (0≤x1)&&(decide (x1≤4611686018427387648)&&decide (rs.length≤256)))=true:=hg
  simp only[zA,zB] at hg
  obtain ⟨h1,h2,h3⟩:=hg
  cases ho
  refine (IN a0 a1 a2 a3 a4 a5 a6 a7 x1 x2 x3 x4 x5 rs fd time of wh).trans ?_
  unfold tH jL
  refine bT (by simp only[zA,zB];exact ⟨trivial,trivial,h3,h1,h2⟩) ?_
  rfl
abbrev ir:Io:=⟨[dL,cw,.fnc 51 false [0,1,2,3]],[[dB],[cw],[cw],[cw]],[],[dI,cw,dI],none⟩
def yu (d:ir.In):Tr ir.Res:=
 .ite (decide (d.1.1.length≤4294950000)) (.ret (.ret (((aw d.1.1 d.1.2.1).2.1,((aw d.1.1 d.1.2.1).2.2.1,((aw d.1.1 d.1.2.1).2.2.2,()))),
  (((bE d.2.2.1.1 (aw d.1.1 d.1.2.1).1 (d.2.2.2.1.1,d.2.2.2.2.1.1,d.2.1.1)).2.2,()),(d.2.2.1,(((bE d.2.2.1.1 (aw d.1.1 d.1.2.1).1 (d.2.2.2.1.1,d.2.2.2.2.1.1,d.2.1.1)).1,()),(((bE d.2.2.1.1 (aw d.1.1 d.1.2.1).1 (d.2.2.2.1.1,d.2.2.2.2.1.1,d.2.1.1)).2.1,()),()))))))) .no
abbrev BA:List (Nat×Hc):=[(67,ah gG tg),(56,ah kk Fg),(51,ah im yo)]
def ur:Hd:=bG BA
abbrev cy:Lo:=⟨⟨[.one (.hol (.sl 5 (Ty.int u8))),.any,.one (.fnp 51 false [0,1,2,3]),.any,.any,.any,.one hI,.one hI,.any,.one hI,.any,.one (.ptr 15 0),.one hI,.any,.any,.any,.any,.any,.any,.any,.any,.any,.any,.any,.any,.any,.any,.any,.any,.any,.any,.any,.any,.any,.any,.any,.any,.any,.any,.any,.any,.any,.any,.any,.any,.any,.any,.any,.any,.any,.any,.any,.any,.any,.any,.any,.any,.any,.one (.hol (.sl 91 aR)),.one hI,.one hI,.any,.any,.any,.any,.any,.any,.any,.any,.any,.any,.any,.any,.any,.any,.any,.any,.any,.any,.any,.any,.any,.any,.any,.any,.any,.any,.any,.any,.any,.any,.any,.any,.any,.any,.any,.any],[some [hL],some [hI],some [hI],some [hI],none,none,none,none,none,none,none,none,none,none,none,some [hI,hJ,hI,hK,hJ,.hol (.sl 91 aR)]]⟩,[(.exit 2,⟨[.one (.hol (.sl 5 (Ty.int u8))),.any,.one (.fnp 51 false [0,1,2,3]),.any,.any,.any,.one hI,.one hI,.any,.one hI,.any,.one (.ptr 15 0),.one hI,.any,.any,.any,.any,.any,.any,.any,.any,.any,.any,.any,.any,.any,.any,.any,.any,.any,.any,.any,.any,.any,.any,.any,.any,.any,.any,.any,.any,.any,.any,.any,.any,.any,.any,.any,.any,.any,.any,.any,.any,.any,.any,.any,.any,.any,.any,.any,.any,.any,.any,.any,.any,.any,.any,.any,.any,.any,.any,.any,.any,.any,.any,.any,.any,.any,.any,.any,.any,.any,.any,.any,.any,.any,.any,.any,.any,.any,.any,.any,.any,.any,.any,.any,.any],[some [hL],some [hI],some [hI],some [hI],none,none,none,none,none,none,none,none,none,none,none,some [hI,hJ,hI,hK,hJ,.hol (.sl 91 aR)]]⟩)]⟩
abbrev cM:Lo:=⟨⟨[.one (.hol (.sl 5 (Ty.int u8))),.any,.one (.fnp 51 false [0,1,2,3]),.any,.any,.any,.one hI,.one hI,.any,.any,.any,.any,.any,.any,.any,.any,.any,.any,.any,.any,.any,.any,.any,.any,.any,.any,.any,.any,.any,.any,.any,.any,.any,.any,.any,.any,.any,.any,.any,.any,.any,.any,.any,.any,.any,.any,.any,.any,.any,.any,.any,.any,.any,.any,.any,.any,.any,.any,.any,.any,.any,.any,.any,.any,.any,.any,.any,.any,.any,.any,.any,.any,.any,.any,.any,.any,.any,.any,.any,.any,.any,.any,.any,.any,.any,.any,.any,.any,.any,.any,.any,.any,.any,.any,.any,.any,.any],[some [hL],some [hI],some [hI],some [hI]]⟩,[(.ret,⟨(bz (bk (.one hI::.one hI::.one hI::ai (ai (ai (ai (ai (dm [])))))))),[some [hL],some [hI],some [hI],some [hI]]⟩),(.exit 0,⟨(bz (bk (.one hI::.one hI::.any::ai (ai (ai (ai (ai (dm [])))))))),[some [hL],some [hI],some [hI],some [hI]]⟩)]⟩
def gW (d:cy.st.den):Tr (ap cy.xs):=
 .ite (decide (d.1.2.2.2.2.2.2.1=(d.1.2.2.2.2.2.1.length:Int))&&(decide (d.1.2.2.2.2.2.2.2.1=0)&&decide (d.1.2.2.2.2.2.1.length≤256)))
  (.ret (.ret ((),((d.1.1,(d.1.2.1,(d.1.2.2.1,(d.1.2.2.2.1,(bu d.1.2.2.2.2.2.1 d.1.2.2.2.2.1,()))))),d.2)))) .no
def ee (W:List (bj×bR)×Int×Int×Int)(fd:Bool)(time of wh:Int):ap cM.xs:=
 if W.2.2.2=0 then .pan (.ret ((),((W.2.1,(W.2.2.1,())),(((bE time (W).1 (of,wh,fd)).2.2,()),((time,()),(((bE time (W).1 (of,wh,fd)).1,()),(((bE time (W).1 (of,wh,fd)).2.1,()),()))))))) else .ret ((),((W.2.1,(W.2.2.1,(W.2.2.2,()))),(((bE time (W).1 (of,wh,fd)).2.2,()),((time,()),(((bE time (W).1 (of,wh,fd)).1,()),(((bE time (W).1 (of,wh,fd)).2.1,()),()))))))
def jN (d:cM.st.den):Tr (ap cM.xs):=
 .ite (decide (d.1.2.1=0)&&decide (d.1.1.length≤4294950000)) (.ite (decide ((aw d.1.1 d.1.2.2.1).2.2.2=0)) (.ret (.pan (.ret ((),(((aw d.1.1 d.1.2.2.1).2.1,((aw d.1.1 d.1.2.2.1).2.2.1,())),(((bE d.2.2.1.1 (aw d.1.1 d.1.2.2.1).1 (d.2.2.2.1.1,d.2.2.2.2.1.1,d.2.1.1)).2.2,()),(d.2.2.1,(((bE d.2.2.1.1 (aw d.1.1 d.1.2.2.1).1 (d.2.2.2.1.1,d.2.2.2.2.1.1,d.2.1.1)).1,()),(((bE d.2.2.1.1 (aw d.1.1 d.1.2.2.1).1 (d.2.2.2.1.1,d.2.2.2.2.1.1,d.2.1.1)).2.1,()),()))))))))) (.ret (.ret ((),(((aw d.1.1 d.1.2.2.1).2.1,((aw d.1.1 d.1.2.2.1).2.2.1,((aw d.1.1 d.1.2.2.1).2.2.2,()))),(((bE d.2.2.1.1 (aw d.1.1 d.1.2.2.1).1 (d.2.2.2.1.1,d.2.2.2.2.1.1,d.2.1.1)).2.2,()),(d.2.2.1,(((bE d.2.2.1.1 (aw d.1.1 d.1.2.2.1).1 (d.2.2.2.1.1,d.2.2.2.2.1.1,d.2.1.1)).1,()),(((bE d.2.2.1.1 (aw d.1.1 d.1.2.2.1).1 (d.2.2.2.1.1,d.2.2.2.2.1.1,d.2.1.1)).2.1,()),()))))))))) .no
def jY:Lp:=bM [(3,aD cM jN),(14,aD cy gW)]
def nx {R:Type}(h34:LI)(h35 h36 h37 h38:Int)(h39:List aR.den)(h40 h41:Int)(h42:Bool)(h43 h44 h45 h46 h47 h48 h49 h50:Int)(h51:List aR.den)(next:LI→Int→Int→Int→Int→List aR.den→Int→Int→Bool→Int→Int→Int→Int→Int→Int→Int→Int→List aR.den→Option R)(out:ap cy.xs→Option R):Option R:=bif decide (h41<h40) then bif decide (0≤h41)&&decide (h41<(↑h39.length:Int)) then next (h34) (h35) (h36) (h37) (cp h38 (h39.getD h41.toNat (0,(false,[],()),(false,[],()),[],())).1) (h39) (h40) (i64.wrap (h41+1)) (h42) (h43) (h44) (h45) (h46) (h47) (h48) (h49) (h50) (h51) else none else out (.ret ((),((h34,(h35,(h36,(h37,(h38,()))))),((h42,()),((h43,()),((h44,()),((h45,()),((h46,(h47,(h48,(h49,(h50,(h51,())))))),()))))))))
def lZ (n:Nat)(h34:LI)(h35 h36 h37 h38:Int)(h39:List aR.den)(h40 h41:Int)(h42:Bool)(h43 h44 h45 h46 h47 h48 h49 h50:Int)(h51:List aR.den):Option (ap cy.xs):=fJ tt ur dr jY 4 Tryz.f50 (E7 Tryz.f50 (bP Tryz.f50 0) 0) n (cy.st.mk' ((h34,(h35,(h36,(h37,(h38,(h39,(h40,(h41,())))))))),((h42,()),((h43,()),((h44,()),((h45,()),((h46,(h47,(h48,(h49,(h50,(h51,())))))),()))))))) (bt cy.xs)
theorem C2 (n:Nat)(h34:LI)(h35 h36 h37 h38:Int)(h39:List aR.den)(h40 h41:Int)(h42:Bool)(h43 h44 h45 h46 h47 h48 h49 h50:Int)(h51:List aR.den):lZ (n+1) h34 h35 h36 h37 h38 h39 h40 h41 h42 h43 h44 h45 h46 h47 h48 h49 h50 h51=nx h34 h35 h36 h37 h38 h39 h40 h41 h42 h43 h44 h45 h46 h47 h48 h49 h50 h51 (lZ n) some:=by kernel_rfl
def p3 {R:Type}(h6:LI)(h7 h8:Int)(h9:Bool)(h10 h11 h12:Int)(next:LI→Int→Int→Bool→Int→Int→Int→Option R)(out:ap cM.xs→Option R):Option R:=bif decide (h7<(↑h6.length:Int)) then bif decide (h6.length≤4294960000) then bif (aj h6 h7).2 != 0 then out (.ret ((),((h7,(h8,((aj h6 h7).2,()))),((h9,()),((h10,()),((h11,()),((h12,()),()))))))) else bif decide (0≤h7)&&(decide (h7≤i64.wrap (h7+(aj h6 h7).1))&&decide (i64.wrap (h7+(aj h6 h7).1)≤(↑h6.length:Int))) then bif decide ((List.drop h7.toNat (List.take (i64.wrap (h7+(aj h6 h7).1)).toNat h6)).length≤4294960000) then bif (ao (List.drop h7.toNat (List.take (i64.wrap (h7+(aj h6 h7).1)).toNat h6))).2 != 0 then out (.ret ((),((h7,(h8,((ao (List.drop h7.toNat (List.take (i64.wrap (h7+(aj h6 h7).1)).toNat h6))).2,()))),((h9,()),((h10,()),((h11,()),((h12,()),()))))))) else bif (ao (List.drop h7.toNat (List.take (i64.wrap (h7+(aj h6 h7).1)).toNat h6))).1.1 != h8 then out (.ret ((),((h7,(h8,(190,()))),((h9,()),((h10,()),((h11,()),((h12,()),()))))))) else bif decide (0≤0)&&decide (0<(↑(List.length (ao (List.drop h7.toNat (List.take (i64.wrap (h7+(aj h6 h7).1)).toNat h6))).1.2.2.2.2.2.1):Int)) then (gW ((h6,(h7,(h8,((aj h6 h7).1,((List.getD (ao (List.drop h7.toNat (List.take (i64.wrap (h7+(aj h6 h7).1)).toNat h6))).1.2.2.2.2.2.1 (Int.toNat 0) (0,(false,[],()),(false,[],()),[],())).1,((ao (List.drop h7.toNat (List.take (i64.wrap (h7+(aj h6 h7).1)).toNat h6))).1.2.2.2.2.2.1,((↑(List.length (ao (List.drop h7.toNat (List.take (i64.wrap (h7+(aj h6 h7).1)).toNat h6))).1.2.2.2.2.2.1):Int),(0,())))))))),((h9,()),((h10,()),((h11,()),((h12,()),(((ao (List.drop h7.toNat (List.take (i64.wrap (h7+(aj h6 h7).1)).toNat h6))).1.1,((ao (List.drop h7.toNat (List.take (i64.wrap (h7+(aj h6 h7).1)).toNat h6))).1.2.1,((ao (List.drop h7.toNat (List.take (i64.wrap (h7+(aj h6 h7).1)).toNat h6))).1.2.2.1,((ao (List.drop h7.toNat (List.take (i64.wrap (h7+(aj h6 h7).1)).toNat h6))).1.2.2.2.1,((ao (List.drop h7.toNat (List.take (i64.wrap (h7+(aj h6 h7).1)).toNat h6))).1.2.2.2.2.1,((ao (List.drop h7.toNat (List.take (i64.wrap (h7+(aj h6 h7).1)).toNat h6))).1.2.2.2.2.2.1,())))))),()))))))).run fun y=>match y with | .ret ((),((x85,x86,x87,x88,x89,()),(x90,()),(x91,()),(x92,()),(x93,()),(x94,x95,x96,x97,x98,x99,()),()))=>(bif fD (x94,x95,x96,x97,x98,x99,()) then next (x85) (i64.wrap (x86+x88)) (i64.wrap (x87+(↑x99.length:Int))) ((aB x91 x94 x99 0 (x92,x93,x90)).2.2) (x91) ((aB x91 x94 x99 0 (x92,x93,x90)).1) ((aB x91 x94 x99 0 (x92,x93,x90)).2.1) else none) else none else none else none else none else out (.pan (.ret ((),((h7,(h8,())),((h9,()),((h10,()),((h11,()),((h12,()),()))))))))
def kK (n:Nat)(h6:LI)(h7 h8:Int)(h9:Bool)(h10 h11 h12:Int):Option (ap cM.xs):=fJ tt ur dr jY 4 Tryz.f50 (bP Tryz.f50 0) n (cM.st.mk' ((h6,(h7,(h8,()))),((h9,()),((h10,()),((h11,()),((h12,()),())))))) (bt cM.xs)
theorem EM (n:Nat)(h6:LI)(h7 h8:Int)(h9:Bool)(h10 h11 h12:Int):kK (n+1) h6 h7 h8 h9 h10 h11 h12=p3 h6 h7 h8 h9 h10 h11 h12 (kK n) some:=by kernel_rfl
theorem vb (p q:Int)(fd:Bool)(time of wh:Int):ee ([],p,q,0) fd time of wh=.pan (.ret ((),((p,(q,())),((fd,()),((time,()),((of,()),((wh,()),()))))))):=by
 unfold ee;rw[if_pos rfl];rfl
theorem iH {w':Int}(h:w'≠0)(p q:Int)(fd:Bool)(time of wh:Int):ee ([],p,q,w') fd time of wh=.ret ((),((p,(q,(w',()))),((fd,()),((time,()),((of,()),((wh,()),())))))):=by
 unfold ee;rw[if_neg h];rfl
theorem va (e:bj)(x:bR)(W:List (bj×bR)×Int×Int×Int)(fd:Bool)(time of wh:Int):ee ((e,x)::W.1,W.2) fd time of wh=ee W (aB time x.1 x.2.2.2.2.2.1 0 (of,wh,fd)).2.2 time (aB time x.1 x.2.2.2.2.2.1 0 (of,wh,fd)).1 (aB time x.1 x.2.2.2.2.2.1 0 (of,wh,fd)).2.1:=by
 unfold ee;rfl
theorem vQ (b:LI)(p q m:Int)(rs:List bm)(hl:rs.length≤256)(fd:Bool)(time of wh x1 x2 x3 x4 x5:Int)(xs:List bm):∀(k i:Nat) (t:Int),rs.length<i+k→i≤rs.length→
  lZ k b p q m t rs (rs.length:Int) i fd time of wh x1 x2 x3 x4 x5 xs=some (.ret ((),((b,(p,(q,(m,(bu (rs.drop i) t,()))))),((fd,()),((time,()),((of,()),((wh,()),((x1,(x2,(x3,(x4,(x5,(xs,())))))),())))))))):=by
 intro k
 induction k with
 |zero=>intro i t h;omega
 |succ k ih=>
  intro i t h1 h2
  rw[C2]
  unfold nx
  by_cases hi:i<rs.length
  rotate_left
  ·refine bF (decide_eq_false (by omega)) ?_
   rw[zI (by omega)]
   rfl
  refine bT (decide_eq_true (by omega)) ?_
  refine bT (by simpa using hi) ?_
  have e:List.getD rs (i:Int).toNat (0,(false,[],()),(false,[],()),[],())=rs[i]:=by rw[zG,aA hi]
  rw[e,zE hi,ae (n:=(i:Int)+1) (by omega) (by omega)]
  exact ih (i+1) _ (by omega) (by omega)
theorem zr (b:LI)(hb:aZ b)(hl:b.length≤4294950000):∀(k:Nat) (p q:Int) (fd:Bool) (time of wh:Int),0≤p→p≤b.length→(b.length:Int)<p+k→
  kK k b p q fd time of wh=some (ee (bN b k p q) fd time of wh):=by
 intro k
 induction k with
 |zero=>intro p q fd time of wh h0 h1 h2;omega
 |succ k ih=>
  intro p q fd time of wh h0 h1 h2
  rw[EM]
  unfold p3 bN
  by_cases c1:p<b.length
  rotate_left
  ·refine bF (decide_eq_false c1) ?_
   rw[if_pos (by omega),vb]
  refine bT (decide_eq_true c1) ?_
  refine bT (decide_eq_true (by omega)) ?_
  rw[if_neg (by omega:¬(b.length:Int)≤p)]
  by_cases c2:(aj b p).2=0
  rotate_left
  ·refine bT (by simpa using c2) ?_
   rw[if_pos c2,iH c2]
  refine bF (by rw[c2];rfl) ?_
  rw[if_neg (fun h=>h c2)]
  have hm:=fk c2
  have hx:=fU (gQ hb p.toNat (aj b p).1.toNat)
  generalize (aj b p).1=m at *
  have hd:List.drop p.toNat (List.take (p+m).toNat b)=(b.drop p.toNat).take m.toNat:=by
   rw[List.drop_take,show (p+m).toNat - p.toNat=m.toNat by omega]
  rw[ae (n:=p+m) (by omega) (by omega),hd]
  refine bT (by simp only[zA,zB];omega) ?_
  refine bT (decide_eq_true (by rw[List.length_take,List.length_drop];omega)) ?_
  generalize ao ((b.drop p.toNat).take m.toNat)=D at *
  obtain ⟨⟨(x1:Int),(x2:Int),(x3:Int),(x4:Int),(x5:Int),(rs:List bm),⟨⟩⟩,(z:Int)⟩:=D
  by_cases c3:z=0
  rotate_left
  ·refine bT (by simpa using c3) ?_
   rw[if_pos c3,iH c3]
  refine bF (by simpa using c3) ?_
  rw[if_neg (fun h=>h c3)]
  obtain ⟨y1,y2,y3,y4⟩:=hx c3
  have y1:0≤x1:=y1
  have y2:x1≤4611686018427387648:=y2
  have y3:1≤rs.length:=y3
  have y4:rs.length≤256:=y4
  by_cases c4:x1=q
  rotate_left
  ·refine bT (by simpa using c4) ?_
   rw[if_pos c4,iH (show (190:Int)≠0 by decide)]
  refine bF (by simpa using c4) ?_
  rw[if_neg (fun h=>h c4)]
  refine bT (by simp only[zA,zB];exact ⟨by decide,by show 0<(rs.length:Int);omega⟩) ?_
  unfold gW
  refine bT (by simp only[zA,zB];exact ⟨trivial,trivial,y4⟩) ?_
  have eL:bu rs (List.getD rs (Int.toNat 0) (0,(false,[],()),(false,[],()),[],())).1=cj rs:=by
   cases rs with
   |nil=>simp at y3
   |cons r l=>
    show bu l (cp r.1 r.1)=bu l r.1
    have:cp r.1 r.1=r.1:=by unfold cp;split <;> rfl
    rw[this]
  have hB:fD (x1,(x2,(x3,(x4,(x5,(rs,()))))))=true:=by
   unfold fD
   simp only[zA,zB]
   exact ⟨y1,y2,y4⟩
  refine (aa hB _ _).trans ?_
  show kK k b (i64.wrap (p+m)) (i64.wrap (q+(rs.length:Int))) (aB time x1 rs 0 (of,wh,fd)).2.2 time (aB time x1 rs 0 (of,wh,fd)).1 (aB time x1 rs 0 (of,wh,fd)).2.1=_
  rw[ae (n:=p+m) (by omega) (by omega),ae (n:=q+(rs.length:Int)) (by omega) (by omega)]
  refine (ih (p+m) (q+(rs.length:Int)) _ time _ _ (by omega) (by omega) (by omega)).trans ?_
  exact congrArg some (va _ (x1,(x2,(x3,(x4,(x5,(rs,())))))) _ fd time of wh).symm
def tK (a0:LI)(a1:Int)(a2:Bool)(a3 a4 a5:Int):Option ir.Res:=(jN ((a0,(0,(a1,()))),((a2,()),((a3,()),((a4,()),((a5,()),())))))).run fun y=>match y with | .ret ((),((x113,x114,x115,()),(x116,()),(x117,()),(x118,()),(x119,()),()))=>(oR ((x113,x114,x115,()),(x116,()),(x117,()),(x118,()),(x119,()),())) | .pan (.ret ((),((x120,x121,()),(x122,()),(x123,()),(x124,()),(x125,()),())))=>(oR ((x120,x121,0,()),(x122,()),(x123,()),(x124,()),(x125,()),()))
theorem IQ (a0:LI)(a1:Int)(a2:Bool)(a3 a4 a5:Int):Io.run tt ur dr jY ir Tryz.f50 ((a0,a1,(),()),(a2,()),(a3,()),(a4,()),(a5,()),())=tK a0 a1 a2 a3 a4 a5:=by kernel_rfl
theorem nO:HcsOk prog BA:=.cons Ao (.cons LD (.cons LF .nil))
theorem LJ:HcOk prog 50 (ah ir yu):=by
 refine bQ nO (lp:=jY) (fn:=Tryz.f50) ir (.step (h0:=aD cM jN) (by kernel_rfl) (f9 nO (lp:=jY) (fn:=Tryz.f50) (.step (h0:=aD cy gW) (by kernel_rfl) (f9 nO (lp:=jY) (fn:=Tryz.f50) (.done (by kernel_rfl)) cy gW ?_) (.done (by kernel_rfl))) cM jN ?_) (.done (by kernel_rfl))) yu ?_
 ·rintro ⟨⟨(b:LI),(p:Int),(q:Int),(m:Int),(t:Int),(rs:List bm),(j:Int),(i:Int),⟨⟩⟩,⟨⟨(fd:Bool),⟨⟩⟩,⟨(time:Int),⟨⟩⟩,⟨(of:Int),⟨⟩⟩,⟨(wh:Int),⟨⟩⟩,⟨(x1:Int),(x2:Int),(x3:Int),(x4:Int),(x5:Int),(xs:List bm),⟨⟩⟩,⟨⟩⟩⟩ y hw hy
  obtain ⟨hg,hy⟩:=Tr.guard hy
  simp only[zA,zB] at hg
  obtain ⟨h1,h2,h3⟩:=hg
  have h1:j=(rs.length:Int):=h1
  have h2:i=0:=h2
  have h3:rs.length≤256:=h3
  subst h1 h2
  refine ⟨rs.length+1,(vQ b p q m rs h3 fd time of wh x1 x2 x3 x4 x5 xs (rs.length+1) 0 t (by omega) (Nat.zero_le _)).trans ?_⟩
  rw[← hy,List.drop_zero];rfl
 ·rintro ⟨⟨(b:LI),(p:Int),(q:Int),⟨⟩⟩,⟨⟨(fd:Bool),⟨⟩⟩,⟨(time:Int),⟨⟩⟩,⟨(of:Int),⟨⟩⟩,⟨(wh:Int),⟨⟩⟩,⟨⟩⟩⟩ y hw hy
  obtain ⟨hg,hy⟩:=Tr.guard hy
  simp only[zA,zB] at hg
  obtain ⟨h1,h2⟩:=hg
  have h1:p=0:=h1
  have h2:b.length≤4294950000:=h2
  subst h1
  refine ⟨b.length+1,(zr b (bytesOf hw.1.1) h2 (b.length+1) 0 q fd time of wh (by omega) (by omega) (by omega)).trans ?_⟩
  unfold ee
  show some (if (aw b q).2.2.2=0 then _ else _)=_
  by_cases c:(aw b q).2.2.2=0
  ·rw[if_pos c]
   exact ((aa (decide_eq_true c) _ _).symm.trans hy)
  ·rw[if_neg c]
   exact ((af (decide_eq_false c) _ _).symm.trans hy)
 ·rintro ⟨⟨(b:LI),(q:Int),⟨⟩,⟨⟩⟩,⟨⟨(fd:Bool),⟨⟩⟩,⟨(time:Int),⟨⟩⟩,⟨(of:Int),⟨⟩⟩,⟨(wh:Int),⟨⟩⟩,⟨⟩⟩⟩ out hw ho
  obtain ⟨hg,ho⟩:=Tr.guard ho
  have h2:b.length≤4294950000:=of_decide_eq_true hg
  cases ho
  refine (IQ b q fd time of wh).trans ?_
  unfold tK jN
  refine bT (by simp only[zA,zB];exact ⟨trivial,h2⟩) ?_
  by_cases c:(aw b q).2.2.2=0
  ·refine bT (decide_eq_true c) ?_
   show _=oR (((aw b q).2.1,((aw b q).2.2.1,((aw b q).2.2.2,()))),(((bE time (aw b q).1 (of,wh,fd)).2.2,()),((time,()),(((bE time (aw b q).1 (of,wh,fd)).1,()),(((bE time (aw b q).1 (of,wh,fd)).2.1,()),())))))
   rw[c];rfl
  ·exact af (decide_eq_false c) _ _
abbrev iZ:Io:=⟨[dL,cw,cw],[],[],[cw,cw,dB],none⟩
def yn (d:iZ.In):Tr iZ.Res:=.ite (decide (d.1.1.length≤4294950000)) (.ret (.ret (((cR d.1.1 d.1.2.1 d.1.2.2.1).1,((cR d.1.1 d.1.2.1 d.1.2.2.1).2.1,((cR d.1.1 d.1.2.1 d.1.2.2.1).2.2,()))),()))) .no
abbrev FA:List (Nat×Hc):=[(50,ah ir yu)]
def NI:Hd:=bG FA
def GH:Lp:=bM []
def ws (a0:LI)(a1 a2:Int):Option iZ.Res:=bif decide (a0.length≤4294950000) then oR (((bE a2 (aw a0 a1).1 (0,0,false)).1,(bE a2 (aw a0 a1).1 (0,0,false)).2.1,(bE a2 (aw a0 a1).1 (0,0,false)).2.2,()),()) else none
theorem Mc (a0:LI)(a1 a2:Int):Io.run tt NI dr GH iZ Tryz.f18 ((a0,a1,a2,()),())=ws a0 a1 a2:=by kernel_rfl
theorem Hi:HcOk prog 18 (ah iZ yn):=by
 refine bQ (cs:=FA) (.cons LJ .nil) (lp:=GH) (fn:=Tryz.f18) iZ (.done (by kernel_rfl)) yn ?_
 rintro ⟨⟨(b:LI),(base:Int),(time:Int),⟨⟩⟩,⟨⟩⟩ out hw ho
 obtain ⟨hg,ho⟩:=Tr.guard ho
 cases ho
 refine (Mc b base time).trans ?_
 unfold ws
 exact aa hg _ _
abbrev ip:Io:=⟨[dI,.ptr 0 0,.ptr 1 0],[Lz,[cw]],[],[dB],none⟩
def yq (d:ip.In):Tr ip.Res:=.ite (decide ((0:Int)≤d.1.1)&&decide (d.1.1<(d.2.1.1.length:Int))) (.ret (.ret ((decide (d.2.2.1.1<(d.2.1.1.getD d.1.1.toNat eQ).1),()),d.2))) .no
abbrev By:List (Nat×Hc):=[]
def KO:Hd:=bG By
def CB:Lp:=bM []
def tI (a0:Int)(a1:List bZ.den)(a2 a3 a4 a5:Int):Option ip.Res:=bif decide (0≤a0)&&decide (a0<(↑a1.length:Int)) then oR ((decide (a5<(a1.getD a0.toNat (0,0,0,0,0,0,0,0,())).1),()),(a1,a2,a3,a4,()),(a5,()),()) else none
theorem IO (a0:Int)(a1:List bZ.den)(a2 a3 a4 a5:Int):Io.run tt KO dr CB ip Tryz.f46 ((a0,(),(),()),(a1,a2,a3,a4,()),(a5,()),())=tI a0 a1 a2 a3 a4 a5:=by kernel_rfl
theorem LG:HcOk prog 46 (ah ip yq):=by
 refine bQ (cs:=By) HcsOk.nil (lp:=CB) (fn:=Tryz.f46) ip (.done (by kernel_rfl)) yq ?_
 rintro ⟨⟨(i:Int),⟨⟩,⟨⟩,⟨⟩⟩,⟨⟨(es:List bj),(l:Int),(n:Int),(w:Int),⟨⟩⟩,⟨(f:Int),⟨⟩⟩,⟨⟩⟩⟩ out hw ho
 obtain ⟨hg,ho⟩:=Tr.guard ho
 cases ho
 refine (IO i es l n w f).trans ?_
 unfold tI
 exact aa hg _ _
abbrev fW:Io:=⟨[dI,.fnc 46 false [0,1]],[Lz,[cw]],[],[dI],none⟩
def tj (d:fW.In):Tr fW.Res:=.ite (decide (d.1.1=(d.2.1.1.length:Int))&&(decide (d.2.1.1.length≤4294960000)&&fG d.2.1.1)) (.ret (.ret (((aK d.2.2.1.1 d.2.1.1:Int),()),d.2))) .no
abbrev xf:List (Nat×Hc):=[(46,ah ip yq)]
def xD:Hd:=bG xf
abbrev cx:Lo:=⟨⟨[.any,.one (.fnp 46 false [0,1]),.any,.any,.any,.one hI,.one hI,.any,.any,.any,.any,.any,.any,.any,.any,.any,.any,.any,.any,.any,.any,.any,.any,.any,.any,.any],[some [.hol (.sl 46 bZ),hI,hI,hI],some [hI]]⟩,[(.exit 0,⟨(.any::bz (.one hI::ai (bz []))),[some [.hol (.sl 46 bZ),hI,hI,hI],some [hI]]⟩)]⟩
def gV (d:cx.st.den):Tr (ap cx.xs):=
 .ite (decide (d.1.1=0)&&(decide (d.1.2.1=(d.2.1.1.length:Int))&&(decide (d.2.1.1.length≤4294960000)&&fG d.2.1.1))) (.ret (.ret ((),(((aK d.2.2.1.1 d.2.1.1:Int),()),d.2)))) .no
def mS:Lp:=bM [(3,aD cx gV)]
def nw {R:Type}(h6 h7:Int)(h8:List bZ.den)(h9 h10 h11 h12:Int)(next:Int→Int→List bZ.den→Int→Int→Int→Int→Option R)(out:ap cx.xs→Option R):Option R:=bif decide (h6<h7) then bif decide (0≤i64.wrap (fR u64 (u64.wrap (i64.wrap (h6+h7))) 1))&&decide (i64.wrap (fR u64 (u64.wrap (i64.wrap (h6+h7))) 1)<(↑h8.length:Int)) then bif !decide (h12<(h8.getD (i64.wrap (fR u64 (u64.wrap (i64.wrap (h6+h7))) 1)).toNat (0,0,0,0,0,0,0,0,())).1) then next (i64.wrap (i64.wrap (fR u64 (u64.wrap (i64.wrap (h6+h7))) 1)+1)) (h7) (h8) (h9) (h10) (h11) (h12) else next (h6) (i64.wrap (fR u64 (u64.wrap (i64.wrap (h6+h7))) 1)) (h8) (h9) (h10) (h11) (h12) else none else out (.ret ((),((h6,()),((h8,(h9,(h10,(h11,())))),((h12,()),())))))
def lY (n:Nat)(h6 h7:Int)(h8:List bZ.den)(h9 h10 h11 h12:Int):Option (ap cx.xs):=fJ tt xD dr mS 2 Tryz.f45 (bP Tryz.f45 0) n (cx.st.mk' ((h6,(h7,())),((h8,(h9,(h10,(h11,())))),((h12,()),())))) (bt cx.xs)
theorem C1 (n:Nat)(h6 h7:Int)(h8:List bZ.den)(h9 h10 h11 h12:Int):lY (n+1) h6 h7 h8 h9 h10 h11 h12=nw h6 h7 h8 h9 h10 h11 h12 (lY n) some:=by kernel_rfl
theorem MR {x:Int}(h0:0≤x)(h1:x≤9223372036854775807):i64.wrap (fR u64 (u64.wrap (i64.wrap x)) 1)=x / 2:=by
 have e1:u64.wrap x=x:=bK (by simp[bH,IntKind.min,IntKind.max,IntKind.signed,IntKind.bits];omega)
 have e2:fR u64 x 1=u64.wrap (x.fdiv 2):=rfl
 rw[ae (n:=x) (by omega) h1,e1,e2,Int.fdiv_eq_ediv_of_nonneg _ (by decide)]
 have e3:u64.wrap (x / 2)=x / 2:=bK (by simp[bH,IntKind.min,IntKind.max,IntKind.signed,IntKind.bits];omega)
 rw[e3,ae (by omega) (by omega)]
theorem vP (es:List bj)(l n w f:Int)(hl:es.length≤4294960000)(hs:fG es=true):∀(k i j:Nat),j<i+k→i≤aK f es→aK f es≤j→j≤es.length→
  lY k i j es l n w f=some (.ret ((),(((aK f es:Int),()),((es,(l,(n,(w,())))),((f,()),()))))):=by
 intro k
 induction k with
 |zero=>intro i j h1 h2 h3 h4;omega
 |succ k ih=>
  intro i j h1 h2 h3 h4
  rw[C1]
  unfold nw
  by_cases c:i<j
  rotate_left
  ·refine bF (decide_eq_false (by omega)) ?_
   rw[show i=aK f es by omega]
  refine bT (decide_eq_true (by omega)) ?_
  rw[MR (x:=(i:Int)+(j:Int)) (by omega) (by omega)]
  have hh:((i:Int)+(j:Int)) / 2=(((i+j) / 2:Nat):Int):=by omega
  rw[hh]
  have m1:i≤(i+j) / 2:=by omega
  have m2:(i+j) / 2<j:=by omega
  generalize (i+j) / 2=m at *
  have hm:m<es.length:=by omega
  refine bT (by simpa using hm) ?_
  rw[zG,aA hm,ae (n:=(m:Int)+1) (by omega) (by omega)]
  by_cases c2:f<es[m].1
  ·refine bF (by rw[decide_eq_true c2];rfl) ?_
   refine ih i m (by omega) h2 ?_ (by omega)
   rcases Nat.lt_or_ge m (aK f es) with h | h
   ·exact absurd (HS h) (by omega)
   ·exact h
  ·refine bT (by rw[decide_eq_false c2];rfl) ?_
   refine ih (m+1) j (by omega) ?_ h3 h4
   rcases Nat.lt_or_ge m (aK f es) with h | h
   ·exact h
   ·exact absurd (HR hs hm h) c2
def rj (a0:Int)(a1:List bZ.den)(a2 a3 a4 a5:Int):Option fW.Res:=(gV ((0,(a0,())),((a1,(a2,(a3,(a4,())))),((a5,()),())))).run fun y=>match y with | .ret ((),((x33,()),(x34,x35,x36,x37,()),(x38,()),()))=>(oR ((x33,()),(x34,x35,x36,x37,()),(x38,()),()))
theorem Ew (a0:Int)(a1:List bZ.den)(a2 a3 a4 a5:Int):Io.run tt xD dr mS fW Tryz.f45 ((a0,(),()),(a1,a2,a3,a4,()),(a5,()),())=rj a0 a1 a2 a3 a4 a5:=by kernel_rfl
theorem rF:HcsOk prog xf:=.cons LG .nil
theorem Ix:HcOk prog 45 (ah fW tj):=by
 refine bQ rF (lp:=mS) (fn:=Tryz.f45) fW (.step (h0:=aD cx gV) (by kernel_rfl) (f9 rF (lp:=mS) (fn:=Tryz.f45) (.done (by kernel_rfl)) cx gV ?_) (.done (by kernel_rfl))) tj ?_
 ·rintro ⟨⟨(i:Int),(j:Int),⟨⟩⟩,⟨⟨(es:List bj),(l:Int),(n:Int),(w:Int),⟨⟩⟩,⟨(f:Int),⟨⟩⟩,⟨⟩⟩⟩ y hw hy
  obtain ⟨hg,hy⟩:=Tr.guard hy
  simp only[zA,zB] at hg
  obtain ⟨h1,h2,h3,h4⟩:=hg
  have h1:i=((0:Nat):Int):=h1
  have h2:j=(es.length:Int):=h2
  have h3:es.length≤4294960000:=h3
  subst h1 h2
  refine ⟨es.length+1,(vP es l n w f h3 h4 (es.length+1) 0 es.length (by omega) (Nat.zero_le _) (ta f es) (Nat.le_refl _)).trans ?_⟩
  rw[← hy];rfl
 ·rintro ⟨⟨(m:Int),⟨⟩,⟨⟩⟩,⟨⟨(es:List bj),(l:Int),(n:Int),(w:Int),⟨⟩⟩,⟨(f:Int),⟨⟩⟩,⟨⟩⟩⟩ out hw ho
  obtain ⟨hg,ho⟩:=Tr.guard ho
  simp only[zA,zB] at hg
  obtain ⟨h1,h2,h3⟩:=hg
  cases ho
  refine (Ew m es l n w f).trans ?_
  unfold rj gV
  refine bT (by simp only[zA,zB];exact ⟨trivial,h1,h2,h3⟩) ?_
  rfl
abbrev i0:Io:=⟨[dL,cw,cw,dI],[],[],[dO,dI],none⟩
def yp (d:i0.In):Tr i0.Res:=.ite (decide (d.1.1.length≤4294950000)) (.ret (.ret (((b9 d.1.1 d.1.2.1 d.1.2.2.1 d.1.2.2.2.1).1,((b9 d.1.1 d.1.2.1 d.1.2.2.1 d.1.2.2.2.1).2,())),()))) .no
abbrev FB:List (Nat×Hc):=[(25,ah ja yr),(45,ah fW tj),(47,ah eG oN)]
def Gn:Hd:=bG FB
abbrev da:Lo:=⟨⟨(.one (.hol (.sl 5 (Ty.int u8)))::bk (.one hI::dm (.one hI::.one hI::ai (ai (dm (bz (.one (.hol (.sl 46 bZ))::.one hI::.one hI::.any::ai (bz (bk []))))))))),[]⟩,[(.exit 1,⟨(.one (.hol (.sl 5 (Ty.int u8)))::.any::dm (bk (.one hI::.one hI::ai (ai (ai (ai (bz (bk [])))))))),[]⟩)]⟩
def jM (d:da.st.den):Tr (ap da.xs):=
 .ite (decide (d.1.2.2.2.2.2.1=(d.1.2.2.2.2.1.length:Int))&&(decide (d.1.2.2.2.2.2.2.1=0)&&(decide ((0:Int)≤d.1.2.2.1)&&(decide (d.1.2.2.1≤(4294960000:Int))&&pN d.1.2.2.2.2.1))))
  (.ret (.ret ((),((d.1.1,(d.1.2.2.1,(ci d.1.2.2.1 d.1.2.1 d.1.2.2.2.2.1 d.1.2.2.2.1,()))),())))) .no
def sO:Lp:=bM [(11,aD da jM)]
def pZ {R:Type}(h4:LI)(h5 h6 h7:Int)(h8:List bZ.den)(h9 h10:Int)(next:LI→Int→Int→Int→List bZ.den→Int→Int→Option R)(out:ap da.xs→Option R):Option R:=bif decide (h10<h9) then bif decide (0≤h10)&&decide (h10<(↑h8.length:Int)) then bif decide (h5<i64.wrap (i64.wrap ((h8.getD h10.toNat (0,0,0,0,0,0,0,0,())).2.2.1+(h8.getD h10.toNat (0,0,0,0,0,0,0,0,())).2.2.2.1) - h6)) then out (.ret ((),((h4,(h6,(h7,()))),()))) else next (h4) (h5) (h6) (i64.wrap ((h8.getD h10.toNat (0,0,0,0,0,0,0,0,())).2.2.1+(h8.getD h10.toNat (0,0,0,0,0,0,0,0,())).2.2.2.1)) (h8) (h9) (i64.wrap (h10+1)) else none else out (.ret ((),((h4,(h6,(h7,()))),())))
def od (n:Nat)(h4:LI)(h5 h6 h7:Int)(h8:List bZ.den)(h9 h10:Int):Option (ap da.xs):=fJ tt Gn dr sO 0 Tryz.f15 (bP Tryz.f15 0) n (da.st.mk' ((h4,(h5,(h6,(h7,(h8,(h9,(h10,()))))))),())) (bt da.xs)
theorem EL (n:Nat)(h4:LI)(h5 h6 h7:Int)(h8:List bZ.den)(h9 h10:Int):od (n+1) h4 h5 h6 h7 h8 h9 h10=pZ h4 h5 h6 h7 h8 h9 h10 (od n) some:=by kernel_rfl
theorem zq (b:LI)(most a:Int)(ha:0≤a)(ha2:a≤4294960000)(es:List bj)(hl:es.length≤maxLen)(hk:pN es=true):∀(k i:Nat) (e:Int),es.length<i+k→i≤es.length→
  od k b most a e es (es.length:Int) i=some (.ret ((),((b,(a,(ci a most (es.drop i) e,()))),()))):=by
 intro k
 induction k with
 |zero=>intro i e h;omega
 |succ k ih=>
  intro i e h1 h2
  rw[EL]
  unfold pZ
  by_cases hi:i<es.length
  rotate_left
  ·refine bF (decide_eq_false (by omega)) ?_
   rw[zI (by omega)]
   rfl
  refine bT (decide_eq_true (by omega)) ?_
  refine bT (by simpa using hi) ?_
  have e1:List.getD es (i:Int).toNat (0,0,0,0,0,0,0,0,())=es[i]:=by rw[zG,aA hi]
  have hx:=List.all_eq_true.1 hk es[i] (List.getElem_mem hi)
  simp only[zA,zB] at hx
  obtain ⟨x1,x2,x3,x4⟩:=hx
  rw[e1,b7 hi hl,ae (n:=es[i].2.2.1+es[i].2.2.2.1) (by omega) (by omega),ae (n:=es[i].2.2.1+es[i].2.2.2.1 - a) (by omega) (by omega),zE hi]
  have e2:ci a most (es[i]::es.drop (i+1)) e=if most<es[i].2.2.1+es[i].2.2.2.1 - a then e else ci a most (es.drop (i+1)) (es[i].2.2.1+es[i].2.2.2.1):=rfl
  rw[e2]
  by_cases c:most<es[i].2.2.1+es[i].2.2.2.1 - a
  ·refine bT (decide_eq_true c) ?_
   rw[if_pos c]
  ·refine bF (decide_eq_false c) ?_
   rw[if_neg c]
   exact ih (i+1) _ (by omega) (by omega)
def wt (a0:LI)(a1 a2 a3:Int):Option i0.Res:=bif decide (a0.length≤4294950000) then bif decide (a2<a1) then oR (([],221,()),()) else bif decide ((aG a0 a1).2.2.1<a2) then oR (([],221,()),()) else bif a2 == (aG a0 a1).2.2.1 then oR (([],0,()),()) else bif decide ((↑(List.length (aG a0 a1).1):Int)=(↑(List.length (aG a0 a1).1):Int))&&(decide (List.length (aG a0 a1).1≤4294960000)&&fG (aG a0 a1).1) then bif decide (0≤i64.wrap ((↑(aK a2 (aG a0 a1).1):Int) - 1))&&decide (i64.wrap ((↑(aK a2 (aG a0 a1).1):Int) - 1)<(↑(List.length (aG a0 a1).1):Int)) then bif decide (0≤i64.wrap ((↑(aK a2 (aG a0 a1).1):Int) - 1))&&decide (i64.wrap ((↑(aK a2 (aG a0 a1).1):Int) - 1)<(↑(List.length (aG a0 a1).1):Int)) then bif decide (0≤i64.wrap (i64.wrap ((↑(aK a2 (aG a0 a1).1):Int) - 1)+1))&&(decide (i64.wrap (i64.wrap ((↑(aK a2 (aG a0 a1).1):Int) - 1)+1)≤(↑(List.length (aG a0 a1).1):Int))&&decide ((↑(List.length (aG a0 a1).1):Int)≤(↑(List.length (aG a0 a1).1):Int))) then (jM ((a0,(a3,((List.getD (aG a0 a1).1 (i64.wrap ((↑(aK a2 (aG a0 a1).1):Int) - 1)).toNat (0,0,0,0,0,0,0,0,())).2.2.1,(i64.wrap ((List.getD (aG a0 a1).1 (i64.wrap ((↑(aK a2 (aG a0 a1).1):Int) - 1)).toNat (0,0,0,0,0,0,0,0,())).2.2.1+(List.getD (aG a0 a1).1 (i64.wrap ((↑(aK a2 (aG a0 a1).1):Int) - 1)).toNat (0,0,0,0,0,0,0,0,())).2.2.2.1),(List.drop (i64.wrap (i64.wrap ((↑(aK a2 (aG a0 a1).1):Int) - 1)+1)).toNat (List.take (↑(List.length (aG a0 a1).1):Int).toNat (aG a0 a1).1),((↑(List.drop (i64.wrap (i64.wrap ((↑(aK a2 (aG a0 a1).1):Int) - 1)+1)).toNat (List.take (↑(List.length (aG a0 a1).1):Int).toNat (aG a0 a1).1)).length:Int),(0,()))))))),())).run fun y=>match y with | .ret ((),((x24,x25,x26,()),()))=>(bif decide (0≤x25)&&(decide (x25≤x26)&&decide (x26≤(↑x24.length:Int))) then bif decide ((List.drop x25.toNat (List.take x26.toNat x24)).length≤4294967296) then oR ((List.drop x25.toNat (List.take x26.toNat x24),0,()),()) else none else none) else none else none else none else none else none
theorem Md (a0:LI)(a1 a2 a3:Int):Io.run tt Gn dr sO i0 Tryz.f15 ((a0,a1,a2,a3,()),())=wt a0 a1 a2 a3:=by kernel_rfl
theorem xw:HcsOk prog FB:=.cons Hk (.cons Ix (.cons uM .nil))
theorem Hj:HcOk prog 15 (ah i0 yp):=by
 refine bQ xw (lp:=sO) (fn:=Tryz.f15) i0 (.step (h0:=aD da jM) (by kernel_rfl) (f9 xw (lp:=sO) (fn:=Tryz.f15) (.done (by kernel_rfl)) da jM ?_) (.done (by kernel_rfl))) yp ?_
 ·rintro ⟨⟨(b:LI),(most:Int),(a:Int),(e:Int),(es:List bj),(m:Int),(i:Int),⟨⟩⟩,⟨⟩⟩ y hw hy
  obtain ⟨hg,hy⟩:=Tr.guard hy
  simp only[zA,zB] at hg
  obtain ⟨h1,h2,h3,h4,h5⟩:=hg
  have h1:m=(es.length:Int):=h1
  have h2:i=0:=h2
  subst h1 h2
  refine ⟨es.length+1,(zq b most a h3 h4 es hw.1.2.2.2.2.1.1 h5 (es.length+1) 0 e (by omega) (Nat.zero_le _)).trans ?_⟩
  rw[← hy,List.drop_zero];rfl
 ·rintro ⟨⟨(b:LI),(base:Int),(f:Int),(most:Int),⟨⟩⟩,⟨⟩⟩ out hw ho
  obtain ⟨hg,ho⟩:=Tr.guard ho
  have hg2:b.length≤4294950000:=of_decide_eq_true hg
  cases ho
  have hb:aZ b:=bytesOf hw.1.1
  refine (Md b base f most).trans ?_
  show _=oR (((b9 b base f most).1,((b9 b base f most).2,())),())
  unfold wt
  refine (aa hg _ _).trans ?_
  have hN:(aG b base).2.2.1=(aw b base).2.2.1:=rfl
  have hE:(aG b base).1=(aw b base).1.map (·.1):=rfl
  have eS:b9 b base f most=if f<base∨(aw b base).2.2.1<f then ([],221) else if f=(aw b base).2.2.1 then ([],0) else ((b.take (ci ((((aw b base).1.map (·.1)).getD (aK f ((aw b base).1.map (·.1)) - 1) eQ).2.2.1) most (((aw b base).1.map (·.1)).drop (aK f ((aw b base).1.map (·.1)))) (((((aw b base).1.map (·.1)).getD (aK f ((aw b base).1.map (·.1)) - 1) eQ).2.2.1)+((((aw b base).1.map (·.1)).getD (aK f ((aw b base).1.map (·.1)) - 1) eQ).2.2.2.1))).toNat).drop ((((aw b base).1.map (·.1)).getD (aK f ((aw b base).1.map (·.1)) - 1) eQ).2.2.1).toNat,0):=rfl
  rw[eS,hN,hE]
  by_cases c1:f<base
  ·refine bT (decide_eq_true c1) ?_
   rw[if_pos (.inl c1)]
  refine bF (decide_eq_false c1) ?_
  by_cases c2:(aw b base).2.2.1<f
  ·refine bT (decide_eq_true c2) ?_
   rw[if_pos (.inr c2)]
  refine bF (decide_eq_false c2) ?_
  rw[if_neg (by omega)]
  by_cases c3:f=(aw b base).2.2.1
  ·refine bT (by simpa using c3) ?_
   rw[if_pos c3]
  refine bF (by simpa using c3) ?_
  rw[if_neg c3]
  obtain ⟨ht,_,_⟩:=qj hb base
  obtain ⟨g1,g2,_,_,_,_⟩:=ht.ok (by omega) (Int.le_refl 0)
  have hlen:=ht.len (by omega)
  obtain ⟨u,k1,k2,k3,k4,k5,k6,k7,k8⟩:=Pf hb hg2 most (by omega) (show f<(aw b base).2.2.1 by omega) rfl
  have g3:pN (((aw b base).1.map (·.1)).drop (u+1))=true:=List.all_eq_true.2 fun x hx=>List.all_eq_true.1 g1 x (List.mem_of_mem_drop hx)
  generalize (aw b base).1.map (·.1)=es at *
  rw[k1]
  have hz:List.getD es (u+1 - 1) eQ=es[u]:=by rw[Nat.add_sub_cancel];exact aA k2
  rw[hz]
  refine bT (by simp only[zA,zB];exact ⟨trivial,by omega,g2⟩) ?_
  rw[ae (n:=((u+1:Nat):Int) - 1) (by omega) (by omega),show (((u+1:Nat):Int) - 1)=(u:Int) by omega,ae (n:=(u:Int)+1) (by omega) (by omega),show ((u:Int)+1).toNat=u+1 by omega,zG,zG,List.take_length,aA k2]
  refine bT (by simp only[zA,zB];omega) ?_
  refine bT (by simp only[zA,zB];omega) ?_
  refine bT (by simp only[zA,zB];omega) ?_
  rw[ae (n:=es[u].2.2.1+es[u].2.2.2.1) (by omega) (by omega)]
  unfold jM
  refine bT (by simp only[zA,zB];exact ⟨trivial,trivial,k3,(by show es[u].2.2.1≤(4294960000:Int);omega),g3⟩) ?_
  show (bif decide (0≤es[u].2.2.1)&&(decide (es[u].2.2.1≤ci es[u].2.2.1 most (es.drop (u+1)) (es[u].2.2.1+es[u].2.2.2.1))&&decide (ci es[u].2.2.1 most (es.drop (u+1)) (es[u].2.2.1+es[u].2.2.2.1)≤(b.length:Int))) then bif decide ((List.drop es[u].2.2.1.toNat (List.take (ci es[u].2.2.1 most (es.drop (u+1)) (es[u].2.2.1+es[u].2.2.2.1)).toNat b)).length≤4294967296) then oR ((List.drop es[u].2.2.1.toNat (List.take (ci es[u].2.2.1 most (es.drop (u+1)) (es[u].2.2.1+es[u].2.2.2.1)).toNat b),0,()),()) else none else none)=_
  refine bT (by simp only[zA,zB];omega) ?_
  exact aa (decide_eq_true (by rw[List.length_drop,List.length_take];omega)) _ _
abbrev jo:Io:=⟨[BO],[],[],[dO,dI],none⟩
def yS (d:jo.In):Tr jo.Res:=.ite (ct (aM d.1.1.2.2.2.2.2.1) d.1.1.2.2.2.2.2.1 0&&decide (d.1.1.2.2.2.2.2.1.length≤256)) (.ret (.ret (((ez d.1.1.2.2.2.2.2.1).1,(ez d.1.1.2.2.2.2.2.1).2,()),()))) .no
abbrev F9:List (Nat×Hc):=[(116,ah gf yU),(119,ah kz DN)]
def zi:Hd:=bG F9
abbrev dl:Lo:=⟨⟨(.any::.one (.ptr 1 0)::bk (.one (.onl 5 (Ty.int u8) 9)::.one hI::.any::bk (.one (.hol (.sl 5 (Ty.int u8)))::.any::.one hI::ai (ai (ai (ai (dm []))))))),[none,some [hI,hJ,hI,hK,hJ,.hol (.sl 91 aR)]]⟩,[(.exit 2,⟨(.any::.one (.ptr 1 0)::bk (.one (.onl 5 (Ty.int u8) 9)::.one hI::ai (ai (ai (ai (dm (bz (bk [])))))))),[none,some [hI,hJ,hI,hK,hJ,.hol (.sl 91 aR)]]⟩)]⟩
abbrev d9:Lo:=⟨⟨(.any::.one (.ptr 1 0)::bk (.one (.onl 5 (Ty.int u8) 9)::.one hI::ai (ai (ai (ai (dm (bz (bk [])))))))),[none,some [hI,hJ,hI,hK,hJ,.hol (.sl 91 aR)]]⟩,[(.ret,⟨(bk (.one (.onl 5 (Ty.int u8) 5)::.one hI::ai (ai (ai (ai (ai [])))))),[]⟩),(.exit 0,⟨(bz (.one (.onl 5 (Ty.int u8) 9)::.any::ai (ai (ai (ai (dm (bz (bk [])))))))),[]⟩)]⟩
def jX (d:dl.st.den):Tr (ap dl.xs):=
 .ite (decide (d.1.2.2.2.1=0)&&decide (d.1.1.length+d.1.2.2.1.length≤4294967296)) (.ret (.ret ((),((d.1.1++d.1.2.2.1,(d.1.2.1,())),(d.2.1,()))))) .no
def lJ (d:d9.st.den):Tr (ap d9.xs):=
 .ite (decide (d.1.2.1=0)&&(decide (d.1.1.length=0)&&(decide (d.2.1.2.2.2.2.2.1.length≤256)&&ct (aM d.2.1.2.2.2.2.2.1) d.2.1.2.2.2.2.2.1 0)))
  (.ite (decide ((bp (aM d.2.1.2.2.2.2.2.1) d.2.1.2.2.2.2.2.1 0 []).2=0)) (.ret (.pan (.ret ((),(((bp (aM d.2.1.2.2.2.2.2.1) d.2.1.2.2.2.2.2.1 0 []).1,()),()))))) (.ret (.ret ((),(([],(bp (aM d.2.1.2.2.2.2.2.1) d.2.1.2.2.2.2.2.1 0 []).2,()),()))))) .no
def mX:Lp:=bM [(4,aD d9 lJ),(14,aD dl jX)]
def qe {R:Type}(h18:LI)(h19:Int)(h20:LI)(h21 h22 h23 h24 h25 h26:Int)(h27:List aR.den)(next:LI→Int→LI→Int→Int→Int→Int→Int→Int→List aR.den→Option R)(out:ap dl.xs→Option R):Option R:=bif decide (h21<(↑h20.length:Int)) then bif decide (0≤h21)&&decide (h21<(↑h20.length:Int)) then bif decide (h18.length+1≤4294967296) then next (h18++[h20.getD h21.toNat 0]) (h19) (h20) (i64.wrap (h21+1)) (h22) (h23) (h24) (h25) (h26) (h27) else none else none else out (.ret ((),((h18,(h19,())),((h22,(h23,(h24,(h25,(h26,(h27,())))))),()))))
def ox (n:Nat)(h18:LI)(h19:Int)(h20:LI)(h21 h22 h23 h24 h25 h26:Int)(h27:List aR.den):Option (ap dl.xs):=fJ tt zi dr mX 0 Tryz.f83 (E7 Tryz.f83 (bP Tryz.f83 0) 0) n (dl.st.mk' ((h18,(h19,(h20,(h21,())))),((h22,(h23,(h24,(h25,(h26,(h27,())))))),()))) (bt dl.xs)
theorem EY (n:Nat)(h18:LI)(h19:Int)(h20:LI)(h21 h22 h23 h24 h25 h26:Int)(h27:List aR.den):ox (n+1) h18 h19 h20 h21 h22 h23 h24 h25 h26 h27=qe h18 h19 h20 h21 h22 h23 h24 h25 h26 h27 (ox n) some:=by kernel_rfl
def sc {R:Type}(h6:LI)(h7 h8 h9 h10 h11 h12:Int)(h13:List aR.den)(next:LI→Int→Int→Int→Int→Int→Int→List aR.den→Option R)(out:ap d9.xs→Option R):Option R:=bif decide (h7<(↑h13.length:Int)) then bif decide (0≤h7)&&decide (h7<(↑h13.length:Int)) then bif decide (0≤0)&&decide (0<(↑h13.length:Int)) then bif !(br (h13.getD h7.toNat (0,(false,[],()),(false,[],()),[],())).1 (h13.getD (Int.toNat 0) (0,(false,[],()),(false,[],()),[],())).1).2 then out (.ret ((),(([],(86,())),()))) else bif decide (0≤h7)&&decide (h7<(↑h13.length:Int)) then bif decide (0≤h7)&&decide (h7<(↑h13.length:Int)) then bif decide (0≤h7)&&decide (h7<(↑h13.length:Int)) then bif gd ((br (h13.getD h7.toNat (0,(false,[],()),(false,[],()),[],())).1 (h13.getD (Int.toNat 0) (0,(false,[],()),(false,[],()),[],())).1).1,i32.wrap h7,(h13.getD h7.toNat (0,(false,[],()),(false,[],()),[],())).2) then bif (ck ((br (h13.getD h7.toNat (0,(false,[],()),(false,[],()),[],())).1 (h13.getD (Int.toNat 0) (0,(false,[],()),(false,[],()),[],())).1).1,i32.wrap h7,(h13.getD h7.toNat (0,(false,[],()),(false,[],()),[],())).2)).2 != 0 then out (.ret ((),(([],((ck ((br (h13.getD h7.toNat (0,(false,[],()),(false,[],()),[],())).1 (h13.getD (Int.toNat 0) (0,(false,[],()),(false,[],()),[],())).1).1,i32.wrap h7,(h13.getD h7.toNat (0,(false,[],()),(false,[],()),[],())).2)).2,())),()))) else (jX ((h6,(h7,((ck ((br (h13.getD h7.toNat (0,(false,[],()),(false,[],()),[],())).1 (h13.getD (Int.toNat 0) (0,(false,[],()),(false,[],()),[],())).1).1,i32.wrap h7,(h13.getD h7.toNat (0,(false,[],()),(false,[],()),[],())).2)).1,(0,())))),((h8,(h9,(h10,(h11,(h12,(h13,())))))),()))).run fun y=>match y with | .ret ((),((x46,x47,()),(x48,x49,x50,x51,x52,x53,()),()))=>(next (x46) (i64.wrap (x47+1)) (x48) (x49) (x50) (x51) (x52) (x53)) else none else none else none else none else none else none else out (.pan (.ret ((),((h6,()),()))))
def mQ (n:Nat)(h6:LI)(h7 h8 h9 h10 h11 h12:Int)(h13:List aR.den):Option (ap d9.xs):=fJ tt zi dr mX 0 Tryz.f83 (bP Tryz.f83 0) n (d9.st.mk' ((h6,(h7,())),((h8,(h9,(h10,(h11,(h12,(h13,())))))),()))) (bt d9.xs)
theorem Jm (n:Nat)(h6:LI)(h7 h8 h9 h10 h11 h12:Int)(h13:List aR.den):mQ (n+1) h6 h7 h8 h9 h10 h11 h12 h13=sc h6 h7 h8 h9 h10 h11 h12 h13 (mQ n) some:=by kernel_rfl
theorem zS (P:LI)(hP:P.length≤4294967296)(i b1 b2 b3 b4 b5:Int)(rs:List bm):∀(k j:Nat) (out:LI),P.length<j+k→j≤P.length→out.length+(P.length - j)≤4294967296→
  ox k out i P j b1 b2 b3 b4 b5 rs=some (.ret ((),((out++P.drop j,(i,())),((b1,(b2,(b3,(b4,(b5,(rs,())))))),())))):=by
 intro k
 induction k with
 |zero=>intro j out h;omega
 |succ k ih=>
  intro j out h1 h2 h3
  rw[EY]
  unfold qe
  by_cases hj:j<P.length
  ·refine bT (by simpa using hj) ?_
   refine bT (by simpa using hj) ?_
   refine bT (decide_eq_true (by omega)) ?_
   rw[ae (n:=(j:Int)+1) (by omega) (by omega)]
   have:=ih (j+1) (out++[P.getD (j:Int).toNat 0]) (by omega) (by omega) (by simp;omega)
   refine this.trans ?_
   rw[zG,aA hj,zK,zE hj]
   rfl
  ·refine bF (by simpa using hj) ?_
   rw[zI (by omega),List.append_nil]
theorem Cw (b1 b2 b3 b4 b5:Int)(rs:List bm){f:Int}(hf0:aM rs=f)(hl:rs.length≤256):∀(k i:Nat) (out:LI),rs.length<i+k→i≤rs.length→ct f (rs.drop i) i=true→out.length≤i*17000→
  mQ k out i b1 b2 b3 b4 b5 rs=if (bp f (rs.drop i) i out).2=0 then some (.pan (.ret ((),(((bp f (rs.drop i) i out).1,()),())))) else some (.ret ((),(([],((bp f (rs.drop i) i out).2,())),()))):=by
 intro k
 induction k with
 |zero=>intro i out h;omega
 |succ k ih=>
  intro i out h1 h2 h3 h4
  rw[Jm]
  unfold sc
  by_cases hi:i<rs.length
  ·rw[zE hi] at h3 ⊢
   have e0:(rs.getD (Int.toNat 0) (0,(false,[],()),(false,[],()),[],())).1=f:=by
    rw[← hf0]
    cases rs with
    |nil=>simp at hi
    |cons r l=>rfl
   have e1:List.getD rs (i:Int).toNat (0,(false,[],()),(false,[],()),[],())=rs[i]:=by rw[zG,aA hi]
   rw[e0,e1]
   generalize rs[i]=r at *
   simp only[ct,zA] at h3
   obtain ⟨h5,h6⟩:=h3
   have q1:(decide ((0:Int)≤(i:Int))&&decide ((i:Int)<(rs.length:Int)))=true:=by simpa using hi
   refine bT (by simpa using hi) ?_
   refine (aa q1 _ _).trans ?_
   refine bT (by simp;omega) ?_
   have eL:bp f (r::rs.drop (i+1)) i out=if aP (r.1 - f)=false then ([],86) else if bi (cH f i r)≠0 then ([],bi (cH f i r)) else bp f (rs.drop (i+1)) (i+1) (out++(ck (cH f i r)).1):=rfl
   rw[eL]
   cases h7:aP (r.1 - f) with
   |false=>
    have eS:br r.1 f=(0,false):=by unfold br;rw[h7,if_neg (by decide)]
    rw[eS]
    refine (aa rfl _ _).trans ?_
    rw[if_pos rfl,if_neg (show (86:Int)≠0 by decide)]
   |true=>
    have eS:br r.1 f=(r.1 - f,true):=by unfold br;rw[h7,if_pos rfl]
    rw[eS]
    refine (af rfl _ _).trans ?_
    rw[if_neg (show ¬ true=false by decide)]
    refine (aa q1 _ _).trans ?_
    refine (aa q1 _ _).trans ?_
    refine (aa q1 _ _).trans ?_
    have eR:((r.1 - f,i32.wrap (i:Int),r.2):oV)=cH f i r:=by
     rw[bK (k:=.i32) (by simp[bH,IntKind.min,IntKind.max,IntKind.signed,IntKind.bits];omega)]
     rfl
    rw[eR]
    refine (aa h5 _ _).trans ?_
    by_cases h9:bi (cH f i r)=0
    ·obtain ⟨p1,p2⟩:=Jq h9
     refine bF (by simpa using p1) ?_
     rw[if_neg (az h9)]
     unfold jX
     refine bT (by simp only[zA,zB];exact ⟨trivial,show out.length+(ck (cH f i r)).1.length≤4294967296 by omega⟩) ?_
     show mQ k (out++(ck (cH f i r)).1) (i64.wrap ((i:Int)+1)) b1 b2 b3 b4 b5 rs=_
     rw[ae (n:=(i:Int)+1) (by omega) (by omega)]
     exact ih (i+1) _ (by omega) (by omega) h6 (by simp;omega)
    ·refine bT (by rw[vr h9];simpa using h9) ?_
     rw[if_pos h9,vr h9]
     rw[if_neg h9]
  ·refine bF (by simp;omega) ?_
   rw[zI (by omega)]
   rfl
def w8 (a0 a1 a2 a3 a4:Int)(a5:List aR.den):Option jo.Res:=(lJ (([],(0,())),((a0,(a1,(a2,(a3,(a4,(a5,())))))),()))).run fun y=>match y with | .ret ((),((x63,x64,()),()))=>(oR ((x63,x64,()),())) | .pan (.ret ((),((x65,()),())))=>(bif decide (32768<(↑x65.length:Int)) then oR (([],4,()),()) else oR ((x65,0,()),()))
theorem MN (a0 a1 a2 a3 a4:Int)(a5:List aR.den):Io.run tt zi dr mX jo Tryz.f83 (((a0,a1,a2,a3,a4,a5,()),()),())=w8 a0 a1 a2 a3 a4 a5:=by kernel_rfl
theorem qC:HcsOk prog F9:=.cons Hy (.cons OD .nil)
theorem Hx:HcOk prog 83 (ah jo yS):=by
 refine bQ qC (lp:=mX) (fn:=Tryz.f83) jo (.step (h0:=aD d9 lJ) (by kernel_rfl) (f9 qC (lp:=mX) (fn:=Tryz.f83) (.step (h0:=aD dl jX) (by kernel_rfl) (f9 qC (lp:=mX) (fn:=Tryz.f83) (.done (by kernel_rfl)) dl jX ?_) (.done (by kernel_rfl))) d9 lJ ?_) (.done (by kernel_rfl))) yS ?_
 ·rintro ⟨⟨(out:LI),(i:Int),(P:LI),(j:Int),⟨⟩⟩,⟨⟨(b1:Int),(b2:Int),(b3:Int),(b4:Int),(b5:Int),(rs:List bm),⟨⟩⟩,⟨⟩⟩⟩ y hw hy
  obtain ⟨hg,hy⟩:=Tr.guard hy
  simp only[zA,zB] at hg
  obtain ⟨h1,h2⟩:=hg
  have h1:j=0:=h1
  have h2:out.length+P.length≤4294967296:=h2
  subst h1
  refine ⟨P.length+1,(zS P (by omega) i b1 b2 b3 b4 b5 rs (P.length+1) 0 out (by omega) (by omega) (by omega)).trans ?_⟩
  rw[← hy];rfl
 ·rintro ⟨⟨(out:LI),(i:Int),⟨⟩⟩,⟨⟨(b1:Int),(b2:Int),(b3:Int),(b4:Int),(b5:Int),(rs:List bm),⟨⟩⟩,⟨⟩⟩⟩ y hw hy
  obtain ⟨hg,hy⟩:=Tr.guard hy
  simp only[zA,zB] at hg
  obtain ⟨h1,h3,h6,h7⟩:=hg
  have h1:i=0:=h1
  have h3:out=[]:=List.length_eq_zero_iff.1 h3
  have h6:rs.length≤256:=h6
  subst h1 h3
  refine ⟨rs.length+1,(Cw b1 b2 b3 b4 b5 rs rfl h6 (rs.length+1) 0 [] (by omega) (by omega) h7 (by simp)).trans ?_⟩
  rw[← hy]
  simp only[Tr.val_ite,zB,Tr.val_ret,List.drop_zero]
 ·rintro ⟨⟨⟨(b1:Int),(b2:Int),(b3:Int),(b4:Int),(b5:Int),(rs:List bm),⟨⟩⟩,⟨⟩⟩,⟨⟩⟩ out hw ho
  obtain ⟨hg,ho⟩:=Tr.guard ho
  simp only[zA,zB] at hg
  have hg1:ct (aM rs) rs 0=true:=hg.1
  have hg2:rs.length≤256:=hg.2
  cases ho
  refine (MN b1 b2 b3 b4 b5 rs).trans ?_
  show _=oR (((ez rs).1,(ez rs).2,()),())
  unfold w8 lJ
  refine bT (by simp only[zA,zB];exact ⟨trivial,rfl,hg2,hg1⟩) ?_
  show (bif decide ((bp (aM rs) rs 0 []).2=0) then (bif decide (32768<((bp (aM rs) rs 0 []).1.length:Int)) then oR (([],4,()),()) else oR (((bp (aM rs) rs 0 []).1,0,()),())) else oR (([],(bp (aM rs) rs 0 []).2,()),()))=_
  unfold ez
  by_cases h5:(bp (aM rs) rs 0 []).2=0
  ·refine bT (decide_eq_true h5) ?_
   rw[if_neg (az h5)]
   by_cases h6:32768<((bp (aM rs) rs 0 []).1.length:Int)
   ·refine bT (decide_eq_true h6) ?_
    rw[if_pos h6]
   ·refine bF (decide_eq_false h6) ?_
    rw[if_neg h6]
  ·refine bF (decide_eq_false h5) ?_
   rw[if_pos h5]
abbrev n9:Io:=⟨[BO],[],[],[dI],none⟩
def JR (d:n9.In):Tr n9.Res:=.ite (ct (aM d.1.1.2.2.2.2.2.1) d.1.1.2.2.2.2.2.1 0) (.ret (.ret ((du d.1.1,()),()))) .no
abbrev Kn:List (Nat×Hc):=[(82,ah gJ yR),(83,ah jo yS)]
def P1:Hd:=bG Kn
def Lr:Lp:=bM []
def Bo (a0 a1 a2 a3 a4:Int)(a5:List aR.den):Option n9.Res:=bif decide (a0<0) then oR ((80,()),()) else bif decide (4611686018427387648<a0) then oR ((80,()),()) else bif !!aW a2 a3 a4 then oR ((84,()),()) else bif (↑a5.length:Int) == 0 then oR ((85,()),()) else bif decide (256<(↑a5.length:Int)) then oR ((9,()),()) else bif ct (aM a5) a5 0&&decide (a5.length≤256) then oR (((ez a5).2,()),()) else none
theorem Pb (a0 a1 a2 a3 a4:Int)(a5:List aR.den):Io.run tt P1 dr Lr n9 Tryz.f63 (((a0,a1,a2,a3,a4,a5,()),()),())=Bo a0 a1 a2 a3 a4 a5:=by kernel_rfl
theorem Qk:HcOk prog 63 (ah n9 JR):=by
 refine bQ (cs:=Kn) (.cons Hw (.cons Hx .nil)) (lp:=Lr) (fn:=Tryz.f63) n9 (.done (by kernel_rfl)) JR ?_
 rintro ⟨⟨⟨(b1:Int),(b2:Int),(b3:Int),(b4:Int),(b5:Int),(rs:List bm),⟨⟩⟩,⟨⟩⟩,⟨⟩⟩ out hw ho
 obtain ⟨hg,ho⟩:=Tr.guard ho
 have hg:ct (aM rs) rs 0=true:=hg
 cases ho
 refine (Pb b1 b2 b3 b4 b5 rs).trans ?_
 show _=oR ((du (b1,b2,b3,b4,b5,rs,()),()),())
 have e:du (b1,b2,b3,b4,b5,rs,())=if bh b1=true then 80 else if aW b3 b4 b5=true then 84 else if rs=[] then 85 else if 256<(rs.length:Int) then 9 else (ez rs).2:=rfl
 have hB:bh b1=(decide (b1<0) || decide (4611686018427387648<b1)):=rfl
 unfold Bo
 by_cases h1:b1<0
 ·refine bT (decide_eq_true h1) ?_
  rw[e,if_pos (by rw[hB,decide_eq_true h1];rfl)]
 refine bF (decide_eq_false h1) ?_
 by_cases h2:4611686018427387648<b1
 ·refine bT (decide_eq_true h2) ?_
  rw[e,if_pos (by rw[hB,decide_eq_true h2,Bool.or_true])]
 refine bF (decide_eq_false h2) ?_
 rw[e,if_neg (by rw[hB,decide_eq_false h1,decide_eq_false h2];decide)]
 cases h3:aW b3 b4 b5 with
 |true=>
  refine (aa rfl _ _).trans ?_
  rw[if_pos rfl]
 |false=>
 refine (af rfl _ _).trans ?_
 rw[if_neg (by decide)]
 by_cases h4:rs=[]
 ·refine bT (by simp[h4]) ?_
  rw[if_pos h4]
 refine bF (by simp[h4]) ?_
 rw[if_neg h4]
 by_cases h5:256<(rs.length:Int)
 ·refine bT (decide_eq_true h5) ?_
  rw[if_pos h5]
 refine bF (decide_eq_false h5) ?_
 rw[if_neg h5]
 exact aa (by rw[zA];exact ⟨hg,decide_eq_true (show rs.length≤256 by omega)⟩) _ _
end
end Go.Proofs.YthpcdhgpplmneaaGreatDoor.Sym
namespace Go.Proofs.YthpcdhgpplmneaaGreatDoor.Sym
open Go
noncomputable section
abbrev PI:Ty:=.sl 220 dH
abbrev PA:Sh:=.dat PI false false
abbrev Kv:Sh:=.dat PI false true
def ca:LI→LI→Nat→Nat
 |x::xs,y::ys,k+1=>if x=y then ca xs ys k+1 else 0
 |_,_,_=>0
def fP (b:LI)(i:Nat)(depth:Int):Nat→Int→Int→Int→Int×Int
 |0,d,m,_=>(d,m)
 |q+1,d,m,s=>
  if (i:Int) - (q:Int)≤4096∧s<depth then
   (if 4≤ca (b.drop q) (b.drop i) 131 then (if m<(ca (b.drop q) (b.drop i) 131:Int) then fP b i depth q ((i:Int) - q) (ca (b.drop q) (b.drop i) 131) (s+1) else fP b i depth q d m (s+1))
    else fP b i depth q d m s)
  else (d,m)
def aL (b:LI)(i:Nat)(depth:Int):Int×Int:=fP b i depth i 0 0 0
def be:Nat→LI→List gu
 |0,_=>[]
 |_+1,[]=>[]
 |k+1,c::l=>((c::l).take 128,0,0,())::be k ((c::l).drop 128)
def bX (b:LI)(lo hi:Nat):List gu:=be (hi - lo) ((b.take hi).drop lo)
def fb (b:LI)(depth:Int):Nat→Nat→Nat→List gu→List gu
 |0,lo,i,ts=>ts++bX b lo i
 |k+1,lo,i,ts=>
  if i<b.length then
   (if (aL b i depth).2=0 then fb b depth k lo (i+1) ts
    else fb b depth k (i+(aL b i depth).2.toNat) (i+(aL b i depth).2.toNat) (ts++bX b lo i++[([],(aL b i depth).1,(aL b i depth).2,())]))
  else ts++bX b lo i
def bA (b:LI)(depth:Int):Nat→Nat→Nat→List gu→List gu×Nat×Nat
 |0,lo,i,ts=>(ts,lo,i)
 |k+1,lo,i,ts=>
  if i<b.length then
   (if (aL b i depth).2=0 then bA b depth k lo (i+1) ts
    else bA b depth k (i+(aL b i depth).2.toNat) (i+(aL b i depth).2.toNat) (ts++bX b lo i++[([],(aL b i depth).1,(aL b i depth).2,())]))
  else (ts,lo,i)
def eF (b:LI):List gu:=fb b 8 (b.length+1) 0 0 []
def dG (t:gu):LI:=if t.2.2.1=0 then ((t.1.length:Int) - 1)::t.1 else [124+t.2.2.1,t.2.1 / 256,t.2.1 % 256]
def aJ (ts:List gu):LI:=ts.flatMap dG
def gb (b:LI):LI×Int:=if 32768<(b.length:Int) then ([],4) else (aH (aC b.length)++aJ (eF b),0)
def fH (b:LI):List gu×Int:=if 32768<(b.length:Int) then ([],4) else (eF b,0)
def my (ts:List gu):Bool:=ts.all fun t=>j8 t || fE t
def rg (t:gu):Prop:=(t.2.1=0∧t.2.2.1=0∧1≤t.1.length∧t.1.length≤128)∨(t.1=[]∧1≤t.2.1∧t.2.1≤4096∧4≤t.2.2.1∧t.2.2.1≤131)
theorem vk:∀(xs ys:LI) (k:Nat),ca xs ys k≤k∧ca xs ys k≤xs.length∧ca xs ys k≤ys.length
 |[],_,_=>by simp[ca]
 |_::_,[],_=>by simp[ca]
 |_::_,_::_,0=>by simp[ca]
 |x::xs,y::ys,k+1=>by
  unfold ca
  obtain ⟨h1,h2,h3⟩:=vk xs ys k
  split
  ·simp only[zN];omega
  ·simp
theorem Db:∀(xs ys:LI) (k j:Nat),j<ca xs ys k→xs[j]?=ys[j]?
 |[],_,_,_,h=>by simp[ca] at h
 |_::_,[],_,_,h=>by simp[ca] at h
 |_::_,_::_,0,_,h=>by simp[ca] at h
 |x::xs,y::ys,k+1,j,h=>by
  unfold ca at h
  split at h
  ·rename_i e
   cases j with
   |zero=>simp[e]
   |succ j=>simpa using Db xs ys k j (by omega)
  ·simp at h
theorem pK {b:LI}{i:Nat}(hi:i<b.length){depth:Int}:∀(q:Nat) (d m s:Int),q≤i→(m=0∧d=0∨4≤m∧m≤131∧1≤d∧d≤4096∧d≤i∧i+m≤b.length∧∀j:Nat,(j:Int)<m→b[i - d.toNat+j]?=b[i+j]?)→
  ((fP b i depth q d m s).2=0∧(fP b i depth q d m s).1=0∨4≤(fP b i depth q d m s).2∧(fP b i depth q d m s).2≤131∧1≤(fP b i depth q d m s).1∧(fP b i depth q d m s).1≤4096∧(fP b i depth q d m s).1≤i∧i+(fP b i depth q d m s).2≤b.length∧
   ∀j:Nat,(j:Int)<(fP b i depth q d m s).2→b[i - (fP b i depth q d m s).1.toNat+j]?=b[i+j]?)
 |0,d,m,s,_,h=>h
 |q+1,d,m,s,hq,h=>by
  unfold fP
  obtain ⟨c1,c2,c3⟩:=vk (b.drop q) (b.drop i) 131
  split
  ·rename_i h1
   split
   ·rename_i h2
    split
    ·rename_i h3
     refine pK hi q _ _ _ (by omega) (.inr ⟨by omega,by omega,by omega,by omega,by omega,?_,fun j hj=>?_⟩)
     ·rw[List.length_drop] at c3;omega
     ·have e:=Db (b.drop q) (b.drop i) 131 j (by omega)
      rw[List.getElem?_drop,List.getElem?_drop] at e
      rw[show i - ((i:Int) - (q:Int)).toNat=q by omega]
      exact e
    ·exact pK hi q _ _ _ (by omega) h
   ·exact pK hi q _ _ _ (by omega) h
  ·exact h
theorem gU {b:LI}{i:Nat}(hi:i<b.length)(depth:Int):(aL b i depth).2=0∧(aL b i depth).1=0∨4≤(aL b i depth).2∧(aL b i depth).2≤131∧1≤(aL b i depth).1∧(aL b i depth).1≤4096∧(aL b i depth).1≤i∧i+(aL b i depth).2≤b.length∧
   ∀j:Nat,(j:Int)<(aL b i depth).2→b[i - (aL b i depth).1.toNat+j]?=b[i+j]?:=
 pK hi i 0 0 0 (Nat.le_refl i) (.inl ⟨rfl,rfl⟩)
theorem jt:∀(k:Nat) (l:LI),∀t∈be k l,rg t
 |0,_,t,h=>by cases h
 |_+1,[],t,h=>by cases h
 |k+1,c::l,t,h=>by
  unfold be at h
  rcases List.mem_cons.1 h with rfl | h
  ·exact .inl ⟨rfl,rfl,by first | (simp;done) | (simp;omega),by first | (simp;done) | (simp;omega)⟩
  ·exact jt k _ t h
theorem q9 (b:LI)(depth:Int):∀(k lo i:Nat) (ts:List gu),(∀t∈ts,rg t)→∀t∈fb b depth k lo i ts,rg t
 |0,lo,i,ts,h,t,ht=>by
  unfold fb at ht
  rcases List.mem_append.1 ht with h1 | h1
  ·exact h t h1
  ·exact jt _ _ t h1
 |k+1,lo,i,ts,h,t,ht=>by
  unfold fb at ht
  split at ht
  ·rename_i hi
   split at ht
   ·exact q9 b depth k _ _ _ h t ht
   ·rename_i hn
    refine q9 b depth k _ _ _ (fun t ht=>?_) t ht
    rcases List.mem_append.1 ht with h1 | h1
    ·rcases List.mem_append.1 h1 with h2 | h2
     ·exact h t h2
     ·exact jt _ _ t h2
    ·simp only[List.mem_singleton] at h1
     subst h1
     rcases gU hi depth with h3 | h3
     ·exact absurd h3.1 hn
     ·exact .inr ⟨rfl,h3.2.2.1,h3.2.2.2.1,h3.1,h3.2.1⟩
  ·rcases List.mem_append.1 ht with h1 | h1
   ·exact h t h1
   ·exact jt _ _ t h1
theorem nq:∀(k j:Nat) (l:LI),l.length≤k→l.length≤j→be k l=be j l
 |0,0,_,_,_=>rfl
 |0,_+1,[],_,_=>rfl
 |0,_+1,_::_,h,_=>by simp at h
 |_+1,0,[],_,_=>rfl
 |_+1,0,_::_,_,h=>by simp at h
 |_+1,_+1,[],_,_=>rfl
 |k+1,j+1,c::l,h1,h2=>by
  unfold be
  rw[nq k j _ (by simp at h1 ⊢;omega) (by simp at h2 ⊢;omega)]
theorem De {b:LI}{lo hi:Nat}(h1:lo<hi)(h2:hi≤b.length):bX b lo hi=(((b.take hi).drop lo).take 128,0,0,())::bX b (lo+(((b.take hi).drop lo).take 128).length) hi:=by
 have hl:((b.take hi).drop lo).length=hi - lo:=by rw[List.length_drop,List.length_take,Nat.min_eq_left h2]
 have hd:((b.take hi).drop lo).drop 128=(b.take hi).drop (lo+(((b.take hi).drop lo).take 128).length):=by
  rw[List.length_take,hl]
  by_cases h:128≤hi - lo
  ·rw[Nat.min_eq_left h,List.drop_drop]
  ·rw[Nat.min_eq_right (by omega),zI (by omega),zI (by rw[List.length_take];omega)]
 have hl2:((b.take hi).drop (lo+(((b.take hi).drop lo).take 128).length)).length=hi - (lo+(((b.take hi).drop lo).take 128).length):=by rw[List.length_drop,List.length_take,Nat.min_eq_left h2]
 unfold bX
 obtain ⟨k,hk⟩:∃k,hi - lo=k+1:=⟨hi - lo - 1,by omega⟩
 rw[hk]
 have e:∀l:LI,l≠[]→be (k+1) l=(l.take 128,0,0,())::be k (l.drop 128):=by
  intro l hne
  cases l with
  |nil=>exact absurd rfl hne
  |cons c l=>rfl
 rw[e _ (fun h=>by rw[h] at hl;simp at hl;omega),hd]
 congr 1
 refine nq _ _ _ ?_ (by rw[hl2];exact Nat.le_refl _)
 rw[hl2,List.length_take,hl]
 omega
theorem rc (b:LI)(depth:Int):∀(k lo i:Nat) (ts:List gu),fb b depth k lo i ts=(bA b depth k lo i ts).1++bX b (bA b depth k lo i ts).2.1 (bA b depth k lo i ts).2.2
 |0,_,_,_=>rfl
 |k+1,lo,i,ts=>by
  unfold fb bA
  split
  ·split
   ·exact rc b depth k _ _ _
   ·exact rc b depth k _ _ _
  ·rfl
theorem pL:∀(k:Nat) (l:LI),(be k l).length≤l.length
 |0,l=>by simp[be]
 |_+1,[]=>by simp[be]
 |k+1,c::l=>by
  have:=pL k ((c::l).drop 128)
  unfold be
  simp only[zN,List.length_drop] at this ⊢
  omega
theorem vn {b:LI}{lo hi:Nat}(h1:lo≤hi)(h2:hi≤b.length):(bX b lo hi).length≤hi - lo:=by
 have:=pL (hi - lo) ((b.take hi).drop lo)
 rw[List.length_drop,List.length_take,Nat.min_eq_left h2] at this
 exact this
theorem re (b:LI)(depth:Int):∀(k lo i:Nat) (ts:List gu),lo≤i→i≤b.length→ts.length≤lo→
  (bA b depth k lo i ts).2.1≤(bA b depth k lo i ts).2.2∧(bA b depth k lo i ts).2.2≤b.length∧(bA b depth k lo i ts).1.length≤(bA b depth k lo i ts).2.1
 |0,_,_,_,h1,h2,h3=>⟨h1,h2,h3⟩
 |k+1,lo,i,ts,h1,h2,h3=>by
  unfold bA
  split
  ·rename_i hi
   split
   ·exact re b depth k _ _ _ (by omega) (by omega) h3
   ·rename_i hn
    rcases gU hi depth with h4 | ⟨g1,g2,g3,g4,g5,g6,g7⟩
    ·exact absurd h4.1 hn
    refine re b depth k _ _ _ (Nat.le_refl _) (by omega) ?_
    have:=vn h1 h2
    simp only[zH,List.length_singleton]
    omega
  ·exact ⟨h1,h2,h3⟩
def cS:List gu→LI→LI
 |[],out=>out
 |t::ts,out=>cS ts (ch t.2.1.toNat t.2.2.1.toNat (out++t.1))
theorem eX:∀(xs ys:List gu) (out:LI),cS (xs++ys) out=cS ys (cS xs out)
 |[],_,_=>rfl
 |x::xs,ys,out=>eX xs ys _
theorem mr {b:LI}{d:Nat}(hd:1≤d):∀(n i:Nat),d≤i→i+n≤b.length→(∀j,j<n→b[i - d+j]?=b[i+j]?)→ch d n (b.take i)=b.take (i+n)
 |0,i,_,_,_=>rfl
 |n+1,i,h1,h2,h=>by
  unfold ch
  have hl:(b.take i).length=i:=by rw[List.length_take];omega
  have e:b.take i++[(b.take i).getD ((b.take i).length - d) 0]=b.take (i+1):=by
   have h0:=h 0 (by omega)
   rw[Nat.add_zero,Nat.add_zero] at h0
   rw[hl,List.getD_eq_getElem?_getD,List.getElem?_take,if_pos (by omega),h0,List.take_add_one,List.getElem?_eq_getElem (by omega)]
   rfl
  rw[e,mr hd n (i+1) (by omega) (by omega) (fun j hj=>by
   have:=h (j+1) (by omega)
   rw[show i+1 - d+j=i - d+(j+1) by omega,show i+1+j=i+(j+1) by omega]
   exact this),show i+1+n=i+(n+1) by omega]
theorem nv:∀(k:Nat) (l out:LI),l.length≤k→cS (be k l) out=out++l
 |0,[],out,_=>by simp[be,cS]
 |0,_::_,_,h=>by simp at h
 |_+1,[],out,_=>by simp[be,cS]
 |k+1,c::l,out,h=>by
  unfold be cS
  show cS (be k ((c::l).drop 128)) (out++(c::l).take 128)=_
  rw[nv k _ _ (by simp at h ⊢;omega),zK,List.take_append_drop]
theorem ju {b:LI}{lo hi:Nat}(h1:lo≤hi)(h2:hi≤b.length):cS (bX b lo hi) (b.take lo)=b.take hi:=by
 unfold bX
 rw[nv _ _ _ (by simp;omega)]
 have:b.take lo=(b.take hi).take lo:=by rw[List.take_take,Nat.min_eq_left h1]
 rw[this,List.take_append_drop]
theorem mv (b:LI)(depth:Int):∀(k lo i:Nat) (ts:List gu),b.length<i+k→lo≤i→i≤b.length→cS ts []=b.take lo→cS (fb b depth k lo i ts) []=b
 |0,lo,i,ts,h,h1,h2,h3=>by omega
 |k+1,lo,i,ts,h,h1,h2,h3=>by
  unfold fb
  split
  ·rename_i hi
   split
   ·exact mv b depth k _ _ _ (by omega) (by omega) (by omega) h3
   ·rename_i hn
    rcases gU hi depth with h4 | ⟨g1,g2,g3,g4,g5,g6,g7⟩
    ·exact absurd h4.1 hn
    refine mv b depth k _ _ _ (by omega) (Nat.le_refl _) (by omega) ?_
    rw[eX,eX,h3,ju h1 h2]
    show ch (aL b i depth).1.toNat (aL b i depth).2.toNat (b.take i++[])=_
    rw[List.append_nil]
    exact mr (by omega) _ i (by omega) (by omega) fun j hj=>g7 j (by omega)
  ·rw[eX,h3,ju h1 h2,List.take_of_length_le (by omega)]
theorem rL (b:LI):cS (eF b) []=b:=mv b 8 _ 0 0 [] (by omega) (Nat.le_refl 0) (Nat.zero_le _) rfl
theorem vp:∀(ts:List gu) (out:LI),out.length≤(cS ts out).length
 |[],_=>Nat.le_refl _
 |t::ts,out=>by
  unfold cS
  have:=vp ts (ch t.2.1.toNat t.2.2.1.toNat (out++t.1))
  rw[kY,zH] at this
  omega
def oH:List gu→LI→Prop
 |[],_=>True
 |t::ts,out=>t.2.1≤out.length∧oH ts (ch t.2.1.toNat t.2.2.1.toNat (out++t.1))
theorem jJ:∀(xs ys:List gu) (out:LI),oH xs out→oH ys (cS xs out)→oH (xs++ys) out
 |[],_,_,_,h=>h
 |x::xs,ys,out,h,h'=>⟨h.1,jJ xs ys _ h.2 h'⟩
theorem gz:∀(k:Nat) (l out:LI),oH (be k l) out
 |0,_,_=>trivial
 |_+1,[],_=>trivial
 |k+1,c::l,out=>⟨by show (0:Int)≤_;omega,gz k _ _⟩
theorem nE (b:LI)(depth:Int):∀(k lo i:Nat) (ts:List gu),lo≤i→i≤b.length→cS ts []=b.take lo→oH ts []→oH (fb b depth k lo i ts) []
 |0,lo,i,ts,h1,h2,h3,h4=>jJ _ _ _ h4 (gz _ _ _)
 |k+1,lo,i,ts,h1,h2,h3,h4=>by
  unfold fb
  split
  ·rename_i hi
   split
   ·exact nE b depth k _ _ _ (by omega) (by omega) h3 h4
   ·rename_i hn
    rcases gU hi depth with h5 | ⟨g1,g2,g3,g4,g5,g6,g7⟩
    ·exact absurd h5.1 hn
    refine nE b depth k _ _ _ (Nat.le_refl _) (by omega) ?_ ?_
    ·rw[eX,eX,h3,ju h1 h2]
     show ch (aL b i depth).1.toNat (aL b i depth).2.toNat (b.take i++[])=_
     rw[List.append_nil]
     exact mr (by omega) _ i (by omega) (by omega) fun j hj=>g7 j (by omega)
    ·refine jJ _ _ _ (jJ _ _ _ h4 (gz _ _ _)) ⟨?_,trivial⟩
     rw[eX,h3,ju h1 h2,List.length_take]
     show (aL b i depth).1≤_
     omega
  ·exact jJ _ _ _ h4 (gz _ _ _)
theorem Dw (b:LI):oH (eF b) []:=nE b 8 _ 0 0 [] (Nat.le_refl 0) (Nat.zero_le _) rfl trivial
theorem M5 {t:gu}(h:rg t)(rest:LI):aN (dG t++rest)=(t,((dG t).length:Int),0)∧2≤(dG t).length:=by
 obtain ⟨lit,d,n,⟨⟩⟩:=t
 rcases h with ⟨h1,h2,h3,h4⟩ | ⟨h1,h2,h3,h4,h5⟩
 ·have h1:d=0:=h1
  have h2:n=0:=h2
  have h3:1≤lit.length:=h3
  have h4:lit.length≤128:=h4
  subst h1 h2
  have e:dG (lit,0,0,())=((lit.length:Int) - 1)::lit:=rfl
  rw[e]
  refine ⟨?_,by simp;omega⟩
  unfold aN
  have e0:(((lit.length:Int) - 1)::lit++rest).getD 0 0=(lit.length:Int) - 1:=rfl
  rw[e0,if_pos (by omega),if_neg (by simp only[List.cons_append,zN,zH];omega)]
  have e1:((((lit.length:Int) - 1)::lit++rest).drop 1).take ((lit.length:Int) - 1+1).toNat=lit:=by
   show (lit++rest).take _=lit
   rw[show ((lit.length:Int) - 1+1).toNat=lit.length by omega,List.take_left]
  rw[e1,show (lit.length:Int) - 1+2=((((lit.length:Int) - 1)::lit).length:Int) by simp only[zN];omega]
 ·have h1:lit=[]:=h1
  have h2:1≤d:=h2
  have h3:d≤4096:=h3
  have h4:4≤n:=h4
  have h5:n≤131:=h5
  subst h1
  have e:dG ([],d,n,())=[124+n,d / 256,d % 256]:=by
   unfold dG
   rw[if_neg (show ¬ n=0 by omega)]
  rw[e]
  refine ⟨?_,by simp⟩
  unfold aN
  have e0:([124+n,d / 256,d % 256]++rest).getD 0 0=124+n:=rfl
  have e1:([124+n,d / 256,d % 256]++rest).getD 1 0=d / 256:=rfl
  have e2:([124+n,d / 256,d % 256]++rest).getD 2 0=d % 256:=rfl
  rw[e0,e1,e2,if_neg (by omega),if_neg (by simp;omega),if_neg (by omega),show d / 256*256+d % 256=d by omega,show 124+n - 124=n by omega]
  rfl
theorem M4 {t:gu}(h:rg t):fF t=false:=by
 obtain ⟨lit,d,n,⟨⟩⟩:=t
 have e:fF (lit,d,n,())=if iK (lit,d,n,())=true then decide (0<lit.length) || (decide (d<1) || (decide (4096<d) || (decide (n<4) || decide (131<n)))) else decide (lit.length<1) || decide (128<lit.length):=rfl
 have e2:iK (lit,d,n,())=if d≠0 then true else decide (n≠0):=rfl
 rcases h with ⟨h1,h2,h3,h4⟩ | ⟨h1,h2,h3,h4,h5⟩
 ·have h1:d=0:=h1
  have h2:n=0:=h2
  have h3:1≤lit.length:=h3
  have h4:lit.length≤128:=h4
  subst h1 h2
  rw[e,e2,if_neg (by decide),decide_eq_false (by omega),decide_eq_false (by omega)];rfl
 ·have h1:lit=[]:=h1
  have h2:1≤d:=h2
  have h3:d≤4096:=h3
  have h4:4≤n:=h4
  have h5:n≤131:=h5
  subst h1
  rw[e,e2,if_pos (show d≠0 by omega),if_pos rfl,decide_eq_false (by simp),decide_eq_false (by omega),decide_eq_false (by omega),decide_eq_false (by omega),decide_eq_false (by omega)];rfl
theorem xZ (m:Int):∀(ts:List gu) (k:Nat) (out:LI),(∀t∈ts,rg t)→oH ts out→((cS ts out).length:Int)≤m→(aJ ts).length<k→bn k (aJ ts) out m=(cS ts out,0)
 |[],k,out,_,_,_,hk=>by
  cases k with
  |zero=>rfl
  |succ k=>
   unfold bn
   exact if_pos rfl
 |t::ts,k,out,hT,hB,hm,hk=>by
  obtain ⟨h1,h2⟩:=M5 (hT t (by simp)) (aJ ts)
  have e:aJ (t::ts)=dG t++aJ ts:=rfl
  rw[e] at hk ⊢
  rw[zH] at hk
  obtain ⟨k,rfl⟩:∃j,k=j+1:=⟨k - 1,by omega⟩
  unfold bn
  rw[if_neg (by
   intro h0
   have:=congrArg List.length h0
   rw[zH,List.length_nil] at this
   omega),h1]
  have hlen:=vp ts (ch t.2.1.toNat t.2.2.1.toNat (out++t.1))
  rw[kY,zH] at hlen
  have hm:((cS ts (ch t.2.1.toNat t.2.2.1.toNat (out++t.1))).length:Int)≤m:=hm
  have hn:0≤t.2.2.1:=by
   rcases hT t (by simp) with h | h
   ·rw[h.2.1];decide
   ·have:=h.2.2.2.1;omega
  have hc:aX out t m=(ch t.2.1.toNat t.2.2.1.toNat (out++t.1),0):=by
   unfold aX
   rw[M4 (hT t (by simp)),if_neg (by
    rintro (h | h)
    ·cases h
    ·have:=hB.1;omega),if_neg (by omega)]
  simp only
  rw[hc,if_neg (by decide),if_neg (fun h=>h rfl),zG,List.drop_left]
  exact xZ m ts k _ (fun t ht=>hT t (by simp[ht])) hB.2 hm (by omega)
theorem m7 (xs ys:List gu):(aJ (xs++ys)).length=(aJ xs).length+(aJ ys).length:=by simp[aJ]
theorem kV:∀(k:Nat) (l:LI),(aJ (be k l)).length≤l.length+(l.length+127) / 128
 |0,l=>by simp[be,aJ]
 |_+1,[]=>by simp[be,aJ]
 |k+1,c::l=>by
  have ih:=kV k ((c::l).drop 128)
  have e:aJ (be (k+1) (c::l))=dG ((c::l).take 128,0,0,())++aJ (be k ((c::l).drop 128)):=rfl
  have e2:dG ((c::l).take 128,0,0,())=((((c::l).take 128).length:Int) - 1)::(c::l).take 128:=rfl
  rw[e,e2,zH,zN]
  rw[List.length_drop] at ih
  rw[List.length_take]
  have hpos:1≤(c::l).length:=by simp
  omega
theorem kW (b:LI)(depth:Int):∀(k lo i:Nat) (ts:List gu),lo≤i→i≤b.length→(aJ ts).length≤lo+lo / 128→(aJ (fb b depth k lo i ts)).length≤b.length+b.length / 128+1
 |0,lo,i,ts,h1,h2,h3=>by
  unfold fb
  rw[m7]
  have:=kV (i - lo) ((b.take i).drop lo)
  rw[List.length_drop,List.length_take,Nat.min_eq_left h2] at this
  unfold bX
  omega
 |k+1,lo,i,ts,h1,h2,h3=>by
  unfold fb
  have hc:=kV (i - lo) ((b.take i).drop lo)
  rw[List.length_drop,List.length_take,Nat.min_eq_left h2] at hc
  split
  ·rename_i hi
   split
   ·exact kW b depth k _ _ _ (by omega) (by omega) h3
   ·rename_i hn
    rcases gU hi depth with h4 | ⟨g1,g2,g3,g4,g5,g6,g7⟩
    ·exact absurd h4.1 hn
    refine kW b depth k _ _ _ (Nat.le_refl _) (by omega) ?_
    rw[m7,m7]
    have e:(aJ [(([]:LI),(aL b i depth).1,(aL b i depth).2,())]).length=3:=by
     have:aJ [(([]:LI),(aL b i depth).1,(aL b i depth).2,())]=dG ([],(aL b i depth).1,(aL b i depth).2,())++[]:=rfl
     rw[this]
     unfold dG
     rw[if_neg (show ¬(aL b i depth).2=0 from hn)]
     rfl
    rw[e]
    unfold bX
    omega
  ·rw[m7]
   unfold bX
   omega
theorem HP (b:LI):∀t∈eF b,rg t:=q9 b 8 _ 0 0 [] fun t h=>by cases h
theorem Aw {b:LI}(h:b.length≤32768):(gb b).2=0∧(gb b).1.length≤33040∧aY (gb b).1=(b,0):=by
 have e:gb b=(aH (aC b.length)++aJ (eF b),0):=by unfold gb;rw[if_neg (by omega)]
 rw[e]
 refine ⟨rfl,?_,?_⟩
 ·have h1:=m9 (aC b.length)
  have h2:(aJ (eF b)).length≤b.length+b.length / 128+1:=kW b 8 _ 0 0 [] (Nat.le_refl 0) (Nat.zero_le _) (by simp[aJ])
  simp only[zH]
  omega
 ·have hH:Has (aH (aC (b.length:Int))++aJ (eF b)) 0 (aH (aC (b.length:Int))):=⟨Int.le_refl 0,by omega,aJ (eF b),rfl⟩
  have hg:=Jo (v:=(b.length:Int)) (by omega) (by omega) hH
  have hz:=Ps (v:=(b.length:Int))
  have hx:aq (aJ (eF b)) (b.length:Int)=(b,0):=by
   rw[dE]
   have hb:ay (b.length:Int)=(b.length:Int):=by
    unfold ay pS cp
    split <;> split <;> omega
   rw[hb]
   have:=xZ (b.length:Int) (eF b) ((aJ (eF b)).length+1) [] (HP b) (Dw b) (by rw[rL];omega) (by omega)
   rw[this,rL]
  simp only
  unfold aY
  rw[hg]
  simp only
  rw[hz,if_neg (by decide),if_neg (by omega),if_neg (by omega),Int.zero_add,zG,List.drop_left,hx,if_neg (by simp),if_neg (by simp)]
end
end Go.Proofs.YthpcdhgpplmneaaGreatDoor.Sym
namespace Go.Proofs.YthpcdhgpplmneaaGreatDoor.Sym
open Go
open Go.IntKind (i8 i16 i32 i64 u8 u16 u32 u64)
noncomputable section
abbrev kt:Io:=⟨[dL,dI,dI],[],[],[dI],none⟩
def DH (d:kt.In):Tr kt.Res:=.ite (decide ((0:Int)≤d.1.2.1)&&(decide (d.1.2.1≤d.1.2.2.1)&&decide (d.1.2.2.1≤(d.1.1.length:Int)))) (.ret (.ret (((ca (d.1.1.drop d.1.2.1.toNat) (d.1.1.drop d.1.2.2.1.toNat) 131:Int),()),()))) .no
abbrev za:List (Nat×Hc):=[]
def Gr:Hd:=bG za
abbrev dW:Lo:=⟨⟨(.one (.hol (.sl 5 (Ty.int u8)))::.one hI::.one hI::bz (.one hI::ai (dm (bz [])))),[]⟩,[(.exit 0,⟨(.any::bz (bk (.one hI::ai (dm (bz []))))),[]⟩)]⟩
def lB (d:dW.st.den):Tr (ap dW.xs):=
 .ite (decide (d.1.2.2.2.1=0)&&(decide ((0:Int)≤d.1.2.1)&&(decide (d.1.2.1≤d.1.2.2.1)&&decide (d.1.2.2.1≤(d.1.1.length:Int))))) (.ret (.ret ((),(((ca (d.1.1.drop d.1.2.1.toNat) (d.1.1.drop d.1.2.2.1.toNat) 131:Int),()),())))) .no
def sR:Lp:=bM [(3,aD dW lB)]
def rX {R:Type}(h3:LI)(h4 h5 h6:Int)(next:LI→Int→Int→Int→Option R)(out:ap dW.xs→Option R):Option R:=bif decide (h6<131) then bif decide (h6<i64.wrap ((↑h3.length:Int) - h5)) then bif decide (0≤i64.wrap (h4+h6))&&decide (i64.wrap (h4+h6)<(↑h3.length:Int)) then bif decide (0≤i64.wrap (h5+h6))&&decide (i64.wrap (h5+h6)<(↑h3.length:Int)) then bif h3.getD (i64.wrap (h4+h6)).toNat 0 == h3.getD (i64.wrap (h5+h6)).toNat 0 then next (h3) (h4) (h5) (i64.wrap (h6+1)) else out (.ret ((),((h6,()),()))) else none else none else out (.ret ((),((h6,()),()))) else out (.ret ((),((h6,()),())))
def qO (n:Nat)(h3:LI)(h4 h5 h6:Int):Option (ap dW.xs):=fJ tt Gr dr sR 0 Tryz.f176 (bP Tryz.f176 0) n (dW.st.mk' ((h3,(h4,(h5,(h6,())))),())) (bt dW.xs)
theorem Jf (n:Nat)(h3:LI)(h4 h5 h6:Int):qO (n+1) h3 h4 h5 h6=rX h3 h4 h5 h6 (qO n) some:=by kernel_rfl
theorem Co (b:LI)(p i:Nat)(hp:p≤i)(hi:i≤b.length)(hl:b.length≤maxLen):∀(k n:Nat),131<n+k→n≤131→i+n≤b.length→
  qO k b p i n=some (.ret ((),((((n+ca (b.drop (p+n)) (b.drop (i+n)) (131 - n):Nat):Int),()),()))):=by
 rw[ba] at hl
 intro k
 induction k with
 |zero=>intro n h h' _;omega
 |succ k ih=>
  intro n h1 h2 h3
  rw[Jf]
  unfold rX
  rw[ae (n:=(b.length:Int) - (i:Int)) (by omega) (by omega),ae (n:=(p:Int)+(n:Int)) (by omega) (by omega),ae (n:=(i:Int)+(n:Int)) (by omega) (by omega),ae (n:=(n:Int)+1) (by omega) (by omega)]
  rw[show ((p:Int)+(n:Int)).toNat=p+n by omega,show ((i:Int)+(n:Int)).toNat=i+n by omega]
  by_cases c1:n<131
  rotate_left
  ·refine bF (decide_eq_false (by omega)) ?_
   rw[show 131 - n=0 by omega]
   have:ca (b.drop (p+n)) (b.drop (i+n)) 0=0:=by cases b.drop (p+n) <;> cases b.drop (i+n) <;> rfl
   rw[this];rfl
  refine bT (decide_eq_true (by omega)) ?_
  by_cases c2:i+n<b.length
  rotate_left
  ·refine bF (decide_eq_false (by omega)) ?_
   rw[zI (show b.length≤i+n by omega)]
   have:ca (b.drop (p+n)) [] (131 - n)=0:=by cases b.drop (p+n) <;> rfl
   rw[this];rfl
  refine bT (decide_eq_true (by omega)) ?_
  refine bT (by simp only[zA,zB];omega) ?_
  refine bT (by simp only[zA,zB];omega) ?_
  rw[aA (show p+n<b.length by omega),aA c2,zE (show p+n<b.length by omega),zE c2,show 131 - n=(131 - (n+1))+1 by omega]
  have e:ca (b[p+n]::b.drop (p+n+1)) (b[i+n]::b.drop (i+n+1)) ((131 - (n+1))+1)=if b[p+n]=b[i+n] then ca (b.drop (p+n+1)) (b.drop (i+n+1)) (131 - (n+1))+1 else 0:=rfl
  rw[e]
  by_cases c3:b[p+n]=b[i+n]
  ·refine bT (by simpa using c3) ?_
   rw[if_pos c3]
   have:=ih (n+1) (by omega) (by omega) (by omega)
   rw[show p+(n+1)=p+n+1 by omega,show i+(n+1)=i+n+1 by omega] at this
   refine this.trans ?_
   rw[show n+1+ca (b.drop (p+n+1)) (b.drop (i+n+1)) (131 - (n+1))=n+(ca (b.drop (p+n+1)) (b.drop (i+n+1)) (131 - (n+1))+1) by omega]
  ·refine bF (by simpa using c3) ?_
   rw[if_neg c3];rfl
def wC (a0:LI)(a1 a2:Int):Option kt.Res:=(lB ((a0,(a1,(a2,(0,())))),())).run fun y=>match y with | .ret ((),((x14,()),()))=>(oR ((x14,()),()))
theorem Mm (a0:LI)(a1 a2:Int):Io.run tt Gr dr sR kt Tryz.f176 ((a0,a1,a2,()),())=wC a0 a1 a2:=by kernel_rfl
theorem Ox:HcOk prog 176 (ah kt DH):=by
 refine bQ (cs:=za) HcsOk.nil (lp:=sR) (fn:=Tryz.f176) kt (.step (h0:=aD dW lB) (by kernel_rfl) (f9 (cs:=za) HcsOk.nil (lp:=sR) (fn:=Tryz.f176) (.done (by kernel_rfl)) dW lB ?_) (.done (by kernel_rfl))) DH ?_
 ·rintro ⟨⟨(b:LI),(p:Int),(i:Int),(n:Int),⟨⟩⟩,⟨⟩⟩ y hw hy
  obtain ⟨hg,hy⟩:=Tr.guard hy
  simp only[zA,zB] at hg
  obtain ⟨h1,h2,h3,h4⟩:=hg
  have h1:n=0:=h1
  have h2:0≤p:=h2
  have h3:p≤i:=h3
  have h4:i≤(b.length:Int):=h4
  subst h1
  obtain ⟨p,rfl⟩:=au h2
  obtain ⟨i,rfl⟩:=au (show 0≤i by omega)
  refine ⟨132,(Co b p i (by omega) (by omega) hw.1.1.1 132 0 (by omega) (by omega) (by omega)).trans ?_⟩
  rw[← hy,Nat.zero_add,Nat.add_zero,Nat.add_zero];rfl
 ·rintro ⟨⟨(b:LI),(p:Int),(i:Int),⟨⟩⟩,⟨⟩⟩ out hw ho
  obtain ⟨hg,ho⟩:=Tr.guard ho
  cases ho
  refine (Mm b p i).trans ?_
  unfold wC lB
  exact aa (by simpa using hg) _ _
abbrev iv:Io:=⟨[dL,dI,dI],[],[],[dI,dI],none⟩
def yy (d:iv.In):Tr iv.Res:=.ite (decide ((0:Int)≤d.1.2.1)&&decide (d.1.2.1≤(d.1.1.length:Int))) (.ret (.ret (((aL d.1.1 d.1.2.1.toNat d.1.2.2.1).1,(aL d.1.1 d.1.2.1.toNat d.1.2.2.1).2,()),()))) .no
abbrev BE:List (Nat×Hc):=[(176,ah kt DH)]
def B5:Hd:=bG BE
abbrev db:Lo:=⟨⟨(.one (.hol (.sl 5 (Ty.int u8)))::.one hI::.one hI::.any::bz (.one hI::.one hI::.one hI::.one hI::.any::ai (ai (bz (bk []))))),[]⟩,[(.exit 0,⟨(dm (.one hI::.one hI::.any::ai (ai (dm [])))),[]⟩)]⟩
def jP (d:db.st.den):Tr (ap db.xs):=
 .ite (decide (d.1.2.2.2.1=0)&&(decide (d.1.2.2.2.2.1=0)&&(decide (d.1.2.2.2.2.2.1=0)&&(decide (d.1.2.2.2.2.2.2.1=d.1.2.1 - 1)&&(decide ((0:Int)≤d.1.2.1)&&decide (d.1.2.1≤(d.1.1.length:Int)))))))
  (.ret (.ret ((),(((aL d.1.1 d.1.2.1.toNat d.1.2.2.1).1,((aL d.1.1 d.1.2.1.toNat d.1.2.2.1).2,())),())))) .no
def pr:Lp:=bM [(4,aD db jP)]
def p5 {R:Type}(h3:LI)(h4 h5 h6 h7 h8 h9:Int)(next:LI→Int→Int→Int→Int→Int→Int→Option R)(out:ap db.xs→Option R):Option R:=bif decide (0≤h9) then bif decide (i64.wrap (h4 - h9)≤4096) then bif decide (h8<h5) then bif decide (0≤h9)&&(decide (h9≤h4)&&decide (h4≤(↑h3.length:Int))) then bif decide (4≤(↑(ca (List.drop h9.toNat h3) (List.drop h4.toNat h3) 131):Int)) then bif decide (4≤(↑(ca (List.drop h9.toNat h3) (List.drop h4.toNat h3) 131):Int)) then bif decide (h7<(↑(ca (List.drop h9.toNat h3) (List.drop h4.toNat h3) 131):Int)) then next (h3) (h4) (h5) (i64.wrap (h4 - h9)) ((↑(ca (List.drop h9.toNat h3) (List.drop h4.toNat h3) 131):Int)) (i64.wrap (h8+1)) (i64.wrap (h9 - 1)) else next (h3) (h4) (h5) (h6) (h7) (i64.wrap (h8+1)) (i64.wrap (h9 - 1)) else next (h3) (h4) (h5) (h6) (h7) (i64.wrap (h8+1)) (i64.wrap (h9 - 1)) else bif decide (4≤(↑(ca (List.drop h9.toNat h3) (List.drop h4.toNat h3) 131):Int)) then bif decide (h7<(↑(ca (List.drop h9.toNat h3) (List.drop h4.toNat h3) 131):Int)) then next (h3) (h4) (h5) (i64.wrap (h4 - h9)) ((↑(ca (List.drop h9.toNat h3) (List.drop h4.toNat h3) 131):Int)) (h8) (i64.wrap (h9 - 1)) else next (h3) (h4) (h5) (h6) (h7) (h8) (i64.wrap (h9 - 1)) else next (h3) (h4) (h5) (h6) (h7) (h8) (i64.wrap (h9 - 1)) else none else out (.ret ((),((h6,(h7,())),()))) else out (.ret ((),((h6,(h7,())),()))) else out (.ret ((),((h6,(h7,())),())))
def oe (n:Nat)(h3:LI)(h4 h5 h6 h7 h8 h9:Int):Option (ap db.xs):=fJ tt B5 dr pr 0 Tryz.f154 (bP Tryz.f154 0) n (db.st.mk' ((h3,(h4,(h5,(h6,(h7,(h8,(h9,()))))))),())) (bt db.xs)
theorem EP (n:Nat)(h3:LI)(h4 h5 h6 h7 h8 h9:Int):oe (n+1) h3 h4 h5 h6 h7 h8 h9=p5 h3 h4 h5 h6 h7 h8 h9 (oe n) some:=by kernel_rfl
theorem zu (b:LI)(i:Nat)(depth:Int)(hi:i≤b.length)(hl:b.length≤maxLen):∀(k q:Nat) (d m s:Int),q<k→q≤i→0≤s→s≤(i:Int) - (q:Int)→
  oe k b i depth d m s ((q:Int) - 1)=some (.ret ((),(((fP b i depth q d m s).1,((fP b i depth q d m s).2,())),()))):=by
 rw[ba] at hl
 intro k
 induction k with
 |zero=>intro q d m s h;omega
 |succ k ih=>
  intro q d m s h1 h2 h3 h4
  rw[EP]
  unfold p5
  cases q with
  |zero=>exact af (decide_eq_false (by omega)) _ _
  |succ q=>
   have hc:=(vk (b.drop q) (b.drop i) 131).1
   rw[show (((q+1:Nat):Int) - 1)=(q:Int) by omega,ae (n:=(i:Int) - (q:Int)) (by omega) (by omega),ae (n:=s+1) (by omega) (by omega),ae (n:=(q:Int) - 1) (by omega) (by omega),zG,zG]
   unfold fP
   refine bT (decide_eq_true (by omega)) ?_
   by_cases c1:(i:Int) - (q:Int)≤4096
   rotate_left
   ·refine bF (decide_eq_false c1) ?_
    rw[if_neg (fun h=>c1 h.1)]
   refine bT (decide_eq_true c1) ?_
   by_cases c2:s<depth
   rotate_left
   ·refine bF (decide_eq_false c2) ?_
    rw[if_neg (fun h=>c2 h.2)]
   refine bT (decide_eq_true c2) ?_
   rw[if_pos ⟨c1,c2⟩]
   refine bT (by simp only[zA,zB];omega) ?_
   generalize ca (b.drop q) (b.drop i) 131=n at *
   by_cases c3:4≤n
   ·refine bT (decide_eq_true (by omega)) ?_
    refine bT (decide_eq_true (by omega)) ?_
    rw[if_pos c3]
    by_cases c4:m<(n:Int)
    ·refine bT (decide_eq_true c4) ?_
     rw[if_pos c4]
     exact ih q _ _ _ (by omega) (by omega) (by omega) (by omega)
    ·refine bF (decide_eq_false c4) ?_
     rw[if_neg c4]
     exact ih q _ _ _ (by omega) (by omega) (by omega) (by omega)
   ·refine bF (decide_eq_false (by omega)) ?_
    refine bF (decide_eq_false (by omega)) ?_
    rw[if_neg c3]
    exact ih q _ _ _ (by omega) (by omega) (by omega) (by omega)
def tO (a0:LI)(a1 a2:Int):Option iv.Res:=(jP ((a0,(a1,(a2,(0,(0,(0,(i64.wrap (a1 - 1),()))))))),())).run fun y=>match y with | .ret ((),((x58,x59,()),()))=>(oR ((x58,x59,()),()))
theorem IU (a0:LI)(a1 a2:Int):Io.run tt B5 dr pr iv Tryz.f154 ((a0,a1,a2,()),())=tO a0 a1 a2:=by kernel_rfl
theorem ul:HcsOk prog BE:=.cons Ox .nil
theorem LN:HcOk prog 154 (ah iv yy):=by
 refine bQ ul (lp:=pr) (fn:=Tryz.f154) iv (.step (h0:=aD db jP) (by kernel_rfl) (f9 ul (lp:=pr) (fn:=Tryz.f154) (.done (by kernel_rfl)) db jP ?_) (.done (by kernel_rfl))) yy ?_
 ·rintro ⟨⟨(b:LI),(i:Int),(depth:Int),(d:Int),(m:Int),(s:Int),(p:Int),⟨⟩⟩,⟨⟩⟩ y hw hy
  obtain ⟨hg,hy⟩:=Tr.guard hy
  simp only[zA,zB] at hg
  obtain ⟨h1,h2,h3,h4,h5,h6⟩:=hg
  have h1:d=0:=h1
  have h2:m=0:=h2
  have h3:s=0:=h3
  have h4:p=i - 1:=h4
  have h5:0≤i:=h5
  have h6:i≤(b.length:Int):=h6
  subst h1 h2 h3 h4
  obtain ⟨i,rfl⟩:=au h5
  refine ⟨i+1,(zu b i depth (by omega) hw.1.1.1 (i+1) i 0 0 0 (by omega) (by omega) (by omega) (by omega)).trans ?_⟩
  rw[← hy];rfl
 ·rintro ⟨⟨(b:LI),(i:Int),(depth:Int),⟨⟩⟩,⟨⟩⟩ out hw ho
  obtain ⟨hg,ho⟩:=Tr.guard ho
  cases ho
  refine (IU b i depth).trans ?_
  have hl:b.length≤maxLen:=hw.1.1.1
  rw[ba] at hl
  simp only[zA,zB] at hg
  have h5:0≤i:=hg.1
  have h6:i≤(b.length:Int):=hg.2
  unfold tO jP
  rw[ae (n:=i - 1) (by omega) (by omega)]
  exact aa (by simp only[zA,zB];exact ⟨trivial,trivial,trivial,trivial,h5,h6⟩) _ _
abbrev iw:Io:=⟨[Kv,dL,dI,dI],[],[],[Kv],none⟩
def yz (d:iw.In):Tr iw.Res:=.ite (decide ((0:Int)≤d.1.2.2.1)&&(decide (d.1.2.2.1≤d.1.2.2.2.1)&&(decide (d.1.2.2.2.1≤(d.1.2.1.length:Int))&&decide (d.1.1.length+d.1.2.1.length≤4294960000)))) (.ret (.ret ((d.1.1++bX d.1.2.1 d.1.2.2.1.toNat d.1.2.2.2.1.toNat,()),()))) .no
abbrev pb:List (Nat×Hc):=[]
def uu:Hd:=bG pb
abbrev dd:Lo:=⟨⟨(.one (.onl 220 dH 1)::.one (.hol (.sl 5 (Ty.int u8)))::.one hI::.one hI::.any::bz (.one (.onl 5 (Ty.int u8) 19)::.any::ai (dm (bk [])))),[]⟩,[(.exit 2,⟨(.one (.onl 220 dH 1)::.one (.hol (.sl 5 (Ty.int u8)))::.one hI::.one hI::.any::bz (.one (.onl 5 (Ty.int u8) 19)::.any::ai (dm (bk [])))),[]⟩)]⟩
abbrev dc:Lo:=⟨⟨(.one (.onl 220 dH 1)::.one (.hol (.sl 5 (Ty.int u8)))::.one hI::.one hI::.any::ai (ai ([]))),[]⟩,[(.exit 0,⟨(.one (.onl 220 dH 1)::ai (ai (bz []))),[]⟩)]⟩
def jR (d:dd.st.den):Tr (ap dd.xs):=
 .ite (decide (d.1.2.2.2.2.1.length=0)&&(decide ((0:Int)≤d.1.2.2.1)&&(decide (d.1.2.2.1≤d.1.2.2.2.1)&&decide (d.1.2.2.2.1≤(d.1.2.1.length:Int)))))
  (.ret (.ret ((),((d.1.1,(d.1.2.1,(d.1.2.2.1+((((d.1.2.1.take d.1.2.2.2.1.toNat).drop d.1.2.2.1.toNat).take 128).length:Int),(d.1.2.2.2.1,(((d.1.2.1.take d.1.2.2.2.1.toNat).drop d.1.2.2.1.toNat).take 128,()))))),())))) .no
def jQ (d:dc.st.den):Tr (ap dc.xs):=
 .ite (decide ((0:Int)≤d.1.2.2.1)&&(decide (d.1.2.2.1≤d.1.2.2.2.1)&&(decide (d.1.2.2.2.1≤(d.1.2.1.length:Int))&&decide (d.1.1.length+d.1.2.1.length≤4294960000)))) (.ret (.ret ((),((d.1.1++bX d.1.2.1 d.1.2.2.1.toNat d.1.2.2.2.1.toNat,()),())))) .no
def j0:Lp:=bM [(2,aD dc jQ),(4,aD dd jR)]
def p7 {R:Type}(h8:List dH.den)(h9:LI)(h10 h11:Int)(h12:LI)(next:List dH.den→LI→Int→Int→LI→Option R)(out:ap dd.xs→Option R):Option R:=bif decide ((↑h12.length:Int)<128) then bif decide (h10<h11) then bif decide (0≤h10)&&decide (h10<(↑h9.length:Int)) then bif decide (h12.length+1≤4294967296) then next (h8) (h9) (i64.wrap (h10+1)) (h11) (h12++[h9.getD h10.toNat 0]) else none else none else out (.ret ((),((h8,(h9,(h10,(h11,(h12,()))))),()))) else out (.ret ((),((h8,(h9,(h10,(h11,(h12,()))))),())))
def og (n:Nat)(h8:List dH.den)(h9:LI)(h10 h11:Int)(h12:LI):Option (ap dd.xs):=fJ tt uu dr j0 0 Tryz.f155 (E7 Tryz.f155 (bP Tryz.f155 0) 0) n (dd.st.mk' ((h8,(h9,(h10,(h11,(h12,()))))),())) (bt dd.xs)
theorem ER (n:Nat)(h8:List dH.den)(h9:LI)(h10 h11:Int)(h12:LI):og (n+1) h8 h9 h10 h11 h12=p7 h8 h9 h10 h11 h12 (og n) some:=by kernel_rfl
def p6 {R:Type}(h4:List dH.den)(h5:LI)(h6 h7:Int)(next:List dH.den→LI→Int→Int→Option R)(out:ap dc.xs→Option R):Option R:=bif decide (h6<h7) then (jR ((h4,(h5,(h6,(h7,([],()))))),())).run fun y=>match y with | .ret ((),((x28,x29,x30,x31,x32,()),()))=>(bif decide (x28.length+1≤4294967296) then next (x28++[(x32,0,0,())]) (x29) (x30) (x31) else none) else out (.ret ((),((h4,()),())))
def kN (n:Nat)(h4:List dH.den)(h5:LI)(h6 h7:Int):Option (ap dc.xs):=fJ tt uu dr j0 0 Tryz.f155 (bP Tryz.f155 0) n (dc.st.mk' ((h4,(h5,(h6,(h7,())))),())) (bt dc.xs)
theorem EQ (n:Nat)(h4:List dH.den)(h5:LI)(h6 h7:Int):kN (n+1) h4 h5 h6 h7=p6 h4 h5 h6 h7 (kN n) some:=by kernel_rfl
theorem zw (ts:List gu)(b:LI)(hi:Nat)(h:hi≤b.length)(hl:b.length≤maxLen):∀(k lo:Nat) (lit:LI),128<lit.length+k→lo≤hi→lit.length≤128→
  og k ts b lo hi lit=some (.ret ((),((ts,(b,(((lo+(((b.take hi).drop lo).take (128 - lit.length)).length:Nat):Int),((hi:Int),(lit++((b.take hi).drop lo).take (128 - lit.length),()))))),()))):=by
 rw[ba] at hl
 intro k
 induction k with
 |zero=>intro lo lit h1 h2 h3;omega
 |succ k ih=>
  intro lo lit h1 h2 h3
  rw[ER]
  unfold p7
  by_cases c1:lit.length<128
  rotate_left
  ·refine bF (decide_eq_false (by omega)) ?_
   rw[show 128 - lit.length=0 by omega,List.take_zero,List.append_nil];rfl
  refine bT (decide_eq_true (by omega)) ?_
  by_cases c2:lo<hi
  rotate_left
  ·refine bF (decide_eq_false (by omega)) ?_
   rw[zI (show (b.take hi).length≤lo by rw[List.length_take];omega),List.take_nil,List.append_nil];rfl
  refine bT (decide_eq_true (by omega)) ?_
  refine bT (by simp only[zA,zB];omega) ?_
  refine bT (decide_eq_true (by omega)) ?_
  rw[ae (n:=(lo:Int)+1) (by omega) (by omega),zG,aA (show lo<b.length by omega)]
  have:=ih (lo+1) (lit++[b[lo]]) (by simp;omega) (by omega) (by simp;omega)
  refine this.trans ?_
  have hlen:(lit++[b[lo]]).length=lit.length+1:=by simp
  have hd:(b.take hi).drop lo=b[lo]::(b.take hi).drop (lo+1):=by
   rw[zE (show lo<(b.take hi).length by rw[List.length_take];omega),List.getElem_take]
  rw[hlen,hd,show 128 - lit.length=(128 - (lit.length+1))+1 by omega,List.take_succ_cons,zN,zK,zM,
   show lo+1+(((b.take hi).drop (lo+1)).take (128 - (lit.length+1))).length=lo+((((b.take hi).drop (lo+1)).take (128 - (lit.length+1))).length+1) by omega]
theorem zv (b:LI)(hi:Nat)(h:hi≤b.length)(hl:b.length≤maxLen):∀(k lo:Nat) (ts:List gu),hi<lo+k→lo≤hi→ts.length+(hi - lo)≤4294960000→
  kN k ts b lo hi=some (.ret ((),((ts++bX b lo hi,()),()))):=by
 intro k
 induction k with
 |zero=>intro lo ts h1 h2 h3;omega
 |succ k ih=>
  intro lo ts h1 h2 h3
  rw[EQ]
  unfold p6
  by_cases c2:lo<hi
  rotate_left
  ·refine bF (decide_eq_false (by omega)) ?_
   have:bX b lo hi=[]:=by
    unfold bX
    rw[show hi - lo=0 by omega];rfl
   rw[this,List.append_nil]
  refine bT (decide_eq_true (by omega)) ?_
  unfold jR
  refine bT (by simp only[zA,zB];exact ⟨rfl,show (0:Int)≤(lo:Int) by omega,show (lo:Int)≤(hi:Int) by omega,show (hi:Int)≤(b.length:Int) by omega⟩) ?_
  refine bT (decide_eq_true (show ts.length+1≤4294967296 by omega)) ?_
  show kN k (ts++[(((b.take (hi:Int).toNat).drop (lo:Int).toNat).take 128,0,0,())]) b ((lo:Int)+((((b.take (hi:Int).toNat).drop (lo:Int).toNat).take 128).length:Int)) (hi:Int)=_
  rw[zG,zG,De c2 h]
  have hP:(((b.take hi).drop lo).take 128).length=min 128 (hi - lo):=by rw[List.length_take,List.length_drop,List.length_take,Nat.min_eq_left h]
  generalize ((b.take hi).drop lo).take 128=P at *
  have:=ih (lo+P.length) (ts++[(P,0,0,())]) (by omega) (by omega) (by simp;omega)
  rw[show ((lo+P.length:Nat):Int)=(lo:Int)+(P.length:Int) by omega] at this
  refine this.trans ?_
  rw[zK];rfl
def tP (a0:List dH.den)(a1:LI)(a2 a3:Int):Option iw.Res:=(jQ ((a0,(a1,(a2,(a3,())))),())).run fun y=>match y with | .ret ((),((x38,()),()))=>(oR ((x38,()),()))
theorem IV (a0:List dH.den)(a1:LI)(a2 a3:Int):Io.run tt uu dr j0 iw Tryz.f155 ((a0,a1,a2,a3,()),())=tP a0 a1 a2 a3:=by kernel_rfl
theorem LO:HcOk prog 155 (ah iw yz):=by
 refine bQ (cs:=pb) HcsOk.nil (lp:=j0) (fn:=Tryz.f155) iw (.step (h0:=aD dc jQ) (by kernel_rfl) (f9 (cs:=pb) HcsOk.nil (lp:=j0) (fn:=Tryz.f155) (.step (h0:=aD dd jR) (by kernel_rfl) (f9 (cs:=pb) HcsOk.nil (lp:=j0) (fn:=Tryz.f155) (.done (by kernel_rfl)) dd jR ?_) (.done (by kernel_rfl))) dc jQ ?_) (.done (by kernel_rfl))) yz ?_
 ·rintro ⟨⟨(ts:List gu),(b:LI),(lo:Int),(hi:Int),(lit:LI),⟨⟩⟩,⟨⟩⟩ y hw hy
  obtain ⟨hg,hy⟩:=Tr.guard hy
  simp only[zA,zB] at hg
  obtain ⟨h1,h2,h3,h4⟩:=hg
  have h1:lit=[]:=List.length_eq_zero_iff.1 h1
  have h2:0≤lo:=h2
  have h3:lo≤hi:=h3
  have h4:hi≤(b.length:Int):=h4
  subst h1
  obtain ⟨lo,rfl⟩:=au h2
  obtain ⟨hi,rfl⟩:=au (show 0≤hi by omega)
  refine ⟨129,(zw ts b hi (by omega) hw.1.2.1.1 129 lo [] (by simp) (by omega) (by simp)).trans ?_⟩
  rw[← hy];rfl
 ·rintro ⟨⟨(ts:List gu),(b:LI),(lo:Int),(hi:Int),⟨⟩⟩,⟨⟩⟩ y hw hy
  obtain ⟨hg,hy⟩:=Tr.guard hy
  simp only[zA,zB] at hg
  obtain ⟨h2,h3,h4,h5⟩:=hg
  have h2:0≤lo:=h2
  have h3:lo≤hi:=h3
  have h4:hi≤(b.length:Int):=h4
  have h5:ts.length+b.length≤4294960000:=h5
  obtain ⟨lo,rfl⟩:=au h2
  obtain ⟨hi,rfl⟩:=au (show 0≤hi by omega)
  refine ⟨hi+1,(zv b hi (by omega) hw.1.2.1.1 (hi+1) lo ts (by omega) (by omega) (by omega)).trans ?_⟩
  rw[← hy];rfl
 ·rintro ⟨⟨(ts:List gu),(b:LI),(lo:Int),(hi:Int),⟨⟩⟩,⟨⟩⟩ out hw ho
  obtain ⟨hg,ho⟩:=Tr.guard ho
  cases ho
  refine (IV ts b lo hi).trans ?_
  unfold tP jQ
  exact aa hg _ _
abbrev iy:Io:=⟨[dL,dI],[],[],[PA,dI],none⟩
def yB (d:iy.In):Tr iy.Res:=.ite (decide (d.1.2.1=(8:Int))) (.ret (.ret (((fH d.1.1).1,(fH d.1.1).2,()),()))) .no
abbrev BG:List (Nat×Hc):=[(154,ah iv yy),(155,ah iw yz)]
def B7:Hd:=bG BG
abbrev df:Lo:=⟨⟨(.one (.hol (.sl 5 (Ty.int u8)))::.one hI::bz (.one (.onl 220 dH 13)::.one hI::.one hI::.any::ai (ai (dm (bk []))))),[]⟩,[(.exit 0,⟨(.one (.hol (.sl 5 (Ty.int u8)))::.any::bz (.one (.onl 220 dH 13)::.one hI::.one hI::.any::ai (ai (dm (bk []))))),[]⟩)]⟩
def gM (d:df.st.den):Tr (ap df.xs):=
 .ite (decide (d.1.2.1=8)&&(decide (d.1.2.2.1.length=0)&&(decide (d.1.2.2.2.1=0)&&(decide (d.1.2.2.2.2.1=0)&&decide (d.1.1.length≤32768)))))
  (.ret (.ret ((),((d.1.1,((bA d.1.1 8 (d.1.1.length+1) 0 0 []).1,(((bA d.1.1 8 (d.1.1.length+1) 0 0 []).2.1:Int),(((bA d.1.1 8 (d.1.1.length+1) 0 0 []).2.2:Int),())))),())))) .no
def pv:Lp:=bM [(8,aD df gM)]
def p9 {R:Type}(h2:LI)(h3:Int)(h4:List dH.den)(h5 h6:Int)(next:LI→Int→List dH.den→Int→Int→Option R)(out:ap df.xs→Option R):Option R:=bif decide (h6<(↑h2.length:Int)) then bif decide (0≤h6)&&decide (h6≤(↑h2.length:Int)) then bif (aL h2 h6.toNat h3).2 == 0 then next (h2) (h3) (h4) (h5) (i64.wrap (h6+1)) else bif decide (0≤h5)&&(decide (h5≤h6)&&(decide (h6≤(↑h2.length:Int))&&decide (h4.length+h2.length≤4294960000))) then bif decide (List.length (h4++bX h2 h5.toNat h6.toNat)+1≤4294967296) then next (h2) (h3) (h4++bX h2 h5.toNat h6.toNat++[([],(aL h2 h6.toNat h3).1,(aL h2 h6.toNat h3).2,())]) (i64.wrap (h6+(aL h2 h6.toNat h3).2)) (i64.wrap (h6+(aL h2 h6.toNat h3).2)) else none else none else none else out (.ret ((),((h2,(h4,(h5,(h6,())))),())))
def ol (n:Nat)(h2:LI)(h3:Int)(h4:List dH.den)(h5 h6:Int):Option (ap df.xs):=fJ tt B7 dr pv 0 Tryz.f120 (bP Tryz.f120 0) n (df.st.mk' ((h2,(h3,(h4,(h5,(h6,()))))),())) (bt df.xs)
theorem ET (n:Nat)(h2:LI)(h3:Int)(h4:List dH.den)(h5 h6:Int):ol (n+1) h2 h3 h4 h5 h6=p9 h2 h3 h4 h5 h6 (ol n) some:=by kernel_rfl
theorem zy (b:LI)(hl:b.length≤32768):∀(n k lo i:Nat) (ts:List gu),b.length<i+n→n≤k→lo≤i→i≤b.length→ts.length≤lo→
  ol k b 8 ts lo i=some (.ret ((),((b,((bA b 8 n lo i ts).1,(((bA b 8 n lo i ts).2.1:Int),(((bA b 8 n lo i ts).2.2:Int),())))),()))):=by
 intro n
 induction n with
 |zero=>intro k lo i ts h1 h2 h3 h4 h5;omega
 |succ n ih=>
  intro k lo i ts h1 h2 h3 h4 h5
  obtain ⟨k,rfl⟩:∃j,k=j+1:=⟨k - 1,by omega⟩
  rw[ET]
  unfold p9 bA
  by_cases c1:i<b.length
  rotate_left
  ·refine bF (decide_eq_false (by omega)) ?_
   rw[if_neg c1]
  refine bT (decide_eq_true (by omega)) ?_
  refine bT (by simp only[zA,zB];omega) ?_
  rw[if_pos c1,zG,zG]
  by_cases c2:(aL b i 8).2=0
  ·refine bT (by simpa using c2) ?_
   rw[if_pos c2,ae (n:=(i:Int)+1) (by omega) (by omega)]
   exact ih k lo (i+1) ts (by omega) (by omega) (by omega) (by omega) h5
  ·refine bF (by simpa using c2) ?_
   rcases gU c1 8 with h6 | ⟨g1,g2,g3,g4,g5,g6,g7⟩
   ·exact absurd h6.1 c2
   have hlen:=vn h3 h4
   refine bT (by simp only[zA,zB];omega) ?_
   refine bT (decide_eq_true (by rw[zH];omega)) ?_
   rw[if_neg c2,ae (n:=(i:Int)+(aL b i 8).2) (by omega) (by omega)]
   have:=ih k (i+(aL b i 8).2.toNat) (i+(aL b i 8).2.toNat) (ts++bX b lo i++[([],(aL b i 8).1,(aL b i 8).2,())]) (by omega) (by omega) (Nat.le_refl _) (by omega) (by simp only[zH,List.length_singleton];omega)
   rw[show ((i+(aL b i 8).2.toNat:Nat):Int)=(i:Int)+(aL b i 8).2 by omega] at this
   exact this
def tR (a0:LI)(a1:Int):Option iy.Res:=bif decide (32768<(↑a0.length:Int)) then oR (([],4,()),()) else bif decide (32<a1) then (gM ((a0,(32,([],(0,(0,()))))),())).run fun y=>match y with | .ret ((),((x21,x22,x23,x24,()),()))=>(bif decide (0≤x23)&&(decide (x23≤x24)&&(decide (x24≤(↑x21.length:Int))&&decide (x22.length+x21.length≤4294960000))) then oR ((x22++bX x21 x23.toNat x24.toNat,0,()),()) else none) else (gM ((a0,(a1,([],(0,(0,()))))),())).run fun y=>match y with | .ret ((),((x30,x31,x32,x33,()),()))=>(bif decide (0≤x32)&&(decide (x32≤x33)&&(decide (x33≤(↑x30.length:Int))&&decide (x31.length+x30.length≤4294960000))) then oR ((x31++bX x30 x32.toNat x33.toNat,0,()),()) else none)
theorem IX (a0:LI)(a1:Int):Io.run tt B7 dr pv iy Tryz.f120 ((a0,a1,()),())=tR a0 a1:=by kernel_rfl
theorem un:HcsOk prog BG:=.cons LN (.cons LO .nil)
theorem LQ:HcOk prog 120 (ah iy yB):=by
 refine bQ un (lp:=pv) (fn:=Tryz.f120) iy (.step (h0:=aD df gM) (by kernel_rfl) (f9 un (lp:=pv) (fn:=Tryz.f120) (.done (by kernel_rfl)) df gM ?_) (.done (by kernel_rfl))) yB ?_
 ·rintro ⟨⟨(b:LI),(depth:Int),(ts:List gu),(lo:Int),(i:Int),⟨⟩⟩,⟨⟩⟩ y hw hy
  obtain ⟨hg,hy⟩:=Tr.guard hy
  simp only[zA,zB] at hg
  obtain ⟨h1,h2,h3,h4,h5⟩:=hg
  have h1:depth=8:=h1
  have h2:ts=[]:=List.length_eq_zero_iff.1 h2
  have h3:lo=0:=h3
  have h4:i=0:=h4
  have h5:b.length≤32768:=h5
  subst h1 h2 h3 h4
  exact ⟨b.length+1,(zy b h5 (b.length+1) (b.length+1) 0 0 [] (by omega) (Nat.le_refl _) (Nat.le_refl 0) (Nat.zero_le _) (Nat.le_refl 0)).trans hy⟩
 ·rintro ⟨⟨(b:LI),(depth:Int),⟨⟩⟩,⟨⟩⟩ out hw ho
  obtain ⟨hg,ho⟩:=Tr.guard ho
  have hg:depth=8:=of_decide_eq_true hg
  subst hg
  cases ho
  refine (IX b 8).trans ?_
  show _=oR (((fH b).1,(fH b).2,()),())
  unfold tR fH
  by_cases c1:32768<(b.length:Int)
  ·refine bT (decide_eq_true c1) ?_
   rw[if_pos c1]
  refine bF (decide_eq_false c1) ?_
  refine bF (by decide) ?_
  rw[if_neg c1]
  unfold gM
  refine bT (by simp only[zA,zB];exact ⟨trivial,rfl,trivial,trivial,show b.length≤32768 by omega⟩) ?_
  obtain ⟨k1,k2,k3⟩:=re b 8 (b.length+1) 0 0 [] (Nat.le_refl 0) (Nat.zero_le _) (Nat.le_refl 0)
  have e:eF b=(bA b 8 (b.length+1) 0 0 []).1++bX b (bA b 8 (b.length+1) 0 0 []).2.1 (bA b 8 (b.length+1) 0 0 []).2.2:=rc b 8 (b.length+1) 0 0 []
  rw[e]
  show (bif decide ((0:Int)≤((bA b 8 (b.length+1) 0 0 []).2.1:Int))&&(decide (((bA b 8 (b.length+1) 0 0 []).2.1:Int)≤((bA b 8 (b.length+1) 0 0 []).2.2:Int))&&(decide (((bA b 8 (b.length+1) 0 0 []).2.2:Int)≤(b.length:Int))&&decide ((bA b 8 (b.length+1) 0 0 []).1.length+b.length≤4294960000))) then oR (((bA b 8 (b.length+1) 0 0 []).1++bX b ((bA b 8 (b.length+1) 0 0 []).2.1:Int).toNat ((bA b 8 (b.length+1) 0 0 []).2.2:Int).toNat,0,()),()) else none)=_
  rw[zG,zG]
  exact aa (by simp only[zA,zB];omega) _ _
abbrev f8:Io:=⟨[PA],[],[],[dL,dI],none⟩
def tA (d:f8.In):Tr f8.Res:=.ite (my d.1.1&&decide ((aJ d.1.1).length≤4294960000)) (.ret (.ret ((aJ d.1.1,0,()),()))) .no
abbrev xo:List (Nat×Hc):=[(157,ah jl yP),(158,ah gI tz)]
def qF:Hd:=bG xo
abbrev cf:Lo:=⟨⟨(.one (.hol (.sl 220 dH))::.any::bk (.one (.onl 5 (Ty.int u8) 9)::.one hI::.one (.ptr 6 0)::.one hI::ai (ai (ai (dm (bz [])))))),[none,none,none,none,none,none,some [.hol (.sl 5 (Ty.int u8)),hI,hI]]⟩,[(.exit 2,⟨(.one (.hol (.sl 220 dH))::.any::bk (.one (.onl 5 (Ty.int u8) 9)::.one hI::ai (ai (ai (dm (bz (bk []))))))),[]⟩)]⟩
abbrev cF:Lo:=⟨⟨(.one (.hol (.sl 220 dH))::.any::bk (.one (.onl 5 (Ty.int u8) 9)::.one hI::ai (ai (ai (dm (bz (bk []))))))),[]⟩,[(.ret,⟨(bk (.one (.onl 5 (Ty.int u8) 5)::.one hI::ai (ai (ai (ai ([])))))),[]⟩),(.exit 0,⟨(bz (.one (.onl 5 (Ty.int u8) 9)::.any::ai (ai (ai (dm (bz (bk []))))))),[]⟩)]⟩
def gk (d:cf.st.den):Tr (ap cf.xs):=
 .ite (decide (d.1.2.2.2.1=0)&&decide (d.1.2.1.length+d.2.1.1.length≤4294967296)) (.ret (.ret ((),((d.1.1,(d.1.2.1++d.2.1.1,(d.1.2.2.1,()))),())))) .no
def ic (d:cF.st.den):Tr (ap cF.xs):=
 .ite (decide (d.1.2.2.1=0)&&(decide (d.1.2.1.length=0)&&(my d.1.1&&decide ((aJ d.1.1).length≤4294960000)))) (.ret (.pan (.ret ((),((aJ d.1.1,()),()))))) .no
def gT:Lp:=bM [(4,aD cF ic),(10,aD cf gk)]
def mB {R:Type}(h4:List dH.den)(h5:LI)(h6 h7:Int)(h8:LI)(h9 h10:Int)(next:List dH.den→LI→Int→Int→LI→Int→Int→Option R)(out:ap cf.xs→Option R):Option R:=bif decide (h7<(↑h8.length:Int)) then bif decide (0≤h7)&&decide (h7<(↑h8.length:Int)) then bif decide (h5.length+1≤4294967296) then next (h4) (h5++[h8.getD h7.toNat 0]) (h6) (i64.wrap (h7+1)) (h8) (h9) (h10) else none else none else out (.ret ((),((h4,(h5,(h6,()))),())))
def kQ (n:Nat)(h4:List dH.den)(h5:LI)(h6 h7:Int)(h8:LI)(h9 h10:Int):Option (ap cf.xs):=fJ tt qF dr gT 0 Tryz.f122 (E7 Tryz.f122 (bP Tryz.f122 0) 0) n (cf.st.mk' ((h4,(h5,(h6,(h7,())))),((h8,(h9,(h10,()))),()))) (bt cf.xs)
theorem AG (n:Nat)(h4:List dH.den)(h5:LI)(h6 h7:Int)(h8:LI)(h9 h10:Int):kQ (n+1) h4 h5 h6 h7 h8 h9 h10=mB h4 h5 h6 h7 h8 h9 h10 (kQ n) some:=by kernel_rfl
def nD {R:Type}(h1:List dH.den)(h2:LI)(h3:Int)(next:List dH.den→LI→Int→Option R)(out:ap cF.xs→Option R):Option R:=bif decide (h3<(↑h1.length:Int)) then bif decide (0≤h3)&&decide (h3<(↑h1.length:Int)) then bif j8 (h1.getD h3.toNat ([],0,0,())) then bif decide (h2.length+1≤4294967296) then (gk ((h1,(h2++[u8.wrap (i64.wrap ((↑(List.length (h1.getD h3.toNat ([],0,0,())).1):Int) - 1))],(h3,(0,())))),(((h1.getD h3.toNat ([],0,0,())).1,((h1.getD h3.toNat ([],0,0,())).2.1,((h1.getD h3.toNat ([],0,0,())).2.2.1,()))),()))).run fun y=>match y with | .ret ((),((x21,x22,x23,()),()))=>(next (x21) (x22) (i64.wrap (x23+1))) else none else bif fE (h1.getD h3.toNat ([],0,0,())) then bif decide (h2.length+1≤4294967296) then bif decide ((h2++[u8.wrap (i64.wrap (124+(h1.getD h3.toNat ([],0,0,())).2.2.1))]).length+1≤4294967296) then bif decide ((h2++[u8.wrap (i64.wrap (124+(h1.getD h3.toNat ([],0,0,())).2.2.1))]++[u8.wrap (i64.wrap (Int.tdiv (h1.getD h3.toNat ([],0,0,())).2.1 256))]).length+1≤4294967296) then next (h1) (h2++[u8.wrap (i64.wrap (124+(h1.getD h3.toNat ([],0,0,())).2.2.1))]++[u8.wrap (i64.wrap (Int.tdiv (h1.getD h3.toNat ([],0,0,())).2.1 256))]++[u8.wrap (i64.wrap (Int.tmod (h1.getD h3.toNat ([],0,0,())).2.1 256))]) (i64.wrap (h3+1)) else none else none else none else out (.ret ((),(([],(50,())),()))) else none else out (.pan (.ret ((),((h2,()),()))))
def jr (n:Nat)(h1:List dH.den)(h2:LI)(h3:Int):Option (ap cF.xs):=fJ tt qF dr gT 0 Tryz.f122 (bP Tryz.f122 0) n (cF.st.mk' ((h1,(h2,(h3,()))),())) (bt cF.xs)
theorem C9 (n:Nat)(h1:List dH.den)(h2:LI)(h3:Int):jr (n+1) h1 h2 h3=nD h1 h2 h3 (jr n) some:=by kernel_rfl
theorem yd {t:gu}:j8 t=true↔t.2.1=0∧t.2.2.1=0∧0<t.1.length∧t.1.length≤128:=by unfold j8;split <;> simp[*]
theorem vl {t:gu}:fE t=true↔t.1.length=0∧1≤t.2.1∧t.2.1≤4096∧4≤t.2.2.1∧t.2.2.1≤131:=by
 unfold fE
 split
 ·rename_i h;exact ⟨fun _=>h,fun _=>rfl⟩
 ·rename_i h;exact ⟨fun h'=>by (cases h'),fun h'=>absurd h' h⟩
theorem AU {n:Int}(h0:0≤n)(h1:n≤255):u8.wrap n=n:=bK (by simp[bH,IntKind.min,IntKind.max,IntKind.signed,IntKind.bits];omega)
theorem uH (ts:List gu)(i:Int)(lit:LI)(d n:Int)(hl:lit.length≤4294967296):∀(k j:Nat) (out:LI),lit.length<j+k→j≤lit.length→out.length+(lit.length - j)≤4294967296→
  kQ k ts out i j lit d n=some (.ret ((),((ts,(out++lit.drop j,(i,()))),()))):=by
 intro k
 induction k with
 |zero=>intro j out h;omega
 |succ k ih=>
  intro j out h1 h2 h3
  rw[AG]
  unfold mB
  by_cases hj:j<lit.length
  ·refine bT (by simpa using hj) ?_
   refine bT (by simpa using hj) ?_
   refine bT (decide_eq_true (by omega)) ?_
   rw[ae (n:=(j:Int)+1) (by omega) (by omega)]
   refine (ih (j+1) (out++[lit.getD (j:Int).toNat 0]) (by omega) (by omega) (by simp;omega)).trans ?_
   rw[zG,aA hj,zK,zE hj]
   rfl
  ·refine bF (by simpa using hj) ?_
   rw[zI (by omega),List.append_nil]
theorem vV (ts:List gu)(hl:ts.length≤maxLen)(hok:my ts=true):∀(k i:Nat) (out:LI),ts.length<i+k→i≤ts.length→out.length+(aJ (ts.drop i)).length≤4294960000→
  jr k ts out i=some (.pan (.ret ((),((out++aJ (ts.drop i),()),())))):=by
 rw[ba] at hl
 intro k
 induction k with
 |zero=>intro i out h;omega
 |succ k ih=>
  intro i out h1 h2 h3
  rw[C9]
  unfold nD
  by_cases hi:i<ts.length
  rotate_left
  ·refine bF (by simpa using hi) ?_
   rw[zI (by omega)]
   show _=some (Out.pan (Out.ret ((),((out++[],()),()))))
   rw[List.append_nil]
  rw[zE hi] at h3 ⊢
  have ht:(j8 ts[i] || fE ts[i])=true:=List.all_eq_true.1 hok ts[i] (List.getElem_mem hi)
  have e1:List.getD ts (i:Int).toNat ([],0,0,())=ts[i]:=by rw[zG,aA hi]
  rw[e1]
  have eP:aJ (ts[i]::ts.drop (i+1))=dG ts[i]++aJ (ts.drop (i+1)):=rfl
  rw[eP,zH] at h3
  rw[eP]
  generalize ts[i]=t at *
  refine bT (by simpa using hi) ?_
  refine bT (by simpa using hi) ?_
  cases c:j8 t with
  |true=>
   obtain ⟨g1,g2,g3,g4⟩:=yd.1 c
   have eW:dG t=((t.1.length:Int) - 1)::t.1:=by unfold dG;rw[if_pos g2]
   rw[eW,zN] at h3
   rw[eW]
   refine (aa rfl _ _).trans ?_
   refine bT (decide_eq_true (by omega)) ?_
   rw[ae (n:=(t.1.length:Int) - 1) (by omega) (by omega),AU (n:=(t.1.length:Int) - 1) (by omega) (by omega)]
   unfold gk
   refine bT (by simp only[zA,zB];exact ⟨trivial,show (out++[(t.1.length:Int) - 1]).length+t.1.length≤4294967296 by simp;omega⟩) ?_
   show jr k ts (out++[(t.1.length:Int) - 1]++t.1) (i64.wrap ((i:Int)+1))=_
   rw[ae (n:=(i:Int)+1) (by omega) (by omega)]
   refine (ih (i+1) _ (by omega) (by omega) (by simp only[zH,List.length_singleton];omega)).trans ?_
   simp only[zK,zM,List.cons_append,List.nil_append]
  |false=>
   rw[c,Bool.false_or] at ht
   obtain ⟨g0,g1,g2,g3,g4⟩:=vl.1 ht
   have eW:dG t=[124+t.2.2.1,t.2.1 / 256,t.2.1 % 256]:=by unfold dG;rw[if_neg (by omega)]
   rw[eW] at h3
   rw[eW]
   simp only[zN,List.length_nil] at h3
   refine (af rfl _ _).trans ?_
   refine (aa ht _ _).trans ?_
   refine bT (decide_eq_true (by omega)) ?_
   refine bT (decide_eq_true (by simp only[zH,List.length_singleton];omega)) ?_
   refine bT (decide_eq_true (by simp only[zH,List.length_singleton];omega)) ?_
   rw[Int.tdiv_eq_ediv_of_nonneg (by omega),Int.tmod_eq_emod_of_nonneg (by omega),ae (n:=124+t.2.2.1) (by omega) (by omega),ae (n:=t.2.1 / 256) (by omega) (by omega),ae (n:=t.2.1 % 256) (by omega) (by omega),ae (n:=(i:Int)+1) (by omega) (by omega),
    AU (n:=124+t.2.2.1) (by omega) (by omega),AU (n:=t.2.1 / 256) (by omega) (by omega),AU (n:=t.2.1 % 256) (by omega) (by omega)]
   refine (ih (i+1) _ (by omega) (by omega) (by simp only[zH,List.length_singleton];omega)).trans ?_
   simp only[zK,zM,List.cons_append,List.nil_append]
def rz (a0:List dH.den):Option f8.Res:=(ic ((a0,([],(0,()))),())).run fun y=>match y with | .ret ((),((x33,x34,()),()))=>(oR ((x33,x34,()),())) | .pan (.ret ((),((x35,()),())))=>(oR ((x35,0,()),()))
theorem EI (a0:List dH.den):Io.run tt qF dr gT f8 Tryz.f122 ((a0,()),())=rz a0:=by kernel_rfl
theorem lR:HcsOk prog xo:=.cons Hu (.cons As .nil)
theorem IF:HcOk prog 122 (ah f8 tA):=by
 refine bQ lR (lp:=gT) (fn:=Tryz.f122) f8 (.step (h0:=aD cF ic) (by kernel_rfl) (f9 lR (lp:=gT) (fn:=Tryz.f122) (.step (h0:=aD cf gk) (by kernel_rfl) (f9 lR (lp:=gT) (fn:=Tryz.f122) (.done (by kernel_rfl)) cf gk ?_) (.done (by kernel_rfl))) cF ic ?_) (.done (by kernel_rfl))) tA ?_
 ·rintro ⟨⟨(ts:List gu),(out:LI),(i:Int),(j:Int),⟨⟩⟩,⟨⟨(lit:LI),(d:Int),(n:Int),⟨⟩⟩,⟨⟩⟩⟩ y hw hy
  obtain ⟨hg,hy⟩:=Tr.guard hy
  simp only[zA,zB] at hg
  have h1:j=0:=hg.1
  have h2:out.length+lit.length≤4294967296:=hg.2
  subst h1
  refine ⟨lit.length+1,(uH ts i lit d n (by omega) (lit.length+1) 0 out (by omega) (by omega) (by omega)).trans ?_⟩
  rw[← hy];rfl
 ·rintro ⟨⟨(ts:List gu),(out:LI),(i:Int),⟨⟩⟩,⟨⟩⟩ y hw hy
  obtain ⟨hg,hy⟩:=Tr.guard hy
  simp only[zA,zB] at hg
  obtain ⟨h1,h2,h3,h4⟩:=hg
  have h1:i=0:=h1
  have h2:out=[]:=List.length_eq_zero_iff.1 h2
  have h4:(aJ ts).length≤4294960000:=h4
  subst h1 h2
  refine ⟨ts.length+1,(vV ts hw.1.1.1 h3 (ts.length+1) 0 [] (by omega) (by omega) (by simpa using h4)).trans ?_⟩
  rw[← hy];rfl
 ·rintro ⟨⟨(ts:List gu),⟨⟩⟩,⟨⟩⟩ out hw ho
  obtain ⟨hg,ho⟩:=Tr.guard ho
  simp only[zA,zB] at hg
  cases ho
  refine (EI ts).trans ?_
  unfold rz ic
  refine bT (by simp only[zA,zB];exact ⟨trivial,rfl,hg.1,hg.2⟩) ?_
  rfl
abbrev ix:Io:=⟨[dL],[],[],[dL,dI],none⟩
def yA (d:ix.In):Tr ix.Res:=.ret (.ret (((gb d.1.1).1,(gb d.1.1).2,()),()))
abbrev BF:List (Nat×Hc):=[(120,ah iy yB),(121,ah jE wb),(122,ah f8 tA)]
def B6:Hd:=bG BF
abbrev de:Lo:=⟨⟨(bz (bk (.one (.onl 5 (Ty.int u8) 13)::.one (.hol (.sl 5 (Ty.int u8)))::.one hI::.one hI::.any::ai (dm (bz (bk [])))))),[]⟩,[(.exit 0,⟨(bz (bk (.one (.onl 5 (Ty.int u8) 13)::.any::.one hI::ai (ai ([]))))),[]⟩)]⟩
def jS (d:de.st.den):Tr (ap de.xs):=
 .ite (decide (d.1.2.2.2.1=0)&&decide (d.1.1.length+d.1.2.1.length≤4294967296)) (.ret (.ret ((),((d.1.1++d.1.2.1,(d.1.2.2.1,())),())))) .no
def pu:Lp:=bM [(8,aD de jS)]
def p8 {R:Type}(h1 h2:LI)(h3 h4:Int)(next:LI→LI→Int→Int→Option R)(out:ap de.xs→Option R):Option R:=bif decide (h4<(↑h2.length:Int)) then bif decide (0≤h4)&&decide (h4<(↑h2.length:Int)) then bif decide (h1.length+1≤4294967296) then next (h1++[h2.getD h4.toNat 0]) (h2) (h3) (i64.wrap (h4+1)) else none else none else out (.ret ((),((h1,(h3,())),())))
def oh (n:Nat)(h1 h2:LI)(h3 h4:Int):Option (ap de.xs):=fJ tt B6 dr pu 0 Tryz.f84 (bP Tryz.f84 0) n (de.st.mk' ((h1,(h2,(h3,(h4,())))),())) (bt de.xs)
theorem ES (n:Nat)(h1 h2:LI)(h3 h4:Int):oh (n+1) h1 h2 h3 h4=p8 h1 h2 h3 h4 (oh n) some:=by kernel_rfl
theorem zx (body:LI)(f:Int)(hl:body.length≤4294967296):∀(k j:Nat) (out:LI),body.length<j+k→j≤body.length→out.length+(body.length - j)≤4294967296→
  oh k out body f j=some (.ret ((),((out++body.drop j,(f,())),()))):=by
 intro k
 induction k with
 |zero=>intro j out h;omega
 |succ k ih=>
  intro j out h1 h2 h3
  rw[ES]
  unfold p8
  by_cases hj:j<body.length
  ·refine bT (by simpa using hj) ?_
   refine bT (by simpa using hj) ?_
   refine bT (decide_eq_true (by omega)) ?_
   rw[ae (n:=(j:Int)+1) (by omega) (by omega)]
   refine (ih (j+1) (out++[body.getD (j:Int).toNat 0]) (by omega) (by omega) (by simp;omega)).trans ?_
   rw[zG,aA hj,zK,zE hj]
   rfl
  ·refine bF (by simpa using hj) ?_
   rw[zI (by omega),List.append_nil]
theorem Jy {ts:List gu}(h:∀t∈ts,rg t):my ts=true:=List.all_eq_true.2 fun t ht=>by
 rw[Bool.or_eq_true]
 rcases h t ht with ⟨h1,h2,h3,h4⟩ | ⟨h1,h2,h3,h4,h5⟩
 ·exact .inl (yd.2 ⟨h1,h2,by omega,h4⟩)
 ·exact .inr (vl.2 ⟨by rw[h1];rfl,h2,h3,h4,h5⟩)
def tQ (a0:LI):Option ix.Res:=bif (fH a0).2 != 0 then oR (([],(fH a0).2,()),()) else bif my (fH a0).1&&decide ((aJ (fH a0).1).length≤4294960000) then (jS ((aH (aC (↑a0.length:Int)),(aJ (fH a0).1,(0,(0,())))),())).run fun y=>match y with | .ret ((),((x11,x12,()),()))=>(oR ((x11,x12,()),())) else none
theorem IW (a0:LI):Io.run tt B6 dr pu ix Tryz.f84 ((a0,()),())=tQ a0:=by kernel_rfl
theorem um:HcsOk prog BF:=.cons LQ (.cons Ar (.cons IF .nil))
theorem LP:HcOk prog 84 (ah ix yA):=by
 refine bQ um (lp:=pu) (fn:=Tryz.f84) ix (.step (h0:=aD de jS) (by kernel_rfl) (f9 um (lp:=pu) (fn:=Tryz.f84) (.done (by kernel_rfl)) de jS ?_) (.done (by kernel_rfl))) yA ?_
 ·rintro ⟨⟨(out:LI),(body:LI),(f:Int),(j:Int),⟨⟩⟩,⟨⟩⟩ y hw hy
  obtain ⟨hg,hy⟩:=Tr.guard hy
  simp only[zA,zB] at hg
  have h1:j=0:=hg.1
  have h2:out.length+body.length≤4294967296:=hg.2
  subst h1
  refine ⟨body.length+1,(zx body f (by omega) (body.length+1) 0 out (by omega) (by omega) (by omega)).trans ?_⟩
  rw[← hy];rfl
 ·rintro ⟨⟨(b:LI),⟨⟩⟩,⟨⟩⟩ out hw ho
  cases ho
  refine (IW b).trans ?_
  show _=oR (((gb b).1,(gb b).2,()),())
  unfold tQ fH gb
  by_cases c1:32768<(b.length:Int)
  ·rw[if_pos c1,if_pos c1]
   exact aa rfl _ _
  rw[if_neg c1,if_neg c1]
  refine (af rfl _ _).trans ?_
  have hp:(aJ (eF b)).length≤b.length+b.length / 128+1:=kW b 8 _ 0 0 [] (Nat.le_refl 0) (Nat.zero_le _) (by simp[aJ])
  have hd:=m9 (aC (b.length:Int))
  refine bT (by simp only[zA,zB];exact ⟨Jy (HP b),show (aJ (eF b)).length≤4294960000 by omega⟩) ?_
  unfold jS
  refine bT (by simp only[zA,zB];exact ⟨trivial,show (aH (aC (b.length:Int))).length+(aJ (eF b)).length≤4294967296 by omega⟩) ?_
  rfl
end
end Go.Proofs.YthpcdhgpplmneaaGreatDoor.Sym
