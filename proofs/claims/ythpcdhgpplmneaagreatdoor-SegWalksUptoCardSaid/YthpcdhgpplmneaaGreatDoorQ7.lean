/- leatref08.Encode. -/
import Derived.Test.YthpcdhgpplmneaaGreatDoorTie
import Derived.Test.YthpcdhgpplmneaaGreatDoorCards
import Derived.ProofKit
import Derived.LaidMore
import Derived.OpenShut
import Derived.Stop.Joined
import Derived.Test.YthpcdhgpplmneaaGreatDoorQ6

set_option linter.unusedVariables false
set_option linter.unusedSimpArgs false
namespace Go.Proofs.YthpcdhgpplmneaaGreatDoor.Sym
open Go
open Go.IntKind (i8 i16 i32 i64 u8 u16 u32 u64)
noncomputable section
def M6 (b:bR)(pk:Bool):LI:=bif pk then (gb (ez b.2.2.2.2.2.1).1).1 else (ez b.2.2.2.2.2.1).1
def eD (b:bR)(pk:Bool):LI×Int:=if du b≠0 then ([],du b) else (qZ b (bif pk then 1 else 0) (M6 b pk),0)
abbrev lW:Io:=⟨[BO,dB],[],[],[dL,dI],none⟩
def JT (d:lW.In):Tr lW.Res:=.ite (ct (aM d.1.1.2.2.2.2.2.1) d.1.1.2.2.2.2.2.1 0) (.ret (.ret (((eD d.1.1 d.1.2.1).1,(eD d.1.1 d.1.2.1).2,()),()))) .no
abbrev Kp:List (Nat×Hc):=[(63,ah n9 JR),(83,ah jo yS),(84,ah ix yA),(85,ah fg oM),(24,ah lf AY),(72,ah fq oU),(86,ah gp so)]
def P3:Hd:=bG Kp
def Lu:Lp:=bM []
def qs {R:Type}(a b:LI)(K:LI→Option R):Option R:=bif decide (a.length+b.length≤4294967296) then K (a++b) else none
theorem eJ {R:Type}{a b:LI}{K:LI→Option R}(h:a.length+b.length≤4294967296):qs a b K=K (a++b):=aa (decide_eq_true h) _ _
def HV (a0 a1 a2 a3 a4:Int)(a5:List aR.den)(attrs:Int)(blk:LI):Option lW.Res:=
 qs (aU attrs (Int.toNat 2)) (aU (i64.wrap ((a5.length:Int) - 1)) (Int.toNat 4)) fun T=>bif decide ((0:Int)≤0)&&decide ((0:Int)<(a5.length:Int)) then
  qs T (aU (a5.getD (Int.toNat 0) (0,(false,[],()),(false,[],()),[],())).1 (Int.toNat 8)) fun T=>qs T (aU (cj a5) (Int.toNat 8)) fun T=>qs T (aU a2 (Int.toNat 8)) fun T=>
  qs T (aU (i64.wrap a3) (Int.toNat 2)) fun T=>qs T (aU (i64.wrap a4) (Int.toNat 4)) fun T=>qs T (aU (a5.length:Int) (Int.toNat 4)) fun T=>qs T blk fun T=>
  qs (aU a0 (Int.toNat 8)) (aU (i64.wrap ((T.length:Int)+9)) (Int.toNat 4)) fun L=>qs L (aU (i64.wrap a1) (Int.toNat 4)) fun L=>bif decide (L.length+1≤4294967296) then
   qs (L++[2]) (aU (i64.wrap (cG 0 T)) (Int.toNat 4)) fun L=>qs L T fun L=>oR ((L,0,()),()) else none else none
def Bq (a0 a1 a2 a3 a4:Int)(a5:List aR.den)(a6:Bool):Option lW.Res:=bif ct (aM a5) a5 0 then bif du (a0,a1,a2,a3,a4,a5,()) != 0 then oR (([],du (a0,a1,a2,a3,a4,a5,()),()),()) else bif ct (aM a5) a5 0&&decide (a5.length≤256) then
 bif a6 then HV a0 a1 a2 a3 a4 a5 1 (gb (ez a5).1).1 else HV a0 a1 a2 a3 a4 a5 0 (ez a5).1 else none else none
theorem Pd (a0 a1 a2 a3 a4:Int)(a5:List aR.den)(a6:Bool):Io.run tt P3 dr Lu lW Tryz.f64 (((a0,a1,a2,a3,a4,a5,()),a6,()),())=Bq a0 a1 a2 a3 a4 a5 a6:=by kernel_rfl
theorem JZ (v:Int){n:Nat}(h:n≤8):aU (i64.wrap v) n=aU v n:=by
 have key:∃t,i64.wrap v=v+256 ^ 8*t:=⟨(i64.wrap v - v) / 18446744073709551616,by simp[IntKind.wrap,IntKind.min,IntKind.max,IntKind.signed,IntKind.bits];omega⟩
 obtain ⟨t,e⟩:=key
 rw[e,j6 _ _ _ _ h]
theorem Du {a0 a1 a2 a3 a4:Int}{a5:List bm}(h1:1≤a5.length)(attrs:Int){blk:LI}(hl:blk.length≤40000):
  HV a0 a1 a2 a3 a4 a5 attrs blk=oR ((qZ (a0,a1,a2,a3,a4,a5,()) attrs blk,0,()),()):=by
 have ln:∀(v:Int) (n:Nat),(aU v n).length=n:=vi
 have e4:(a5.getD (Int.toNat 0) (0,(false,[],()),(false,[],()),[],())).1=aM a5:=by
  cases a5 with
  |nil=>simp at h1
  |cons r rs=>rfl
 have n2:Int.toNat 2=2:=rfl
 have n4:Int.toNat 4=4:=rfl
 have n8:Int.toNat 8=8:=rfl
 unfold HV
 simp only[e4,n2,n4,n8,JZ _ (show 4≤8 by decide),JZ _ (show 2≤8 by decide)]
 refine (eJ (by simp[ln])).trans ?_
 refine bT (by simp only[zA,zB];omega) ?_
 refine (eJ (by simp[ln])).trans ?_
 refine (eJ (by simp[ln])).trans ?_
 refine (eJ (by simp[ln])).trans ?_
 refine (eJ (by simp[ln])).trans ?_
 refine (eJ (by simp[ln])).trans ?_
 refine (eJ (by simp[ln])).trans ?_
 refine (eJ (by simp[ln];omega)).trans ?_
 have eT:aU attrs 2++aU ((a5.length:Int) - 1) 4++aU (aM a5) 8++aU (cj a5) 8++aU a2 8++aU a3 2++aU a4 4++aU (a5.length:Int) 4++blk=eo (a0,a1,a2,a3,a4,a5,()) attrs blk:=by
  simp only[eo,zK]
 rw[eT]
 have lT:(eo (a0,a1,a2,a3,a4,a5,()) attrs blk).length=40+blk.length:=by simp[eo,ln];omega
 have eW:qZ (a0,a1,a2,a3,a4,a5,()) attrs blk=aU a0 8++(aU (49+(blk.length:Int)) 4++(aU a1 4++([2]++(aU (cG 0 (eo (a0,a1,a2,a3,a4,a5,()) attrs blk)) 4++eo (a0,a1,a2,a3,a4,a5,()) attrs blk)))):=rfl
 rw[eW]
 generalize eo (a0,a1,a2,a3,a4,a5,()) attrs blk=T at *
 rw[show (T.length:Int)+9=49+(blk.length:Int) by omega]
 refine (eJ (by simp[ln])).trans ?_
 refine (eJ (by simp[ln])).trans ?_
 refine bT (decide_eq_true (by simp[ln])) ?_
 refine (eJ (by simp[ln])).trans ?_
 refine (eJ (by simp[ln];omega)).trans ?_
 simp only[zK]
theorem Qm:HcOk prog 64 (ah lW JT):=by
 refine bQ (cs:=Kp) (.cons Qk (.cons Hx (.cons LP (.cons xU (.cons xR (.cons uN (.cons CM .nil))))))) (lp:=Lu) (fn:=Tryz.f64) lW (.done (by kernel_rfl)) JT ?_
 rintro ⟨⟨⟨(a0:Int),(a1:Int),(a2:Int),(a3:Int),(a4:Int),(a5:List bm),⟨⟩⟩,(pk:Bool),⟨⟩⟩,⟨⟩⟩ out hw ho
 obtain ⟨hg,ho⟩:=Tr.guard ho
 have hg:ct (aM a5) a5 0=true:=hg
 cases ho
 refine (Pd a0 a1 a2 a3 a4 a5 pk).trans ?_
 show _=oR (((eD (a0,a1,a2,a3,a4,a5,()) pk).1,(eD (a0,a1,a2,a3,a4,a5,()) pk).2,()),())
 unfold Bq eD
 refine (aa hg _ _).trans ?_
 by_cases c:du (a0,a1,a2,a3,a4,a5,())=0
 rotate_left
 ·refine bT (by simpa using c) ?_
  rw[if_pos c]
 refine bF (by simpa using c) ?_
 rw[if_neg (az c)]
 obtain ⟨g1,g2,g3,g4,g5⟩:=qq c
 have g3:1≤a5.length:=g3
 have g4:a5.length≤256:=g4
 obtain ⟨_,_,h3⟩:=J1 g5
 refine bT (by rw[hg,decide_eq_true g4];rfl) ?_
 cases pk with
 |true=>
  refine (aa rfl _ _).trans ?_
  have:=(Aw h3).2.1
  exact Du g3 1 (by have:=(Aw h3).2.1;exact Nat.le_trans this (by decide))
 |false=>
  refine (af rfl _ _).trans ?_
  exact Du g3 0 (by have h3:(ez a5).1.length≤32768:=h3;omega)
def na (bs:List bR):Bool:=bs.all fun x=>ct (aM x.2.2.2.2.2.1) x.2.2.2.2.2.1 0
def gt (pk:Bool):List bR→Int→LI→LI
 |[],_,out=>out
 |x::xs,q,out=>if (eD (q,x.2) pk).2=0 then gt pk xs (i64.wrap (q+(x.2.2.2.2.2.1.length:Int))) (out++(eD (q,x.2) pk).1) else gt pk xs q out
abbrev iz:Io:=⟨[Gb,cw,dB],[],[],[dL],none⟩
def yD (d:iz.In):Tr iz.Res:=.ite (na d.1.1&&decide (d.1.1.length≤100000)) (.ret (.ret ((gt d.1.2.2.1 d.1.1 d.1.2.1 [],()),()))) .no
abbrev BH:List (Nat×Hc):=[(64,ah lW JT),(24,ah lf AY)]
def B8:Hd:=bG BH
abbrev dg:Lo:=⟨⟨(.one (.hol (.sl 77 fN))::.one hI::.one hL::bz (.one (.onl 5 (Ty.int u8) 15)::.one hI::.any::ai (ai ([])))),[]⟩,[(.exit 0,⟨(.any::bz (bk (.one (.onl 5 (Ty.int u8) 15)::ai (ai (bk []))))),[]⟩)]⟩
def jT (d:dg.st.den):Tr (ap dg.xs):=
 .ite (decide (d.1.2.2.2.2.1=0)&&(decide (d.1.2.2.2.1.length=0)&&(decide (d.1.1.length≤100000)&&na d.1.1)))
  (.ret (.ret ((),((gt d.1.2.2.1 d.1.1 d.1.2.1 [],()),())))) .no
def pw:Lp:=bM [(4,aD dg jT)]
def qa {R:Type}(h3:List fN.den)(h4:Int)(h5:Bool)(h6:LI)(h7:Int)(next:List fN.den→Int→Bool→LI→Int→Option R)(out:ap dg.xs→Option R):Option R:=bif decide (h7<(↑h3.length:Int)) then bif decide (0≤h7)&&decide (h7<(↑h3.length:Int)) then bif ct (aM (h3.getD h7.toNat (0,0,0,0,0,[],())).2.2.2.2.2.1) (h3.getD h7.toNat (0,0,0,0,0,[],())).2.2.2.2.2.1 0 then bif (eD (h4,(h3.getD h7.toNat (0,0,0,0,0,[],())).2) h5).2 == 0 then bif decide (h6.length+(eD (h4,(h3.getD h7.toNat (0,0,0,0,0,[],())).2) h5).1.length≤4294967296) then next (h3) (i64.wrap (h4+(↑(List.length (h3.getD h7.toNat (0,0,0,0,0,[],())).2.2.2.2.2.1):Int))) (h5) (h6++(eD (h4,(h3.getD h7.toNat (0,0,0,0,0,[],())).2) h5).1) (i64.wrap (h7+1)) else none else next (h3) (h4) (h5) (h6) (i64.wrap (h7+1)) else none else none else out (.ret ((),((h6,()),())))
def om (n:Nat)(h3:List fN.den)(h4:Int)(h5:Bool)(h6:LI)(h7:Int):Option (ap dg.xs):=fJ tt B8 dr pw 0 Tryz.f43 (bP Tryz.f43 0) n (dg.st.mk' ((h3,(h4,(h5,(h6,(h7,()))))),())) (bt dg.xs)
theorem EU (n:Nat)(h3:List fN.den)(h4:Int)(h5:Bool)(h6:LI)(h7:Int):om (n+1) h3 h4 h5 h6 h7=qa h3 h4 h5 h6 h7 (om n) some:=by kernel_rfl
theorem Kx {x:bR}{pk:Bool}(h:(eD x pk).2=0):(eD x pk).1.length≤33101:=by
 unfold eD at h ⊢
 split
 ·simp
 rename_i c
 obtain ⟨_,_,_,_,g5⟩:=qq (Classical.byContradiction c)
 obtain ⟨_,_,h3⟩:=J1 g5
 simp only
 rw[JY]
 unfold M6
 cases pk with
 |true=>have:(gb (ez x.2.2.2.2.2.1).1).1.length≤33040:=(Aw h3).2.1;simp only[cond_true];omega
 |false=>simp only[cond_false];omega
theorem zO (pk:Bool)(bs:List bR)(hl:bs.length≤100000)(hr:na bs=true):∀(k i:Nat) (q:Int) (out:LI),bs.length<i+k→i≤bs.length→out.length≤33101*i→
  om k bs q pk out i=some (.ret ((),((gt pk (bs.drop i) q out,()),()))):=by
 intro k
 induction k with
 |zero=>intro i q out h;omega
 |succ k ih=>
  intro i q out h1 h2 h3
  rw[EU]
  unfold qa
  by_cases hi:i<bs.length
  rotate_left
  ·refine bF (decide_eq_false (by omega)) ?_
   rw[zI (by omega)]
   rfl
  refine bT (decide_eq_true (by omega)) ?_
  refine bT (by simpa using hi) ?_
  have e1:List.getD bs (i:Int).toNat (0,0,0,0,0,[],())=bs[i]:=by rw[zG,aA hi]
  have hx:=List.all_eq_true.1 hr bs[i] (List.getElem_mem hi)
  rw[e1,zE hi,ae (n:=(i:Int)+1) (by omega) (by omega)]
  refine (aa hx _ _).trans ?_
  have e2:gt pk (bs[i]::bs.drop (i+1)) q out=if (eD (q,bs[i].2) pk).2=0 then gt pk (bs.drop (i+1)) (i64.wrap (q+(bs[i].2.2.2.2.2.1.length:Int))) (out++(eD (q,bs[i].2) pk).1) else gt pk (bs.drop (i+1)) q out:=rfl
  rw[e2]
  by_cases c:(eD (q,bs[i].2) pk).2=0
  ·have hL:=Kx c
   refine bT (by rw[c];rfl) ?_
   refine bT (decide_eq_true (by omega)) ?_
   rw[if_pos c]
   exact ih (i+1) _ _ (by omega) (by omega) (by rw[zH];omega)
  ·refine bF (by simpa using c) ?_
   rw[if_neg c]
   exact ih (i+1) _ _ (by omega) (by omega) (by omega)
def tS (a0:List fN.den)(a1:Int)(a2:Bool):Option iz.Res:=(jT ((a0,(a1,(a2,([],(0,()))))),())).run fun y=>match y with | .ret ((),((x19,()),()))=>(oR ((x19,()),()))
theorem IY (a0:List fN.den)(a1:Int)(a2:Bool):Io.run tt B8 dr pw iz Tryz.f43 ((a0,a1,a2,()),())=tS a0 a1 a2:=by kernel_rfl
theorem uo:HcsOk prog BH:=.cons Qm (.cons xR .nil)
theorem LR:HcOk prog 43 (ah iz yD):=by
 refine bQ uo (lp:=pw) (fn:=Tryz.f43) iz (.step (h0:=aD dg jT) (by kernel_rfl) (f9 uo (lp:=pw) (fn:=Tryz.f43) (.done (by kernel_rfl)) dg jT ?_) (.done (by kernel_rfl))) yD ?_
 ·rintro ⟨⟨(bs:List bR),(q:Int),(pk:Bool),(out:LI),(i:Int),⟨⟩⟩,⟨⟩⟩ y hw hy
  obtain ⟨hg,hy⟩:=Tr.guard hy
  simp only[zA,zB] at hg
  obtain ⟨h1,h2,h3,h4⟩:=hg
  have h1:i=0:=h1
  have h2:out=[]:=zF h2
  have h3:bs.length≤100000:=h3
  subst h1 h2
  refine ⟨bs.length+1,(zO pk bs h3 h4 (bs.length+1) 0 q [] (by omega) (Nat.zero_le _) (by simp)).trans ?_⟩
  rw[← hy,List.drop_zero];rfl
 ·rintro ⟨⟨(bs:List bR),(q:Int),(pk:Bool),⟨⟩⟩,⟨⟩⟩ out hw ho
  obtain ⟨hg,ho⟩:=Tr.guard ho
  simp only[zA,zB] at hg
  obtain ⟨h1,h2⟩:=hg
  cases ho
  refine (IY bs q pk).trans ?_
  unfold tS jT
  refine bT (by simp only[zA,zB];exact ⟨trivial,rfl,h2,h1⟩) ?_
  rfl
abbrev kC:Io:=⟨[.dat .str false false],[],[],[BO],none⟩
def DO (d:kC.In):Tr kC.Res:=.ret (.ret (((0,0,-1,-1,-1,[(7,(false,[],()),(false,d.1.1,()),[],())],()),()),()))
abbrev FV:List (Nat×Hc):=[]
def NZ:Hd:=bG FV
def GY:Lp:=bM []
def H1 (a0:LI):Option kC.Res:=oR (((0,0,-1,-1,-1,[(7,(false,[],()),(false,a0,()),[],())],()),()),())
theorem MA (a0:LI):Io.run tt NZ dr GY kC Tryz.f44 ((a0,()),())=H1 a0:=by kernel_rfl
theorem OG:HcOk prog 44 (ah kC DO):=by
 refine bQ (cs:=FV) HcsOk.nil (lp:=GY) (fn:=Tryz.f44) kC (.done (by kernel_rfl)) DO ?_
 rintro ⟨⟨(s:LI),⟨⟩⟩,⟨⟩⟩ out hw ho
 rw[← ho]
 exact MA s
end
end Go.Proofs.YthpcdhgpplmneaaGreatDoor.Sym
namespace Go.Proofs.YthpcdhgpplmneaaGreatDoor.Sym
open Go
noncomputable section
abbrev fh:Io:=⟨[],[],[],[dB],none⟩
def oT (d:fh.In):Tr fh.Res:=.ret (.ret ((true,()),()))
abbrev xj:List (Nat×Hc):=[(44,ah kC DO),(43,ah iz yD),(25,ah ja yr),(15,ah i0 yp),(18,ah iZ yn),(22,ah jD v9),(23,ah gF te)]
def Ih:Hd:=bG xj
def xK:Lp:=bM []
def rt:Option fh.Res:=bif na [(0,0,-1,-1,-1,[(7,(false,[],()),(false,[120],()),[],())],()),(0,0,-1,-1,-1,[(7,(false,[],()),(false,[121,122],()),[],())],())]&&decide (([(0,0,-1,-1,-1,[(7,(false,[],()),(false,[120],()),[],())],()),(0,0,-1,-1,-1,[(7,(false,[],()),(false,[121,122],()),[],())],())]:List bR).length≤100000) then bif decide ([0,0,0,0,0,0,0,5,0,0,0,57,0,0,0,0,2,205,219,161,248,0,0,0,0,0,0,0,0,0,0,0,0,0,7,0,0,0,0,0,0,0,7,255,255,255,255,255,255,255,255,255,255,255,255,255,255,0,0,0,1,14,0,0,0,0,2,120,0,0,0,0,0,0,0,0,6,0,0,0,58,0,0,0,0,2,177,45,97,141,0,0,0,0,0,0,0,0,0,0,0,0,0,7,0,0,0,0,0,0,0,7,255,255,255,255,255,255,255,255,255,255,255,255,255,255,0,0,0,1,16,0,0,0,0,4,121,122,0].length≤4294950000) then bif decide ([0,0,0,0,0,0,0,5,0,0,0,57,0,0,0,0,2,205,219,161,248,0,0,0,0,0,0,0,0,0,0,0,0,0,7,0,0,0,0,0,0,0,7,255,255,255,255,255,255,255,255,255,255,255,255,255,255,0,0,0,1,14,0,0,0,0,2,120,0,0,0,0,0,0,0,0,6,0,0,0,58,0,0,0,0,2,177,45,97,141,0,0,0,0,0,0,0,0,0,0,0,0,0,7,0,0,0,0,0,0,0,7,255,255,255,255,255,255,255,255,255,255,255,255,255,255,0,0,0,1,16,0,0,0,0,4,121,122,0].length≤4294950000) then bif decide ([0,0,0,0,0,0,0,5,0,0,0,57,0,0,0,0,2,205,219,161,248,0,0,0,0,0,0,0,0,0,0,0,0,0,7,0,0,0,0,0,0,0,7,255,255,255,255,255,255,255,255,255,255,255,255,255,255,0,0,0,1,14,0,0,0,0,2,120,0,0,0,0,0,0,0,0,6,0,0,0,58,0,0,0,0,2,177,45,97,141,0,0,0,0,0,0,0,0,0,0,0,0,0,7,0,0,0,0,0,0,0,7,255,255,255,255,255,255,255,255,255,255,255,255,255,255,0,0,0,1,16,0,0,0,0,4,121,122,0].length≤4294950000) then bif decide ([0,0,0,0,0,0,0,5,0,0,0,57,0,0,0,0,2,205,219,161,248,0,0,0,0,0,0,0,0,0,0,0,0,0,7,0,0,0,0,0,0,0,7,255,255,255,255,255,255,255,255,255,255,255,255,255,255,0,0,0,1,14,0,0,0,0,2,120,0,0,0,0,0,0,0,0,6,0,0,0,58,0,0,0,0,2,177,45,97,141,0,0,0,0,0,0,0,0,0,0,0,0,0,7,0,0,0,0,0,0,0,7,255,255,255,255,255,255,255,255,255,255,255,255,255,255,0,0,0,1,16,0,0,0,0,4,121,122,0].length≤4294950000) then bif (↑(List.length (aG [0,0,0,0,0,0,0,5,0,0,0,57,0,0,0,0,2,205,219,161,248,0,0,0,0,0,0,0,0,0,0,0,0,0,7,0,0,0,0,0,0,0,7,255,255,255,255,255,255,255,255,255,255,255,255,255,255,0,0,0,1,14,0,0,0,0,2,120,0,0,0,0,0,0,0,0,6,0,0,0,58,0,0,0,0,2,177,45,97,141,0,0,0,0,0,0,0,0,0,0,0,0,0,7,0,0,0,0,0,0,0,7,255,255,255,255,255,255,255,255,255,255,255,255,255,255,0,0,0,1,16,0,0,0,0,4,121,122,0] 5).1):Int) != 2 then oR ((false,()),()) else bif (aG [0,0,0,0,0,0,0,5,0,0,0,57,0,0,0,0,2,205,219,161,248,0,0,0,0,0,0,0,0,0,0,0,0,0,7,0,0,0,0,0,0,0,7,255,255,255,255,255,255,255,255,255,255,255,255,255,255,0,0,0,1,14,0,0,0,0,2,120,0,0,0,0,0,0,0,0,6,0,0,0,58,0,0,0,0,2,177,45,97,141,0,0,0,0,0,0,0,0,0,0,0,0,0,7,0,0,0,0,0,0,0,7,255,255,255,255,255,255,255,255,255,255,255,255,255,255,0,0,0,1,16,0,0,0,0,4,121,122,0] 5).2.2.1 != 7 then oR ((false,()),()) else bif (aG [0,0,0,0,0,0,0,5,0,0,0,57,0,0,0,0,2,205,219,161,248,0,0,0,0,0,0,0,0,0,0,0,0,0,7,0,0,0,0,0,0,0,7,255,255,255,255,255,255,255,255,255,255,255,255,255,255,0,0,0,1,14,0,0,0,0,2,120,0,0,0,0,0,0,0,0,6,0,0,0,58,0,0,0,0,2,177,45,97,141,0,0,0,0,0,0,0,0,0,0,0,0,0,7,0,0,0,0,0,0,0,7,255,255,255,255,255,255,255,255,255,255,255,255,255,255,0,0,0,1,16,0,0,0,0,4,121,122,0] 5).2.1 != (↑[0,0,0,0,0,0,0,5,0,0,0,57,0,0,0,0,2,205,219,161,248,0,0,0,0,0,0,0,0,0,0,0,0,0,7,0,0,0,0,0,0,0,7,255,255,255,255,255,255,255,255,255,255,255,255,255,255,0,0,0,1,14,0,0,0,0,2,120,0,0,0,0,0,0,0,0,6,0,0,0,58,0,0,0,0,2,177,45,97,141,0,0,0,0,0,0,0,0,0,0,0,0,0,7,0,0,0,0,0,0,0,7,255,255,255,255,255,255,255,255,255,255,255,255,255,255,0,0,0,1,16,0,0,0,0,4,121,122,0].length:Int) then oR ((false,()),()) else bif (aG [0,0,0,0,0,0,0,5,0,0,0,57,0,0,0,0,2,205,219,161,248,0,0,0,0,0,0,0,0,0,0,0,0,0,7,0,0,0,0,0,0,0,7,255,255,255,255,255,255,255,255,255,255,255,255,255,255,0,0,0,1,14,0,0,0,0,2,120,0,0,0,0,0,0,0,0,6,0,0,0,58,0,0,0,0,2,177,45,97,141,0,0,0,0,0,0,0,0,0,0,0,0,0,7,0,0,0,0,0,0,0,7,255,255,255,255,255,255,255,255,255,255,255,255,255,255,0,0,0,1,16,0,0,0,0,4,121,122,0] 5).2.2.2.1 != 0 then oR ((false,()),()) else bif (b9 [0,0,0,0,0,0,0,5,0,0,0,57,0,0,0,0,2,205,219,161,248,0,0,0,0,0,0,0,0,0,0,0,0,0,7,0,0,0,0,0,0,0,7,255,255,255,255,255,255,255,255,255,255,255,255,255,255,0,0,0,1,14,0,0,0,0,2,120,0,0,0,0,0,0,0,0,6,0,0,0,58,0,0,0,0,2,177,45,97,141,0,0,0,0,0,0,0,0,0,0,0,0,0,7,0,0,0,0,0,0,0,7,255,255,255,255,255,255,255,255,255,255,255,255,255,255,0,0,0,1,16,0,0,0,0,4,121,122,0] 5 6 1).2 != 0 then oR ((false,()),()) else bif (b9 [0,0,0,0,0,0,0,5,0,0,0,57,0,0,0,0,2,205,219,161,248,0,0,0,0,0,0,0,0,0,0,0,0,0,7,0,0,0,0,0,0,0,7,255,255,255,255,255,255,255,255,255,255,255,255,255,255,0,0,0,1,14,0,0,0,0,2,120,0,0,0,0,0,0,0,0,6,0,0,0,58,0,0,0,0,2,177,45,97,141,0,0,0,0,0,0,0,0,0,0,0,0,0,7,0,0,0,0,0,0,0,7,255,255,255,255,255,255,255,255,255,255,255,255,255,255,0,0,0,1,16,0,0,0,0,4,121,122,0] 5 8 1).2 != 221 then oR ((false,()),()) else bif decide (0≤1)&&decide (1<(↑(List.length (aG [0,0,0,0,0,0,0,5,0,0,0,57,0,0,0,0,2,205,219,161,248,0,0,0,0,0,0,0,0,0,0,0,0,0,7,0,0,0,0,0,0,0,7,255,255,255,255,255,255,255,255,255,255,255,255,255,255,0,0,0,1,14,0,0,0,0,2,120,0,0,0,0,0,0,0,0,6,0,0,0,58,0,0,0,0,2,177,45,97,141,0,0,0,0,0,0,0,0,0,0,0,0,0,7,0,0,0,0,0,0,0,7,255,255,255,255,255,255,255,255,255,255,255,255,255,255,0,0,0,1,16,0,0,0,0,4,121,122,0] 5).1):Int)) then bif decide ([0,0,0,0,0,0,0,5,0,0,0,57,0,0,0,0,2,205,219,161,248,0,0,0,0,0,0,0,0,0,0,0,0,0,7,0,0,0,0,0,0,0,7,255,255,255,255,255,255,255,255,255,255,255,255,255,255,0,0,0,1,14,0,0,0,0,2,120,0,0,0,0,0,0,0,0,6,0,0,0,58,0,0,0,0,2,177,45,97,141,0,0,0,0,0,0,0,0,0,0,0,0,0,7,0,0,0,0,0,0,0,7,255,255,255,255,255,255,255,255,255,255,255,255,255,255,0,0,0,1,16,0,0,0,0,4,121,122,0].length≤4294967296) then bif decide ([0,0,0,0,0,0,0,6,0,0,0,58,0,0,0,0,2,177,45,97,141,0,0,0,0,0,0,0,0,0,0,0,0,0,7,0,0,0,0,0,0,0,7,255,255,255,255,255,255,255,255,255,255,255,255,255,255,0,0,0,1,16,0,0,0,0,4,121,122,0]=[0,0,0,0,0,0,0,6,0,0,0,58,0,0,0,0,2,177,45,97,141,0,0,0,0,0,0,0,0,0,0,0,0,0,7,0,0,0,0,0,0,0,7,255,255,255,255,255,255,255,255,255,255,255,255,255,255,0,0,0,1,16,0,0,0,0,4,121,122,0]) then bif (cR [0,0,0,0,0,0,0,5,0,0,0,57,0,0,0,0,2,205,219,161,248,0,0,0,0,0,0,0,0,0,0,0,0,0,7,0,0,0,0,0,0,0,7,255,255,255,255,255,255,255,255,255,255,255,255,255,255,0,0,0,1,14,0,0,0,0,2,120,0,0,0,0,0,0,0,0,6,0,0,0,58,0,0,0,0,2,177,45,97,141,0,0,0,0,0,0,0,0,0,0,0,0,0,7,0,0,0,0,0,0,0,7,255,255,255,255,255,255,255,255,255,255,255,255,255,255,0,0,0,1,16,0,0,0,0,4,121,122,0] 5 3).1 == 5 then bif (cR [0,0,0,0,0,0,0,5,0,0,0,57,0,0,0,0,2,205,219,161,248,0,0,0,0,0,0,0,0,0,0,0,0,0,7,0,0,0,0,0,0,0,7,255,255,255,255,255,255,255,255,255,255,255,255,255,255,0,0,0,1,14,0,0,0,0,2,120,0,0,0,0,0,0,0,0,6,0,0,0,58,0,0,0,0,2,177,45,97,141,0,0,0,0,0,0,0,0,0,0,0,0,0,7,0,0,0,0,0,0,0,7,255,255,255,255,255,255,255,255,255,255,255,255,255,255,0,0,0,1,16,0,0,0,0,4,121,122,0] 5 3).2.1 == 7 then oR (((cR [0,0,0,0,0,0,0,5,0,0,0,57,0,0,0,0,2,205,219,161,248,0,0,0,0,0,0,0,0,0,0,0,0,0,7,0,0,0,0,0,0,0,7,255,255,255,255,255,255,255,255,255,255,255,255,255,255,0,0,0,1,14,0,0,0,0,2,120,0,0,0,0,0,0,0,0,6,0,0,0,58,0,0,0,0,2,177,45,97,141,0,0,0,0,0,0,0,0,0,0,0,0,0,7,0,0,0,0,0,0,0,7,255,255,255,255,255,255,255,255,255,255,255,255,255,255,0,0,0,1,16,0,0,0,0,4,121,122,0] 5 3).2.2,()),()) else oR ((false,()),()) else oR ((false,()),()) else oR ((false,()),()) else none else none else none else none else none else none else none
theorem ED:Io.run tt Ih dr xK fh Tryz.f12 ((),())=rt:=by kernel_rfl
theorem xV:HcOk prog 12 (ah fh oT):=by
 refine bQ (cs:=xj) (.cons OG (.cons LR (.cons Hk (.cons Hj (.cons Hi (.cons An (.cons Am .nil))))))) (lp:=xK) (fn:=Tryz.f12) fh (.done (by kernel_rfl)) oT ?_
 rintro ⟨⟨⟩,⟨⟩⟩ out hw ho
 cases ho
 have e:rt=oR ((true,()),()):=by kernel_rfl
 exact ED.trans e
end
end Go.Proofs.YthpcdhgpplmneaaGreatDoor.Sym
namespace Go.Proofs.YthpcdhgpplmneaaGreatDoor.Sym
open Go
open Go.IntKind (i8 i16 i32 i64 u8 u16 u32 u64)
noncomputable section
abbrev je:Io:=⟨[dL,cw],[],[],[Gb,Ku],none⟩
def yC (d:je.In):Tr je.Res:=.ite (decide (d.1.1.length≤4294950000)) (.ret (.ret (((aw d.1.1 d.1.2.1).1.map (·.2),(aG d.1.1 d.1.2.1,())),()))) .no
abbrev FK:List (Nat×Hc):=[(71,ah jn yQ),(59,ah jF JS),(23,ah gF te),(72,ah fq oU)]
def Gs:Hd:=bG FK
abbrev dx:Lo:=⟨⟨(.one (.hol (.sl 5 (Ty.int u8)))::bz (.one (.ptr 5 0)::.one (.onl 77 fN 13)::.one (.ptr 7 0)::ai (ai (ai (ai (ai (dm (bz (bk []))))))))),[none,none,none,none,none,some [.onl 46 bZ 2562,hI,hI,hI],none,some [.onl 46 bZ 3586,hI,hI,hI]]⟩,[(.ret,⟨(bz (.one (.onl 77 fN 13)::.one (.ptr 5 0)::ai (ai (ai (ai (ai (ai ([])))))))),[none,none,none,none,none,some [.onl 46 bZ 3586,hI,hI,hI]]⟩),(.exit 0,⟨(.any::bz (.one (.ptr 5 0)::.one (.onl 77 fN 13)::.one (.ptr 7 0)::ai (ai (ai (ai (ai (dm (bz (bk []))))))))),[none,none,none,none,none,some [.onl 46 bZ 2562,hI,hI,hI],none,some [.onl 46 bZ 3586,hI,hI,hI]]⟩)]⟩
def lC (d:dx.st.den):Tr (ap dx.xs):=
 .ite (decide (d.1.2.1.length=0)&&(decide (d.2.2.1.1.length=0)&&(decide (d.2.2.1.2.1=0)&&(decide (d.2.2.1.2.2.2.1=0)&&decide (d.1.1.length≤4294950000)))))
  (.ite (decide ((aw d.1.1 d.2.2.1.2.2.1).2.2.2=0)) (.ret (.pan (.ret ((),(((aw d.1.1 d.2.2.1.2.2.1).1.map (·.2),()),(d.2.1,(((aw d.1.1 d.2.2.1.2.2.1).1.map (·.1),((aw d.1.1 d.2.2.1.2.2.1).2.1,((aw d.1.1 d.2.2.1.2.2.1).2.2.1,(0,())))),())))))))
   (.ret (.ret ((),(((aw d.1.1 d.2.2.1.2.2.1).1.map (·.2),()),(((aw d.1.1 d.2.2.1.2.2.1).1.map (·.1),((aw d.1.1 d.2.2.1.2.2.1).2.1,((aw d.1.1 d.2.2.1.2.2.1).2.2.1,((aw d.1.1 d.2.2.1.2.2.1).2.2.2,())))),())))))) .no
def sS:Lp:=bM [(4,aD dx lC)]
def rY {R:Type}(h2:LI)(h3:List fN.den)(h4:List bZ.den)(h5 h6 h7:Int)(h8:List bZ.den)(h9 h10 h11:Int)(next:LI→List fN.den→List bZ.den→Int→Int→Int→List bZ.den→Int→Int→Int→Option R)(out:ap dx.xs→Option R):Option R:=bif decide (h9<(↑h2.length:Int)) then bif (aj h2 h9).2 != 0 then out (.ret ((),((h3,()),((h8,(h9,(h10,((aj h2 h9).2,())))),())))) else bif decide (h2.length≤4294967296) then bif decide ((List.drop h9.toNat (List.take (i64.wrap (h9+(aj h2 h9).1)).toNat h2)).length≤4294960000) then bif (ao (List.drop h9.toNat (List.take (i64.wrap (h9+(aj h2 h9).1)).toNat h2))).2 != 0 then out (.ret ((),((h3,()),((h8,(h9,(h10,((ao (List.drop h9.toNat (List.take (i64.wrap (h9+(aj h2 h9).1)).toNat h2))).2,())))),())))) else bif (ao (List.drop h9.toNat (List.take (i64.wrap (h9+(aj h2 h9).1)).toNat h2))).1.1 != h10 then out (.ret ((),((h3,()),((h8,(h9,(h10,(190,())))),())))) else bif decide (h8.length+1≤4294967296) then bif decide (h3.length+1≤4294967296) then next (h2) (h3++[(ao (List.drop h9.toNat (List.take (i64.wrap (h9+(aj h2 h9).1)).toNat h2))).1]) (h4) (h5) (h6) (h7) (h8++[((ao (List.drop h9.toNat (List.take (i64.wrap (h9+(aj h2 h9).1)).toNat h2))).1.1,(↑(List.length (ao (List.drop h9.toNat (List.take (i64.wrap (h9+(aj h2 h9).1)).toNat h2))).1.2.2.2.2.2.1):Int),h9,(aj h2 h9).1,cj (ao (List.drop h9.toNat (List.take (i64.wrap (h9+(aj h2 h9).1)).toNat h2))).1.2.2.2.2.2.1,(ao (List.drop h9.toNat (List.take (i64.wrap (h9+(aj h2 h9).1)).toNat h2))).1.2.2.1,(ao (List.drop h9.toNat (List.take (i64.wrap (h9+(aj h2 h9).1)).toNat h2))).1.2.2.2.1,(ao (List.drop h9.toNat (List.take (i64.wrap (h9+(aj h2 h9).1)).toNat h2))).1.2.2.2.2.1,())]) (i64.wrap (h9+(aj h2 h9).1)) (i64.wrap (h10+(↑(List.length (ao (List.drop h9.toNat (List.take (i64.wrap (h9+(aj h2 h9).1)).toNat h2))).1.2.2.2.2.2.1):Int))) (h11) else none else none else none else none else out (.pan (.ret ((),((h3,()),((h4,(h5,(h6,(h7,())))),((h8,(h9,(h10,(h11,())))),()))))))
def mN (n:Nat)(h2:LI)(h3:List fN.den)(h4:List bZ.den)(h5 h6 h7:Int)(h8:List bZ.den)(h9 h10 h11:Int):Option (ap dx.xs):=fJ tt Gs dr sS 0 Tryz.f52 (bP Tryz.f52 0) n (dx.st.mk' ((h2,(h3,())),((h4,(h5,(h6,(h7,())))),((h8,(h9,(h10,(h11,())))),())))) (bt dx.xs)
theorem Jg (n:Nat)(h2:LI)(h3:List fN.den)(h4:List bZ.den)(h5 h6 h7:Int)(h8:List bZ.den)(h9 h10 h11:Int):mN (n+1) h2 h3 h4 h5 h6 h7 h8 h9 h10 h11=rY h2 h3 h4 h5 h6 h7 h8 h9 h10 h11 (mN n) some:=by kernel_rfl
def AB (W:List (bj×bR)×Int×Int×Int)(out:List bR)(es x4:List bj)(x5 x6 x7:Int):ap dx.xs:=
 if W.2.2.2=0 then .pan (.ret ((),((out++W.1.map (·.2),()),((x4,(x5,(x6,(x7,())))),((es++W.1.map (·.1),(W.2.1,(W.2.2.1,(0,())))),()))))) else .ret ((),((out++W.1.map (·.2),()),((es++W.1.map (·.1),(W.2.1,(W.2.2.1,(W.2.2.2,())))),())))
theorem IH (p q:Int)(out:List bR)(es x4:List bj)(x5 x6 x7:Int):AB ([],p,q,0) out es x4 x5 x6 x7=.pan (.ret ((),((out,()),((x4,(x5,(x6,(x7,())))),((es,(p,(q,(0,())))),()))))):=by
 unfold AB;rw[if_pos rfl];simp
theorem qW {w':Int}(h:w'≠0)(p q:Int)(out:List bR)(es x4:List bj)(x5 x6 x7:Int):AB ([],p,q,w') out es x4 x5 x6 x7=.ret ((),((out,()),((es,(p,(q,(w',())))),()))):=by
 unfold AB;rw[if_neg h];simp
theorem IG (e:bj)(x:bR)(W:List (bj×bR)×Int×Int×Int)(out:List bR)(es x4:List bj)(x5 x6 x7:Int):AB ((e,x)::W.1,W.2) out es x4 x5 x6 x7=AB W (out++[x]) (es++[e]) x4 x5 x6 x7:=by
 unfold AB;simp
theorem Cq (b:LI)(hb:aZ b)(hl:b.length≤4294950000)(x4:List bj)(x5 x6 x7:Int):∀(k:Nat) (p q:Int) (out:List bR) (es:List bj),0≤p→p≤b.length→(b.length:Int)<p+k→61*(es.length:Int)≤p→out.length=es.length→
  mN k b out x4 x5 x6 x7 es p q 0=some (AB (bN b k p q) out es x4 x5 x6 x7):=by
 intro k
 induction k with
 |zero=>intro p q out es h0 h1 h2;omega
 |succ k ih=>
  intro p q out es h0 h1 h2 h3 h4
  rw[Jg]
  unfold rY bN
  by_cases c1:p<b.length
  rotate_left
  ·refine bF (decide_eq_false c1) ?_
   rw[if_pos (by omega),IH]
  refine bT (decide_eq_true c1) ?_
  rw[if_neg (by omega:¬(b.length:Int)≤p)]
  by_cases c2:(aj b p).2=0
  rotate_left
  ·refine bT (by simpa using c2) ?_
   rw[if_pos c2,qW c2]
  refine bF (by rw[c2];rfl) ?_
  rw[if_neg (fun h=>h c2)]
  have hm:=fk c2
  have hx:=fU (gQ hb p.toNat (aj b p).1.toNat)
  generalize (aj b p).1=m at *
  have hd:List.drop p.toNat (List.take (p+m).toNat b)=(b.drop p.toNat).take m.toNat:=by
   rw[List.drop_take,show (p+m).toNat - p.toNat=m.toNat by omega]
  rw[ae (n:=p+m) (by omega) (by omega),hd]
  refine bT (decide_eq_true (by omega)) ?_
  refine bT (decide_eq_true (by rw[List.length_take,List.length_drop];omega)) ?_
  generalize ao ((b.drop p.toNat).take m.toNat)=D at *
  obtain ⟨⟨(x1:Int),(x2:Int),(x3:Int),(y4:Int),(y5:Int),(rs:List bm),⟨⟩⟩,(z:Int)⟩:=D
  by_cases c3:z=0
  rotate_left
  ·refine bT (by simpa using c3) ?_
   rw[if_pos c3,qW c3]
  refine bF (by simpa using c3) ?_
  rw[if_neg (fun h=>h c3)]
  obtain ⟨z1,z2,z3,z4⟩:=hx c3
  have z1:0≤x1:=z1
  have z2:x1≤4611686018427387648:=z2
  have z4:rs.length≤256:=z4
  by_cases c4:x1=q
  rotate_left
  ·refine bT (by simpa using c4) ?_
   rw[if_pos c4,qW (show (190:Int)≠0 by decide)]
  refine bF (by simpa using c4) ?_
  rw[if_neg (fun h=>h c4)]
  refine bT (decide_eq_true (by show es.length+1≤4294967296;omega)) ?_
  refine bT (decide_eq_true (by show out.length+1≤4294967296;omega)) ?_
  show mN k b (out++[(x1,(x2,(x3,(y4,(y5,(rs,()))))))]) x4 x5 x6 x7 (es++[(x1,((rs.length:Int),(p,(m,(cj rs,(x3,(y4,(y5,()))))))))]) (p+m) (i64.wrap (q+(rs.length:Int))) 0=_
  rw[ae (n:=q+(rs.length:Int)) (by omega) (by omega)]
  refine (ih (p+m) (q+(rs.length:Int)) _ _ (by omega) (by omega) (by omega) (by rw[zH,List.length_singleton];push_cast;omega) (by rw[zH,zH,List.length_singleton,List.length_singleton,h4])).trans ?_
  exact congrArg some (IG _ _ _ out es x4 x5 x6 x7).symm
def wE (a0:LI)(a1:Int):Option je.Res:=(lC ((a0,([],())),(([],(0,(0,(0,())))),(([],(0,(a1,(0,())))),())))).run fun y=>match y with | .ret ((),((x46,()),(x47,x48,x49,x50,()),()))=>(oR ((x46,(x47,x48,x49,x50,()),()),())) | .pan (.ret ((),((x51,()),(x52,x53,x54,x55,()),(x56,x57,x58,x59,()),())))=>(oR ((x51,(x56,x57,x58,x59,()),()),()))
theorem Mo (a0:LI)(a1:Int):Io.run tt Gs dr sS je Tryz.f52 ((a0,a1,()),())=wE a0 a1:=by kernel_rfl
theorem xy:HcsOk prog FK:=.cons Hv (.cons Ql (.cons Am (.cons uN .nil)))
theorem Hn:HcOk prog 52 (ah je yC):=by
 refine bQ xy (lp:=sS) (fn:=Tryz.f52) je (.step (h0:=aD dx lC) (by kernel_rfl) (f9 xy (lp:=sS) (fn:=Tryz.f52) (.done (by kernel_rfl)) dx lC ?_) (.done (by kernel_rfl))) yC ?_
 ·rintro ⟨⟨(b:LI),(out:List bR),⟨⟩⟩,⟨⟨(x4:List bj),(x5:Int),(x6:Int),(x7:Int),⟨⟩⟩,⟨(es:List bj),(p:Int),(q:Int),(w:Int),⟨⟩⟩,⟨⟩⟩⟩ y hw hy
  obtain ⟨hg,hy⟩:=Tr.guard hy
  simp only[zA,zB] at hg
  obtain ⟨h1,h2,h3,h4,h5⟩:=hg
  have h1:out=[]:=zF h1
  have h2:es=[]:=zF h2
  have h3:p=0:=h3
  have h4:w=0:=h4
  have h5:b.length≤4294950000:=h5
  subst h1 h2 h3 h4
  refine ⟨b.length+1,(Cq b (bytesOf hw.1.1) h5 x4 x5 x6 x7 (b.length+1) 0 q [] [] (by omega) (by omega) (by omega) (by simp) rfl).trans ?_⟩
  unfold AB
  show some (if (aw b q).2.2.2=0 then _ else _)=_
  by_cases c:(aw b q).2.2.2=0
  ·rw[if_pos c]
   exact ((aa (decide_eq_true c) _ _).symm.trans hy)
  ·rw[if_neg c]
   exact ((af (decide_eq_false c) _ _).symm.trans hy)
 ·rintro ⟨⟨(b:LI),(q:Int),⟨⟩⟩,⟨⟩⟩ out hw ho
  obtain ⟨hg,ho⟩:=Tr.guard ho
  cases ho
  refine (Mo b q).trans ?_
  unfold wE lC
  refine bT (by simp only[zA,zB];exact ⟨rfl,rfl,trivial,trivial,of_decide_eq_true hg⟩) ?_
  by_cases c:(aw b q).2.2.2=0
  ·refine bT (decide_eq_true c) ?_
   show oR (((aw b q).1.map (·.2),(((aw b q).1.map (·.1),((aw b q).2.1,((aw b q).2.2.1,(0,())))),())),())=oR (((aw b q).1.map (·.2),(((aw b q).1.map (·.1),((aw b q).2.1,((aw b q).2.2.1,((aw b q).2.2.2,())))),())),())
   rw[c]
  ·exact af (decide_eq_false c) _ _
abbrev kx:Io:=⟨[dL,cw],[],[],[Ku],none⟩
def DK (d:kx.In):Tr kx.Res:=.ite (decide (d.1.1.length≤4294950000)) (.ret (.ret ((aG d.1.1 d.1.2.1,()),()))) .no
abbrev FM:List (Nat×Hc):=[(52,ah je yC)]
def NQ:Hd:=bG FM
def GP:Lp:=bM []
def wG (a0:LI)(a1:Int):Option kx.Res:=bif decide (a0.length≤4294950000) then oR ((aG a0 a1,()),()) else none
theorem Mq (a0:LI)(a1:Int):Io.run tt NQ dr GP kx Tryz.f20 ((a0,a1,()),())=wG a0 a1:=by kernel_rfl
theorem OA:HcOk prog 20 (ah kx DK):=by
 refine bQ (cs:=FM) (.cons Hn .nil) (lp:=GP) (fn:=Tryz.f20) kx (.done (by kernel_rfl)) DK ?_
 rintro ⟨⟨(b:LI),(q:Int),⟨⟩⟩,⟨⟩⟩ out hw ho
 obtain ⟨hg,ho⟩:=Tr.guard ho
 cases ho
 refine (Mq b q).trans ?_
 unfold wG
 exact aa hg _ _
abbrev kw:Io:=⟨[dL,cw,cw],[],[],[cw,cw,dB],none⟩
def DJ (d:kw.In):Tr kw.Res:=.ite (decide (d.1.1.length≤4294950000)) (.ret (.ret (((cR d.1.1 d.1.2.1 d.1.2.2.1).1,((cR d.1.1 d.1.2.1 d.1.2.2.1).2.1,((cR d.1.1 d.1.2.1 d.1.2.2.1).2.2,()))),()))) .no
abbrev FL:List (Nat×Hc):=[(52,ah je yC)]
def zh:Hd:=bG FL
abbrev dY:Lo:=⟨⟨(bk (.one hI::bz (bk (.one (.hol (.sl 77 fN))::.any::.one hI::.one hI::.any::ai (ai (ai [])))))),[]⟩,[(.ret,⟨(bz (bk (.one hI::.one hI::.one hL::.any::ai (ai (ai (bz [])))))),[]⟩),(.exit 2,⟨(bk (.one hI::bz (bk (.one (.hol (.sl 77 fN))::.any::.one hI::ai (ai (ai (bk []))))))),[]⟩)]⟩
abbrev dX:Lo:=⟨⟨(bk (.one hI::bz (bk (.one (.hol (.sl 77 fN))::.any::.one hI::ai (ai (ai (bk []))))))),[]⟩,[(.ret,⟨(bz (bk (.one hI::.one hI::.one hL::.any::ai (ai (ai (bz [])))))),[]⟩),(.exit 0,⟨(ai (ai (ai (dm (bz (bk [])))))),[]⟩)]⟩
def bf (time:Int)(xs:List bR)(f:Int×Int×Bool):Int×Int×Bool:=xs.foldl (fun f x=>aB time x.1 x.2.2.2.2.2.1 0 f) f
def vj (bs:List bR):Bool:=bs.all fun x=>fD x
def cT:bR:=(0,0,0,0,0,[],())
def lE (d:dY.st.den):Tr (ap dY.xs):=
 .ite (decide (d.1.2.2.2.1=0)&&(decide (0≤d.1.2.2.1)&&(decide (d.1.2.2.1<(d.1.2.1.length:Int))&&vj d.1.2.1)))
  (.ite (aB d.1.1 (List.getD d.1.2.1 d.1.2.2.1.toNat cT).1 (List.getD d.1.2.1 d.1.2.2.1.toNat cT).2.2.2.2.2.1 0 (0,0,false)).2.2
   (.ret (.ret ((),(((aB d.1.1 (List.getD d.1.2.1 d.1.2.2.1.toNat cT).1 (List.getD d.1.2.1 d.1.2.2.1.toNat cT).2.2.2.2.2.1 0 (0,0,false)).1,((aB d.1.1 (List.getD d.1.2.1 d.1.2.2.1.toNat cT).1 (List.getD d.1.2.1 d.1.2.2.1.toNat cT).2.2.2.2.2.1 0 (0,0,false)).2.1,(true,()))),()))))
   (.ret (.pan (.ret ((),((d.1.1,(d.1.2.1,(d.1.2.2.1,()))),())))))) .no
def lD (d:dX.st.den):Tr (ap dX.xs):=
 .ite (decide (d.1.2.2.1=0)&&(decide (d.1.2.1.length≤4294960000)&&vj d.1.2.1))
  (.ite (bf d.1.1 d.1.2.1 (0,0,false)).2.2
   (.ret (.ret ((),(((bf d.1.1 d.1.2.1 (0,0,false)).1,((bf d.1.1 d.1.2.1 (0,0,false)).2.1,(true,()))),()))))
   (.ret (.pan (.ret ((),((),())))))) .no
def mU:Lp:=bM [(4,aD dX lD),(7,aD dY lE)]
def r0 {R:Type}(h6:Int)(h7:List fN.den)(h8 h9:Int)(next:Int→List fN.den→Int→Int→Option R)(out:ap dY.xs→Option R):Option R:=bif decide (0≤h8)&&decide (h8<(↑h7.length:Int)) then bif decide (h9<(↑(List.length (h7.getD h8.toNat (0,0,0,0,0,[],())).2.2.2.2.2.1):Int)) then bif decide (0≤h8)&&decide (h8<(↑h7.length:Int)) then bif decide (0≤h9)&&decide (h9<(↑(List.length (h7.getD h8.toNat (0,0,0,0,0,[],())).2.2.2.2.2.1):Int)) then bif decide (h6≤(List.getD (h7.getD h8.toNat (0,0,0,0,0,[],())).2.2.2.2.2.1 h9.toNat (0,(false,[],()),(false,[],()),[],())).1) then bif decide (0≤h8)&&decide (h8<(↑h7.length:Int)) then bif decide (0≤h8)&&decide (h8<(↑h7.length:Int)) then bif decide (0≤h9)&&decide (h9<(↑(List.length (h7.getD h8.toNat (0,0,0,0,0,[],())).2.2.2.2.2.1):Int)) then out (.ret ((),((i64.wrap ((h7.getD h8.toNat (0,0,0,0,0,[],())).1+h9),((List.getD (h7.getD h8.toNat (0,0,0,0,0,[],())).2.2.2.2.2.1 h9.toNat (0,(false,[],()),(false,[],()),[],())).1,(true,()))),()))) else none else none else none else next (h6) (h7) (h8) (i64.wrap (h9+1)) else none else none else out (.pan (.ret ((),((h6,(h7,(h8,()))),())))) else none
def qP (n:Nat)(h6:Int)(h7:List fN.den)(h8 h9:Int):Option (ap dY.xs):=fJ tt zh dr mU 0 Tryz.f19 (E7 Tryz.f19 (bP Tryz.f19 0) 0) n (dY.st.mk' ((h6,(h7,(h8,(h9,())))),())) (bt dY.xs)
theorem Ji (n:Nat)(h6:Int)(h7:List fN.den)(h8 h9:Int):qP (n+1) h6 h7 h8 h9=r0 h6 h7 h8 h9 (qP n) some:=by kernel_rfl
def rZ {R:Type}(h3:Int)(h4:List fN.den)(h5:Int)(next:Int→List fN.den→Int→Option R)(out:ap dX.xs→Option R):Option R:=bif decide (h5<(↑h4.length:Int)) then (lE ((h3,(h4,(h5,(0,())))),())).run fun y=>match y with | .ret ((),((x20,x21,x22,()),()))=>(out (.ret ((),((x20,(x21,(x22,()))),())))) | .pan (.ret ((),((x26,x27,x28,()),())))=>(next (x26) (x27) (i64.wrap (x28+1))) else out (.pan (.ret ((),((),()))))
def mO (n:Nat)(h3:Int)(h4:List fN.den)(h5:Int):Option (ap dX.xs):=fJ tt zh dr mU 0 Tryz.f19 (bP Tryz.f19 0) n (dX.st.mk' ((h3,(h4,(h5,()))),())) (bt dX.xs)
theorem Jh (n:Nat)(h3:Int)(h4:List fN.den)(h5:Int):mO (n+1) h3 h4 h5=rZ h3 h4 h5 (mO n) some:=by kernel_rfl
theorem kg {time base:Int}:∀(rs:List bm) (i:Nat) {f:Int×Int×Bool},f.2.2=true→aB time base rs i f=f
 |[],_,f,_=>rfl
 |r::rs,i,f,h=>by
  unfold aB
  rw[if_neg (fun c=>by rw[h] at c;cases c.1)]
  exact kg rs (i+1) h
theorem uh {time base:Int}:∀(rs:List bm) (i:Nat) {f:Int×Int×Bool},(aB time base rs i f).2.2=false→aB time base rs i f=f
 |[],_,f,_=>rfl
 |r::rs,i,f,h=>by
  unfold aB at h ⊢
  by_cases c:f.2.2=false∧time≤r.1
  ·rw[if_pos c,kg rs (i+1) rfl] at h;cases h
  ·rw[if_neg c] at h ⊢
   exact uh rs (i+1) h
theorem rC {time:Int}:∀(bs:List bR) {f:Int×Int×Bool},f.2.2=true→bf time bs f=f
 |[],f,_=>rfl
 |x::bs,f,h=>by
  show bf time bs (aB time x.1 x.2.2.2.2.2.1 0 f)=f
  rw[kg _ _ h]
  exact rC bs h
theorem xq {time:Int}:∀(bs:List bR) {f:Int×Int×Bool},(bf time bs f).2.2=false→bf time bs f=f
 |[],f,_=>rfl
 |x::bs,f,h=>by
  have e:bf time (x::bs) f=bf time bs (aB time x.1 x.2.2.2.2.2.1 0 f):=rfl
  rw[e] at h ⊢
  have h1:=xq bs h
  rw[h1] at h ⊢
  exact uh _ _ h
theorem Cs (time:Int)(bs:List bR)(i:Nat)(hi:i<bs.length)(x:bR)(hx:bs[i]=x)(hk:fD x=true):∀(k j:Nat),x.2.2.2.2.2.1.length<j+k→j≤x.2.2.2.2.2.1.length→
  qP k time bs i j=some (if (aB time x.1 (x.2.2.2.2.2.1.drop j) j (0,0,false)).2.2=true then .ret ((),(((aB time x.1 (x.2.2.2.2.2.1.drop j) j (0,0,false)).1,((aB time x.1 (x.2.2.2.2.2.1.drop j) j (0,0,false)).2.1,(true,()))),())) else .pan (.ret ((),((time,(bs,((i:Int),()))),())))):=by
 unfold fD at hk
 simp only[zA,zB] at hk
 obtain ⟨hk1,hk2,hk3⟩:=hk
 intro k
 induction k with
 |zero=>intro j h;omega
 |succ k ih=>
  intro j h1 h2
  rw[Ji]
  unfold r0
  have e:List.getD bs (i:Int).toNat (0,0,0,0,0,[],())=x:=by rw[zG,aA hi,hx]
  have q1:(decide ((0:Int)≤(i:Int))&&decide ((i:Int)<(bs.length:Int)))=true:=by simpa using hi
  rw[e]
  refine (aa q1 _ _).trans ?_
  by_cases hj:j<x.2.2.2.2.2.1.length
  rotate_left
  ·refine bF (decide_eq_false (by omega)) ?_
   rw[zI (by omega)]
   rfl
  have q2:(decide ((0:Int)≤(j:Int))&&decide ((j:Int)<(x.2.2.2.2.2.1.length:Int)))=true:=by simpa using hj
  refine bT (decide_eq_true (by omega)) ?_
  refine (aa q1 _ _).trans ?_
  refine (aa q2 _ _).trans ?_
  have e1:List.getD x.2.2.2.2.2.1 (j:Int).toNat (0,(false,[],()),(false,[],()),[],())=x.2.2.2.2.2.1[j]:=by rw[zG,aA hj]
  rw[e1,zE hj,ae (n:=(j:Int)+1) (by omega) (by omega)]
  have e2:aB time x.1 (x.2.2.2.2.2.1[j]::x.2.2.2.2.2.1.drop (j+1)) j (0,0,false)=aB time x.1 (x.2.2.2.2.2.1.drop (j+1)) (j+1) (if false=false∧time≤(x.2.2.2.2.2.1[j]).1 then (x.1+j,(x.2.2.2.2.2.1[j]).1,true) else (0,0,false)):=rfl
  rw[e2]
  by_cases c:time≤(x.2.2.2.2.2.1[j]).1
  ·refine bT (decide_eq_true c) ?_
   refine (aa q1 _ _).trans ?_
   refine (aa q1 _ _).trans ?_
   refine (aa q2 _ _).trans ?_
   rw[if_pos (⟨rfl,c⟩:false=false∧_),kg _ _ rfl,ae (n:=x.1+(j:Int)) (by omega) (by omega)]
   rfl
  ·refine bF (decide_eq_false c) ?_
   rw[if_neg (show ¬(false=false∧time≤(x.2.2.2.2.2.1[j]).1) from fun h=>c h.2)]
   exact ih (j+1) (by omega) (by omega)
theorem Cr (time:Int)(bs:List bR)(hl:bs.length≤4294960000)(hk:vj bs=true):∀(k i:Nat),bs.length<i+k→i≤bs.length→
  mO k time bs i=some (if (bf time (bs.drop i) (0,0,false)).2.2=true then .ret ((),(((bf time (bs.drop i) (0,0,false)).1,((bf time (bs.drop i) (0,0,false)).2.1,(true,()))),())) else .pan (.ret ((),((),())))):=by
 intro k
 induction k with
 |zero=>intro i h;omega
 |succ k ih=>
  intro i h1 h2
  rw[Jh]
  unfold rZ
  by_cases hi:i<bs.length
  rotate_left
  ·refine bF (decide_eq_false (by omega)) ?_
   rw[zI (by omega)]
   rfl
  refine bT (decide_eq_true (by omega)) ?_
  unfold lE
  refine bT (by simp only[zA,zB];exact ⟨trivial,by show (0:Int)≤(i:Int);omega,by show (i:Int)<(bs.length:Int);omega,hk⟩) ?_
  have e:List.getD bs (i:Int).toNat cT=bs[i]:=by rw[zG,aA hi]
  show (bif (aB time (List.getD bs (i:Int).toNat cT).1 (List.getD bs (i:Int).toNat cT).2.2.2.2.2.1 0 (0,0,false)).2.2 then
   some (.ret ((),(((aB time (List.getD bs (i:Int).toNat cT).1 (List.getD bs (i:Int).toNat cT).2.2.2.2.2.1 0 (0,0,false)).1,((aB time (List.getD bs (i:Int).toNat cT).1 (List.getD bs (i:Int).toNat cT).2.2.2.2.2.1 0 (0,0,false)).2.1,(true,()))),())))
   else mO k time bs (i64.wrap ((i:Int)+1)))=_
  rw[e,zE hi,ae (n:=(i:Int)+1) (by omega) (by omega)]
  have e2:bf time (bs[i]::bs.drop (i+1)) (0,0,false)=bf time (bs.drop (i+1)) (aB time (bs[i]).1 (bs[i]).2.2.2.2.2.1 0 (0,0,false)):=rfl
  rw[e2]
  cases c:(aB time (bs[i]).1 (bs[i]).2.2.2.2.2.1 0 (0,0,false)).2.2 with
  |true=>
   refine (aa rfl _ _).trans ?_
   rw[rC _ c,if_pos c]
  |false=>
   refine (af rfl _ _).trans ?_
   rw[uh _ _ c]
   exact ih (i+1) (by omega) (by omega)
theorem vH {b:LI}(hb:aZ b):∀(k:Nat) (p q:Int),vj ((bN b k p q).1.map (·.2))=true
 |0,p,q=>rfl
 |k+1,p,q=>by
  unfold bN
  split
  ·rfl
  split
  ·rfl
  split
  ·rfl
  rename_i c3
  split
  ·rfl
  have c3:=Classical.byContradiction c3
  have hx:=fU (gQ hb p.toNat (aj b p).1.toNat) c3
  have ih:=vH hb k (p+(aj b p).1) (q+((ao ((b.drop p.toNat).take (aj b p).1.toNat)).1.2.2.2.2.2.1.length:Int))
  show (fD _&&vj _)=true
  rw[zA]
  refine ⟨?_,ih⟩
  unfold fD
  simp only[zA,zB]
  exact ⟨hx.1,hx.2.1,hx.2.2.2⟩
def wF (a0:LI)(a1 a2:Int):Option kw.Res:=bif decide (a0.length≤4294950000) then (lD ((a2,(List.map (fun (x:bj×bR)=>x.2) (aw a0 a1).1,(0,()))),())).run fun y=>match y with | .ret ((),((x32,x33,x34,()),()))=>(oR ((x32,x33,x34,()),())) | .pan (.ret ((),((),())))=>(oR ((0,0,false,()),())) else none
theorem Mp (a0:LI)(a1 a2:Int):Io.run tt zh dr mU kw Tryz.f19 ((a0,a1,a2,()),())=wF a0 a1 a2:=by kernel_rfl
theorem qB:HcsOk prog FL:=.cons Hn .nil
theorem Oz:HcOk prog 19 (ah kw DJ):=by
 refine bQ qB (lp:=mU) (fn:=Tryz.f19) kw (.step (h0:=aD dX lD) (by kernel_rfl) (f9 qB (lp:=mU) (fn:=Tryz.f19) (.step (h0:=aD dY lE) (by kernel_rfl) (f9 qB (lp:=mU) (fn:=Tryz.f19) (.done (by kernel_rfl)) dY lE ?_) (.done (by kernel_rfl))) dX lD ?_) (.done (by kernel_rfl))) DJ ?_
 ·rintro ⟨⟨(time:Int),(bs:List bR),(i:Int),(j:Int),⟨⟩⟩,⟨⟩⟩ y hw hy
  obtain ⟨hg,hy⟩:=Tr.guard hy
  simp only[zA,zB] at hg
  obtain ⟨h0,h1,h2,h3⟩:=hg
  have h0:j=0:=h0
  have h1:0≤i:=h1
  have h2:i<(bs.length:Int):=h2
  subst h0
  obtain ⟨m,rfl⟩:=Int.eq_ofNat_of_zero_le h1
  have hm:m<bs.length:=by omega
  have hk:=List.all_eq_true.1 h3 bs[m] (List.getElem_mem hm)
  have e:List.getD bs (m:Int).toNat cT=bs[m]:=by rw[zG,aA hm]
  refine ⟨(bs[m]).2.2.2.2.2.1.length+1,(Cs time bs m hm bs[m] rfl hk ((bs[m]).2.2.2.2.2.1.length+1) 0 (by omega) (Nat.zero_le _)).trans ?_⟩
  rw[List.drop_zero]
  have hy:(bif (aB time (List.getD bs (m:Int).toNat cT).1 (List.getD bs (m:Int).toNat cT).2.2.2.2.2.1 0 (0,0,false)).2.2 then
   some (.ret ((),(((aB time (List.getD bs (m:Int).toNat cT).1 (List.getD bs (m:Int).toNat cT).2.2.2.2.2.1 0 (0,0,false)).1,((aB time (List.getD bs (m:Int).toNat cT).1 (List.getD bs (m:Int).toNat cT).2.2.2.2.2.1 0 (0,0,false)).2.1,(true,()))),())))
   else some (.pan (.ret ((),((time,(bs,((m:Int),()))),())))))=some y:=hy
  rw[e] at hy
  rw[← hy]
  cases (aB time (bs[m]).1 (bs[m]).2.2.2.2.2.1 0 (0,0,false)).2.2 <;> rfl
 ·rintro ⟨⟨(time:Int),(bs:List bR),(i:Int),⟨⟩⟩,⟨⟩⟩ y hw hy
  obtain ⟨hg,hy⟩:=Tr.guard hy
  simp only[zA,zB] at hg
  obtain ⟨h0,h1,h2⟩:=hg
  have h0:i=0:=h0
  have h1:bs.length≤4294960000:=h1
  subst h0
  refine ⟨bs.length+1,(Cr time bs h1 h2 (bs.length+1) 0 (by omega) (Nat.zero_le _)).trans ?_⟩
  rw[List.drop_zero]
  have hy:(bif (bf time bs (0,0,false)).2.2 then some (.ret ((),(((bf time bs (0,0,false)).1,((bf time bs (0,0,false)).2.1,(true,()))),()))) else some (.pan (.ret ((),((),())))))=some y:=hy
  rw[← hy]
  cases (bf time bs (0,0,false)).2.2 <;> rfl
 ·rintro ⟨⟨(b:LI),(base:Int),(time:Int),⟨⟩⟩,⟨⟩⟩ out hw ho
  obtain ⟨hg,ho⟩:=Tr.guard ho
  have hg2:b.length≤4294950000:=of_decide_eq_true hg
  cases ho
  have hb:aZ b:=bytesOf hw.1.1
  refine (Mp b base time).trans ?_
  unfold wF
  refine bT (decide_eq_true hg2) ?_
  obtain ⟨ht,_,t2⟩:=qj hb base
  have hlen:=ht.len (by omega)
  rw[List.length_map] at hlen
  have ef:bf time ((aw b base).1.map (·.2)) (0,0,false)=cR b base time:=by
   unfold bf cR bE
   rw[List.foldl_map]
  unfold lD
  refine bT (by simp only[zA,zB];exact ⟨trivial,by show ((aw b base).1.map (·.2)).length≤4294960000;rw[List.length_map];omega,vH hb _ _ _⟩) ?_
  show (bif (bf time ((aw b base).1.map (·.2)) (0,0,false)).2.2 then oR (((bf time ((aw b base).1.map (·.2)) (0,0,false)).1,((bf time ((aw b base).1.map (·.2)) (0,0,false)).2.1,(true,()))),()) else oR ((0,(0,(false,()))),()))=oR (((cR b base time).1,((cR b base time).2.1,((cR b base time).2.2,()))),())
  cases c:(bf time ((aw b base).1.map (·.2)) (0,0,false)).2.2 with
  |true=>
   refine (aa rfl _ _).trans ?_
   rw[ef] at c ⊢
   rw[c]
  |false=>
   refine (af rfl _ _).trans ?_
   have h:=xq _ c
   rw[ef] at h
   rw[h]
def fa (b:LI)(x y:Int):LI:=(b.take y.toNat).drop x.toNat
theorem vg (b:LI){x y:Int}(h0:0≤x)(h1:x≤y)(h2:y≤b.length):((fa b x y).length:Int)=y - x:=by
 unfold fa
 rw[List.length_drop,List.length_take];omega
theorem Qr (b:LI){x y z:Int}(h0:0≤x)(h1:x≤y)(h2:y≤z)(h3:z≤b.length):fa b x y++fa b y z=fa b x z:=by
 unfold fa
 obtain ⟨x,rfl⟩:=Int.eq_ofNat_of_zero_le h0
 obtain ⟨y,rfl⟩:=Int.eq_ofNat_of_zero_le (Int.le_trans h0 h1)
 obtain ⟨z,rfl⟩:=Int.eq_ofNat_of_zero_le (Int.le_trans (Int.le_trans h0 h1) h2)
 simp only[Int.ofNat_eq_natCast,zG] at *
 rw[List.drop_take,List.drop_take,List.drop_take]
 have e1:z - x=(y - x)+(z - y):=by omega
 have e2:b.drop y=(b.drop x).drop (y - x):=by rw[List.drop_drop];congr 1;omega
 rw[e1,e2,List.take_add]
abbrev jc:Io:=⟨[dL,cw,cw],[],[],[dB],none⟩
def yw (d:jc.In):Tr jc.Res:=.ite (decide (d.1.1.length≤4294950000)) (.ret (.ret ((true,()),()))) .no
abbrev FF:List (Nat×Hc):=[(12,ah fh oT),(13,ah lS Ff),(18,ah iZ yn),(19,ah kw DJ),(16,ah ij yk)]
def NM:Hd:=bG FF
def GL:Lp:=bM []
def wx (a0:LI)(a1 a2:Int):Option jc.Res:=bif decide (a0.length≤4294967000) then bif decide (0≤0)&&(decide (0≤(↑a0.length:Int))&&decide ((↑a0.length:Int)≤(↑(List.length (a0++[13,20,27,34,41,48,55,62,69,76,83,90,97,104,111,118,125,132,139,146,153,160,167,174,181,188,195,202,209,216,223,230,237,244,251,2,9,16,23,30,37,44,51,58,65,72,79,86,93,100,107,114,121,128,135,142,149,156,163,170,177,184,191,198,205,212,219,226,233,240,247,254,5,12,19,26,33,40,47,54,61,68,75,82,89,96,103,110,117,124,131,138,145,152,159,166])):Int))) then bif decide ((List.drop (Int.toNat 0) (List.take (↑a0.length:Int).toNat (a0++[13,20,27,34,41,48,55,62,69,76,83,90,97,104,111,118,125,132,139,146,153,160,167,174,181,188,195,202,209,216,223,230,237,244,251,2,9,16,23,30,37,44,51,58,65,72,79,86,93,100,107,114,121,128,135,142,149,156,163,170,177,184,191,198,205,212,219,226,233,240,247,254,5,12,19,26,33,40,47,54,61,68,75,82,89,96,103,110,117,124,131,138,145,152,159,166]))).length≤4294950000) then bif decide (a0.length≤4294950000) then bif (cR (List.drop (Int.toNat 0) (List.take (↑a0.length:Int).toNat (a0++[13,20,27,34,41,48,55,62,69,76,83,90,97,104,111,118,125,132,139,146,153,160,167,174,181,188,195,202,209,216,223,230,237,244,251,2,9,16,23,30,37,44,51,58,65,72,79,86,93,100,107,114,121,128,135,142,149,156,163,170,177,184,191,198,205,212,219,226,233,240,247,254,5,12,19,26,33,40,47,54,61,68,75,82,89,96,103,110,117,124,131,138,145,152,159,166]))) a1 a2).1 == (cR a0 a1 a2).1 then bif (cR (List.drop (Int.toNat 0) (List.take (↑a0.length:Int).toNat (a0++[13,20,27,34,41,48,55,62,69,76,83,90,97,104,111,118,125,132,139,146,153,160,167,174,181,188,195,202,209,216,223,230,237,244,251,2,9,16,23,30,37,44,51,58,65,72,79,86,93,100,107,114,121,128,135,142,149,156,163,170,177,184,191,198,205,212,219,226,233,240,247,254,5,12,19,26,33,40,47,54,61,68,75,82,89,96,103,110,117,124,131,138,145,152,159,166]))) a1 a2).2.1 == (cR a0 a1 a2).2.1 then bif (cR (List.drop (Int.toNat 0) (List.take (↑a0.length:Int).toNat (a0++[13,20,27,34,41,48,55,62,69,76,83,90,97,104,111,118,125,132,139,146,153,160,167,174,181,188,195,202,209,216,223,230,237,244,251,2,9,16,23,30,37,44,51,58,65,72,79,86,93,100,107,114,121,128,135,142,149,156,163,170,177,184,191,198,205,212,219,226,233,240,247,254,5,12,19,26,33,40,47,54,61,68,75,82,89,96,103,110,117,124,131,138,145,152,159,166]))) a1 a2).2.2 == (cR a0 a1 a2).2.2 then bif decide (a0.length≤4294967000) then oR ((decide (a0++[13,20,27,34,41,48,55,62,69,76,83,90,97,104,111,118,125,132,139,146,153,160,167,174,181,188,195,202,209,216,223,230,237,244,251,2,9,16,23,30,37,44,51,58,65,72,79,86,93,100,107,114,121,128,135,142,149,156,163,170,177,184,191,198,205,212,219,226,233,240,247,254,5,12,19,26,33,40,47,54,61,68,75,82,89,96,103,110,117,124,131,138,145,152,159,166]=a0++[13,20,27,34,41,48,55,62,69,76,83,90,97,104,111,118,125,132,139,146,153,160,167,174,181,188,195,202,209,216,223,230,237,244,251,2,9,16,23,30,37,44,51,58,65,72,79,86,93,100,107,114,121,128,135,142,149,156,163,170,177,184,191,198,205,212,219,226,233,240,247,254,5,12,19,26,33,40,47,54,61,68,75,82,89,96,103,110,117,124,131,138,145,152,159,166]),()),()) else none else oR ((false,()),()) else oR ((false,()),()) else oR ((false,()),()) else none else none else none else none
theorem Mh (a0:LI)(a1 a2:Int):Io.run tt NM dr GL jc Tryz.f4 ((a0,a1,a2,()),())=wx a0 a1 a2:=by kernel_rfl
theorem Ot:HcOk prog 4 (ah jc yw):=by
 refine bQ (cs:=FF) (.cons xV (.cons okWide (.cons Hi (.cons Oz (.cons LB .nil))))) (lp:=GL) (fn:=Tryz.f4) jc (.done (by kernel_rfl)) yw ?_
 rintro ⟨⟨(b:LI),(base:Int),(time:Int),⟨⟩⟩,⟨⟩⟩ out hw ho
 obtain ⟨hg,ho⟩:=Tr.guard ho
 have hg:b.length≤4294950000:=of_decide_eq_true hg
 cases ho
 have hb:aZ b:=bytesOf hw.1.1
 have e:∀t:LI,List.drop (Int.toNat 0) (List.take (b.length:Int).toNat (b++t))=b:=by
  intro t
  show List.drop 0 (List.take (b.length:Int).toNat (b++t))=b
  rw[zG,List.drop_zero,List.take_left]
 have sl:∀t:LI,(decide ((0:Int)≤0)&&(decide ((0:Int)≤(b.length:Int))&&decide ((b.length:Int)≤((b++t).length:Int))))=true:=by
  intro t
  simp only[zA,zB,zH];omega
 have g1:decide (b.length≤4294967000)=true:=decide_eq_true (by omega)
 have g2:decide (b.length≤4294950000)=true:=decide_eq_true (by omega)
 refine (Mh b base time).trans ?_
 unfold wx
 rw[e]
 refine (aa g1 _ _).trans ?_
 refine (aa (sl _) _ _).trans ?_
 refine (aa g2 _ _).trans ?_
 refine (aa g2 _ _).trans ?_
 refine (aa (beq_self_eq_true _) _ _).trans ?_
 refine (aa (beq_self_eq_true _) _ _).trans ?_
 refine (aa (beq_self_eq_true _) _ _).trans ?_
 refine (aa g1 _ _).trans ?_
 rw[decide_eq_true rfl]
def JW (b:LI):List bj→Int→Int→Int→Int→Prop
 |[],p,q,p',q'=>p=p'∧q=q'
 |e::es,p,q,p',q'=>(aj b p=(e.2.2.2.1,0)∧(ao ((b.drop p.toNat).take e.2.2.2.1.toNat)).2=0∧(ao ((b.drop p.toNat).take e.2.2.2.1.toNat)).1.1=q∧e=HK (ao ((b.drop p.toNat).take e.2.2.2.1.toNat)).1 p e.2.2.2.1)∧JW b es (p+e.2.2.2.1) (q+e.2.1) p' q'
theorem Dt {b:LI}:∀(k:Nat) (p q:Int),JW b ((bN b k p q).1.map (·.1)) p q (bN b k p q).2.1 (bN b k p q).2.2.1
 |0,p,q=>⟨rfl,rfl⟩
 |k+1,p,q=>by
  unfold bN
  split
  ·exact ⟨rfl,rfl⟩
  split
  ·exact ⟨rfl,rfl⟩
  rename_i c2
  split
  ·exact ⟨rfl,rfl⟩
  rename_i c3
  split
  ·exact ⟨rfl,rfl⟩
  rename_i c4
  exact ⟨⟨Prod.ext rfl (Classical.byContradiction c2),Classical.byContradiction c3,Classical.byContradiction c4,rfl⟩,Dt k _ _⟩
theorem mE {b:LI}(hb:aZ b){e:bj}{es:List bj}{p q p' q':Int}(h:JW b (e::es) p q p' q'):e.1=q∧e.2.2.1=p∧61≤e.2.2.2.1∧p+e.2.2.2.1≤b.length∧0≤p∧1≤e.2.1:=by
 obtain ⟨⟨h1,h2,h3,h4⟩,_⟩:=h
 have hm:=fk (b:=b) (p:=p) (by rw[h1])
 have hx:=fU (gQ hb p.toNat e.2.2.2.1.toNat) h2
 rw[h1] at hm
 have e1:e.1=(ao ((b.drop p.toNat).take e.2.2.2.1.toNat)).1.1:=congrArg (·.1) h4
 have e2:e.2.1=((ao ((b.drop p.toNat).take e.2.2.2.1.toNat)).1.2.2.2.2.2.1.length:Int):=congrArg (·.2.1) h4
 have e3:e.2.2.1=p:=congrArg (·.2.2.1) h4
 simp only at hm
 exact ⟨by omega,e3,hm.1,hm.2.2.1,hm.2.2.2,by omega⟩
theorem vK {b:LI}(hb:aZ b):∀{es:List bj} {p q p' q':Int},JW b es p q p' q'→(∀x∈es,x.1≤q')∧p≤p'∧q≤q'∧(es≠[]→p<p'∧q<q'∧p'≤b.length)
 |[],p,q,p',q',h=>⟨fun x hx=>(by cases hx),(by have:=h.1;omega),(by have:=h.2;omega),fun h=>absurd rfl h⟩
 |e::es,p,q,p',q',h=>by
  obtain ⟨h1,h2,h3,h4,h5,h6⟩:=mE hb h
  obtain ⟨g1,g2,g3,g4⟩:=vK hb h.2
  refine ⟨fun x hx=>?_,by omega,by omega,fun _=>⟨by omega,by omega,?_⟩⟩
  ·rcases List.mem_cons.1 hx with rfl | hx
   ·omega
   ·exact g1 x hx
  ·cases es with
   |nil=>have:=h.2.1;omega
   |cons y ys=>exact (g4 (by simp)).2.2
theorem HI (b:LI){x p y:Int}{n:Nat}(h0:0≤x)(h1:x≤p)(h2:p+n≤y):((fa b x y).drop (p - x).toNat).take n=(b.drop p.toNat).take n:=by
 unfold fa
 rw[List.drop_drop,List.drop_take,List.take_take,show x.toNat+(p - x).toNat=p.toNat by omega,Nat.min_eq_left (by omega)]
theorem Oh (b:LI){x p y m:Int}(h:aj b p=(m,0))(h0:0≤x)(h1:x≤p)(h2:p+m≤y)(h3:y≤b.length):aj (fa b x y) (p - x)=(m,0):=by
 have hm:=fk (b:=b) (p:=p) (by rw[h])
 rw[h] at hm
 simp only at hm
 have hl:=vg b h0 (by omega) h3
 have e:ar (fa b x y) ((p - x).toNat+8) 4=ar b (p.toNat+8) 4:=by
  unfold ar
  have:=HI b (x:=x) (p:=p+8) (y:=y) (n:=4) h0 (by omega) (by omega)
  rw[show (p+8 - x).toNat=(p - x).toNat+8 by omega,show (p+8).toNat=p.toNat+8 by omega] at this
  rw[this]
 unfold aj at h ⊢
 rw[e,hl]
 by_cases c1:p<0∨(b.length:Int)<p
 ·omega
 rw[if_neg c1] at h
 by_cases c2:(b.length:Int) - p<12
 ·rw[if_pos c2] at h;cases h
 rw[if_neg c2] at h
 by_cases c3:ar b (p.toNat+8) 4<49
 ·rw[if_pos c3] at h;cases h
 rw[if_neg c3] at h
 by_cases c4:35988<ar b (p.toNat+8) 4
 ·rw[if_pos c4] at h;cases h
 rw[if_neg c4] at h
 by_cases c5:(b.length:Int) - p - 12<ar b (p.toNat+8) 4
 ·rw[if_pos c5] at h;cases h
 rw[if_neg c5] at h
 have hh:ar b (p.toNat+8) 4+12=m:=congrArg (·.1) h
 rw[if_neg (by omega),if_neg (by omega),if_neg c3,if_neg c4,if_neg (by omega),hh]
theorem vI {b:LI}(hb:aZ b){x:Int}(h0:0≤x):∀{es:List bj} {p q p' q':Int},JW b es p q p' q'→x≤p→p'≤b.length→∀k:Nat,p'<p+k→
  (bN (fa b x p') k (p - x) q).1.length=es.length∧(bN (fa b x p') k (p - x) q).2=(p' - x,q',0)
 |es,p,q,p',q',h,h1,h2,0,hk=>by have:=(vK hb h).2.1;omega
 |[],p,q,p',q',h,h1,h2,k+1,hk=>by
  obtain ⟨rfl,rfl⟩:=h
  have hl:=vg b (x:=x) (y:=p) h0 h1 h2
  unfold bN
  rw[if_pos (by omega)]
  exact ⟨rfl,rfl⟩
 |e::es,p,q,p',q',h,h1,h2,k+1,hk=>by
  obtain ⟨a1,a2,a3,a4,a5,a6⟩:=mE hb h
  obtain ⟨_,g2,g3,g4⟩:=vK hb h.2
  obtain ⟨⟨b1,b2,b3,b4⟩,ht⟩:=h
  have hl:=vg b (x:=x) (y:=p') h0 (by omega) h2
  have hM:=Oh b b1 h0 h1 (show p+e.2.2.2.1≤p' by omega) h2
  have hT:=HI b (x:=x) (p:=p) (y:=p') (n:=e.2.2.2.1.toNat) h0 h1 (by omega)
  have e2:e.2.1=((ao ((b.drop p.toNat).take e.2.2.2.1.toNat)).1.2.2.2.2.2.1.length:Int):=congrArg (·.2.1) b4
  obtain ⟨i1,i2⟩:=vI hb h0 ht (by omega) h2 k (by omega)
  unfold bN
  rw[if_neg (by omega),hM]
  simp only[hT]
  rw[if_neg (fun h=>h rfl),if_neg (fun h=>h b2),if_neg (fun h=>h b3)]
  rw[← e2,show p - x+e.2.2.2.1=p+e.2.2.2.1 - x by omega]
  refine ⟨?_,i2⟩
  show (bN (fa b x p') k (p+e.2.2.2.1 - x) (q+e.2.1)).1.length+1=es.length+1
  rw[i1]
theorem ug {b:LI}(hb:aZ b)(a most:Int):∀{es:List bj} {p q p' q':Int},JW b es p q p' q'→∃A B qm,es=A++B∧JW b A p q (ci a most es p) qm∧JW b B (ci a most es p) qm p' q'∧((A=[]∧ci a most es p=p)∨ci a most es p - a≤most)
 |[],p,q,p',q',h=>⟨[],[],q,rfl,⟨rfl,rfl⟩,h,.inl ⟨rfl,rfl⟩⟩
 |e::es,p,q,p',q',h=>by
  obtain ⟨a1,a2,a3,a4,a5,a6⟩:=mE hb h
  unfold ci
  by_cases c:most<e.2.2.1+e.2.2.2.1 - a
  ·rw[if_pos c]
   exact ⟨[],e::es,q,rfl,⟨rfl,rfl⟩,h,.inl ⟨rfl,rfl⟩⟩
  ·rw[if_neg c,a2]
   obtain ⟨A,B,qm,i1,i2,i3,i4⟩:=ug hb a most h.2
   refine ⟨e::A,B,qm,by rw[i1];rfl,⟨h.1,i2⟩,i3,.inr ?_⟩
   rcases i4 with ⟨_,h⟩ | h <;> omega
theorem HQ {f:Int}{e:bj}{rest:List bj}(he:e.1≤f)(hr:∀y ys,rest=y::ys→f<y.1):∀{pre:List bj},(∀x∈pre,x.1≤f)→aK f (pre++e::rest)=pre.length+1
 |[],_=>by
  unfold aK
  rw[List.nil_append,List.takeWhile_cons,if_pos (decide_eq_true he)]
  cases rest with
  |nil=>rfl
  |cons y ys=>
   rw[List.takeWhile_cons,if_neg (by have:=hr y ys rfl;simp;omega)]
   rfl
 |x::pre,h=>by
  have ih:=HQ he hr (pre:=pre) fun y hy=>h y (by simp[hy])
  unfold aK at ih ⊢
  rw[List.cons_append,List.takeWhile_cons,if_pos (decide_eq_true (h x (by simp))),zN,ih,zN]
abbrev jd:Io:=⟨[dL,cw,dI],[],[],[dB],none⟩
def yx (d:jd.In):Tr jd.Res:=.ite (decide (d.1.1.length≤4294950000)) (.ret (.ret ((true,()),()))) .no
abbrev FG:List (Nat×Hc):=[(12,ah fh oT),(20,ah kx DK),(21,ah ii td),(15,ah i0 yp),(23,ah gF te),(22,ah jD v9),(24,ah lf AY)]
def Gp:Hd:=bG FG
abbrev dR:Lo:=⟨⟨(.one (.hol (.sl 5 (Ty.int u8)))::.one hI::.one hI::bz (.one (.ptr 7 0)::.one (.onl 5 (Ty.int u8) 17)::.one hI::.one hI::.any::ai (ai (ai (ai (dm (bz []))))))),[none,none,none,none,none,none,none,some [.hol (.sl 46 bZ),hI,hI,hI]]⟩,[(.ret,⟨(bz (bk (.one hL::.any::ai (ai (ai (ai (ai []))))))),[]⟩),(.exit 0,⟨(ai (ai (ai (ai (ai (dm [])))))),[]⟩)]⟩
def Dd (b:LI)(base:Int)(s:Px):Bool:=@decide (s=aG b base) (Classical.propDecidable _)
def lz (d:dR.st.den):Tr (ap dR.xs):=
 .ite (decide (d.1.1.length≤4294950000)&&(decide (d.1.2.2.2.1.length=0)&&(decide (d.1.2.2.2.2.1=d.1.2.1)&&(decide (d.1.2.2.2.2.2.1=0)&&Dd d.1.1 d.1.2.1 d.2.1)))) (.ret (.ret ((),((true,()),())))) .no
def sP:Lp:=bM [(8,aD dR lz)]
def rV {R:Type}(h3:LI)(h4 h5:Int)(h6:LI)(h7 h8:Int)(h9:List bZ.den)(h10 h11 h12:Int)(next:LI→Int→Int→LI→Int→Int→List bZ.den→Int→Int→Int→Option R)(out:ap dR.xs→Option R):Option R:=bif decide (h8≤(↑h9.length:Int)) then bif decide (h3.length≤4294967296) then bif decide (h3.length≤4294950000) then bif (b9 h3 h4 h7 h5).2 != 0 then out (.ret ((),((false,()),()))) else bif h7 == h11 then bif (↑(b9 h3 h4 h7 h5).1.length:Int) == 0 then bif decide (h3.length≤4294967296) then out (.ret ((),((decide (h6=List.drop (Int.toNat 0) (List.take h10.toNat h3)),()),()))) else none else out (.ret ((),((false,()),()))) else bif decide ((b9 h3 h4 h7 h5).1.length≤4294950000) then bif (↑(b9 h3 h4 h7 h5).1.length:Int) == 0 then out (.ret ((),((false,()),()))) else bif (aG (b9 h3 h4 h7 h5).1 h7).2.2.2.1 != 0 then out (.ret ((),((false,()),()))) else bif (↑(List.length (aG (b9 h3 h4 h7 h5).1 h7).1):Int) == 0 then out (.ret ((),((false,()),()))) else bif decide (h5<(↑(b9 h3 h4 h7 h5).1.length:Int)) then bif (↑(List.length (aG (b9 h3 h4 h7 h5).1 h7).1):Int) != 1 then out (.ret ((),((false,()),()))) else bif decide (h6.length+(b9 h3 h4 h7 h5).1.length≤4294967296) then next (h3) (h4) (h5) (h6++(b9 h3 h4 h7 h5).1) ((aG (b9 h3 h4 h7 h5).1 h7).2.2.1) (i64.wrap (h8+1)) (h9) (h10) (h11) (h12) else none else bif decide (h6.length+(b9 h3 h4 h7 h5).1.length≤4294967296) then next (h3) (h4) (h5) (h6++(b9 h3 h4 h7 h5).1) ((aG (b9 h3 h4 h7 h5).1 h7).2.2.1) (i64.wrap (h8+1)) (h9) (h10) (h11) (h12) else none else none else none else none else out (.pan (.ret ((),((),()))))
def mM (n:Nat)(h3:LI)(h4 h5:Int)(h6:LI)(h7 h8:Int)(h9:List bZ.den)(h10 h11 h12:Int):Option (ap dR.xs):=fJ tt Gp dr sP 0 Tryz.f5 (bP Tryz.f5 0) n (dR.st.mk' ((h3,(h4,(h5,(h6,(h7,(h8,())))))),((h9,(h10,(h11,(h12,())))),()))) (bt dR.xs)
theorem Jd (n:Nat)(h3:LI)(h4 h5:Int)(h6:LI)(h7 h8:Int)(h9:List bZ.den)(h10 h11 h12:Int):mM (n+1) h3 h4 h5 h6 h7 h8 h9 h10 h11 h12=rV h3 h4 h5 h6 h7 h8 h9 h10 h11 h12 (mM n) some:=by kernel_rfl
theorem Cm (b:LI)(hb:aZ b)(hl:b.length≤4294950000)(base most len nxt w:Int)(es:List bj)(hes:(aw b base).1.map (·.1)=es)(hlen:(aw b base).2.1=len)(hnx:(aw b base).2.2.1=nxt):∀(k i:Nat) (pre suf:List bj) (p q:Int),es=pre++suf→(∀x∈pre,x.1≤q)→JW b suf p q len nxt→base≤q→0≤p→suf.length<k→i≤pre.length→
  mM k b base most (fa b 0 p) q i es len nxt w=some (.ret ((),((true,()),()))):=by
 have hT:=qj hb base
 rw[hlen] at hT
 have hle:61*(es.length:Int)≤(b.length:Int):=by
  have h1:=hT.1
  rw[hes] at h1
  have:=h1.len (by omega)
  omega
 intro k
 induction k with
 |zero=>intro i pre suf p q _ _ _ _ _ h;omega
 |succ k ih=>
  intro i pre suf p q he hp hW hbq h0 hk hi
  rw[Jd]
  unfold rV
  have hel:es.length=pre.length+suf.length:=by rw[he,zH]
  obtain ⟨w1,w2,w3,w4⟩:=vK hb hW
  refine bT (decide_eq_true (by omega)) ?_
  refine bT (decide_eq_true (by omega)) ?_
  refine bT (decide_eq_true hl) ?_
  cases suf with
  |nil=>
   obtain ⟨rfl,rfl⟩:=hW
   have eS:b9 b base q most=([],0):=by
    unfold b9
    rw[hnx,if_neg (by omega),if_pos rfl]
   rw[eS]
   refine (af rfl _ _).trans ?_
   refine (aa (beq_self_eq_true _) _ _).trans ?_
   refine (aa rfl _ _).trans ?_
   refine bT (decide_eq_true (by omega)) ?_
   have:fa b 0 p=List.drop (Int.toNat 0) (List.take p.toNat b):=rfl
   rw[decide_eq_true this]
  |cons e rest=>
   obtain ⟨a1,a2,a3,a4,a5,a6⟩:=mE hb hW
   obtain ⟨w5,w6,w7⟩:=w4 (by simp)
   have hu:aK q es=pre.length+1:=by
    rw[he]
    refine HQ (by omega) ?_ hp
    rintro y ys rfl
    have:=(mE hb hW.2).1
    omega
   have hg:es.getD (pre.length+1 - 1) eQ=e:=by
    rw[Nat.add_sub_cancel,he,aA (by simp)]
    simp
   have hd:es.drop (pre.length+1)=rest:=by
    rw[he,List.drop_append]
    simp
   have eS:b9 b base q most=(fa b p (ci p most rest (p+e.2.2.2.1)),0):=by
    have e0:b9 b base q most=if q<base∨(aw b base).2.2.1<q then ([],221) else if q=(aw b base).2.2.1 then ([],0) else (fa b ((((aw b base).1.map (·.1)).getD (aK q ((aw b base).1.map (·.1)) - 1) eQ).2.2.1) (ci ((((aw b base).1.map (·.1)).getD (aK q ((aw b base).1.map (·.1)) - 1) eQ).2.2.1) most (((aw b base).1.map (·.1)).drop (aK q ((aw b base).1.map (·.1)))) (((((aw b base).1.map (·.1)).getD (aK q ((aw b base).1.map (·.1)) - 1) eQ).2.2.1)+((((aw b base).1.map (·.1)).getD (aK q ((aw b base).1.map (·.1)) - 1) eQ).2.2.2.1))),0):=rfl
    rw[e0,hes,hnx,if_neg (by omega),if_neg (by omega),hu,hg,hd,a2]
   obtain ⟨A,B,qm,s1,s2,s3,s4⟩:=ug hb p most hW.2
   rw[eS]
   generalize ci p most rest (p+e.2.2.2.1)=E at *
   have hWA:JW b (e::A) p q E qm:=⟨hW.1,s2⟩
   obtain ⟨v1,v2,v3,v4⟩:=vK hb hWA
   obtain ⟨v5,v6,v7⟩:=v4 (by simp)
   have hsl:=vg b (x:=p) (y:=E) h0 (by omega) v7
   have hs0:=vg b (x:=0) (y:=p) (by omega) h0 (by omega)
   obtain ⟨k1,k2⟩:=vI hb h0 hWA (Int.le_refl p) v7 ((fa b p E).length+1) (by omega)
   rw[show p - p=0 by omega] at k1 k2
   have e1:(aG (fa b p E) q).1.length=A.length+1:=by
    show ((bN (fa b p E) ((fa b p E).length+1) 0 q).1.map (·.1)).length=_
    rw[List.length_map,k1];rfl
   have e2:(aG (fa b p E) q).2.2.2.1=0:=congrArg (·.2.2) k2
   have e3:(aG (fa b p E) q).2.2.1=qm:=congrArg (·.2.1) k2
   refine (af rfl _ _).trans ?_
   refine bF (by simp;omega) ?_
   refine bT (decide_eq_true (by show (fa b p E).length≤4294950000;omega)) ?_
   refine bF (by simp only[beq_eq_false_iff_ne];show ((fa b p E).length:Int)≠0;omega) ?_
   refine bF (by rw[e2];rfl) ?_
   refine bF (by rw[e1];simp only[beq_eq_false_iff_ne];omega) ?_
   have hn:mM k b base most (fa b 0 p++fa b p E) ((aG (fa b p E) q).2.2.1) (i64.wrap ((i:Int)+1)) es len nxt w=some (.ret ((),((true,()),()))):=by
    rw[Qr b (Int.le_refl 0) h0 (by omega) v7,e3,ae (n:=(i:Int)+1) (by omega) (by omega)]
    refine ih (i+1) (pre++e::A) B E qm (by rw[he,s1];simp) (fun x hx=>?_) s3 (by omega) (by omega) (by rw[s1,zN,zH] at hk;omega) (by rw[zH,zN];omega)
    rcases List.mem_append.1 hx with hx | hx
    ·have:=hp x hx;omega
    ·exact v1 x hx
   have hll:(fa b 0 p).length+(fa b p E).length≤4294967296:=by omega
   by_cases c:most<((fa b p E).length:Int)
   ·refine bT (decide_eq_true c) ?_
    have hA:A=[]:=by
     rcases s4 with ⟨h,_⟩ | h
     ·exact h
     ·omega
    refine bF (by rw[e1,hA];rfl) ?_
    exact (aa (decide_eq_true hll) _ _).trans hn
   ·refine bF (decide_eq_false c) ?_
    exact (aa (decide_eq_true hll) _ _).trans hn
def wy (a0:LI)(a1 a2:Int):Option jd.Res:=bif decide (a0.length≤4294950000) then (lz ((a0,(a1,(a2,([],(a1,(0,())))))),(((aG a0 a1).1,((aG a0 a1).2.1,((aG a0 a1).2.2.1,((aG a0 a1).2.2.2.1,())))),()))).run fun y=>match y with | .ret ((),((x40,()),()))=>(oR ((x40,()),())) | .pan (.ret ((),((),())))=>(oR ((false,()),())) else none
theorem Mi (a0:LI)(a1 a2:Int):Io.run tt Gp dr sP jd Tryz.f5 ((a0,a1,a2,()),())=wy a0 a1 a2:=by kernel_rfl
theorem xx:HcsOk prog FG:=.cons xV (.cons OA (.cons uK (.cons Hj (.cons Am (.cons An (.cons xR .nil))))))
theorem Ou:HcOk prog 5 (ah jd yx):=by
 refine bQ xx (lp:=sP) (fn:=Tryz.f5) jd (.step (h0:=aD dR lz) (by kernel_rfl) (f9 xx (lp:=sP) (fn:=Tryz.f5) (.done (by kernel_rfl)) dR lz ?_) (.done (by kernel_rfl))) yx ?_
 ·rintro ⟨⟨(b:LI),(base:Int),(most:Int),(out:LI),(q:Int),(i:Int),⟨⟩⟩,⟨⟨(es:List bj),(len:Int),(nxt:Int),(w:Int),⟨⟩⟩,⟨⟩⟩⟩ y hw hy
  obtain ⟨hg,hy2⟩:=Tr.guard hy
  simp only[zA,zB] at hg
  obtain ⟨h1,h2,h3,h4,h5⟩:=hg
  have h1:b.length≤4294950000:=h1
  have h2:out=[]:=zF h2
  have h3:q=base:=h3
  have h4:i=0:=h4
  unfold Dd at h5
  have h5:(es,(len,(nxt,(w,()))))=aG b base:=@of_decide_eq_true _ (Classical.propDecidable _) h5
  subst h2 h3 h4
  have hb:aZ b:=bytesOf hw.1.1
  have hes:(aw b q).1.map (·.1)=es:=congrArg (·.1) h5.symm
  have hle:(aw b q).2.1=len:=congrArg (·.2.1) h5.symm
  have hnx:(aw b q).2.2.1=nxt:=congrArg (·.2.2.1) h5.symm
  have hW:JW b es 0 q len nxt:=by rw[← hes,← hle,← hnx];exact Dt _ _ _
  refine ⟨es.length+1,(Cm b hb h1 q most len nxt w es hes hle hnx (es.length+1) 0 [] es 0 q rfl (fun x hx=>by cases hx) hW (Int.le_refl q) (Int.le_refl 0) (by omega) (Nat.zero_le _)).trans ?_⟩
  rw[← hy2];rfl
 ·rintro ⟨⟨(b:LI),(base:Int),(most:Int),⟨⟩⟩,⟨⟩⟩ out hw ho
  obtain ⟨hg,ho⟩:=Tr.guard ho
  have hg:b.length≤4294950000:=of_decide_eq_true hg
  cases ho
  refine (Mi b base most).trans ?_
  unfold wy
  refine bT (decide_eq_true hg) ?_
  unfold lz
  refine bT (by simp only[zA,zB];exact ⟨hg,rfl,trivial,trivial,@decide_eq_true _ (Classical.propDecidable _) rfl⟩) ?_
  rfl
end
end Go.Proofs.YthpcdhgpplmneaaGreatDoor.Sym
namespace Go.Proofs.YthpcdhgpplmneaaGreatDoor.Sym
open Go
open Go.IntKind (i8 i16 i32 i64 u8 u16 u32 u64)
open Go.ChangeShapes Go.WideShapes Go.ChangeAt Go.RowKit
noncomputable section
abbrev rH:List (String×DataW Unit):=[("leat/crc.rows",Rows.laid_leat_crc_rows)]
theorem PC:Tryz.prog.globalNamed "leat/crc.rows"=some 0:=by kernel_rfl
theorem Rd:(Tryz.prog.globals[0]?).map (·.type)=some ((Tryz.prog.globals[0]?).map (·.type)).get!:=by kernel_rfl
theorem Rg:Tryz.prog.underlying ((Tryz.prog.globals[0]?).map (·.type)).get!=some (.array 16 137):=by kernel_rfl
theorem RC:Tryz.prog.underlying 137=some (.int .u32):=by kernel_rfl
theorem Q2:(Rows.laid_leat_crc_rows:DataW Unit)=.agg (rf.map fun n=>.lit (.int .u32 n)):=by kernel_rfl
set_option maxRecDepth 100000 in
theorem sd {W:World}(h:laidMetH Tryz.prog rH W):oW (S0 W) W:=by
 rw[MakeChecks.laidMetH_plain _ _ _ (by kernel_rfl)] at h
 obtain ⟨ps,⟨g0,t0,cs0,f0,p0,q0,hg0,ht0,hv0,hd0,_,_⟩,_,_⟩:=h
 obtain rfl:=Option.some.inj (PC.symm.trans hg0)
 obtain rfl:=Option.some.inj (Rd.symm.trans ht0)
 obtain ⟨xs,m,rfl,hx,hlen,hn,hel⟩:=DataW.trod_array Rg hd0
 have c1:Tryz.prog.cellsOf 137=1:=by kernel_rfl
 intro g i hg hi
 have hg:g=0:=Nat.eq_of_beq_eq_true hg
 subst hg
 have hi:i<16:=hi
 have key:W.cell? ⟨0,i,none⟩=some (.int .u32 (eY (i:Int))):=by
  have h1:=hel i hi
  have h2:xs[i]?=some xs[i]:=List.getElem?_eq_getElem (by omega)
  rw[h2,c1] at h1
  obtain ⟨k,e1,e2,_⟩:=DataW.trod_int RC h1
  have h3:=World.var?_cell PC hv0 i
  rw[h3]
  have h4:cs0.toList[i]?=some (.int .u32 k):=by
   have:((cs0.toList.drop (i*1)).take 1)[0]?=some (.int .u32 k):=by rw[e1];rfl
   rw[List.getElem?_take] at this
   simpa using this
  have h5:cs0[i]?=some (.int .u32 k):=by simpa using h4
  rw[h5]
  have hk:(rf.map fun n=>(DataW.lit (.int .u32 n):DataW Unit))[i]?=some (.lit (.int .u32 k)):=by
   have hx1:(.agg (rf.map fun n=>.lit (.int .u32 n)):DataW Unit)=.agg (xs.map (·.1)):=Q2.symm.trans (congrArg Prod.fst hx)
   have hx1:=DataW.agg.inj hx1
   rw[hx1,List.getElem?_map,h2]
   simp[e2]
  rw[List.getElem?_map] at hk
  have hs:eY (i:Int)=rf.getD i 0:=rfl
  rw[hs,List.getD_eq_getElem?_getD]
  cases ht:rf[i]? with
  |none=>rw[ht] at hk;cases hk
  |some x=>
   rw[ht] at hk
   simp only[Option.map_some,zC,DataW.lit.injEq,Lit.int.injEq] at hk
   rw[hk.2]
   rfl
 exact ⟨⟨_,key⟩,key⟩
theorem BS (os:Os)(args:Array Value):laidMetH Tryz.prog rH ((World.doorLaid Tryz.prog 400 os).forCall (fun _ _=>0) ⟨#[],args,[]⟩).memory:=
 laidMetH_of_parts3 (fuel:=8) (laidMet_of_run' 8 (by kernel_rfl) (by kernel_rfl)) (by kernel_rfl) (by kernel_rfl)
section
variable {H:Type} {enc:TypeId×Value→H}
theorem ig {a:Assume}{C:Checked}{os:Os}{f:FuncId}{fn:Func}{s:OpenSpec}{k:(H:Type)→List (DataW H)→Bool}(hk:s.cond=some k){F:Stop.Interp}{conds:List PathCond}{apart fresh handsOn again:Bool}{laid:List (String×DataW Unit)}
  (own:ownKnob C.prog.godebug=none) (started:os.Started) (noInit:C.prog.inits.idxOf? f=none) (hfn:C.prog.funcs[f]?=some fn)
  (witness:∃(w:World) (tape:Tape) (i:Input),w.os=os∧(w.forCall tape i).Shaped C.prog∧i.vars=[]∧Input.okWide C.prog (w.forCall tape i) .any w.heap.size f i∧
   ((s.pre enc C.prog fn conds apart (w.forCall tape i).memory i.args∧laidMetH C.prog laid (w.forCall tape i).memory)∧sizedMet enc C.prog fn s apart (w.forCall tape i).memory i.args)∧a.holds C.prog (lone (Frame.enter C.prog f i.args .normal) [] (w.forCall tape i)))
  (contract:∀(W:World) (base:Nat) (args:Array Value) (ds gs:List (DataW H)) (before:List MemPlace),
   (∀(j:Nat) t v,fn.params[j]?=some t→args[j]?=some v→Value.okWide C.prog W .any base t v)→
   DataW.Whole enc C.prog fn.params.toList s.vars apart W args.toList ds gs before→k H (ds++gs)=true→laidMetH C.prog laid W→
   Calls C.prog f args W fun e W'=>∃v,e=.returned v∧(s.at F).post enc C.prog fn apart fresh handsOn again W args v W'):
  ReturnsInHanded a C os f .any (fun w args=>(s.pre enc C.prog fn conds apart w args∧laidMetH C.prog laid w)∧sizedMet enc C.prog fn s apart w args) ((s.at F).post enc C.prog fn apart fresh handsOn again):=by
 refine returnsInHanded_of_calls own started noInit witness ?_
 intro w tape i _ _ _ hok hpre hholds
 obtain ⟨_,_,_,fn',hfn',_,_,_,_,hval⟩:=hok
 have e:fn'=fn:=Option.some.inj (hfn'.symm.trans hfn)
 subst e
 obtain ⟨ds,gs,before,hw,hc,hkk⟩:=(OpenSpec.pre_some hk conds apart _ _).1 hpre.1.1
 have hw':=DataW.Whole.of_heap (w':=w.forCall tape i) (by rfl) hw
 refine (contract (w.forCall tape i) w.heap.size i.args ds gs before hval hw' hkk (hpre.1.2.of_heap (by rfl))).mono fun e W' ⟨v,he,hp⟩=>?_
 subst he
 exact ChangeSpec.post_blind hp
theorem qi {C:Checked}{os:Os}{f:FuncId}{fn:Func}{s:OpenSpec}{k:(H:Type)→List (DataW H)→Bool}(hk:s.cond=some k){apart:Bool}{laid:List (String×DataW Unit)}(w0:World)(args:Array Value)(fuel:Nat)(hos:w0.os=os)
  (hsh:(w0.forCall (fun _ _=>0) ⟨#[],args,[]⟩).Shaped C.prog)
  (hok:Input.okWideB C.prog (w0.forCall (fun _ _=>0) ⟨#[],args,[]⟩) f ⟨#[],args,[]⟩=true)
  {x:List (DataW H)×List (DataW H)×List MemPlace} (hx:DataW.whole enc C.prog (w0.forCall (fun _ _=>0) ⟨#[],args,[]⟩).memory fn.params.toList s.vars apart args.toList fuel=some x)
  (hkk:k H (x.1++x.2.1)=true)
  (hsz:s.bare.sizedB enc C.prog fn apart (w0.forCall (fun _ _=>0) ⟨#[],args,[]⟩).memory args fuel=true)
  (hl:laidMetH C.prog laid (w0.forCall (fun _ _=>0) ⟨#[],args,[]⟩).memory):
  ∃(w:World) (tape:Tape) (i:Input),w.os=os∧(w.forCall tape i).Shaped C.prog∧i.vars=[]∧Input.okWide C.prog (w.forCall tape i) .any w.heap.size f i∧
   ((s.pre enc C.prog fn [] apart (w.forCall tape i).memory i.args∧laidMetH C.prog laid (w.forCall tape i).memory)∧sizedMet enc C.prog fn s apart (w.forCall tape i).memory i.args)∧({}:Assume).holds C.prog (lone (Frame.enter C.prog f i.args .normal) [] (w.forCall tape i)):=
 ⟨w0,fun _ _=>0,⟨#[],args,[]⟩,hos,hsh,(Input.okWide_of_okWideB (base:=0) hok).1,(Input.okWide_of_okWideB hok).2,
  ⟨⟨(OpenSpec.pre_some hk [] apart _ _).2 ⟨x.1,x.2.1,x.2.2,DataW.Whole_of_whole hx,rfl,hkk⟩,hl⟩,sizedMet_of_sizedB hsz⟩,by
  simp only[Assume.holds]
  exact ⟨by simp,by simp,fun _=>Modest.zero,by simp,by simp⟩⟩
end
end
end Go.Proofs.YthpcdhgpplmneaaGreatDoor.Sym
namespace Go.Proofs.YthpcdhgpplmneaaGreatDoor.Sym
open Go
open Go.IntKind (i8 i16 i32 i64 u8 u16 u32 u64)
open Go.ChangeShapes Go.WideShapes Go.ChangeAt Go.RowKit
noncomputable section
theorem RF:ownKnob Tryz.prog.godebug=none:=by kernel_rfl
theorem Rh:laidOutB Tryz.prog=true:=by kernel_rfl
theorem Ri:mapsRowed Tryz.prog=true:=by kernel_rfl
theorem Pq:pG Tryz.prog=true:=by kernel_rfl
theorem wfunc:Tryz.prog.funcs[4]?=some Tryz.f4:=by kernel_rfl
theorem JA (b:Ty.den (bs))(base:Ty.den (.int .i64))(time:Ty.den (.int .i64))(hg:(decide (List.length (α:=Int) b≤4294950000))=true):ah jc yw Unit [nG (bs) b,nG (.int .i64) base,nG (.int .i64) time] 1 ⟨[],[],[]⟩ Cf=some ():=by
 have h:ah jc yw Unit [nG (bs) b,nG (.int .i64) base,nG (.int .i64) time] 1 ⟨[],[],[]⟩ Cf=bif decide (List.length (α:=Int) b≤4294950000) then some () else none:=by kernel_rfl
 rw[h,aa hg]
set_option maxRecDepth 100000 in
theorem vF (H:Type)(enc:TypeId×Value→H)(W:World)(base:Nat)(args:Array Value)(ds gs:List (DataW H))(before:List MemPlace)
  (hval:∀(j:Nat) t v,Tryz.f4.params[j]?=some t→args[j]?=some v→Value.okWide Tryz.prog W .any base t v)
  (hW:DataW.Whole enc Tryz.prog Tryz.f4.params.toList Rows.segFindsSpec.vars false W args.toList ds gs before) (hk:Rows.uptoSmall H (ds++gs)=true) (hL:laidMetH Tryz.prog rH W):
  Calls Tryz.prog 4 args W fun e W'=>∃v,e=.returned v∧Rows.segFindsSpec.post enc Tryz.prog Tryz.f4 false true false false W args v W':=by
 refine pp Ot [bs,.int .i64,.int .i64] (by kernel_rfl) Rh Ri Pq (by decide +kernel) (tb:=4) rfl (by kernel_rfl) rfl (fun ds h=>?_) ?_ base args ds gs before hval hW hk (sd hL)
 ·match ds,h with
  |[_,_,_],_=>rfl
 ·rintro ⟨b,base,time,⟨⟩⟩ hd hw
  refine JA b base time ?_
  refine decide_eq_true ?_
  have:List.length (α:=Int) b≤AV bs b:=Ge (e:=5) (k:=.u8) b
  simp only[Ia] at hd
  omega
set_option maxRecDepth 100000 in
theorem AQ (os:Os)(started:os.Started)(H:Type)(enc:TypeId×Value→H)(F:Stop.Interp):
  ReturnsInHanded {} Tryz.checked os 4 .any (fun w args=>((Rows.OpenSpec.upto Rows.segFindsSpec).pre enc Tryz.prog Tryz.f4 [] false w args∧laidMetH Tryz.prog rH w)∧sizedMet enc Tryz.prog Tryz.f4 (Rows.OpenSpec.upto Rows.segFindsSpec) false w args) (((Rows.OpenSpec.upto Rows.segFindsSpec).at F).post enc Tryz.prog Tryz.f4 false true false false):=by
 refine ig (C:=Tryz.checked) (s:=Rows.OpenSpec.upto Rows.segFindsSpec) (k:=Rows.uptoSmall) (laid:=rH) rfl RF started (by kernel_rfl) wfunc
  (qi (enc:=enc) (C:=Tryz.checked) (os:=os) (s:=Rows.OpenSpec.upto Rows.segFindsSpec) (k:=Rows.uptoSmall) rfl (World.doorLaid Tryz.prog 400 os) #[.slice none 0 0,.int .i64 0,.int .i64 0] 8 rfl (World.shaped_of_RefB (by kernel_rfl) (by kernel_rfl)) (by kernel_rfl)
   (x:=([.nil,.lit (.int .i64 0),.lit (.int .i64 0)],[],[])) (by kernel_rfl) (by kernel_rfl) (by kernel_rfl) (BS os _)) ?_
 intro W base args ds gs before hval hW hk hL
 exact vF H enc W base args ds gs before hval hW hk hL
theorem wSFin_over:Rows.segFindsUptoRow.holds Tryz.pinned (Rows.OpenSpec.upto Rows.segFindsSpec):=
 OpenClaim.holds_of_cond 4 Tryz.f4 rfl rfl rfl rfl rfl rfl rfl ⟨rfl,rfl,rfl,rfl,rfl⟩ rfl rfl rfl rfl rfl (by kernel_rfl) wfunc (by kernel_rfl)
  (of_decide_eq_true (by kernel_rfl)) (by unfold Func.isWrapper;first | (rw[if_pos (by decide +kernel)];kernel_rfl) | (rw[if_neg (by decide +kernel)];exact ⟨rfl,rfl⟩))
  (fun os started H enc _ F=>AQ os started H enc F)
end
end Go.Proofs.YthpcdhgpplmneaaGreatDoor.Sym
open Go in
theorem Go.Proofs.YthpcdhgpplmneaaGreatDoor.segFindsProved:Go.Proofs.YthpcdhgpplmneaaGreatDoor.Rows.SegFindsUptoCardSaid:=
 Claim7.holds_tied_plain_at .later [] [.data] true Rows.segFindsUptoCard.stood.harness true Sym.wSFin_over (fun _ h=>by cases h) (by kernel_rfl) (fun _ h=>by cases h) segFindsUpto_row_tie rfl ⟨rfl,rfl⟩ (by kernel_rfl) rfl
  (fun f fn hf hfn=>by
   obtain rfl:f=4:=Option.some.inj ((show Tryz.prog.funcNamed "leat/leatlaw19.SegFinds"=some 4 by kernel_rfl).symm.trans hf) |>.symm
   obtain rfl:fn=Tryz.f4:=(Option.some.inj (Sym.wfunc.symm.trans hfn)).symm
   exact ⟨by kernel_rfl,fun j t ht=>by
    have hm:t∈Tryz.f4.params.toList:=by simpa using Array.mem_of_getElem? ht
    have hall:(Tryz.f4.params.toList.all fun u=>!Tryz.prog.wantsStandIn u)=true:=by kernel_rfl
    exact (show Tryz.prog.wantsStandIn t=false by simpa using List.all_eq_true.1 hall t hm)⟩)
  (by kernel_rfl)
