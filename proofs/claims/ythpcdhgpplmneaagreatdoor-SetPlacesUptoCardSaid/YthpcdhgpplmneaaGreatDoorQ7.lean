/- set: Split, Decode, Count, Dense, Place; Encode, not packed. -/
import Derived.Test.YthpcdhgpplmneaaGreatDoorTie
import Derived.Test.YthpcdhgpplmneaaGreatDoorCards
import Derived.ProofKit
import Derived.LaidMore
import Derived.OpenShut
import Derived.Stop.Joined
import Derived.Test.YthpcdhgpplmneaaGreatDoorQ6

set_option linter.unusedVariables false
set_option linter.unusedSimpArgs false
namespace Go.Proofs.YthpcdhgpplmneaaGreatDoor.Sym
open Go
open Go.IntKind (i8 i16 i32 i64 u8 u16 u32 u64)
noncomputable section
abbrev gt:Io:=⟨[dL],[],[],[ON,dI],none⟩
def sG (d:gt.In):Tr gt.Res:=.ite (decide (d.1.1.length≤4294960000)) (.ret (.ret (((ar d.1.1).1,(ar d.1.1).2,()),()))) .no
abbrev BR:List (Nat×Hc):=[(67,ah i0 yi),(47,ah dR mE)]
def Cr:Hd:=bI BR
abbrev dh:Lo:=⟨⟨(.one (.hol (.sl 5 (Ty.int u8)))::.any::bk (.one (.onl 22 (Ty.sl 5 (Ty.int u8)) 9)::.one hI::ai (ai (co [])))),[]⟩,[(.ret,⟨(bk (.one (.onl 22 (Ty.sl 5 (Ty.int u8)) 5)::.one hI::ai (ai (co (bk []))))),[]⟩),(.exit 1,⟨(bx (.one (.onl 22 (Ty.sl 5 (Ty.int u8)) 9)::.any::ai (ai (co [])))),[]⟩)]⟩
def jU (d:dh.st.den):Tr (ap dh.xs):=
 .ite (decide (d.1.2.1.length=0)&&(decide (d.1.2.2.1=0)&&decide (d.1.1.length≤65536))) (.ite (decide ((aO d.1.1 10 0 []).2=0)) (.ret (.pan (.ret ((),(((aO d.1.1 10 0 []).1,()),()))))) (.ret (.ret ((),(([],((aO d.1.1 10 0 []).2,())),()))))) .no
def pK:Lp:=bQ [(8,aG dh jU)]
def qk {R:Type}(h1:LI)(h2:List (Ty.sl 5 (Ty.int u8)).den)(h3:Int)(next:LI→List (Ty.sl 5 (Ty.int u8)).den→Int→Option R)(out:ap dh.xs→Option R):Option R:=bif decide (h3<(↑h1.length:Int)) then bif (↑h2.length:Int) == 8 then out (.ret ((),(([],(9,())),()))) else bif decide (h1.length≤4294960000) then bif (ax h1 h3).2 != 0 then out (.ret ((),(([],((ax h1 h3).2,())),()))) else bif decide (0≤h3)&&(decide (h3≤i64.wrap (h3+(ax h1 h3).1))&&decide (i64.wrap (h3+(ax h1 h3).1)≤(↑h1.length:Int))) then bif decide ((List.drop h3.toNat (List.take (i64.wrap (h3+(ax h1 h3).1)).toNat h1)).length≤4294967296) then bif decide (h2.length+1≤4294967296) then next (h1) (h2++[List.drop h3.toNat (List.take (i64.wrap (h3+(ax h1 h3).1)).toNat h1)]) (i64.wrap (h3+(ax h1 h3).1)) else none else none else none else none else out (.pan (.ret ((),((h2,()),()))))
def ov (n:Nat)(h1:LI)(h2:List (Ty.sl 5 (Ty.int u8)).den)(h3:Int):Option (ap dh.xs):=fR tt Cr dr pK 0 Tryz.f39 (bX Tryz.f39 0) n (dh.st.mk' ((h1,(h2,(h3,()))),())) (bC dh.xs)
theorem Fw (n:Nat)(h1:LI)(h2:List (Ty.sl 5 (Ty.int u8)).den)(h3:Int):ov (n+1) h1 h2 h3=qk h1 h2 h3 (ov n) some:=by kernel_rfl
theorem zw (b:LI)(hl:b.length≤65536):∀(n k:Nat) (p:Int) (ps:List (LI)),8<n+ps.length→n≤k→0≤p→p≤(b.length:Int)→ps.length≤8→
  ov k b ps p=if (aO b n p ps).2=0 then some (.pan (.ret ((),(((aO b n p ps).1,()),())))) else some (.ret ((),(([],((aO b n p ps).2,())),()))):=by
 intro n
 induction n with
 |zero=>intro k p ps h1 h2 h3 h4 h5;omega
 |succ n ih=>
  intro k p ps h1 h2 h3 h4 h5
  obtain ⟨k,rfl⟩:∃j,k=j+1:=⟨k - 1,by omega⟩
  rw[Fw]
  unfold qk aO
  by_cases c1:(b.length:Int)≤p
  ·refine bF (decide_eq_false (by omega)) ?_
   rw[if_pos c1,if_pos rfl]
  refine bT (decide_eq_true (by omega)) ?_
  rw[if_neg c1]
  by_cases c2:ps.length=8
  ·refine bT (by simp[c2]) ?_
   rw[if_pos c2,if_neg (show (9:Int)≠0 by decide)]
  refine bF (by simp;omega) ?_
  rw[if_neg c2]
  refine bT (decide_eq_true (by omega)) ?_
  by_cases c3:(ax b p).2=0
  rotate_left
  ·refine bT (by simpa using c3) ?_
   rw[if_pos c3,if_neg c3]
  refine bF (by simpa using c3) ?_
  rw[if_neg (au c3)]
  have hm:=ga c3
  rw[af (n:=p+(ax b p).1) (by omega) (by omega),List.drop_take,show (p+(ax b p).1).toNat - p.toNat=(ax b p).1.toNat by omega]
  refine bT (by simp only[zA,zB];omega) ?_
  refine bT (decide_eq_true (by rw[List.length_take];omega)) ?_
  refine bT (decide_eq_true (by omega)) ?_
  exact ih k _ _ (by simp;omega) (by omega) (by omega) (by omega) (by simp;omega)
def tW (a0:LI):Option gt.Res:=bif (↑a0.length:Int) == 0 then oR (([],85,()),()) else bif decide (65536<(↑a0.length:Int)) then oR (([],4,()),()) else (jU ((a0,([],(0,()))),())).run fun y=>match y with | .ret ((),((x12,x13,()),()))=>(oR ((x12,x13,()),())) | .pan (.ret ((),((x14,()),())))=>(oR ((x14,0,()),()))
theorem Jy (a0:LI):Io.run tt Cr dr pK gt Tryz.f39 ((a0,()),())=tW a0:=by kernel_rfl
theorem uu:HcsOk prog BR:=.cons HV (.cons pS .nil)
theorem uW:HcOk prog 39 (ah gt sG):=by
 refine bY uu (lp:=pK) (fn:=Tryz.f39) gt (.step (h0:=aG dh jU) (by kernel_rfl) (f9 uu (lp:=pK) (fn:=Tryz.f39) (.done (by kernel_rfl)) dh jU ?_) (.done (by kernel_rfl))) sG ?_
 ·rintro ⟨⟨(b:LI),(ps:List (LI)),(p:Int),⟨⟩⟩,⟨⟩⟩ y hw hy
  obtain ⟨hg,hy⟩:=Tr.guard hy
  simp only[zA,zB] at hg
  obtain ⟨h1,h2,h3⟩:=hg
  have h1:ps=[]:=List.length_eq_zero_iff.1 h1
  have h2:p=0:=h2
  have h3:b.length≤65536:=h3
  subst h1 h2
  refine ⟨10,(zw b h3 10 10 0 [] (by simp) (Nat.le_refl _) (Int.le_refl 0) (by omega) (Nat.zero_le _)).trans ?_⟩
  rw[← hy]
  simp only[Tr.val_ite,zB,Tr.val_ret]
 ·rintro ⟨⟨(b:LI),⟨⟩⟩,⟨⟩⟩ out hw ho
  obtain ⟨hg,ho⟩:=Tr.guard ho
  cases ho
  refine (Jy b).trans ?_
  show _=oR (((ar b).1,(ar b).2,()),())
  unfold tW ar
  by_cases c1:b=[]
  ·refine bT (by simp[c1]) ?_
   rw[if_pos c1]
  refine bF (by simp[c1]) ?_
  rw[if_neg c1]
  by_cases c2:65536<(b.length:Int)
  ·refine bT (decide_eq_true c2) ?_
   rw[if_pos c2]
  refine bF (decide_eq_false c2) ?_
  rw[if_neg c2]
  unfold jU
  refine bT (by simp only[zA,zB];exact ⟨rfl,trivial,show b.length≤65536 by omega⟩) ?_
  show (bif decide ((aO b 10 0 []).2=0) then oR (((aO b 10 0 []).1,0,()),()) else oR (([],(aO b 10 0 []).2,()),()))=_
  by_cases c3:(aO b 10 0 []).2=0
  ·refine bT (decide_eq_true c3) ?_
   rw[c3]
  ·refine bF (decide_eq_false c3) ?_
   rw[oN 10 0 [] c3]
abbrev gq:Io:=⟨[BW],[],[],[dI],none⟩
def sE (d:gq.In):Tr gq.Res:=.ret (.ret ((aY d.1.1,()),()))
abbrev ug:List (Nat×Hc):=[]
def Co:Hd:=bI ug
abbrev df:Lo:=⟨⟨(co (.one (.hol (.sl 77 bp))::.one hI::.one hI::.any::co [])),[]⟩,[(.ret,⟨(bk (.one hI::.any::ai [])),[]⟩),(.exit 0,⟨(ai (bx [])),[]⟩)]⟩
def jS (d:df.st.den):Tr (ap df.xs):=
 .ite (decide (d.1.2.1=(d.1.1.length:Int))&&decide (d.1.2.2.1=0)) (.ite (decide (0≤dG d.1.1 0)) (.ret (.ret ((),((dG d.1.1 0,()),())))) (.ret (.pan (.ret ((),((),())))))) .no
def pI:Lp:=bQ [(5,aG df jS)]
def qi {R:Type}(h1:List bp.den)(h2 h3:Int)(next:List bp.den→Int→Int→Option R)(out:ap df.xs→Option R):Option R:=bif decide (h3<h2) then bif decide (0≤h3)&&decide (h3<(↑h1.length:Int)) then bif (h1.getD h3.toNat (0,0,0,0,0,[],())).2.2.1 != -1 then out (.ret ((),((h3,()),()))) else next (h1) (h2) (i64.wrap (h3+1)) else none else out (.pan (.ret ((),((),()))))
def ot (n:Nat)(h1:List bp.den)(h2 h3:Int):Option (ap df.xs):=fR tt Co dr pI 0 Tryz.f57 (bX Tryz.f57 0) n (df.st.mk' ((h1,(h2,(h3,()))),())) (bC df.xs)
theorem Fu (n:Nat)(h1:List bp.den)(h2 h3:Int):ot (n+1) h1 h2 h3=qi h1 h2 h3 (ot n) some:=by kernel_rfl
theorem zu (bs:List bB)(hl:bs.length≤maxLen):∀(k i:Nat),bs.length<i+k→i≤bs.length→
  ot k bs (bs.length:Int) i=if 0≤dG (bs.drop i) i then some (.ret ((),((dG (bs.drop i) i,()),()))) else some (.pan (.ret ((),((),())))):=by
 intro k
 induction k with
 |zero=>intro i h;omega
 |succ k ih=>
  intro i h1 h2
  rw[Fu]
  unfold qi
  by_cases hi:i<bs.length
  rotate_left
  ·refine bF (decide_eq_false (by omega)) ?_
   rw[zI (by omega)]
   exact (if_neg (show ¬(0:Int)≤-1 by decide)).symm
  refine bT (decide_eq_true (by omega)) ?_
  refine bT (by simpa using hi) ?_
  have e:List.getD bs (i:Int).toNat (0,0,0,0,0,[],())=bs[i]:=by rw[zG,aK hi]
  rw[e,zE hi,aM hi hl]
  have e2:dG (bs[i]::bs.drop (i+1)) i=if bs[i].2.2.1≠-1 then (i:Int) else dG (bs.drop (i+1)) ((i:Int)+1):=rfl
  rw[e2]
  by_cases c:bs[i].2.2.1 = -1
  ·refine bF (by simpa using c) ?_
   rw[if_neg (au c)]
   exact ih (i+1) (by omega) (by omega)
  ·refine bT (by simpa using c) ?_
   rw[if_pos c,if_pos (by omega)]
theorem oK:∀(bs:List bB) (i:Int),0≤i→(0≤dG bs i∨dG bs i = -1)
 |[],_,_=>.inr rfl
 |x::xs,i,h=>by
  unfold dG
  split
  ·exact .inl h
  ·exact oK xs (i+1) (by omega)
def tU (a0:List bp.den):Option gq.Res:=bif decide ((↑a0.length:Int)<2) then oR ((-1,()),()) else (jS ((a0,((↑a0.length:Int),(0,()))),())).run fun y=>match y with | .ret ((),((x8,()),()))=>(oR ((x8,()),())) | .pan (.ret ((),((),())))=>(oR ((-1,()),()))
theorem Jw (a0:List bp.den):Io.run tt Co dr pI gq Tryz.f57 ((a0,()),())=tU a0:=by kernel_rfl
theorem C8:HcOk prog 57 (ah gq sE):=by
 refine bY (cs:=ug) HcsOk.nil (lp:=pI) (fn:=Tryz.f57) gq (.step (h0:=aG df jS) (by kernel_rfl) (f9 (cs:=ug) HcsOk.nil (lp:=pI) (fn:=Tryz.f57) (.done (by kernel_rfl)) df jS ?_) (.done (by kernel_rfl))) sE ?_
 ·rintro ⟨⟨(bs:List bB),(m:Int),(i:Int),⟨⟩⟩,⟨⟩⟩ y hw hy
  obtain ⟨hg,hy⟩:=Tr.guard hy
  simp only[zA,zB] at hg
  have h1:m=(bs.length:Int):=hg.1
  have h2:i=0:=hg.2
  subst h1 h2
  refine ⟨bs.length+1,(zu bs hw.1.1.1 (bs.length+1) 0 (by omega) (Nat.zero_le _)).trans ?_⟩
  rw[← hy]
  simp only[Tr.val_ite,zB,Tr.val_ret,List.drop_zero]
  rfl
 ·rintro ⟨⟨(bs:List bB),⟨⟩⟩,⟨⟩⟩ out hw ho
  cases ho
  refine (Jw bs).trans ?_
  show _=oR ((aY bs,()),())
  unfold tU aY
  by_cases c1:bs.length<2
  ·refine bT (decide_eq_true (by omega)) ?_
   rw[if_pos c1]
  refine bF (decide_eq_false (by omega)) ?_
  rw[if_neg c1]
  unfold jS
  refine bT (by simp only[zA,zB];exact ⟨trivial,trivial⟩) ?_
  show (bif decide (0≤dG bs 0) then oR ((dG bs 0,()),()) else oR ((-1,()),()))=_
  rcases oK bs 0 (Int.le_refl 0) with c2 | c2
  ·exact aa (decide_eq_true c2) _ _
  ·refine bF (decide_eq_false (by omega)) ?_
   rw[c2]
abbrev kF:Io:=⟨[dL],[],[],[BW,dI,dI],none⟩
def AY (d:kF.In):Tr kF.Res:=.ite (decide (d.1.1.length≤4294960000)) (.ret (.ret (((an d.1.1).1,(an d.1.1).2.1,(an d.1.1).2.2,()),()))) .no
abbrev K3:List (Nat×Hc):=[(39,ah gt sG),(56,ah kt FT),(57,ah gq sE)]
def LT:Hd:=bI K3
abbrev fH:Lo:=⟨⟨(.any::bx (bk (.one (.onl 77 bp 15)::.any::co (bx (.one (.onl 22 (Ty.sl 5 (Ty.int u8)) 43)::.one hI::.one hI::ai (co [])))))),[]⟩,[(.ret,⟨(bk (.one (.onl 77 bp 5)::.one hI::.one hI::.any::ai (ai (co (bk []))))),[]⟩),(.exit 0,⟨(.any::bx (bk (.one (.onl 77 bp 15)::ai (ai (co []))))),[]⟩)]⟩
def o3 (d:fH.st.den):Tr (ap fH.xs):=
 .ite (decide (d.1.1.length=0)&&(decide (d.1.2.2.1=(d.1.2.1.length:Int))&&(decide (d.1.2.2.2.1=0)&&(decide (d.1.2.1.length≤8)&&gd d.1.2.1))))
  (.ite (decide ((aD d.1.2.1 0 []).2.2=0)) (.ret (.pan (.ret ((),(((aD d.1.2.1 0 []).1,()),()))))) (.ret (.ret ((),(([],((aD d.1.2.1 0 []).2.1,((aD d.1.2.1 0 []).2.2,()))),()))))) .no
def Ab:Lp:=bQ [(7,aG fH o3)]
def vN {R:Type}(h1:List bp.den)(h2:List bs.den)(h3 h4:Int)(next:List bp.den→List bs.den→Int→Int→Option R)(out:ap fH.xs→Option R):Option R:=bif decide (h4<h3) then bif decide (0≤h4)&&decide (h4<(↑h2.length:Int)) then bif decide (List.length (h2.getD h4.toNat [])≤4294960000) then bif (aC (h2.getD h4.toNat [])).2 != 0 then out (.ret ((),(([],(h4,((aC (h2.getD h4.toNat [])).2,()))),()))) else bif decide (h1.length+1≤4294967296) then next (h1++[(aC (h2.getD h4.toNat [])).1]) (h2) (h3) (i64.wrap (h4+1)) else none else none else none else out (.pan (.ret ((),((h1,()),()))))
def uL (n:Nat)(h1:List bp.den)(h2:List bs.den)(h3 h4:Int):Option (ap fH.xs):=fR tt LT dr Ab 0 Tryz.f29 (bX Tryz.f29 0) n (fH.st.mk' ((h1,(h2,(h3,(h4,())))),())) (bC fH.xs)
theorem NV (n:Nat)(h1:List bp.den)(h2:List bs.den)(h3 h4:Int):uL (n+1) h1 h2 h3 h4=vN h1 h2 h3 h4 (uL n) some:=by kernel_rfl
theorem ER (ps:List (LI))(h8:ps.length≤8)(hl:ps.length≤maxLen)(hp:gd ps=true):∀(k i:Nat) (out:List bB),ps.length<i+k→i≤ps.length→out.length≤i→
  uL k out ps (ps.length:Int) i=if (aD (ps.drop i) i out).2.2=0 then some (.pan (.ret ((),(((aD (ps.drop i) i out).1,()),())))) else some (.ret ((),(([],((aD (ps.drop i) i out).2.1,((aD (ps.drop i) i out).2.2,()))),()))):=by
 have hl':=hl
 rw[aP] at hl'
 intro k
 induction k with
 |zero=>intro i out h;omega
 |succ k ih=>
  intro i out h1 h2 h3
  rw[NV]
  unfold vN
  by_cases hi:i<ps.length
  rotate_left
  ·refine bF (decide_eq_false (by omega)) ?_
   rw[zI (by omega)]
   rfl
  refine bT (decide_eq_true (by omega)) ?_
  refine bT (by simpa using hi) ?_
  have e:List.getD ps (i:Int).toNat []=ps[i]:=by rw[zG,aK hi]
  have hpi:ps[i].length≤4294960000:=of_decide_eq_true (List.all_eq_true.1 hp ps[i] (List.getElem_mem hi))
  rw[e,zE hi,aM hi hl]
  have e2:aD (ps[i]::ps.drop (i+1)) i out=if (aC ps[i]).2≠0 then ([],(i:Int),(aC ps[i]).2) else aD (ps.drop (i+1)) ((i:Int)+1) (out++[(aC ps[i]).1]):=rfl
  rw[e2]
  refine bT (decide_eq_true hpi) ?_
  by_cases c:(aC ps[i]).2=0
  ·refine bF (by simpa using c) ?_
   rw[if_neg (au c)]
   refine bT (decide_eq_true (by omega)) ?_
   exact ih (i+1) _ (by omega) (by omega) (by simp;omega)
  ·refine bT (by simpa using c) ?_
   rw[if_pos c,if_neg c]
def Bq (a0:LI):Option kF.Res:=bif decide (a0.length≤4294960000) then bif (ar a0).2 != 0 then oR (([],0,(ar a0).2,()),()) else (o3 (([],((ar a0).1,((↑(ar a0).1.length:Int),(0,())))),())).run fun y=>match y with | .ret ((),((x13,x14,x15,()),()))=>(oR ((x13,x14,x15,()),())) | .pan (.ret ((),((x16,()),())))=>(bif decide (0≤aY x16) then oR (([],aY x16,90,()),()) else oR ((x16,0,0,()),())) else none
theorem Qq (a0:LI):Io.run tt LT dr Ab kF Tryz.f29 ((a0,()),())=Bq a0:=by kernel_rfl
theorem Cf:HcsOk prog K3:=.cons uW (.cons My (.cons C8 .nil))
theorem Ar:HcOk prog 29 (ah kF AY):=by
 refine bY Cf (lp:=Ab) (fn:=Tryz.f29) kF (.step (h0:=aG fH o3) (by kernel_rfl) (f9 Cf (lp:=Ab) (fn:=Tryz.f29) (.done (by kernel_rfl)) fH o3 ?_) (.done (by kernel_rfl))) AY ?_
 ·rintro ⟨⟨(out:List bB),(ps:List (LI)),(m:Int),(i:Int),⟨⟩⟩,⟨⟩⟩ y hw hy
  obtain ⟨hg,hy⟩:=Tr.guard hy
  simp only[zA,zB] at hg
  obtain ⟨h1,h2,h3,h5,h4⟩:=hg
  have h1:out=[]:=List.length_eq_zero_iff.1 h1
  have h2:m=(ps.length:Int):=h2
  have h3:i=0:=h3
  subst h1 h2 h3
  refine ⟨ps.length+1,(ER ps h5 hw.1.2.1.1 h4 (ps.length+1) 0 [] (by omega) (Nat.zero_le _) (Nat.zero_le _)).trans ?_⟩
  rw[← hy]
  simp only[Tr.val_ite,zB,Tr.val_ret,List.drop_zero]
  rfl
 ·rintro ⟨⟨(b:LI),⟨⟩⟩,⟨⟩⟩ out hw ho
  obtain ⟨hg,ho⟩:=Tr.guard ho
  cases ho
  have hb:bm b:=bytesOf hw.1.1
  refine (Qq b).trans ?_
  show _=oR (((an b).1,(an b).2.1,(an b).2.2,()),())
  unfold Bq an
  refine (aa hg _ _).trans ?_
  by_cases c1:(ar b).2=0
  rotate_left
  ·refine bT (by simpa using c1) ?_
   rw[if_pos c1]
  refine bF (by simpa using c1) ?_
  rw[if_neg (au c1)]
  obtain ⟨k1,_,k3,_⟩:=gB hb c1
  unfold o3
  refine bT (by simp only[zA,zB];exact ⟨rfl,trivial,trivial,k3,oE k1⟩) ?_
  show (bif decide ((aD (ar b).1 0 []).2.2=0) then (bif decide (0≤aY (aD (ar b).1 0 []).1) then oR (([],aY (aD (ar b).1 0 []).1,90,()),()) else oR (((aD (ar b).1 0 []).1,0,0,()),())) else oR (([],(aD (ar b).1 0 []).2.1,(aD (ar b).1 0 []).2.2,()),()))=_
  by_cases c2:(aD (ar b).1 0 []).2.2=0
  rotate_left
  ·refine bF (decide_eq_false c2) ?_
   rw[if_pos c2]
  refine bT (decide_eq_true c2) ?_
  rw[if_neg (au c2)]
  by_cases c3:0≤aY (aD (ar b).1 0 []).1
  ·refine bT (decide_eq_true c3) ?_
   rw[if_pos c3]
  ·refine bF (decide_eq_false c3) ?_
   rw[if_neg c3]
abbrev iC:Io:=⟨[dL],[],[],[dI,dI],none⟩
def yz (d:iC.In):Tr iC.Res:=.ite (decide (d.1.1.length≤4294960000)) (.ret (.ret ((((j9 (an d.1.1).1:Nat):Int),(an d.1.1).2.2,()),()))) .no
abbrev BP:List (Nat×Hc):=[(29,ah kF AY)]
def Cm:Hd:=bI BP
abbrev dd:Lo:=⟨⟨(bx (bk (.one hI::.one hI::co (.one (.hol (.sl 77 bp))::.one hI::.one hI::.any::co (bk []))))),[]⟩,[(.exit 0,⟨(bx (bk (.one hI::.one hI::ai (bx (bk []))))),[]⟩)]⟩
def jQ (d:dd.st.den):Tr (ap dd.xs):=
 .ite (decide (d.1.2.1=0)&&(decide (d.1.2.2.2.1=(d.1.2.2.1.length:Int))&&(decide (d.1.2.2.2.2.1=0)&&decide (j9 d.1.2.2.1≤4294960000)))) (.ret (.ret ((),((d.1.1,((j9 d.1.2.2.1:Int),())),())))) .no
def pG:Lp:=bQ [(5,aG dd jQ)]
def qg {R:Type}(h1 h2:Int)(h3:List bp.den)(h4 h5:Int)(next:Int→Int→List bp.den→Int→Int→Option R)(out:ap dd.xs→Option R):Option R:=bif decide (h5<h4) then bif decide (0≤h5)&&decide (h5<(↑h3.length:Int)) then next (h1) (i64.wrap (h2+(↑(List.length (h3.getD h5.toNat (0,0,0,0,0,[],())).2.2.2.2.2.1):Int))) (h3) (h4) (i64.wrap (h5+1)) else none else out (.ret ((),((h1,(h2,())),())))
def om (n:Nat)(h1 h2:Int)(h3:List bp.den)(h4 h5:Int):Option (ap dd.xs):=fR tt Cm dr pG 0 Tryz.f32 (bX Tryz.f32 0) n (dd.st.mk' ((h1,(h2,(h3,(h4,(h5,()))))),())) (bC dd.xs)
theorem Fs (n:Nat)(h1 h2:Int)(h3:List bp.den)(h4 h5:Int):om (n+1) h1 h2 h3 h4 h5=qg h1 h2 h3 h4 h5 (om n) some:=by kernel_rfl
theorem FC {bs:List bB}{i:Nat}(hi:i<bs.length):j9 (bs.drop i)=bs[i].2.2.2.2.2.1.length+j9 (bs.drop (i+1)):=by
 rw[zE hi];rfl
theorem zr (e:Int)(bs:List bB)(hl:bs.length≤maxLen):∀(k i n:Nat),bs.length<i+k→i≤bs.length→n+j9 (bs.drop i)≤4294960000→
  om k e n bs (bs.length:Int) i=some (.ret ((),((e,(((n+j9 (bs.drop i):Nat):Int),())),()))):=by
 intro k
 induction k with
 |zero=>intro i n h;omega
 |succ k ih=>
  intro i n h1 h2 h3
  rw[Fs]
  unfold qg
  by_cases hi:i<bs.length
  rotate_left
  ·refine bF (decide_eq_false (by omega)) ?_
   rw[zI (by omega)]
   rfl
  rw[FC hi] at h3 ⊢
  refine bT (decide_eq_true (by omega)) ?_
  refine bT (by simpa using hi) ?_
  have e:List.getD bs (i:Int).toNat (0,0,0,0,0,[],())=bs[i]:=by rw[zG,aK hi]
  rw[e,aM hi hl,af (n:=(n:Int)+(bs[i].2.2.2.2.2.1.length:Int)) (by omega) (by omega)]
  have:=ih (i+1) (n+bs[i].2.2.2.2.2.1.length) (by omega) (by omega) (by omega)
  rw[show ((n+bs[i].2.2.2.2.2.1.length:Nat):Int)=(n:Int)+(bs[i].2.2.2.2.2.1.length:Int) by omega] at this
  refine this.trans ?_
  rw[Nat.add_assoc]
def tS (a0:LI):Option iC.Res:=bif decide (a0.length≤4294960000) then (jQ (((an a0).2.2,(0,((an a0).1,((↑(an a0).1.length:Int),(0,()))))),())).run fun y=>match y with | .ret ((),((x13,x14,()),()))=>(oR ((x14,x13,()),())) else none
theorem Ju (a0:LI):Io.run tt Cm dr pG iC Tryz.f32 ((a0,()),())=tS a0:=by kernel_rfl
theorem ur:HcsOk prog BP:=.cons Ar .nil
theorem MT:HcOk prog 32 (ah iC yz):=by
 refine bY ur (lp:=pG) (fn:=Tryz.f32) iC (.step (h0:=aG dd jQ) (by kernel_rfl) (f9 ur (lp:=pG) (fn:=Tryz.f32) (.done (by kernel_rfl)) dd jQ ?_) (.done (by kernel_rfl))) yz ?_
 ·rintro ⟨⟨(e:Int),(n:Int),(bs:List bB),(m:Int),(i:Int),⟨⟩⟩,⟨⟩⟩ y hw hy
  obtain ⟨hg,hy⟩:=Tr.guard hy
  simp only[zA,zB] at hg
  obtain ⟨h1,h2,h3,h4⟩:=hg
  have h1:n=0:=h1
  have h2:m=(bs.length:Int):=h2
  have h3:i=0:=h3
  have h4:j9 bs≤4294960000:=h4
  subst h1 h2 h3
  refine ⟨bs.length+1,(zr e bs hw.1.2.2.1.1 (bs.length+1) 0 0 (by omega) (Nat.zero_le _) (by rw[List.drop_zero];omega)).trans ?_⟩
  rw[← hy,List.drop_zero,Nat.zero_add];rfl
 ·rintro ⟨⟨(b:LI),⟨⟩⟩,⟨⟩⟩ out hw ho
  obtain ⟨hg,ho⟩:=Tr.guard ho
  cases ho
  have hb:bm b:=bytesOf hw.1.1
  refine (Ju b).trans ?_
  unfold tS
  refine (aa hg _ _).trans ?_
  have hc:j9 (an b).1≤4294960000:=by
   by_cases h:(an b).2.2=0
   ·obtain ⟨g1,g2,g3,g4,g5⟩:=j8 hb h
    have h1:=KL (kh g5)
    obtain ⟨_,_,h2,_⟩:=gB hb g1
    omega
   ·rw[Fi h];decide
  unfold jQ
  refine bT (by simp only[zA,zB];exact ⟨trivial,trivial,trivial,hc⟩) ?_
  rfl
abbrev iD:Io:=⟨[dL],[],[],[gl,gl,dI],none⟩
def yA (d:iD.In):Tr iD.Res:=.ite (decide (d.1.1.length≤4294960000)) (.ret (.ret (((jt d.1.1).1,(jt d.1.1).2.1,(jt d.1.1).2.2,()),()))) .no
abbrev BQ:List (Nat×Hc):=[(29,ah kF AY)]
def Cn:Hd:=bI BQ
abbrev de:Lo:=⟨⟨(.any::bx (.one (.hol (.sl 77 bp))::bk (.one hI::.any::co (bx (bk (.one (.hol (.sl 77 bp))::.one hI::.one hI::ai (bk []))))))),[]⟩,[(.ret,⟨(bk (.one hI::.one hI::.one hI::ai (ai (co [])))),[]⟩),(.exit 0,⟨(.any::bx (.one (.hol (.sl 77 bp))::bk (.one hI::ai (ai (bx []))))),[]⟩)]⟩
def jR (d:de.st.den):Tr (ap de.xs):=
 .ite (decide (d.1.2.2.2.1=(d.1.2.2.1.length:Int))&&(decide (d.1.2.2.2.2.1=0)&&eD d.1.2.2.1))
  (.ite (lq d.1.2.2.1 d.1.2.1).2 (.ret (.pan (.ret ((),((d.1.1,((lq d.1.2.2.1 d.1.2.1).1,())),()))))) (.ret (.ret ((),((0,(0,(190,()))),()))))) .no
def pH:Lp:=bQ [(7,aG de jR)]
def qh {R:Type}(h1:List bp.den)(h2:Int)(h3:List bp.den)(h4 h5:Int)(next:List bp.den→Int→List bp.den→Int→Int→Option R)(out:ap de.xs→Option R):Option R:=bif decide (h5<h4) then bif decide (0≤h5)&&decide (h5<(↑h3.length:Int)) then bif (h3.getD h5.toNat (0,0,0,0,0,[],())).1 != h2 then out (.ret ((),((0,(0,(190,()))),()))) else next (h1) (i64.wrap (h2+(↑(List.length (h3.getD h5.toNat (0,0,0,0,0,[],())).2.2.2.2.2.1):Int))) (h3) (h4) (i64.wrap (h5+1)) else none else out (.pan (.ret ((),((h1,(h2,())),()))))
def oq (n:Nat)(h1:List bp.den)(h2:Int)(h3:List bp.den)(h4 h5:Int):Option (ap de.xs):=fR tt Cn dr pH 0 Tryz.f34 (bX Tryz.f34 0) n (de.st.mk' ((h1,(h2,(h3,(h4,(h5,()))))),())) (bC de.xs)
theorem Ft (n:Nat)(h1:List bp.den)(h2:Int)(h3:List bp.den)(h4 h5:Int):oq (n+1) h1 h2 h3 h4 h5=qh h1 h2 h3 h4 h5 (oq n) some:=by kernel_rfl
theorem zt (b0 bs:List bB)(hl:bs.length≤maxLen)(hk:eD bs=true):∀(k i:Nat) (q:Int),bs.length<i+k→i≤bs.length→
  oq k b0 q bs (bs.length:Int) i=if (lq (bs.drop i) q).2=true then some (.pan (.ret ((),((b0,((lq (bs.drop i) q).1,())),())))) else some (.ret ((),((0,(0,(190,()))),()))):=by
 intro k
 induction k with
 |zero=>intro i q h;omega
 |succ k ih=>
  intro i q h1 h2
  rw[Ft]
  unfold qh
  by_cases hi:i<bs.length
  rotate_left
  ·refine bF (decide_eq_false (by omega)) ?_
   rw[zI (by omega)]
   rfl
  refine bT (decide_eq_true (by omega)) ?_
  refine bT (by simpa using hi) ?_
  have e:List.getD bs (i:Int).toNat (0,0,0,0,0,[],())=bs[i]:=by rw[zG,aK hi]
  have hx:=List.all_eq_true.1 hk bs[i] (List.getElem_mem hi)
  simp only[zA,zB] at hx
  obtain ⟨x1,x2,x3⟩:=hx
  rw[e,zE hi,aM hi hl]
  have e2:lq (bs[i]::bs.drop (i+1)) q=if bs[i].1≠q then (0,false) else lq (bs.drop (i+1)) (q+(bs[i].2.2.2.2.2.1.length:Int)):=rfl
  rw[e2]
  by_cases c:bs[i].1=q
  ·refine bF (by simpa using c) ?_
   rw[if_neg (au c),af (n:=q+(bs[i].2.2.2.2.2.1.length:Int)) (by omega) (by omega)]
   exact ih (i+1) _ (by omega) (by omega)
  ·refine bT (by simpa using c) ?_
   rw[if_pos c,if_neg (by decide)]
def tT (a0:LI):Option iD.Res:=bif decide (a0.length≤4294960000) then bif (an a0).2.2 != 0 then oR ((0,0,(an a0).2.2,()),()) else bif decide (0≤0)&&decide (0<(↑(an a0).1.length:Int)) then (jR (((an a0).1,(((an a0).1.getD (Int.toNat 0) (0,0,0,0,0,[],())).1,((an a0).1,((↑(an a0).1.length:Int),(0,()))))),())).run fun y=>match y with | .ret ((),((x16,x17,x18,()),()))=>(oR ((x16,x17,x18,()),())) | .pan (.ret ((),((x19,x20,()),())))=>(bif decide (0≤0)&&decide (0<(↑x19.length:Int)) then oR (((x19.getD (Int.toNat 0) (0,0,0,0,0,[],())).1,x20,0,()),()) else none) else none else none
theorem Jv (a0:LI):Io.run tt Cn dr pH iD Tryz.f34 ((a0,()),())=tT a0:=by kernel_rfl
theorem ut:HcsOk prog BQ:=.cons Ar .nil
theorem MU:HcOk prog 34 (ah iD yA):=by
 refine bY ut (lp:=pH) (fn:=Tryz.f34) iD (.step (h0:=aG de jR) (by kernel_rfl) (f9 ut (lp:=pH) (fn:=Tryz.f34) (.done (by kernel_rfl)) de jR ?_) (.done (by kernel_rfl))) yA ?_
 ·rintro ⟨⟨(b0:List bB),(q:Int),(bs:List bB),(m:Int),(i:Int),⟨⟩⟩,⟨⟩⟩ y hw hy
  obtain ⟨hg,hy⟩:=Tr.guard hy
  simp only[zA,zB] at hg
  obtain ⟨h1,h2,h3⟩:=hg
  have h1:m=(bs.length:Int):=h1
  have h2:i=0:=h2
  subst h1 h2
  refine ⟨bs.length+1,(zt b0 bs hw.1.2.2.1.1 h3 (bs.length+1) 0 q (by omega) (Nat.zero_le _)).trans ?_⟩
  rw[← hy]
  simp only[Tr.val_ite,Tr.val_ret,List.drop_zero]
 ·rintro ⟨⟨(b:LI),⟨⟩⟩,⟨⟩⟩ out hw ho
  obtain ⟨hg,ho⟩:=Tr.guard ho
  cases ho
  have hb:bm b:=bytesOf hw.1.1
  refine (Jv b).trans ?_
  show _=oR (((jt b).1,(jt b).2.1,(jt b).2.2,()),())
  unfold tT jt
  refine (aa hg _ _).trans ?_
  by_cases c1:(an b).2.2=0
  rotate_left
  ·refine bT (by simpa using c1) ?_
   rw[if_pos c1]
  refine bF (by simpa using c1) ?_
  rw[if_neg (au c1)]
  obtain ⟨g1,g2,g3,g4,g5⟩:=j8 hb c1
  obtain ⟨_,h1,h2,_⟩:=gB hb g1
  generalize (an b).1=bs at *
  refine bT (by simp only[zA,zB];omega) ?_
  unfold jR
  refine bT (by simp only[zA,zB];exact ⟨trivial,trivial,kh g5⟩) ?_
  have e0:(bs.getD (Int.toNat 0) (0,0,0,0,0,[],())).1=vu bs:=by
   cases bs with
   |nil=>simp at g4;omega
   |cons x xs=>rfl
  show (bif (lq bs (bs.getD (Int.toNat 0) (0,0,0,0,0,[],())).1).2 then (bif decide ((0:Int)≤0)&&decide ((0:Int)<(bs.length:Int)) then oR (((bs.getD (Int.toNat 0) (0,0,0,0,0,[],())).1,(lq bs (bs.getD (Int.toNat 0) (0,0,0,0,0,[],())).1).1,0,()),()) else none) else oR ((0,0,190,()),()))=_
  rw[e0]
  cases c2:(lq bs (vu bs)).2 with
  |true=>
   refine (aa rfl _ _).trans ?_
   refine bT (by simp only[zA,zB];omega) ?_
   rw[if_pos rfl]
  |false=>
   refine (ae rfl _ _).trans ?_
   rw[if_neg (by decide)]
abbrev gr:Io:=⟨[dL,gl,yY],[],[],[dO,gl,dI],none⟩
def sF (d:gr.In):Tr gr.Res:=.ite (decide (d.1.1.length≤4294960000)) (.ret (.ret (((bf d.1.1 d.1.2.1 d.1.2.2.1).1,(bf d.1.1 d.1.2.1 d.1.2.2.1).2.1,(bf d.1.1 d.1.2.1 d.1.2.2.1).2.2,()),()))) .no
abbrev uh:List (Nat×Hc):=[(29,ah kF AY),(39,Q3 (ah gt sG)),(69,ah nI Kb),(66,Lw (ah jb yk))]
def Cq:Hd:=bI uh
abbrev dg:Lo:=⟨⟨(.any::.one hI::.one hJ::bx (bk (.one (.hol (.sl 77 bp))::bk (.one (.exl 22 (Ty.sl 5 (Ty.int u8)) 25 25)::.any::ai (.one (.exl 22 (Ty.sl 5 (Ty.int u8)) 25 25)::.one hI::.one hI::.any::ai (co (bx []))))))),[]⟩,[(.ret,⟨(bx (bk (.one (.onl 5 (Ty.int u8) 13)::.one hI::.one hI::.any::ai (ai (ai (bx [])))))),[]⟩),(.exit 0,⟨(.any::.one hI::co (bk (.one (.exl 22 (Ty.sl 5 (Ty.int u8)) 25 25)::.any::ai (ai (ai []))))),[]⟩)]⟩
def jT (d:dg.st.den):Tr (ap dg.xs):=
 .ite (decide (d.1.2.2.2.1=d.1.2.2.2.2.1)&&(decide (d.1.2.2.2.2.2.1=(d.1.2.2.2.1.length:Int))&&(decide (d.1.2.2.2.2.2.2.1=0)&&(decide (d.1.2.2.2.1.length=d.1.2.2.1.length)&&(gd d.1.2.2.2.1&&eD d.1.2.2.1)))))
  (.ite (decide ((aE d.1.2.1 d.1.2.2.2.1 d.1.2.2.1 d.1.1 []).2.2=0)) (.ret (.pan (.ret ((),(((aE d.1.2.1 d.1.2.2.2.1 d.1.2.2.1 d.1.1 []).2.1,((aE d.1.2.1 d.1.2.2.2.1 d.1.2.2.1 d.1.1 []).1,())),())))))
   (.ret (.ret ((),(([],(0,((aE d.1.2.1 d.1.2.2.2.1 d.1.2.2.1 d.1.1 []).2.2,()))),()))))) .no
def pJ:Lp:=bQ [(7,aG dg jT)]
def qj {R:Type}(h3 h4:Int)(h5:List bp.den)(h6 h7:List bs.den)(h8 h9:Int)(next:Int→Int→List bp.den→List bs.den→List bs.den→Int→Int→Option R)(out:ap dg.xs→Option R):Option R:=bif decide (h9<h8) then bif decide ((↑0:Int)≤h9)&&decide (h9<(↑0:Int)+(↑h7.length:Int)) then bif decide (List.length (h7.getD (h9.toNat - 0) [])≤4294960000) then bif decide ((↑0:Int)≤h9)&&decide (h9<(↑0:Int)+(↑h6.length:Int)) then bif (aq (h7.getD (h9.toNat - 0) []) h3 h4).2 != 0 then out (.ret ((),(([],(0,((aq (h7.getD (h9.toNat - 0) []) h3 h4).2,()))),()))) else bif decide (0≤h9)&&decide (h9<(↑h5.length:Int)) then next (i64.wrap (h3+(↑(List.length (h5.getD h9.toNat (0,0,0,0,0,[],())).2.2.2.2.2.1):Int))) (h4) (h5) (iQ 0 h9.toNat h6 (aq (h7.getD (h9.toNat - 0) []) h3 h4).1) (iQ 0 h9.toNat h7 (aq (h7.getD (h9.toNat - 0) []) h3 h4).1) (h8) (i64.wrap (h9+1)) else none else none else none else none else out (.pan (.ret ((),((h3,(h6,())),()))))
def ou (n:Nat)(h3 h4:Int)(h5:List bp.den)(h6 h7:List bs.den)(h8 h9:Int):Option (ap dg.xs):=fR tt Cq dr pJ 0 Tryz.f41 (bX Tryz.f41 0) n (dg.st.mk' ((h3,(h4,(h5,(h6,(h7,(h8,(h9,()))))))),())) (bC dg.xs)
theorem Fv (n:Nat)(h3 h4:Int)(h5:List bp.den)(h6 h7:List bs.den)(h8 h9:Int):ou (n+1) h3 h4 h5 h6 h7 h8 h9=qj h3 h4 h5 h6 h7 h8 h9 (ou n) some:=by kernel_rfl
theorem rN {p:LI}{base ep:Int}(h:(aq p base ep).2=0):0≤base∧base≤4611686018427387648:=by
 unfold aq at h
 split at h
 ·rename_i c;exact absurd h c
 split at h
 ·cases h
 rename_i c
 unfold aQ at c
 simp only[Bool.or_eq_true,zB] at c
 omega
theorem QC {done:List (LI)}{ps:List (LI)}{i:Nat}(hd:done.length=i)(hi:i<ps.length)(y:LI):iQ 0 (i:Int).toNat (done++ps.drop i) y=(done++[y])++ps.drop (i+1):=by
 unfold iQ
 rw[zG]
 refine (aa (show Nat.ble 0 i=true from rfl) _ _).trans ?_
 rw[Nat.sub_zero,zE hi,List.set_append,if_neg (by omega),hd,Nat.sub_self,List.set_cons_zero]
 simp
theorem zv (ep:Int)(bs:List bB)(ps:List (LI))(hn:ps.length=bs.length)(hl:ps.length≤maxLen)(hp:gd ps=true)(hk:eD bs=true):∀(k i:Nat) (done:List (LI)) (base:Int),ps.length<i+k→i≤ps.length→done.length=i→
  ou k base ep bs (done++ps.drop i) (done++ps.drop i) (ps.length:Int) i=if (aE ep (ps.drop i) (bs.drop i) base done).2.2=0 then some (.pan (.ret ((),(((aE ep (ps.drop i) (bs.drop i) base done).2.1,((aE ep (ps.drop i) (bs.drop i) base done).1,())),()))))
   else some (.ret ((),(([],(0,((aE ep (ps.drop i) (bs.drop i) base done).2.2,()))),()))):=by
 intro k
 induction k with
 |zero=>intro i done base h;omega
 |succ k ih=>
  intro i done base h1 h2 hd
  rw[Fv]
  unfold qj
  by_cases hi:i<ps.length
  rotate_left
  ·refine bF (decide_eq_false (by omega)) ?_
   rw[zI (show ps.length≤i by omega),List.append_nil]
   rfl
  have hi2:i<bs.length:=by omega
  have hlen:(done++ps.drop i).length=ps.length:=by rw[zH,List.length_drop];omega
  refine bT (decide_eq_true (by omega)) ?_
  have e:List.getD (done++ps.drop i) ((i:Int).toNat - 0) []=ps[i]:=by
   rw[zG,Nat.sub_zero,List.getD_eq_getElem?_getD,List.getElem?_append_right (by omega),hd,Nat.sub_self,List.getElem?_drop,Nat.add_zero,List.getElem?_eq_getElem hi]
   rfl
  have e2:List.getD bs (i:Int).toNat (0,0,0,0,0,[],())=bs[i]:=by rw[zG,aK hi2]
  have hpi:ps[i].length≤4294960000:=of_decide_eq_true (List.all_eq_true.1 hp ps[i] (List.getElem_mem hi))
  have hx:=List.all_eq_true.1 hk bs[i] (List.getElem_mem hi2)
  simp only[zA,zB] at hx
  obtain ⟨x1,x2,x3⟩:=hx
  rw[e,e2,hlen,aM hi hl]
  refine bT (by simp only[zA,zB];omega) ?_
  refine bT (decide_eq_true hpi) ?_
  refine bT (by simp only[zA,zB];omega) ?_
  rw[QC hd hi,zE hi,zE hi2]
  have eP:aE ep (ps[i]::ps.drop (i+1)) (bs[i]::bs.drop (i+1)) base done=if (aq ps[i] base ep).2≠0 then ([],0,(aq ps[i] base ep).2) else aE ep (ps.drop (i+1)) (bs.drop (i+1)) (base+(bs[i].2.2.2.2.2.1.length:Int)) (done++[(aq ps[i] base ep).1]):=rfl
  rw[eP]
  by_cases c:(aq ps[i] base ep).2=0
  ·refine bF (by simpa using c) ?_
   obtain ⟨b1,b2⟩:=rN c
   rw[if_neg (au c),af (n:=base+(bs[i].2.2.2.2.2.1.length:Int)) (by omega) (by omega)]
   refine bT (by simp only[zA,zB];omega) ?_
   exact ih (i+1) _ _ (by omega) (by omega) (by simp[hd])
  ·refine bT (by simpa using c) ?_
   rw[if_pos c,if_neg c]
theorem oF (ep:Int):∀(ps:List (LI)) (xs:List bB) (base:Int) (out:List (LI)),(∀q∈ps,PartOk q)→(aE ep ps xs base out).2.2=0→ao (aE ep ps xs base out).1≤ao out+36016*ps.length
 |[],_,_,out,_,_=>Nat.le_refl _
 |_::_,[],_,out,_,_=>Nat.le_add_right _ _
 |p::ps,x::xs,base,out,h,h0=>by
  have e:aE ep (p::ps) (x::xs) base out=if (aq p base ep).2≠0 then ([],0,(aq p base ep).2) else aE ep ps xs (base+(x.2.2.2.2.2.1.length:Int)) (out++[(aq p base ep).1]):=rfl
  rw[e] at h0 ⊢
  by_cases c:(aq p base ep).2=0
  rotate_left
  ·rw[if_pos c] at h0;exact absurd h0 c
  rw[if_neg (au c)] at h0 ⊢
  have:=oF ep ps xs _ _ (fun q hq=>h q (by simp[hq])) h0
  have h2:(aq p base ep).1.length≤36016:=by
   unfold aq
   split
   ·simp
   split
   ·simp
   have:=(h p (by simp)).len
   simp only[zH,dT,List.length_take,List.length_drop]
   omega
  rw[fO] at this
  have h3:ao [(aq p base ep).1]=(aq p base ep).1.length:=Nat.add_zero _
  rw[zN]
  omega
def tV (a0:LI)(a1 a2:Int):Option gr.Res:=bif decide (a0.length≤4294960000) then bif (an a0).2.2 != 0 then oR (([],0,(an a0).2.2,()),()) else bif decide (a0.length≤4294960000) then (jT ((a1,(a2,((an a0).1,((ar a0).1,((ar a0).1,((↑0:Int)+(↑(ar a0).1.length:Int),(0,()))))))),())).run fun y=>match y with | .ret ((),((x22,x23,x24,()),()))=>(oR ((x22,x23,x24,()),())) | .pan (.ret ((),((x25,x26,()),())))=>(bif decide (ao x26≤4294967296) then oR ((aU x26,x25,0,()),()) else none) else none else none
theorem Jx (a0:LI)(a1 a2:Int):Io.run tt Cq dr pJ gr Tryz.f41 ((a0,a1,a2,()),())=tV a0 a1 a2:=by kernel_rfl
theorem C9:HcOk prog 41 (ah gr sF):=by
 refine bY (cs:=uh) (.cons Ar (.cons (xQ uW) (.cons MA (.cons (xp Ao) .nil)))) (lp:=pJ) (fn:=Tryz.f41) gr (.step (h0:=aG dg jT) (by kernel_rfl) (f9 (cs:=uh) (.cons Ar (.cons (xQ uW) (.cons MA (.cons (xp Ao) .nil)))) (lp:=pJ) (fn:=Tryz.f41) (.done (by kernel_rfl)) dg jT ?_) (.done (by kernel_rfl))) sF ?_
 ·rintro ⟨⟨(base:Int),(ep:Int),(bs:List bB),(ps:List (LI)),(ps2:List (LI)),(m:Int),(i:Int),⟨⟩⟩,⟨⟩⟩ y hw hy
  obtain ⟨hg,hy⟩:=Tr.guard hy
  simp only[zA,zB] at hg
  obtain ⟨h1,h2,h3,h4,h5,h6⟩:=hg
  have h1:ps=ps2:=h1
  have h2:m=(ps.length:Int):=h2
  have h3:i=0:=h3
  have h4:ps.length=bs.length:=h4
  subst h1 h2 h3
  have hl:ps.length≤maxLen:=by
   have:bs.length≤maxLen:=hw.1.2.2.1.1
   omega
  have:=zv ep bs ps h4 hl h5 h6 (ps.length+1) 0 [] base (by omega) (Nat.zero_le _) rfl
  rw[List.nil_append,List.drop_zero,List.drop_zero] at this
  refine ⟨ps.length+1,this.trans ?_⟩
  rw[← hy]
  simp only[Tr.val_ite,zB,Tr.val_ret]
 ·rintro ⟨⟨(b:LI),(base:Int),(ep:Int),⟨⟩⟩,⟨⟩⟩ out hw ho
  obtain ⟨hg,ho⟩:=Tr.guard ho
  cases ho
  have hb:bm b:=bytesOf hw.1.1
  refine (Jx b base ep).trans ?_
  show _=oR (((bf b base ep).1,(bf b base ep).2.1,(bf b base ep).2.2,()),())
  unfold tV bf
  refine (aa hg _ _).trans ?_
  by_cases c1:(an b).2.2=0
  rotate_left
  ·refine bT (by simpa using c1) ?_
   rw[if_pos c1]
  refine bF (by simpa using c1) ?_
  rw[if_neg (au c1)]
  refine (aa hg _ _).trans ?_
  obtain ⟨g1,g2,g3,g4,g5⟩:=j8 hb c1
  obtain ⟨h0,h1,h2,_⟩:=gB hb g1
  generalize (an b).1=bs at *
  generalize (ar b).1=ps at *
  unfold jT
  refine bT (by simp only[zA,zB];exact ⟨trivial,by show (0:Int)+(ps.length:Int)=_;omega,trivial,g4.symm,oE h0,kh g5⟩) ?_
  show (bif decide ((aE ep ps bs base []).2.2=0) then (bif decide (ao (aE ep ps bs base []).1≤4294967296) then oR ((aU (aE ep ps bs base []).1,(aE ep ps bs base []).2.1,0,()),()) else none) else oR (([],0,(aE ep ps bs base []).2.2,()),()))=_
  by_cases c2:(aE ep ps bs base []).2.2=0
  ·refine bT (decide_eq_true c2) ?_
   have:=oF ep ps bs base [] h0 c2
   refine bT (decide_eq_true (by have h9:ao ([]:List (LI))=0:=rfl;omega)) ?_
   rw[if_neg (au c2)]
  ·refine bF (decide_eq_false c2) ?_
   rw[if_pos c2]
abbrev nW:Io:=⟨[dB,BW],[],[],[dO,dI],none⟩
def Kt (d:nW.In):Tr nW.Res:=.ite (!d.1.1&&mv d.1.2.1) (.ret (.ret (((kf d.1.2.1).1,(kf d.1.2.1).2,()),()))) .no
abbrev K4:List (Nat×Hc):=[(65,ah jC Ka),(57,ah gq sE),(66,ah jb yk)]
def LU:Hd:=bI K4
abbrev fI:Lo:=⟨⟨(.one hL::.one (.hol (.sl 77 bp))::bx (.one (.onl 22 (Ty.sl 5 (Ty.int u8)) 13)::.one hI::co (bx (.one (.hol (.sl 77 bp))::.one hI::.one hI::ai (co (bx (bk []))))))),[]⟩,[(.ret,⟨(bx (.one (.onl 5 (Ty.int u8) 9)::.one hI::.any::ai (ai (co (bx (bk [])))))),[]⟩),(.exit 1,⟨(.any::.one (.hol (.sl 77 bp))::bx (.one (.onl 22 (Ty.sl 5 (Ty.int u8)) 13)::.one hI::.any::ai (ai (co (bx []))))),[]⟩)]⟩
def o4 (d:fI.st.den):Tr (ap fI.xs):=
 .ite (!d.1.1&&(decide (d.1.2.2.1.length=0)&&(decide (d.1.2.2.2.1=0)&&(decide (d.1.2.2.2.2.2.1=(d.1.2.2.2.2.1.length:Int))&&(decide (d.1.2.2.2.2.2.2.1=0)&&(decide (d.1.2.2.2.2.1.length≤8)&&mv d.1.2.2.2.2.1))))))
  (.ite (decide ((bE d.1.2.2.2.2.1 []).2=0)) (.ret (.pan (.ret ((),((d.1.2.1,((bE d.1.2.2.2.2.1 []).1,((ao (bE d.1.2.2.2.2.1 []).1:Int),()))),()))))) (.ret (.ret ((),(([],((bE d.1.2.2.2.2.1 []).2,())),()))))) .no
def Ac:Lp:=bQ [(9,aG fI o4)]
def vO {R:Type}(h2:Bool)(h3:List bp.den)(h4:List (Ty.sl 5 (Ty.int u8)).den)(h5:Int)(h6:List bp.den)(h7 h8:Int)(next:Bool→List bp.den→List (Ty.sl 5 (Ty.int u8)).den→Int→List bp.den→Int→Int→Option R)(out:ap fI.xs→Option R):Option R:=bif decide (h8<h7) then bif decide (0≤h8)&&decide (h8<(↑h6.length:Int)) then bif !h2&&cv (aJ (h6.getD h8.toNat (0,0,0,0,0,[],())).2.2.2.2.2.1) (h6.getD h8.toNat (0,0,0,0,0,[],())).2.2.2.2.2.1 0 then bif (bM (h6.getD h8.toNat (0,0,0,0,0,[],()))).2 != 0 then out (.ret ((),(([],((bM (h6.getD h8.toNat (0,0,0,0,0,[],()))).2,())),()))) else bif decide (h4.length+1≤4294967296) then next (h2) (h3) (h4++[(bM (h6.getD h8.toNat (0,0,0,0,0,[],()))).1]) (i64.wrap (h5+(↑(bM (h6.getD h8.toNat (0,0,0,0,0,[],()))).1.length:Int))) (h6) (h7) (i64.wrap (h8+1)) else none else none else none else out (.pan (.ret ((),((h3,(h4,(h5,()))),()))))
def uM (n:Nat)(h2:Bool)(h3:List bp.den)(h4:List (Ty.sl 5 (Ty.int u8)).den)(h5:Int)(h6:List bp.den)(h7 h8:Int):Option (ap fI.xs):=fR tt LU dr Ac 0 Tryz.f38 (bX Tryz.f38 0) n (fI.st.mk' ((h2,(h3,(h4,(h5,(h6,(h7,(h8,()))))))),())) (bC fI.xs)
theorem NW (n:Nat)(h2:Bool)(h3:List bp.den)(h4:List (Ty.sl 5 (Ty.int u8)).den)(h5:Int)(h6:List bp.den)(h7 h8:Int):uM (n+1) h2 h3 h4 h5 h6 h7 h8=vO h2 h3 h4 h5 h6 h7 h8 (uM n) some:=by kernel_rfl
theorem B5 {x:bB}(h:(bM x).2=0):(bM x).1.length≤32829:=by
 unfold bM at h ⊢
 by_cases c:aS x=0
 ·rw[if_neg (au c)]
  obtain ⟨_,_,h3⟩:=Q9 (wm c).2.2.2.2
  have:=KB x 0 (bu x.2.2.2.2.2.1).1
  simp only
  omega
 ·rw[if_pos c] at h;exact absurd h c
theorem ES (b0 bs:List bB)(hl:bs.length≤8)(hr:mv bs=true):∀(k i:Nat) (ps:List (LI)),bs.length<i+k→i≤bs.length→ps.length≤i→ao ps≤i*32829→
  uM k false b0 ps (ao ps:Int) bs (bs.length:Int) i=if (bE (bs.drop i) ps).2=0 then some (.pan (.ret ((),((b0,((bE (bs.drop i) ps).1,((ao (bE (bs.drop i) ps).1:Int),()))),())))) else some (.ret ((),(([],((bE (bs.drop i) ps).2,())),()))):=by
 intro k
 induction k with
 |zero=>intro i ps h;omega
 |succ k ih=>
  intro i ps h1 h2 h3 h4
  rw[NW]
  unfold vO
  by_cases hi:i<bs.length
  rotate_left
  ·refine bF (decide_eq_false (by omega)) ?_
   rw[zI (by omega)]
   rfl
  refine bT (decide_eq_true (by omega)) ?_
  refine bT (by simpa using hi) ?_
  have e:List.getD bs (i:Int).toNat (0,0,0,0,0,[],())=bs[i]:=by rw[zG,aK hi]
  have hx:cv (aJ bs[i].2.2.2.2.2.1) bs[i].2.2.2.2.2.1 0=true:=List.all_eq_true.1 hr bs[i] (List.getElem_mem hi)
  rw[e,zE hi,af (n:=(i:Int)+1) (by omega) (by omega)]
  have e2:bE (bs[i]::bs.drop (i+1)) ps=if (bM bs[i]).2≠0 then ([],(bM bs[i]).2) else bE (bs.drop (i+1)) (ps++[(bM bs[i]).1]):=rfl
  rw[e2]
  refine bT (by rw[hx];rfl) ?_
  by_cases c:(bM bs[i]).2=0
  ·refine bF (by simpa using c) ?_
   have hle:=B5 c
   rw[if_neg (au c),af (n:=(ao ps:Int)+((bM bs[i]).1.length:Int)) (by omega) (by omega)]
   refine bT (decide_eq_true (by omega)) ?_
   have h9:ao [(bM bs[i]).1]=(bM bs[i]).1.length:=Nat.add_zero _
   have:=ih (i+1) (ps++[(bM bs[i]).1]) (by omega) (by omega) (by simp;omega) (by rw[fO,h9];omega)
   rw[fO,h9] at this
   rw[show ((ao ps+(bM bs[i]).1.length:Nat):Int)=(ao ps:Int)+((bM bs[i]).1.length:Int) by omega] at this
   exact this
  ·refine bT (by simpa using c) ?_
   rw[if_pos c,if_neg c]
theorem xR:∀(bs:List bB) (ps:List (LI)),(bE bs ps).2=0→ao (bE bs ps).1≤ao ps+32829*bs.length
 |[],ps,_=>Nat.le_refl _
 |x::xs,ps,h=>by
  unfold bE at h ⊢
  split
  ·rename_i c;rw[if_pos c] at h;exact absurd h c
  rename_i c
  rw[if_neg c] at h
  have:=xR xs _ h
  have h2:=B5 (x:=x) (Classical.byContradiction c)
  have h9:ao [(bM x).1]=(bM x).1.length:=Nat.add_zero _
  rw[fO,h9] at this
  rw[zN]
  omega
def Br (a0:Bool)(a1:List bp.den):Option nW.Res:=bif (↑a1.length:Int) == 0 then oR (([],85,()),()) else bif decide (8<(↑a1.length:Int)) then oR (([],9,()),()) else (o4 ((a0,(a1,([],(0,(a1,((↑a1.length:Int),(0,()))))))),())).run fun y=>match y with | .ret ((),((x21,x22,()),()))=>(oR ((x21,x22,()),())) | .pan (.ret ((),((x23,x24,x25,()),())))=>(bif decide (0≤aY x23) then oR (([],90,()),()) else bif decide (65536<x25) then oR (([],4,()),()) else bif decide (ao x24≤4294967296) then oR ((aU x24,0,()),()) else none)
theorem Qr (a0:Bool)(a1:List bp.den):Io.run tt LU dr Ac nW Tryz.f38 ((a0,a1,()),())=Br a0 a1:=by kernel_rfl
theorem Cg:HcsOk prog K4:=.cons RJ (.cons C8 (.cons Ao .nil))
theorem RZ:HcOk prog 38 (ah nW Kt):=by
 refine bY Cg (lp:=Ac) (fn:=Tryz.f38) nW (.step (h0:=aG fI o4) (by kernel_rfl) (f9 Cg (lp:=Ac) (fn:=Tryz.f38) (.done (by kernel_rfl)) fI o4 ?_) (.done (by kernel_rfl))) Kt ?_
 ·rintro ⟨⟨(pk:Bool),(b0:List bB),(ps:List (LI)),(sz:Int),(bs:List bB),(m:Int),(i:Int),⟨⟩⟩,⟨⟩⟩ y hw hy
  obtain ⟨hg,hy⟩:=Tr.guard hy
  simp only[zA,zB,Bool.not_eq_true'] at hg
  obtain ⟨h1,h2,h3,h4,h5,h6,h7⟩:=hg
  have h1:pk=false:=h1
  have h2:ps=[]:=List.length_eq_zero_iff.1 h2
  have h3:sz=0:=h3
  have h4:m=(bs.length:Int):=h4
  have h5:i=0:=h5
  have h6:bs.length≤8:=h6
  subst h1 h2 h3 h4 h5
  refine ⟨bs.length+1,(ES b0 bs h6 h7 (bs.length+1) 0 [] (by omega) (Nat.zero_le _) (Nat.zero_le _) (Nat.zero_le _)).trans ?_⟩
  rw[← hy]
  simp only[Tr.val_ite,zB,Tr.val_ret,List.drop_zero]
 ·rintro ⟨⟨(pk:Bool),(bs:List bB),⟨⟩⟩,⟨⟩⟩ out hw ho
  obtain ⟨hg,ho⟩:=Tr.guard ho
  simp only[zA,Bool.not_eq_true'] at hg
  have h1:pk=false:=hg.1
  have h2:mv bs=true:=hg.2
  subst h1
  cases ho
  refine (Qr false bs).trans ?_
  show _=oR (((kf bs).1,(kf bs).2,()),())
  unfold Br kf
  by_cases c1:bs=[]
  ·refine bT (by simp[c1]) ?_
   rw[if_pos c1]
  refine bF (by simp[c1]) ?_
  rw[if_neg c1]
  by_cases c2:8<(bs.length:Int)
  ·refine bT (decide_eq_true c2) ?_
   rw[if_pos c2]
  refine bF (decide_eq_false c2) ?_
  rw[if_neg c2]
  unfold o4
  refine bT (by simp only[zA,zB,Bool.not_eq_true'];exact ⟨trivial,rfl,trivial,trivial,trivial,show bs.length≤8 by omega,h2⟩) ?_
  show (bif decide ((bE bs []).2=0) then (bif decide (0≤aY bs) then oR (([],90,()),()) else bif decide (65536<(ao (bE bs []).1:Int)) then oR (([],4,()),()) else bif decide (ao (bE bs []).1≤4294967296) then oR ((aU (bE bs []).1,0,()),()) else none) else oR (([],(bE bs []).2,()),()))=_
  by_cases c3:(bE bs []).2=0
  rotate_left
  ·refine bF (decide_eq_false c3) ?_
   rw[if_pos c3]
  refine bT (decide_eq_true c3) ?_
  rw[if_neg (au c3)]
  by_cases c4:0≤aY bs
  ·refine bT (decide_eq_true c4) ?_
   rw[if_pos c4]
  refine bF (decide_eq_false c4) ?_
  rw[if_neg c4]
  by_cases c5:65536<(ao (bE bs []).1:Int)
  ·refine bT (decide_eq_true c5) ?_
   rw[if_pos c5]
  refine bF (decide_eq_false c5) ?_
  rw[if_neg c5]
  have:=xR bs [] c3
  exact aa (decide_eq_true (by have h9:ao ([]:List (LI))=0:=rfl;omega)) _ _
end
end Go.Proofs.YthpcdhgpplmneaaGreatDoor.Sym
namespace Go.Proofs.YthpcdhgpplmneaaGreatDoor.Sym
open Go
noncomputable section
abbrev kG:Io:=⟨[gl],[],[],[IF],none⟩
def D3 (d:kG.In):Tr kG.Res:=.ret (.ret (((d.1.1,0,-1,-1,-1,[(7,(false,[],()),(false,[1],()),[],())],()),()),()))
abbrev GB:List (Nat×Hc):=[]
def Pg:Hd:=bI GB
def HE:Lp:=bQ []
def Ix (a0:Int):Option kG.Res:=oR (((a0,0,-1,-1,-1,[(7,(false,[],()),(false,[1],()),[],())],()),()),())
theorem Nw (a0:Int):Io.run tt Pg dr HE kG Tryz.f55 ((a0,()),())=Ix a0:=by kernel_rfl
theorem PP:HcOk prog 55 (ah kG D3):=by
 refine bY (cs:=GB) HcsOk.nil (lp:=HE) (fn:=Tryz.f55) kG (.done (by kernel_rfl)) D3 ?_
 rintro ⟨⟨(b:Int),⟨⟩⟩,⟨⟩⟩ out hw ho
 rw[← ho]
 exact Nw b
abbrev f4:Io:=⟨[],[],[],[dB],none⟩
def tv (d:f4.In):Tr f4.Res:=.ret (.ret ((true,()),()))
abbrev xh:List (Nat×Hc):=[(55,ah kG D3),(38,ah nW Kt),(34,ah iD yA),(41,ah gr sF),(32,ah iC yz)]
def IP:Hd:=bI xh
def xG:Lp:=bQ []
def rx:Option f4.Res:=bif mv [(5,0,-1,-1,-1,[(7,(false,[],()),(false,[1],()),[],())],()),(5,0,-1,-1,-1,[(7,(false,[],()),(false,[1],()),[],())],())] then bif (kf [(5,0,-1,-1,-1,[(7,(false,[],()),(false,[1],()),[],())],()),(5,0,-1,-1,-1,[(7,(false,[],()),(false,[1],()),[],())],())]).2 != 0 then oR ((false,()),()) else bif (↑[0,0,0,0,0,0,0,5,0,0,0,57,0,0,0,0,2,252,52,46,176,0,0,0,0,0,0,0,0,0,0,0,0,0,7,0,0,0,0,0,0,0,7,255,255,255,255,255,255,255,255,255,255,255,255,255,255,0,0,0,1,14,0,0,0,0,2,1,0,0,0,0,0,0,0,0,5,0,0,0,57,0,0,0,0,2,252,52,46,176,0,0,0,0,0,0,0,0,0,0,0,0,0,7,0,0,0,0,0,0,0,7,255,255,255,255,255,255,255,255,255,255,255,255,255,255,0,0,0,1,14,0,0,0,0,2,1,0].length:Int) != 138 then oR ((false,()),()) else bif decide ([0,0,0,0,0,0,0,5,0,0,0,57,0,0,0,0,2,252,52,46,176,0,0,0,0,0,0,0,0,0,0,0,0,0,7,0,0,0,0,0,0,0,7,255,255,255,255,255,255,255,255,255,255,255,255,255,255,0,0,0,1,14,0,0,0,0,2,1,0,0,0,0,0,0,0,0,5,0,0,0,57,0,0,0,0,2,252,52,46,176,0,0,0,0,0,0,0,0,0,0,0,0,0,7,0,0,0,0,0,0,0,7,255,255,255,255,255,255,255,255,255,255,255,255,255,255,0,0,0,1,14,0,0,0,0,2,1,0].length≤4294960000) then bif decide ([0,0,0,0,0,0,0,5,0,0,0,57,0,0,0,0,2,252,52,46,176,0,0,0,0,0,0,0,0,0,0,0,0,0,7,0,0,0,0,0,0,0,7,255,255,255,255,255,255,255,255,255,255,255,255,255,255,0,0,0,1,14,0,0,0,0,2,1,0,0,0,0,0,0,0,0,5,0,0,0,57,0,0,0,0,2,252,52,46,176,0,0,0,0,0,0,0,0,0,0,0,0,0,7,0,0,0,0,0,0,0,7,255,255,255,255,255,255,255,255,255,255,255,255,255,255,0,0,0,1,14,0,0,0,0,2,1,0].length≤4294960000) then bif decide ([0,0,0,0,0,0,0,9,0,0,0,57,0,0,0,2,2,252,52,46,176,0,0,0,0,0,0,0,0,0,0,0,0,0,7,0,0,0,0,0,0,0,7,255,255,255,255,255,255,255,255,255,255,255,255,255,255,0,0,0,1,14,0,0,0,0,2,1,0,0,0,0,0,0,0,0,10,0,0,0,57,0,0,0,2,2,252,52,46,176,0,0,0,0,0,0,0,0,0,0,0,0,0,7,0,0,0,0,0,0,0,7,255,255,255,255,255,255,255,255,255,255,255,255,255,255,0,0,0,1,14,0,0,0,0,2,1,0].length≤4294960000) then bif (jt [0,0,0,0,0,0,0,5,0,0,0,57,0,0,0,0,2,252,52,46,176,0,0,0,0,0,0,0,0,0,0,0,0,0,7,0,0,0,0,0,0,0,7,255,255,255,255,255,255,255,255,255,255,255,255,255,255,0,0,0,1,14,0,0,0,0,2,1,0,0,0,0,0,0,0,0,5,0,0,0,57,0,0,0,0,2,252,52,46,176,0,0,0,0,0,0,0,0,0,0,0,0,0,7,0,0,0,0,0,0,0,7,255,255,255,255,255,255,255,255,255,255,255,255,255,255,0,0,0,1,14,0,0,0,0,2,1,0]).2.2 == 190 then bif (bf [0,0,0,0,0,0,0,5,0,0,0,57,0,0,0,0,2,252,52,46,176,0,0,0,0,0,0,0,0,0,0,0,0,0,7,0,0,0,0,0,0,0,7,255,255,255,255,255,255,255,255,255,255,255,255,255,255,0,0,0,1,14,0,0,0,0,2,1,0,0,0,0,0,0,0,0,5,0,0,0,57,0,0,0,0,2,252,52,46,176,0,0,0,0,0,0,0,0,0,0,0,0,0,7,0,0,0,0,0,0,0,7,255,255,255,255,255,255,255,255,255,255,255,255,255,255,0,0,0,1,14,0,0,0,0,2,1,0] 9 2).2.2 == 0 then bif (bf [0,0,0,0,0,0,0,5,0,0,0,57,0,0,0,0,2,252,52,46,176,0,0,0,0,0,0,0,0,0,0,0,0,0,7,0,0,0,0,0,0,0,7,255,255,255,255,255,255,255,255,255,255,255,255,255,255,0,0,0,1,14,0,0,0,0,2,1,0,0,0,0,0,0,0,0,5,0,0,0,57,0,0,0,0,2,252,52,46,176,0,0,0,0,0,0,0,0,0,0,0,0,0,7,0,0,0,0,0,0,0,7,255,255,255,255,255,255,255,255,255,255,255,255,255,255,0,0,0,1,14,0,0,0,0,2,1,0] 9 2).2.1 == 11 then bif (↑(j9 (an [0,0,0,0,0,0,0,9,0,0,0,57,0,0,0,2,2,252,52,46,176,0,0,0,0,0,0,0,0,0,0,0,0,0,7,0,0,0,0,0,0,0,7,255,255,255,255,255,255,255,255,255,255,255,255,255,255,0,0,0,1,14,0,0,0,0,2,1,0,0,0,0,0,0,0,0,10,0,0,0,57,0,0,0,2,2,252,52,46,176,0,0,0,0,0,0,0,0,0,0,0,0,0,7,0,0,0,0,0,0,0,7,255,255,255,255,255,255,255,255,255,255,255,255,255,255,0,0,0,1,14,0,0,0,0,2,1,0]).1):Int) == 2 then oR (((an [0,0,0,0,0,0,0,9,0,0,0,57,0,0,0,2,2,252,52,46,176,0,0,0,0,0,0,0,0,0,0,0,0,0,7,0,0,0,0,0,0,0,7,255,255,255,255,255,255,255,255,255,255,255,255,255,255,0,0,0,1,14,0,0,0,0,2,1,0,0,0,0,0,0,0,0,10,0,0,0,57,0,0,0,2,2,252,52,46,176,0,0,0,0,0,0,0,0,0,0,0,0,0,7,0,0,0,0,0,0,0,7,255,255,255,255,255,255,255,255,255,255,255,255,255,255,0,0,0,1,14,0,0,0,0,2,1,0]).2.2 == 0,()),()) else oR ((false,()),()) else oR ((false,()),()) else oR ((false,()),()) else oR ((false,()),()) else none else none else none else none
theorem Fc:Io.run tt IP dr xG f4 Tryz.f28 ((),())=rx:=by kernel_rfl
theorem I8:HcOk prog 28 (ah f4 tv):=by
 refine bY (cs:=xh) (.cons PP (.cons RZ (.cons MU (.cons C9 (.cons MT .nil))))) (lp:=xG) (fn:=Tryz.f28) f4 (.done (by kernel_rfl)) tv ?_
 rintro ⟨⟨⟩,⟨⟩⟩ out hw ho
 cases ho
 have e:rx=oR ((true,()),()):=by kernel_rfl
 exact Fc.trans e
end
end Go.Proofs.YthpcdhgpplmneaaGreatDoor.Sym
namespace Go.Proofs.YthpcdhgpplmneaaGreatDoor.Sym
open Go
open Go.IntKind (i8 i16 i32 i64 u8 u16 u32 u64)
noncomputable section
abbrev gu:Io:=⟨[dL],[],[],[Rb,dI],none⟩
def sH (d:gu.In):Tr gu.Res:=.ite (decide (d.1.1.length≤4294960000)) (.ret (.ret (((ar d.1.1).1,(ar d.1.1).2,()),()))) .no
abbrev BT:List (Nat×Hc):=[(71,ah jn yH),(23,ah kq DT)]
def Cu:Hd:=bI BT
abbrev dl:Lo:=⟨⟨(.one (.hol (.sl 5 (Ty.int u8)))::.any::bk (.one (.onl 22 (Ty.sl 5 (Ty.int u8)) 9)::.one hI::ai (ai (bx (bk []))))),[]⟩,[(.ret,⟨(bk (.one (.onl 22 (Ty.sl 5 (Ty.int u8)) 5)::.one hI::ai (ai (co [])))),[]⟩),(.exit 0,⟨(bx (.one (.onl 22 (Ty.sl 5 (Ty.int u8)) 9)::.any::ai (ai (bx (bk []))))),[]⟩)]⟩
def jX (d:dl.st.den):Tr (ap dl.xs):=
 .ite (decide (d.1.2.1.length=0)&&(decide (d.1.2.2.1=0)&&decide (d.1.1.length≤65536))) (.ite (decide ((aO d.1.1 10 0 []).2=0)) (.ret (.pan (.ret ((),(((aO d.1.1 10 0 []).1,()),()))))) (.ret (.ret ((),(([],((aO d.1.1 10 0 []).2,())),()))))) .no
def pN:Lp:=bQ [(8,aG dl jX)]
def qn {R:Type}(h1:LI)(h2:List (Ty.sl 5 (Ty.int u8)).den)(h3:Int)(next:LI→List (Ty.sl 5 (Ty.int u8)).den→Int→Option R)(out:ap dl.xs→Option R):Option R:=bif decide (h3<(↑h1.length:Int)) then bif decide (8≤(↑h2.length:Int)) then out (.ret ((),(([],(9,())),()))) else bif (ax h1 h3).2 != 0 then out (.ret ((),(([],((ax h1 h3).2,())),()))) else bif decide (h1.length≤4294967296) then bif decide (h2.length+1≤4294967296) then next (h1) (h2++[List.drop h3.toNat (List.take (i64.wrap (h3+(ax h1 h3).1)).toNat h1)]) (i64.wrap (h3+(ax h1 h3).1)) else none else none else out (.pan (.ret ((),((h2,()),()))))
def oz (n:Nat)(h1:LI)(h2:List (Ty.sl 5 (Ty.int u8)).den)(h3:Int):Option (ap dl.xs):=fR tt Cu dr pN 0 Tryz.f58 (bX Tryz.f58 0) n (dl.st.mk' ((h1,(h2,(h3,()))),())) (bC dl.xs)
theorem Fz (n:Nat)(h1:LI)(h2:List (Ty.sl 5 (Ty.int u8)).den)(h3:Int):oz (n+1) h1 h2 h3=qn h1 h2 h3 (oz n) some:=by kernel_rfl
theorem zP (b:LI)(hl:b.length≤65536):∀(n k:Nat) (p:Int) (ps:List (LI)),8<n+ps.length→n≤k→0≤p→p≤(b.length:Int)→ps.length≤8→
  oz k b ps p=if (aO b n p ps).2=0 then some (.pan (.ret ((),(((aO b n p ps).1,()),())))) else some (.ret ((),(([],((aO b n p ps).2,())),()))):=by
 intro n
 induction n with
 |zero=>intro k p ps h1 h2 h3 h4 h5;omega
 |succ n ih=>
  intro k p ps h1 h2 h3 h4 h5
  obtain ⟨k,rfl⟩:∃j,k=j+1:=⟨k - 1,by omega⟩
  rw[Fz]
  unfold qn aO
  by_cases c1:(b.length:Int)≤p
  ·refine bF (decide_eq_false (by omega)) ?_
   rw[if_pos c1,if_pos rfl]
  refine bT (decide_eq_true (by omega)) ?_
  rw[if_neg c1]
  by_cases c2:ps.length=8
  ·refine bT (decide_eq_true (by omega)) ?_
   rw[if_pos c2,if_neg (show (9:Int)≠0 by decide)]
  refine bF (decide_eq_false (by omega)) ?_
  rw[if_neg c2]
  by_cases c3:(ax b p).2=0
  rotate_left
  ·refine bT (by simpa using c3) ?_
   rw[if_pos c3,if_neg c3]
  refine bF (by simpa using c3) ?_
  rw[if_neg (au c3)]
  have hm:=ga c3
  rw[af (n:=p+(ax b p).1) (by omega) (by omega),List.drop_take,show (p+(ax b p).1).toNat - p.toNat=(ax b p).1.toNat by omega]
  refine bT (decide_eq_true (by omega)) ?_
  refine bT (decide_eq_true (by omega)) ?_
  exact ih k _ _ (by simp;omega) (by omega) (by omega) (by omega) (by simp;omega)
def tZ (a0:LI):Option gu.Res:=bif (↑a0.length:Int) == 0 then oR (([],85,()),()) else bif decide (65536<(↑a0.length:Int)) then oR (([],4,()),()) else (jX ((a0,([],(0,()))),())).run fun y=>match y with | .ret ((),((x12,x13,()),()))=>(oR ((x12,x13,()),())) | .pan (.ret ((),((x14,()),())))=>(oR ((x14,0,()),()))
theorem JB (a0:LI):Io.run tt Cu dr pN gu Tryz.f58 ((a0,()),())=tZ a0:=by kernel_rfl
theorem ux:HcsOk prog BT:=.cons H8 (.cons Pz .nil)
theorem Da:HcOk prog 58 (ah gu sH):=by
 refine bY ux (lp:=pN) (fn:=Tryz.f58) gu (.step (h0:=aG dl jX) (by kernel_rfl) (f9 ux (lp:=pN) (fn:=Tryz.f58) (.done (by kernel_rfl)) dl jX ?_) (.done (by kernel_rfl))) sH ?_
 ·rintro ⟨⟨(b:LI),(ps:List (LI)),(p:Int),⟨⟩⟩,⟨⟩⟩ y hw hy
  obtain ⟨hg,hy⟩:=Tr.guard hy
  simp only[zA,zB] at hg
  obtain ⟨h1,h2,h3⟩:=hg
  have h1:ps=[]:=List.length_eq_zero_iff.1 h1
  have h2:p=0:=h2
  have h3:b.length≤65536:=h3
  subst h1 h2
  refine ⟨10,(zP b h3 10 10 0 [] (by simp) (Nat.le_refl _) (Int.le_refl 0) (by omega) (Nat.zero_le _)).trans ?_⟩
  rw[← hy]
  simp only[Tr.val_ite,zB,Tr.val_ret]
 ·rintro ⟨⟨(b:LI),⟨⟩⟩,⟨⟩⟩ out hw ho
  obtain ⟨hg,ho⟩:=Tr.guard ho
  cases ho
  refine (JB b).trans ?_
  show _=oR (((ar b).1,(ar b).2,()),())
  unfold tZ ar
  by_cases c1:b=[]
  ·refine bT (by simp[c1]) ?_
   rw[if_pos c1]
  refine bF (by simp[c1]) ?_
  rw[if_neg c1]
  by_cases c2:65536<(b.length:Int)
  ·refine bT (decide_eq_true c2) ?_
   rw[if_pos c2]
  refine bF (decide_eq_false c2) ?_
  rw[if_neg c2]
  unfold jX
  refine bT (by simp only[zA,zB];exact ⟨rfl,trivial,show b.length≤65536 by omega⟩) ?_
  show (bif decide ((aO b 10 0 []).2=0) then oR (((aO b 10 0 []).1,0,()),()) else oR (([],(aO b 10 0 []).2,()),()))=_
  by_cases c3:(aO b 10 0 []).2=0
  ·refine bT (decide_eq_true c3) ?_
   rw[c3]
  ·refine bF (decide_eq_false c3) ?_
   rw[oN 10 0 [] c3]
abbrev iE:Io:=⟨[BW],[],[],[dI],none⟩
def yD (d:iE.In):Tr iE.Res:=.ret (.ret ((aY d.1.1,()),()))
abbrev ui:List (Nat×Hc):=[]
def Cs:Hd:=bI ui
abbrev dj:Lo:=⟨⟨(.one (.hol (.sl 77 bp))::bk (.one hI::ai (bk []))),[]⟩,[(.ret,⟨(bk (.one hI::.any::ai (bk []))),[]⟩),(.exit 0,⟨(ai (bx (bk []))),[]⟩)]⟩
def jV (d:dj.st.den):Tr (ap dj.xs):=
 .ite (decide (d.1.2.1=0)) (.ite (decide (0≤aY d.1.1)) (.ret (.ret ((),((aY d.1.1,()),())))) (.ret (.pan (.ret ((),((),())))))) .no
def pL:Lp:=bQ [(3,aG dj jV)]
def lj {R:Type}(h1:List bp.den)(h2:Int)(next:List bp.den→Int→Option R)(out:ap dj.xs→Option R):Option R:=bif decide (h2<(↑h1.length:Int)) then bif decide (1<(↑h1.length:Int)) then bif decide (0≤h2)&&decide (h2<(↑h1.length:Int)) then bif (h1.getD h2.toNat (0,0,0,0,0,[],())).2.2.1 != -1 then out (.ret ((),((h2,()),()))) else next (h1) (i64.wrap (h2+1)) else none else out (.pan (.ret ((),((),())))) else out (.pan (.ret ((),((),()))))
def kT (n:Nat)(h1:List bp.den)(h2:Int):Option (ap dj.xs):=fR tt Cs dr pL 0 Tryz.f60 (bX Tryz.f60 0) n (dj.st.mk' ((h1,(h2,())),())) (bC dj.xs)
theorem vr (n:Nat)(h1:List bp.den)(h2:Int):kT (n+1) h1 h2=lj h1 h2 (kT n) some:=by kernel_rfl
theorem zy (bs:List bB)(h2l:2≤bs.length)(hl:bs.length≤maxLen):∀(k i:Nat),bs.length<i+k→i≤bs.length→
  kT k bs i=if 0≤dG (bs.drop i) i then some (.ret ((),((dG (bs.drop i) i,()),()))) else some (.pan (.ret ((),((),())))):=by
 intro k
 induction k with
 |zero=>intro i h;omega
 |succ k ih=>
  intro i h1 h2
  rw[vr]
  unfold lj
  by_cases hi:i<bs.length
  rotate_left
  ·refine bF (decide_eq_false (by omega)) ?_
   rw[zI (by omega)]
   exact (if_neg (show ¬(0:Int)≤-1 by decide)).symm
  refine bT (decide_eq_true (by omega)) ?_
  refine bT (decide_eq_true (by omega)) ?_
  refine bT (by simpa using hi) ?_
  have e:List.getD bs (i:Int).toNat (0,0,0,0,0,[],())=bs[i]:=by rw[zG,aK hi]
  rw[e,zE hi,aM hi hl]
  have e2:dG (bs[i]::bs.drop (i+1)) i=if bs[i].2.2.1≠-1 then (i:Int) else dG (bs.drop (i+1)) ((i:Int)+1):=rfl
  rw[e2]
  by_cases c:bs[i].2.2.1 = -1
  ·refine bF (by simpa using c) ?_
   rw[if_neg (au c)]
   exact ih (i+1) (by omega) (by omega)
  ·refine bT (by simpa using c) ?_
   rw[if_pos c,if_pos (by omega)]
def tX (a0:List bp.den):Option iE.Res:=(jV ((a0,(0,())),())).run fun y=>match y with | .ret ((),((x6,()),()))=>(oR ((x6,()),())) | .pan (.ret ((),((),())))=>(oR ((-1,()),()))
theorem Jz (a0:List bp.den):Io.run tt Cs dr pL iE Tryz.f60 ((a0,()),())=tX a0:=by kernel_rfl
theorem MV:HcOk prog 60 (ah iE yD):=by
 refine bY (cs:=ui) HcsOk.nil (lp:=pL) (fn:=Tryz.f60) iE (.step (h0:=aG dj jV) (by kernel_rfl) (f9 (cs:=ui) HcsOk.nil (lp:=pL) (fn:=Tryz.f60) (.done (by kernel_rfl)) dj jV ?_) (.done (by kernel_rfl))) yD ?_
 ·rintro ⟨⟨(bs:List bB),(i:Int),⟨⟩⟩,⟨⟩⟩ y hw hy
  obtain ⟨hg,hy⟩:=Tr.guard hy
  have h2:i=0:=of_decide_eq_true hg
  subst h2
  by_cases c:bs.length<2
  ·refine ⟨1,?_⟩
   have e:aY bs = -1:=by unfold aY;rw[if_pos c]
   have hy:Tr.val (Tr.ite (decide (0≤aY bs)) (Tr.ret (Out.ret ((),((aY bs,()),())))) (Tr.ret (Out.pan (Out.ret ((),((),()))))))=some y:=hy
   rw[e,Tr.val_ite,if_neg (by decide),Tr.val_ret] at hy
   refine Eq.trans ?_ hy
   show kT 1 bs 0=_
   rw[vr]
   unfold lj
   by_cases c0:bs.length=0
   ·exact ae (decide_eq_false (by omega)) _ _
   ·refine bT (decide_eq_true (by omega)) ?_
    exact ae (decide_eq_false (by omega)) _ _
  ·refine ⟨bs.length+1,(zy bs (by omega) hw.1.1.1 (bs.length+1) 0 (by omega) (Nat.zero_le _)).trans ?_⟩
   have e:aY bs=dG bs 0:=by unfold aY;rw[if_neg c]
   have hy:Tr.val (Tr.ite (decide (0≤aY bs)) (Tr.ret (Out.ret ((),((aY bs,()),())))) (Tr.ret (Out.pan (Out.ret ((),((),()))))))=some y:=hy
   rw[← hy,e]
   simp only[Tr.val_ite,zB,Tr.val_ret,List.drop_zero]
   rfl
 ·rintro ⟨⟨(bs:List bB),⟨⟩⟩,⟨⟩⟩ out hw ho
  cases ho
  refine (Jz bs).trans ?_
  show _=oR ((aY bs,()),())
  unfold tX jV
  refine (aa rfl _ _).trans ?_
  show (bif decide (0≤aY bs) then oR ((aY bs,()),()) else oR ((-1,()),()))=_
  have h:0≤aY bs∨aY bs = -1:=by
   unfold aY
   split
   ·exact .inr rfl
   ·exact oK bs 0 (Int.le_refl 0)
  rcases h with c2 | c2
  ·exact aa (decide_eq_true c2) _ _
  ·refine bF (decide_eq_false (by omega)) ?_
   rw[c2]
abbrev nX:Io:=⟨[dL],[],[],[BW,dI,dI],none⟩
def Ku (d:nX.In):Tr nX.Res:=.ite (decide (d.1.1.length≤4294960000)) (.ret (.ret (((an d.1.1).1,(an d.1.1).2.1,(an d.1.1).2.2,()),()))) .no
abbrev K5:List (Nat×Hc):=[(58,ah gu sH),(59,ah iG F6),(60,ah iE yD)]
def LV:Hd:=bI K5
abbrev fJ:Lo:=⟨⟨(.any::bx (.one (.hol (.sl 22 (Ty.sl 5 (Ty.int u8))))::.any::.one (.onl 77 bp 15)::.one hI::ai (ai (co [])))),[]⟩,[(.ret,⟨(bk (.one (.onl 77 bp 5)::.one hI::.one hI::ai (ai (co (bx []))))),[]⟩),(.exit 0,⟨(.any::bx (bk (.one (.onl 77 bp 15)::.any::ai (ai (co []))))),[]⟩)]⟩
def o5 (d:fJ.st.den):Tr (ap fJ.xs):=
 .ite (decide (d.1.2.1.length=0)&&(decide (d.1.2.2.1=0)&&(decide (d.1.1.length≤8)&&gd d.1.1)))
  (.ite (decide ((aD d.1.1 0 []).2.2=0)) (.ret (.pan (.ret ((),(((aD d.1.1 0 []).1,()),()))))) (.ret (.ret ((),(([],((aD d.1.1 0 []).2.1,((aD d.1.1 0 []).2.2,()))),()))))) .no
def Af:Lp:=bQ [(7,aG fJ o5)]
def vP {R:Type}(h1:List bs.den)(h2:List bp.den)(h3:Int)(next:List bs.den→List bp.den→Int→Option R)(out:ap fJ.xs→Option R):Option R:=bif decide (h3<(↑h1.length:Int)) then bif decide (0≤h3)&&decide (h3<(↑h1.length:Int)) then bif decide (List.length (h1.getD h3.toNat [])≤4294960000) then bif (aC (h1.getD h3.toNat [])).2 != 0 then out (.ret ((),(([],(h3,((aC (h1.getD h3.toNat [])).2,()))),()))) else bif decide (h2.length+1≤4294967296) then next (h1) (h2++[(aC (h1.getD h3.toNat [])).1]) (i64.wrap (h3+1)) else none else none else none else out (.pan (.ret ((),((h2,()),()))))
def uN (n:Nat)(h1:List bs.den)(h2:List bp.den)(h3:Int):Option (ap fJ.xs):=fR tt LV dr Af 0 Tryz.f30 (bX Tryz.f30 0) n (fJ.st.mk' ((h1,(h2,(h3,()))),())) (bC fJ.xs)
theorem NX (n:Nat)(h1:List bs.den)(h2:List bp.den)(h3:Int):uN (n+1) h1 h2 h3=vP h1 h2 h3 (uN n) some:=by kernel_rfl
theorem ET (ps:List (LI))(h8:ps.length≤8)(hl:ps.length≤maxLen)(hp:gd ps=true):∀(k i:Nat) (out:List bB),ps.length<i+k→i≤ps.length→out.length≤i→
  uN k ps out i=if (aD (ps.drop i) i out).2.2=0 then some (.pan (.ret ((),(((aD (ps.drop i) i out).1,()),())))) else some (.ret ((),(([],((aD (ps.drop i) i out).2.1,((aD (ps.drop i) i out).2.2,()))),()))):=by
 intro k
 induction k with
 |zero=>intro i out h;omega
 |succ k ih=>
  intro i out h1 h2 h3
  rw[NX]
  unfold vP
  by_cases hi:i<ps.length
  rotate_left
  ·refine bF (decide_eq_false (by omega)) ?_
   rw[zI (by omega)]
   rfl
  refine bT (decide_eq_true (by omega)) ?_
  refine bT (by simpa using hi) ?_
  have e:List.getD ps (i:Int).toNat []=ps[i]:=by rw[zG,aK hi]
  have hpi:ps[i].length≤4294960000:=of_decide_eq_true (List.all_eq_true.1 hp ps[i] (List.getElem_mem hi))
  rw[e,zE hi,aM hi hl]
  have e2:aD (ps[i]::ps.drop (i+1)) i out=if (aC ps[i]).2≠0 then ([],(i:Int),(aC ps[i]).2) else aD (ps.drop (i+1)) ((i:Int)+1) (out++[(aC ps[i]).1]):=rfl
  rw[e2]
  refine bT (decide_eq_true hpi) ?_
  by_cases c:(aC ps[i]).2=0
  ·refine bF (by simpa using c) ?_
   rw[if_neg (au c)]
   refine bT (decide_eq_true (by omega)) ?_
   exact ih (i+1) _ (by omega) (by omega) (by simp;omega)
  ·refine bT (by simpa using c) ?_
   rw[if_pos c,if_neg c]
def Bt (a0:LI):Option nX.Res:=bif decide (a0.length≤4294960000) then bif (ar a0).2 != 0 then oR (([],0,(ar a0).2,()),()) else (o5 (((ar a0).1,([],(0,()))),())).run fun y=>match y with | .ret ((),((x11,x12,x13,()),()))=>(oR ((x11,x12,x13,()),())) | .pan (.ret ((),((x14,()),())))=>(bif decide (0≤aY x14) then oR (([],aY x14,90,()),()) else oR ((x14,0,0,()),())) else none
theorem Qs (a0:LI):Io.run tt LV dr Af nX Tryz.f30 ((a0,()),())=Bt a0:=by kernel_rfl
theorem Ch:HcsOk prog K5:=.cons Da (.cons MX (.cons MV .nil))
theorem R7:HcOk prog 30 (ah nX Ku):=by
 refine bY Ch (lp:=Af) (fn:=Tryz.f30) nX (.step (h0:=aG fJ o5) (by kernel_rfl) (f9 Ch (lp:=Af) (fn:=Tryz.f30) (.done (by kernel_rfl)) fJ o5 ?_) (.done (by kernel_rfl))) Ku ?_
 ·rintro ⟨⟨(ps:List (LI)),(out:List bB),(i:Int),⟨⟩⟩,⟨⟩⟩ y hw hy
  obtain ⟨hg,hy⟩:=Tr.guard hy
  simp only[zA,zB] at hg
  obtain ⟨h1,h3,h5,h4⟩:=hg
  have h1:out=[]:=List.length_eq_zero_iff.1 h1
  have h3:i=0:=h3
  subst h1 h3
  refine ⟨ps.length+1,(ET ps h5 hw.1.1.1 h4 (ps.length+1) 0 [] (by omega) (Nat.zero_le _) (Nat.zero_le _)).trans ?_⟩
  rw[← hy]
  simp only[Tr.val_ite,zB,Tr.val_ret,List.drop_zero]
  rfl
 ·rintro ⟨⟨(b:LI),⟨⟩⟩,⟨⟩⟩ out hw ho
  obtain ⟨hg,ho⟩:=Tr.guard ho
  cases ho
  have hb:bm b:=bytesOf hw.1.1
  refine (Qs b).trans ?_
  show _=oR (((an b).1,(an b).2.1,(an b).2.2,()),())
  unfold Bt an
  refine (aa hg _ _).trans ?_
  by_cases c1:(ar b).2=0
  rotate_left
  ·refine bT (by simpa using c1) ?_
   rw[if_pos c1]
  refine bF (by simpa using c1) ?_
  rw[if_neg (au c1)]
  obtain ⟨k1,_,k3,_⟩:=gB hb c1
  unfold o5
  refine bT (by simp only[zA,zB];exact ⟨rfl,trivial,k3,oE k1⟩) ?_
  show (bif decide ((aD (ar b).1 0 []).2.2=0) then (bif decide (0≤aY (aD (ar b).1 0 []).1) then oR (([],aY (aD (ar b).1 0 []).1,90,()),()) else oR (((aD (ar b).1 0 []).1,0,0,()),())) else oR (([],(aD (ar b).1 0 []).2.1,(aD (ar b).1 0 []).2.2,()),()))=_
  by_cases c2:(aD (ar b).1 0 []).2.2=0
  rotate_left
  ·refine bF (decide_eq_false c2) ?_
   rw[if_pos c2]
  refine bT (decide_eq_true c2) ?_
  rw[if_neg (au c2)]
  by_cases c3:0≤aY (aD (ar b).1 0 []).1
  ·refine bT (decide_eq_true c3) ?_
   rw[if_pos c3]
  ·refine bF (decide_eq_false c3) ?_
   rw[if_neg c3]
abbrev iF:Io:=⟨[dL,gl,yY],[],[],[dL,gl,dI],none⟩
def yE (d:iF.In):Tr iF.Res:=.ite (decide (d.1.1.length≤4294960000)) (.ret (.ret (((bf d.1.1 d.1.2.1 d.1.2.2.1).1,(bf d.1.1 d.1.2.1 d.1.2.2.1).2.1,(bf d.1.1 d.1.2.1 d.1.2.2.1).2.2,()),()))) .no
abbrev BS:List (Nat×Hc):=[(30,ah nX Ku),(58,ah gu sH),(68,ah n9 Kv),(24,ah rK OB)]
def Ct:Hd:=bI BS
abbrev dk:Lo:=⟨⟨(.any::.one hI::.one hJ::bx (bk (.one (.hol (.sl 77 bp))::bk (.one (.hol (.sl 22 (Ty.sl 5 (Ty.int u8))))::.any::.one (.onl 5 (Ty.int u8) 29)::.one hI::.any::ai (ai (ai (bx (bk [])))))))),[]⟩,[(.ret,⟨(bx (bk (.one (.onl 5 (Ty.int u8) 13)::.one hI::.one hI::ai (ai (ai (co (bx (bk [])))))))),[]⟩),(.exit 0,⟨(.any::.one hI::co (bx (.one (.onl 5 (Ty.int u8) 29)::ai (ai (ai (co [])))))),[]⟩)]⟩
def jW (d:dk.st.den):Tr (ap dk.xs):=
 .ite (decide (d.1.2.2.2.2.1.length=0)&&(decide (d.1.2.2.2.2.2.1=0)&&(decide (d.1.2.2.2.1.length=d.1.2.2.1.length)&&(decide (d.1.2.2.2.1.length≤8)&&(rf d.1.2.2.2.1&&eD d.1.2.2.1)))))
  (.ite (decide ((aE d.1.2.1 d.1.2.2.2.1 d.1.2.2.1 d.1.1 []).2.2=0)) (.ret (.pan (.ret ((),(((aE d.1.2.1 d.1.2.2.2.1 d.1.2.2.1 d.1.1 []).2.1,(aU (aE d.1.2.1 d.1.2.2.2.1 d.1.2.2.1 d.1.1 []).1,())),())))))
   (.ret (.ret ((),(([],(0,((aE d.1.2.1 d.1.2.2.2.1 d.1.2.2.1 d.1.1 []).2.2,()))),()))))) .no
def pM:Lp:=bQ [(8,aG dk jW)]
def qm {R:Type}(h3 h4:Int)(h5:List bp.den)(h6:List bs.den)(h7:LI)(h8:Int)(next:Int→Int→List bp.den→List bs.den→LI→Int→Option R)(out:ap dk.xs→Option R):Option R:=bif decide (h8<(↑h6.length:Int)) then bif decide (h8<(↑h5.length:Int)) then bif decide (0≤h8)&&decide (h8<(↑h6.length:Int)) then bif decide (List.length (h6.getD h8.toNat [])≤4294960000) then bif (aq (h6.getD h8.toNat []) h3 h4).2 != 0 then out (.ret ((),(([],(0,((aq (h6.getD h8.toNat []) h3 h4).2,()))),()))) else bif decide (h7.length+(aq (h6.getD h8.toNat []) h3 h4).1.length≤4294967296) then bif decide (0≤h8)&&decide (h8<(↑h5.length:Int)) then next (i64.wrap (h3+(↑(List.length (h5.getD h8.toNat (0,0,0,0,0,[],())).2.2.2.2.2.1):Int))) (h4) (h5) (h6) (h7++(aq (h6.getD h8.toNat []) h3 h4).1) (i64.wrap (h8+1)) else none else none else none else none else out (.pan (.ret ((),((h3,(h7,())),())))) else out (.pan (.ret ((),((h3,(h7,())),()))))
def oy (n:Nat)(h3 h4:Int)(h5:List bp.den)(h6:List bs.den)(h7:LI)(h8:Int):Option (ap dk.xs):=fR tt Ct dr pM 0 Tryz.f40 (bX Tryz.f40 0) n (dk.st.mk' ((h3,(h4,(h5,(h6,(h7,(h8,())))))),())) (bC dk.xs)
theorem Fy (n:Nat)(h3 h4:Int)(h5:List bp.den)(h6:List bs.den)(h7:LI)(h8:Int):oy (n+1) h3 h4 h5 h6 h7 h8=qm h3 h4 h5 h6 h7 h8 (oy n) some:=by kernel_rfl
theorem Cz:∀(a b:List (LI)),aU (a++b)=aU a++aU b
 |[],_=>rfl
 |x::a,b=>by
  show x++aU (a++b)=(x++aU a)++aU b
  rw[Cz a b,zK]
theorem E0 {ps:List (LI)}(h:∀q∈ps,PartOk q):rf ps=true:=List.all_eq_true.2 fun q hq=>decide_eq_true (h q hq).len
theorem Dh {p:LI}(base ep:Int)(h:p.length≤36000):(aq p base ep).1.length≤36016:=by
 unfold aq
 split
 ·simp
 split
 ·simp
 simp only[zH,dT,List.length_take,List.length_drop]
 omega
theorem zO (ep:Int)(bs:List bB)(ps:List (LI))(hn:ps.length=bs.length)(h8:ps.length≤8)(hp:rf ps=true)(hk:eD bs=true):∀(k i:Nat) (done:List (LI)) (base:Int),ps.length<i+k→i≤ps.length→(aU done).length≤36016*i→
  oy k base ep bs ps (aU done) i=if (aE ep (ps.drop i) (bs.drop i) base done).2.2=0 then some (.pan (.ret ((),(((aE ep (ps.drop i) (bs.drop i) base done).2.1,(aU (aE ep (ps.drop i) (bs.drop i) base done).1,())),()))))
   else some (.ret ((),(([],(0,((aE ep (ps.drop i) (bs.drop i) base done).2.2,()))),()))):=by
 intro k
 induction k with
 |zero=>intro i done base h;omega
 |succ k ih=>
  intro i done base h1 h2 hd
  rw[Fy]
  unfold qm
  by_cases hi:i<ps.length
  rotate_left
  ·refine bF (decide_eq_false (by omega)) ?_
   rw[zI (show ps.length≤i by omega)]
   rfl
  have hi2:i<bs.length:=by omega
  have e:List.getD ps (i:Int).toNat []=ps[i]:=by rw[zG,aK hi]
  have e2:List.getD bs (i:Int).toNat (0,0,0,0,0,[],())=bs[i]:=by rw[zG,aK hi2]
  have hpi:ps[i].length≤36000:=of_decide_eq_true (List.all_eq_true.1 hp ps[i] (List.getElem_mem hi))
  have hrl:=Dh base ep hpi
  have hx:=List.all_eq_true.1 hk bs[i] (List.getElem_mem hi2)
  simp only[zA,zB] at hx
  obtain ⟨x1,x2,x3⟩:=hx
  rw[e,e2,af (n:=(i:Int)+1) (by omega) (by omega)]
  refine bT (decide_eq_true (by omega)) ?_
  refine bT (decide_eq_true (by omega)) ?_
  refine bT (by simp only[zA,zB];omega) ?_
  refine bT (decide_eq_true (by omega)) ?_
  rw[zE hi,zE hi2]
  have eP:aE ep (ps[i]::ps.drop (i+1)) (bs[i]::bs.drop (i+1)) base done=if (aq ps[i] base ep).2≠0 then ([],0,(aq ps[i] base ep).2) else aE ep (ps.drop (i+1)) (bs.drop (i+1)) (base+(bs[i].2.2.2.2.2.1.length:Int)) (done++[(aq ps[i] base ep).1]):=rfl
  rw[eP]
  by_cases c:(aq ps[i] base ep).2=0
  ·refine bF (by simpa using c) ?_
   obtain ⟨b1,b2⟩:=rN c
   rw[if_neg (au c),af (n:=base+(bs[i].2.2.2.2.2.1.length:Int)) (by omega) (by omega)]
   refine bT (decide_eq_true (by omega)) ?_
   refine bT (by simp only[zA,zB];omega) ?_
   have hj:aU (done++[(aq ps[i] base ep).1])=aU done++(aq ps[i] base ep).1:=by
    rw[Cz]
    show aU done++((aq ps[i] base ep).1++[])=_
    rw[List.append_nil]
   have:=ih (i+1) (done++[(aq ps[i] base ep).1]) (base+(bs[i].2.2.2.2.2.1.length:Int)) (by omega) (by omega) (by rw[hj,zH];omega)
   rw[hj] at this
   exact this
  ·refine bT (by simpa using c) ?_
   rw[if_pos c,if_neg c]
def tY (a0:LI)(a1 a2:Int):Option iF.Res:=bif decide (a0.length≤4294960000) then bif (an a0).2.2 != 0 then oR (([],0,(an a0).2.2,()),()) else bif decide (a0.length≤4294960000) then (jW ((a1,(a2,((an a0).1,((ar a0).1,([],(0,())))))),())).run fun y=>match y with | .ret ((),((x22,x23,x24,()),()))=>(oR ((x22,x23,x24,()),())) | .pan (.ret ((),((x25,x26,()),())))=>(oR ((x26,x25,0,()),())) else none else none
theorem JA (a0:LI)(a1 a2:Int):Io.run tt Ct dr pM iF Tryz.f40 ((a0,a1,a2,()),())=tY a0 a1 a2:=by kernel_rfl
theorem uw:HcsOk prog BS:=.cons R7 (.cons Da (.cons Sd (.cons Q2 .nil)))
theorem MW:HcOk prog 40 (ah iF yE):=by
 refine bY uw (lp:=pM) (fn:=Tryz.f40) iF (.step (h0:=aG dk jW) (by kernel_rfl) (f9 uw (lp:=pM) (fn:=Tryz.f40) (.done (by kernel_rfl)) dk jW ?_) (.done (by kernel_rfl))) yE ?_
 ·rintro ⟨⟨(base:Int),(ep:Int),(bs:List bB),(ps:List (LI)),(out:LI),(i:Int),⟨⟩⟩,⟨⟩⟩ y hw hy
  obtain ⟨hg,hy⟩:=Tr.guard hy
  simp only[zA,zB] at hg
  obtain ⟨h1,h3,h4,h8,h5,h6⟩:=hg
  have h1:out=aU []:=List.length_eq_zero_iff.1 h1
  have h3:i=0:=h3
  have h4:ps.length=bs.length:=h4
  subst h1 h3
  refine ⟨ps.length+1,(zO ep bs ps h4 h8 h5 h6 (ps.length+1) 0 [] base (by omega) (Nat.zero_le _) (Nat.zero_le _)).trans ?_⟩
  rw[← hy]
  simp only[Tr.val_ite,zB,Tr.val_ret,List.drop_zero]
 ·rintro ⟨⟨(b:LI),(base:Int),(ep:Int),⟨⟩⟩,⟨⟩⟩ out hw ho
  obtain ⟨hg,ho⟩:=Tr.guard ho
  cases ho
  have hb:bm b:=bytesOf hw.1.1
  refine (JA b base ep).trans ?_
  show _=oR (((bf b base ep).1,(bf b base ep).2.1,(bf b base ep).2.2,()),())
  unfold tY bf
  refine (aa hg _ _).trans ?_
  by_cases c1:(an b).2.2=0
  rotate_left
  ·refine bT (by simpa using c1) ?_
   rw[if_pos c1]
  refine bF (by simpa using c1) ?_
  rw[if_neg (au c1)]
  refine (aa hg _ _).trans ?_
  obtain ⟨g1,g2,g3,g4,g5⟩:=j8 hb c1
  obtain ⟨h0,h1,h2,_⟩:=gB hb g1
  generalize (an b).1=bs at *
  generalize (ar b).1=ps at *
  unfold jW
  refine bT (by simp only[zA,zB];exact ⟨rfl,trivial,g4.symm,h2,E0 h0,kh g5⟩) ?_
  show (bif decide ((aE ep ps bs base []).2.2=0) then oR ((aU (aE ep ps bs base []).1,(aE ep ps bs base []).2.1,0,()),()) else oR (([],0,(aE ep ps bs base []).2.2,()),()))=_
  by_cases c2:(aE ep ps bs base []).2.2=0
  ·refine bT (decide_eq_true c2) ?_
   rw[if_neg (au c2)]
  ·refine bF (decide_eq_false c2) ?_
   rw[if_pos c2]
end
end Go.Proofs.YthpcdhgpplmneaaGreatDoor.Sym
namespace Go.Proofs.YthpcdhgpplmneaaGreatDoor.Sym
open Go
noncomputable section
abbrev je:Io:=⟨[dL,gl,yY],[],[],[dB],none⟩
def yq (d:je.In):Tr je.Res:=.ite (decide (d.1.1.length≤4294950000)) (.ret (.ret ((true,()),()))) .no
abbrev Gq:List (Nat×Hc):=[(28,ah f4 tv),(13,ah lS FS),(40,ah iF yE),(41,Ay (ah gr sF)),(16,ah im yc),(17,yJ)]
def O5:Hd:=bI Gq
def Ht:Lp:=bQ []
def wE (a0:LI)(a1 a2:Int):Option je.Res:=bif decide (a0.length≤4294967000) then bif decide (a0.length≤4294960000) then bif decide (0≤0)&&(decide (0≤(↑a0.length:Int))&&decide ((↑a0.length:Int)≤(↑(List.length (a0++[13,20,27,34,41,48,55,62,69,76,83,90,97,104,111,118,125,132,139,146,153,160,167,174,181,188,195,202,209,216,223,230,237,244,251,2,9,16,23,30,37,44,51,58,65,72,79,86,93,100,107,114,121,128,135,142,149,156,163,170,177,184,191,198,205,212,219,226,233,240,247,254,5,12,19,26,33,40,47,54,61,68,75,82,89,96,103,110,117,124,131,138,145,152,159,166])):Int))) then bif decide ((List.drop (Int.toNat 0) (List.take (↑a0.length:Int).toNat (a0++[13,20,27,34,41,48,55,62,69,76,83,90,97,104,111,118,125,132,139,146,153,160,167,174,181,188,195,202,209,216,223,230,237,244,251,2,9,16,23,30,37,44,51,58,65,72,79,86,93,100,107,114,121,128,135,142,149,156,163,170,177,184,191,198,205,212,219,226,233,240,247,254,5,12,19,26,33,40,47,54,61,68,75,82,89,96,103,110,117,124,131,138,145,152,159,166]))).length≤4294960000) then bif decide (0≤0)&&(decide (0≤(↑a0.length:Int))&&decide ((↑a0.length:Int)≤(↑(List.length (a0++[13,20,27,34,41,48,55,62,69,76,83,90,97,104,111,118,125,132,139,146,153,160,167,174,181,188,195,202,209,216,223,230,237,244,251,2,9,16,23,30,37,44,51,58,65,72,79,86,93,100,107,114,121,128,135,142,149,156,163,170,177,184,191,198,205,212,219,226,233,240,247,254,5,12,19,26,33,40,47,54,61,68,75,82,89,96,103,110,117,124,131,138,145,152,159,166])):Int))) then bif decide ((List.drop (Int.toNat 0) (List.take (↑a0.length:Int).toNat (a0++[13,20,27,34,41,48,55,62,69,76,83,90,97,104,111,118,125,132,139,146,153,160,167,174,181,188,195,202,209,216,223,230,237,244,251,2,9,16,23,30,37,44,51,58,65,72,79,86,93,100,107,114,121,128,135,142,149,156,163,170,177,184,191,198,205,212,219,226,233,240,247,254,5,12,19,26,33,40,47,54,61,68,75,82,89,96,103,110,117,124,131,138,145,152,159,166]))).length≤4294960000) then bif (bf (List.drop (Int.toNat 0) (List.take (↑a0.length:Int).toNat (a0++[13,20,27,34,41,48,55,62,69,76,83,90,97,104,111,118,125,132,139,146,153,160,167,174,181,188,195,202,209,216,223,230,237,244,251,2,9,16,23,30,37,44,51,58,65,72,79,86,93,100,107,114,121,128,135,142,149,156,163,170,177,184,191,198,205,212,219,226,233,240,247,254,5,12,19,26,33,40,47,54,61,68,75,82,89,96,103,110,117,124,131,138,145,152,159,166]))) a1 a2).2.2 != (bf a0 a1 a2).2.2 then oR ((false,()),()) else bif (bf (List.drop (Int.toNat 0) (List.take (↑a0.length:Int).toNat (a0++[13,20,27,34,41,48,55,62,69,76,83,90,97,104,111,118,125,132,139,146,153,160,167,174,181,188,195,202,209,216,223,230,237,244,251,2,9,16,23,30,37,44,51,58,65,72,79,86,93,100,107,114,121,128,135,142,149,156,163,170,177,184,191,198,205,212,219,226,233,240,247,254,5,12,19,26,33,40,47,54,61,68,75,82,89,96,103,110,117,124,131,138,145,152,159,166]))) a1 a2).2.2 != (bf (List.drop (Int.toNat 0) (List.take (↑a0.length:Int).toNat (a0++[13,20,27,34,41,48,55,62,69,76,83,90,97,104,111,118,125,132,139,146,153,160,167,174,181,188,195,202,209,216,223,230,237,244,251,2,9,16,23,30,37,44,51,58,65,72,79,86,93,100,107,114,121,128,135,142,149,156,163,170,177,184,191,198,205,212,219,226,233,240,247,254,5,12,19,26,33,40,47,54,61,68,75,82,89,96,103,110,117,124,131,138,145,152,159,166]))) a1 a2).2.2 then oR ((false,()),()) else bif (bf (List.drop (Int.toNat 0) (List.take (↑a0.length:Int).toNat (a0++[13,20,27,34,41,48,55,62,69,76,83,90,97,104,111,118,125,132,139,146,153,160,167,174,181,188,195,202,209,216,223,230,237,244,251,2,9,16,23,30,37,44,51,58,65,72,79,86,93,100,107,114,121,128,135,142,149,156,163,170,177,184,191,198,205,212,219,226,233,240,247,254,5,12,19,26,33,40,47,54,61,68,75,82,89,96,103,110,117,124,131,138,145,152,159,166]))) a1 a2).2.1 != (bf a0 a1 a2).2.1 then oR ((false,()),()) else bif (bf (List.drop (Int.toNat 0) (List.take (↑a0.length:Int).toNat (a0++[13,20,27,34,41,48,55,62,69,76,83,90,97,104,111,118,125,132,139,146,153,160,167,174,181,188,195,202,209,216,223,230,237,244,251,2,9,16,23,30,37,44,51,58,65,72,79,86,93,100,107,114,121,128,135,142,149,156,163,170,177,184,191,198,205,212,219,226,233,240,247,254,5,12,19,26,33,40,47,54,61,68,75,82,89,96,103,110,117,124,131,138,145,152,159,166]))) a1 a2).2.1 != (bf a0 a1 a2).2.1 then oR ((false,()),()) else bif decide (a0.length≤4294967000) then bif !decide (a0++[13,20,27,34,41,48,55,62,69,76,83,90,97,104,111,118,125,132,139,146,153,160,167,174,181,188,195,202,209,216,223,230,237,244,251,2,9,16,23,30,37,44,51,58,65,72,79,86,93,100,107,114,121,128,135,142,149,156,163,170,177,184,191,198,205,212,219,226,233,240,247,254,5,12,19,26,33,40,47,54,61,68,75,82,89,96,103,110,117,124,131,138,145,152,159,166]=a0++[13,20,27,34,41,48,55,62,69,76,83,90,97,104,111,118,125,132,139,146,153,160,167,174,181,188,195,202,209,216,223,230,237,244,251,2,9,16,23,30,37,44,51,58,65,72,79,86,93,100,107,114,121,128,135,142,149,156,163,170,177,184,191,198,205,212,219,226,233,240,247,254,5,12,19,26,33,40,47,54,61,68,75,82,89,96,103,110,117,124,131,138,145,152,159,166]) then oR ((false,()),()) else bif decide ((bf (List.drop (Int.toNat 0) (List.take (↑a0.length:Int).toNat (a0++[13,20,27,34,41,48,55,62,69,76,83,90,97,104,111,118,125,132,139,146,153,160,167,174,181,188,195,202,209,216,223,230,237,244,251,2,9,16,23,30,37,44,51,58,65,72,79,86,93,100,107,114,121,128,135,142,149,156,163,170,177,184,191,198,205,212,219,226,233,240,247,254,5,12,19,26,33,40,47,54,61,68,75,82,89,96,103,110,117,124,131,138,145,152,159,166]))) a1 a2).1.length≤4294967000)&&decide ((bf (List.drop (Int.toNat 0) (List.take (↑a0.length:Int).toNat (a0++[13,20,27,34,41,48,55,62,69,76,83,90,97,104,111,118,125,132,139,146,153,160,167,174,181,188,195,202,209,216,223,230,237,244,251,2,9,16,23,30,37,44,51,58,65,72,79,86,93,100,107,114,121,128,135,142,149,156,163,170,177,184,191,198,205,212,219,226,233,240,247,254,5,12,19,26,33,40,47,54,61,68,75,82,89,96,103,110,117,124,131,138,145,152,159,166]))) a1 a2).1.length≤4294967000) then bif decide ((bf (List.drop (Int.toNat 0) (List.take (↑a0.length:Int).toNat (a0++[13,20,27,34,41,48,55,62,69,76,83,90,97,104,111,118,125,132,139,146,153,160,167,174,181,188,195,202,209,216,223,230,237,244,251,2,9,16,23,30,37,44,51,58,65,72,79,86,93,100,107,114,121,128,135,142,149,156,163,170,177,184,191,198,205,212,219,226,233,240,247,254,5,12,19,26,33,40,47,54,61,68,75,82,89,96,103,110,117,124,131,138,145,152,159,166]))) a1 a2).1=(bf a0 a1 a2).1)&&decide ((bf (List.drop (Int.toNat 0) (List.take (↑a0.length:Int).toNat (a0++[13,20,27,34,41,48,55,62,69,76,83,90,97,104,111,118,125,132,139,146,153,160,167,174,181,188,195,202,209,216,223,230,237,244,251,2,9,16,23,30,37,44,51,58,65,72,79,86,93,100,107,114,121,128,135,142,149,156,163,170,177,184,191,198,205,212,219,226,233,240,247,254,5,12,19,26,33,40,47,54,61,68,75,82,89,96,103,110,117,124,131,138,145,152,159,166]))) a1 a2).1=(bf a0 a1 a2).1) then bif decide (a0.length≤4294967000) then oR ((decide (a0++[13,20,27,34,41,48,55,62,69,76,83,90,97,104,111,118,125,132,139,146,153,160,167,174,181,188,195,202,209,216,223,230,237,244,251,2,9,16,23,30,37,44,51,58,65,72,79,86,93,100,107,114,121,128,135,142,149,156,163,170,177,184,191,198,205,212,219,226,233,240,247,254,5,12,19,26,33,40,47,54,61,68,75,82,89,96,103,110,117,124,131,138,145,152,159,166]=a0++[13,20,27,34,41,48,55,62,69,76,83,90,97,104,111,118,125,132,139,146,153,160,167,174,181,188,195,202,209,216,223,230,237,244,251,2,9,16,23,30,37,44,51,58,65,72,79,86,93,100,107,114,121,128,135,142,149,156,163,170,177,184,191,198,205,212,219,226,233,240,247,254,5,12,19,26,33,40,47,54,61,68,75,82,89,96,103,110,117,124,131,138,145,152,159,166]),()),()) else none else oR ((false,()),()) else none else none else none else none else none else none else none else none
theorem Nk (a0:LI)(a1 a2:Int):Io.run tt O5 dr Ht je Tryz.f10 ((a0,a1,a2,()),())=wE a0 a1 a2:=by kernel_rfl
theorem CA:∀ps:List (LI),(aU ps).length=ao ps
 |[]=>rfl
 |x::ps=>by
  have:=CA ps
  show (x++aU ps).length=x.length+ao ps
  rw[zH,this]
theorem Jd {b:LI}(hb:bm b)(base ep:Int):(bf b base ep).1.length≤288128:=by
 unfold bf
 split
 ·simp
 rename_i c
 split
 ·simp
 rename_i c2
 obtain ⟨g1,g2,g3,g4,g5⟩:=j8 hb (Classical.byContradiction c)
 obtain ⟨h0,h1,h2,_⟩:=gB hb g1
 have:=oF ep _ _ base [] h0 (Classical.byContradiction c2)
 simp only
 rw[CA]
 have h9:ao ([]:List (LI))=0:=rfl
 omega
theorem PG:HcOk prog 10 (ah je yq):=by
 refine bY (cs:=Gq) (.cons I8 (.cons okWide (.cons MW (.cons (oG C9) (.cons Mv (.cons PB .nil)))))) (lp:=Ht) (fn:=Tryz.f10) je (.done (by kernel_rfl)) yq ?_
 rintro ⟨⟨(b:LI),(base:Int),(ep:Int),⟨⟩⟩,⟨⟩⟩ out hw ho
 obtain ⟨hg,ho⟩:=Tr.guard ho
 have hg:b.length≤4294950000:=of_decide_eq_true hg
 cases ho
 have hb:bm b:=bytesOf hw.1.1
 refine (Nk b base ep).trans ?_
 unfold wE
 have e:∀t:LI,List.drop (Int.toNat 0) (List.take (b.length:Int).toNat (b++t))=b:=by
  intro t
  show List.drop 0 (List.take (b.length:Int).toNat (b++t))=b
  rw[zG,List.drop_zero,List.take_left]
 rw[e]
 have sl:∀t:LI,(decide ((0:Int)≤0)&&(decide ((0:Int)≤(b.length:Int))&&decide ((b.length:Int)≤((b++t).length:Int))))=true:=by
  intro t
  simp only[zA,zB,zH];omega
 have g1:decide (b.length≤4294967000)=true:=decide_eq_true (by omega)
 have g2:decide (b.length≤4294960000)=true:=decide_eq_true (by omega)
 have hl:=Jd hb base ep
 refine (aa g1 _ _).trans ?_
 refine (aa g2 _ _).trans ?_
 refine (aa (sl _) _ _).trans ?_
 refine (aa g2 _ _).trans ?_
 refine (aa (sl _) _ _).trans ?_
 refine (aa g2 _ _).trans ?_
 refine (ae (bne_self_eq_false _) _ _).trans ?_
 refine (ae (bne_self_eq_false _) _ _).trans ?_
 refine (ae (bne_self_eq_false _) _ _).trans ?_
 refine (ae (bne_self_eq_false _) _ _).trans ?_
 refine (aa g1 _ _).trans ?_
 refine bF (by rw[decide_eq_true rfl];rfl) ?_
 refine bT (by simp only[zA,zB];omega) ?_
 refine bT (by rw[decide_eq_true rfl];rfl) ?_
 refine (aa g1 _ _).trans ?_
 rw[decide_eq_true rfl]
end
end Go.Proofs.YthpcdhgpplmneaaGreatDoor.Sym
namespace Go.Proofs.YthpcdhgpplmneaaGreatDoor.Sym
open Go
open Go.IntKind (i8 i16 i32 i64 u8 u16 u32 u64)
open Go.ChangeShapes Go.WideShapes Go.ChangeAt Go.RowKit
noncomputable section
abbrev CB:List (String×DataW Unit):=[("leat/crc.rows",Rows.laid_leat_crc_rows)]
theorem QX:Tryz.prog.globalNamed "leat/crc.rows"=some 0:=by kernel_rfl
theorem Th:(Tryz.prog.globals[0]?).map (·.type)=some ((Tryz.prog.globals[0]?).map (·.type)).get!:=by kernel_rfl
theorem Tj:Tryz.prog.underlying ((Tryz.prog.globals[0]?).map (·.type)).get!=some (.array 16 137):=by kernel_rfl
theorem TH:Tryz.prog.underlying 137=some (.int .u32):=by kernel_rfl
theorem S2:(Rows.laid_leat_crc_rows:DataW Unit)=.agg (ri.map fun n=>.lit (.int .u32 n)):=by kernel_rfl
set_option maxRecDepth 100000 in
theorem DO {W:World}(h:laidMetH Tryz.prog CB W):gG (S0 W) W:=by
 rw[MakeChecks.laidMetH_plain _ _ _ (by kernel_rfl)] at h
 obtain ⟨ps,⟨g0,t0,cs0,f0,p0,q0,hg0,ht0,hv0,hd0,_,_⟩,_,_⟩:=h
 obtain rfl:=Option.some.inj (QX.symm.trans hg0)
 obtain rfl:=Option.some.inj (Th.symm.trans ht0)
 obtain ⟨xs,m,rfl,hx,hlen,hn,hel⟩:=DataW.trod_array Tj hd0
 have c1:Tryz.prog.cellsOf 137=1:=by kernel_rfl
 intro g i hg hi
 have hg:g=0:=Nat.eq_of_beq_eq_true hg
 subst hg
 have hi:i<16:=hi
 have key:W.cell? ⟨0,i,none⟩=some (.int .u32 (fc (i:Int))):=by
  have h1:=hel i hi
  have h2:xs[i]?=some xs[i]:=List.getElem?_eq_getElem (by omega)
  rw[h2,c1] at h1
  obtain ⟨k,e1,e2,_⟩:=DataW.trod_int TH h1
  have h3:=World.var?_cell QX hv0 i
  rw[h3]
  have h4:cs0.toList[i]?=some (.int .u32 k):=by
   have:((cs0.toList.drop (i*1)).take 1)[0]?=some (.int .u32 k):=by rw[e1];rfl
   rw[List.getElem?_take] at this
   simpa using this
  have h5:cs0[i]?=some (.int .u32 k):=by simpa using h4
  rw[h5]
  have hk:(ri.map fun n=>(DataW.lit (.int .u32 n):DataW Unit))[i]?=some (.lit (.int .u32 k)):=by
   have hx1:(.agg (ri.map fun n=>.lit (.int .u32 n)):DataW Unit)=.agg (xs.map (·.1)):=S2.symm.trans (congrArg Prod.fst hx)
   have hx1:=DataW.agg.inj hx1
   rw[hx1,List.getElem?_map,h2]
   simp[e2]
  rw[List.getElem?_map] at hk
  have hs:fc (i:Int)=ri.getD i 0:=rfl
  rw[hs,List.getD_eq_getElem?_getD]
  cases ht:ri[i]? with
  |none=>rw[ht] at hk;cases hk
  |some x=>
   rw[ht] at hk
   simp only[Option.map_some,zC,DataW.lit.injEq,Lit.int.injEq] at hk
   rw[hk.2]
   rfl
 exact ⟨⟨_,key⟩,key⟩
theorem Lk (os:Os)(args:Array Value):laidMetH Tryz.prog CB ((World.doorLaid Tryz.prog 400 os).forCall (fun _ _=>0) ⟨#[],args,[]⟩).memory:=
 laidMetH_of_parts3 (fuel:=8) (laidMet_of_run' 8 (by kernel_rfl) (by kernel_rfl)) (by kernel_rfl) (by kernel_rfl)
section
variable {H:Type} {enc:TypeId×Value→H}
theorem nH {a:Assume}{C:Checked}{os:Os}{f:FuncId}{fn:Func}{s:OpenSpec}{k:(H:Type)→List (DataW H)→Bool}(hk:s.cond=some k){F:Stop.Interp}{conds:List PathCond}{apart fresh handsOn again:Bool}{laid:List (String×DataW Unit)}
  (own:ownKnob C.prog.godebug=none) (started:os.Started) (noInit:C.prog.inits.idxOf? f=none) (hfn:C.prog.funcs[f]?=some fn)
  (witness:∃(w:World) (tape:Tape) (i:Input),w.os=os∧(w.forCall tape i).Shaped C.prog∧i.vars=[]∧Input.okWide C.prog (w.forCall tape i) .any w.heap.size f i∧
   ((s.pre enc C.prog fn conds apart (w.forCall tape i).memory i.args∧laidMetH C.prog laid (w.forCall tape i).memory)∧sizedMet enc C.prog fn s apart (w.forCall tape i).memory i.args)∧a.holds C.prog (lone (Frame.enter C.prog f i.args .normal) [] (w.forCall tape i)))
  (contract:∀(W:World) (base:Nat) (args:Array Value) (ds gs:List (DataW H)) (before:List MemPlace),
   (∀(j:Nat) t v,fn.params[j]?=some t→args[j]?=some v→Value.okWide C.prog W .any base t v)→
   DataW.Whole enc C.prog fn.params.toList s.vars apart W args.toList ds gs before→k H (ds++gs)=true→laidMetH C.prog laid W→
   Calls C.prog f args W fun e W'=>∃v,e=.returned v∧(s.at F).post enc C.prog fn apart fresh handsOn again W args v W'):
  ReturnsInHanded a C os f .any (fun w args=>(s.pre enc C.prog fn conds apart w args∧laidMetH C.prog laid w)∧sizedMet enc C.prog fn s apart w args) ((s.at F).post enc C.prog fn apart fresh handsOn again):=by
 refine returnsInHanded_of_calls own started noInit witness ?_
 intro w tape i _ _ _ hok hpre hholds
 obtain ⟨_,_,_,fn',hfn',_,_,_,_,hval⟩:=hok
 have e:fn'=fn:=Option.some.inj (hfn'.symm.trans hfn)
 subst e
 obtain ⟨ds,gs,before,hw,hc,hkk⟩:=(OpenSpec.pre_some hk conds apart _ _).1 hpre.1.1
 have hw':=DataW.Whole.of_heap (w':=w.forCall tape i) (by rfl) hw
 refine (contract (w.forCall tape i) w.heap.size i.args ds gs before hval hw' hkk (hpre.1.2.of_heap (by rfl))).mono fun e W' ⟨v,he,hp⟩=>?_
 subst he
 exact ChangeSpec.post_blind hp
theorem AT {C:Checked}{os:Os}{f:FuncId}{fn:Func}{s:OpenSpec}{k:(H:Type)→List (DataW H)→Bool}(hk:s.cond=some k){apart:Bool}{laid:List (String×DataW Unit)}(w0:World)(args:Array Value)(fuel:Nat)(hos:w0.os=os)
  (hsh:(w0.forCall (fun _ _=>0) ⟨#[],args,[]⟩).Shaped C.prog)
  (hok:Input.okWideB C.prog (w0.forCall (fun _ _=>0) ⟨#[],args,[]⟩) f ⟨#[],args,[]⟩=true)
  {x:List (DataW H)×List (DataW H)×List MemPlace} (hx:DataW.whole enc C.prog (w0.forCall (fun _ _=>0) ⟨#[],args,[]⟩).memory fn.params.toList s.vars apart args.toList fuel=some x)
  (hkk:k H (x.1++x.2.1)=true)
  (hsz:s.bare.sizedB enc C.prog fn apart (w0.forCall (fun _ _=>0) ⟨#[],args,[]⟩).memory args fuel=true)
  (hl:laidMetH C.prog laid (w0.forCall (fun _ _=>0) ⟨#[],args,[]⟩).memory):
  ∃(w:World) (tape:Tape) (i:Input),w.os=os∧(w.forCall tape i).Shaped C.prog∧i.vars=[]∧Input.okWide C.prog (w.forCall tape i) .any w.heap.size f i∧
   ((s.pre enc C.prog fn [] apart (w.forCall tape i).memory i.args∧laidMetH C.prog laid (w.forCall tape i).memory)∧sizedMet enc C.prog fn s apart (w.forCall tape i).memory i.args)∧({}:Assume).holds C.prog (lone (Frame.enter C.prog f i.args .normal) [] (w.forCall tape i)):=
 ⟨w0,fun _ _=>0,⟨#[],args,[]⟩,hos,hsh,(Input.okWide_of_okWideB (base:=0) hok).1,(Input.okWide_of_okWideB hok).2,
  ⟨⟨(OpenSpec.pre_some hk [] apart _ _).2 ⟨x.1,x.2.1,x.2.2,DataW.Whole_of_whole hx,rfl,hkk⟩,hl⟩,sizedMet_of_sizedB hsz⟩,by
  simp only[Assume.holds]
  exact ⟨by simp,by simp,fun _=>Modest.zero,by simp,by simp⟩⟩
end
end
end Go.Proofs.YthpcdhgpplmneaaGreatDoor.Sym
