/- leatref08: records. -/
import Derived.Test.YtcbcbjdobbgddaaGreatDoorTie
import Derived.Test.YtcbcbjdobbgddaaGreatDoorCards
import Derived.ProofKit
import Derived.LaidMore
import Derived.OpenShut
import Derived.Stop.Joined
import Derived.Test.YtcbcbjdobbgddaaGreatDoorQ5

set_option linter.unusedVariables false
set_option linter.unusedSimpArgs false
namespace Go.Proofs.YtcbcbjdobbgddaaGreatDoor.Sym
open Go
open Go.IntKind (i8 i16 i32 i64 u8 u16 u32 u64)
noncomputable section
theorem B7 {n:Int}(h : -9223372036854775808≤n)(h':n≤9223372036854775807):bh .i64 n:=by simp[bh,IntKind.min,IntKind.max,IntKind.signed,IntKind.bits];omega
theorem H0 (m:Nat)(t:Int)(b:LI)(p:Int):0≤(aa m t b p).1∧(aa m t b p).1<18446744073709551616:=by
 unfold aa
 split
 ·exact ⟨by decide,by decide⟩
 split
 ·simp only;omega
 ·simp only;omega
theorem H3 (b:LI):bh .i64 (aH b).1.1∧bh .i32 (aH b).1.2.1:=by
 have h0:bh .i64 ax.1∧bh .i32 ax.2.1:=⟨B7 (n:=0) (by omega) (by omega),(⟨by decide,by decide⟩:bh .i32 0)⟩
 have hz:=H0 10 1 b 1
 have h1:bh .i64 (aj (aa 10 1 b 1).1):=by
  unfold aj
  split
  ·exact B7 (by omega) (by omega)
  ·exact B7 (by omega) (by omega)
 have h2:bh .i32 (ag b (aa 10 1 b 1).2.1).1:=bJ _ _
 unfold aH
 repeat' split
 all_goals first | exact h0 | exact ⟨h1,h2⟩
theorem H2 (b:LI)(p:Int):bh .i64 (am b p).1.1∧bh .i32 (am b p).1.2.1:=by
 have h0:bh .i64 ax.1∧bh .i32 ax.2.1:=⟨B7 (n:=0) (by omega) (by omega),(⟨by decide,by decide⟩:bh .i32 0)⟩
 unfold am
 repeat' split
 all_goals first | exact h0 | exact H3 _
abbrev jt:Io:=⟨[dL,Fv],[],[],[wV,dI],none⟩
def zd (d:jt.In):Tr jt.Res:=.ite (decide (d.1.2.1.2.2.2.2.1≤(4294960000:Int))) (.ret (.ret (((cA d.1.1 d.1.2.1.2.2.2.2.2.1 d.1.2.1.2.2.2.2.2.2.1 d.1.2.1.2.2.2.2.1.toNat).1,(cA d.1.1 d.1.2.1.2.2.2.2.2.1 d.1.2.1.2.2.2.2.2.2.1 d.1.2.1.2.2.2.2.1.toNat).2,()),()))) .no
abbrev BT:List (Nat×Hc):=[(78,ah ji yZ),(79,ah fM ze),(23,ah gt uC)]
def B5:Hd:=bt BT
abbrev cV:Lo:=⟨⟨(.one (.hol (.sl 5 (Ty.int u8)))::bz (.one (.ptr 3 0)::bz (.one (.onl 49 aV 13)::.one hI::.one hI::al (al (al (al (al (dC (bz []))))))))),[none,none,none,some [hI,hI,hJ,hL,hI,hI,hI,hI,hK,hJ]]⟩,[(.ret,⟨(cj (.one (.onl 49 aV 9)::.one hI::.any::al (al (al (al (al (dC (cj [])))))))),[]⟩),(.exit 0,⟨(.one (.hol (.sl 5 (Ty.int u8)))::bz (.one (.ptr 3 0)::bz (.one (.onl 49 aV 13)::.one hI::.any::al (al (al (al (al (dC (bz []))))))))),[none,none,none,some [hI,hI,hJ,hL,hI,hI,hI,hI,hK,hJ]]⟩)]⟩
def rZ (blk:LI)(z1 z2 z3:Int)(z4:Bool)(z5 z6 z7 z8 z9 z10:Int)(x:List bn×Int×Int):Tr (ao cV.xs):=
 .ite (decide (x.2.2≠0)) (.ret (.ret ((),(([],(x.2.2,())),())))) (.ret (.pan (.ret ((),((blk,(x.1,(x.2.1,()))),((z1,(z2,(z3,(z4,(z5,(z6,(z7,(z8,(z9,(z10,())))))))))),()))))))
def j7 (d:cV.st.den):Tr (ao cV.xs):=
 .ite (decide (d.1.2.2.2.1=0)&&(decide (d.1.2.1.length=0)&&decide (d.2.1.2.2.2.2.1≤(4294960000:Int))))
  (rZ d.1.1 d.2.1.1 d.2.1.2.1 d.2.1.2.2.1 d.2.1.2.2.2.1 d.2.1.2.2.2.2.1 d.2.1.2.2.2.2.2.1 d.2.1.2.2.2.2.2.2.1 d.2.1.2.2.2.2.2.2.2.1 d.2.1.2.2.2.2.2.2.2.2.1 d.2.1.2.2.2.2.2.2.2.2.2.1 (aC d.1.1 d.2.1.2.2.2.2.2.1 d.2.1.2.2.2.2.1.toNat 0 d.1.2.2.1 [])) .no
def p4:Lp:=bG [(5,aI cV j7)]
def kM {R:Type}(h11:LI)(h12:List aV.den)(h13 h14 h15 h16 h17:Int)(h18:Bool)(h19 h20 h21 h22 h23 h24:Int)(next:LI→List aV.den→Int→Int→Int→Int→Int→Bool→Int→Int→Int→Int→Int→Int→Option R)(out:ao cV.xs→Option R):Option R:=bif decide (h14<h19) then bif (am h11 h13).2.2 != 0 then out (.ret ((),(([],((am h11 h13).2.2,())),()))) else bif i64.wrap (am h11 h13).1.2.1 != h14 then out (.ret ((),(([],(72,())),()))) else bif (am h11 h13).1.1 == -9223372036854775808 then bif !decide (0≤h20) then out (.ret ((),(([],(86,())),()))) else bif h14 == 0 then bif (am h11 h13).1.1 != 0 then out (.ret ((),(([],(86,())),()))) else bif decide (h12.length+1≤4294967296) then next (h11) (h12++[(i64.wrap (h20+(am h11 h13).1.1),(am h11 h13).1.2.2)]) ((am h11 h13).2.1) (i64.wrap (h14+1)) (h15) (h16) (h17) (h18) (h19) (h20) (h21) (h22) (h23) (h24) else none else bif decide (h12.length+1≤4294967296) then next (h11) (h12++[(i64.wrap (h20+(am h11 h13).1.1),(am h11 h13).1.2.2)]) ((am h11 h13).2.1) (i64.wrap (h14+1)) (h15) (h16) (h17) (h18) (h19) (h20) (h21) (h22) (h23) (h24) else none else bif !(bY 0 (am h11 h13).1.1).2 then out (.ret ((),(([],(86,())),()))) else bif !(bY h20 (bY 0 (am h11 h13).1.1).1).2 then out (.ret ((),(([],(86,())),()))) else bif h14 == 0 then bif (am h11 h13).1.1 != 0 then out (.ret ((),(([],(86,())),()))) else bif decide (h12.length+1≤4294967296) then next (h11) (h12++[((bY h20 (bY 0 (am h11 h13).1.1).1).1,(am h11 h13).1.2.2)]) ((am h11 h13).2.1) (i64.wrap (h14+1)) (h15) (h16) (h17) (h18) (h19) (h20) (h21) (h22) (h23) (h24) else none else bif decide (h12.length+1≤4294967296) then next (h11) (h12++[((bY h20 (bY 0 (am h11 h13).1.1).1).1,(am h11 h13).1.2.2)]) ((am h11 h13).2.1) (i64.wrap (h14+1)) (h15) (h16) (h17) (h18) (h19) (h20) (h21) (h22) (h23) (h24) else none else out (.pan (.ret ((),((h11,(h12,(h13,()))),((h15,(h16,(h17,(h18,(h19,(h20,(h21,(h22,(h23,(h24,())))))))))),())))))
def kZ (n:Nat)(h11:LI)(h12:List aV.den)(h13 h14 h15 h16 h17:Int)(h18:Bool)(h19 h20 h21 h22 h23 h24:Int):Option (ao cV.xs):=iI tt B5 dr p4 0 Tryz.f41 (cR Tryz.f41 0) n (cV.st.mk' ((h11,(h12,(h13,(h14,())))),((h15,(h16,(h17,(h18,(h19,(h20,(h21,(h22,(h23,(h24,())))))))))),()))) (bS cV.xs)
theorem tU (n:Nat)(h11:LI)(h12:List aV.den)(h13 h14 h15 h16 h17:Int)(h18:Bool)(h19 h20 h21 h22 h23 h24:Int):kZ (n+1) h11 h12 h13 h14 h15 h16 h17 h18 h19 h20 h21 h22 h23 h24=kM h11 h12 h13 h14 h15 h16 h17 h18 h19 h20 h21 h22 h23 h24 (kZ n) some:=by kernel_rfl
theorem LP {d f:Int}(hd:bh .i64 d)(hf:bh .i64 f)(hne:d≠-9223372036854775808):bY 0 d=(-d,true)∧bY f (-d)=(if aA (f+d)=true then (f+d,true) else (0,false)):=by
 have h1:=ga hd
 have h2:=ga hf
 constructor
 ·unfold bY
  rw[if_pos (fi.2 (by omega)),Int.zero_sub]
 ·unfold bY
  rw[Int.sub_neg]
theorem xC (blk:LI)(z1 z2 z3:Int)(z4:Bool)(cnt f z7 z8 z9 z10:Int)(hf:bh .i64 f):∀(n k i:Nat) (p:Int) (out:List bn),n<k→out.length=i→i+n≤4294960000→(cnt=((i+n:Nat):Int)∨cnt≤i∧n=0)→
  kZ k blk out p i z1 z2 z3 z4 cnt f z7 z8 z9 z10=(rZ blk z1 z2 z3 z4 cnt f z7 z8 z9 z10 (aC blk f n i p out)).val:=by
 intro n
 induction n with
 |zero=>
  intro k i p out h1 h2 h3 h4
  obtain ⟨k,rfl⟩:∃j,k=j+1:=⟨k - 1,by omega⟩
  rw[tU]
  unfold kM
  refine bF (decide_eq_false (by omega)) ?_
  rfl
 |succ n ih=>
  intro k i p out h1 h2 h3 h4
  have h4:cnt=((i+(n+1):Nat):Int):=by
   rcases h4 with h | h
   ·exact h
   ·omega
  obtain ⟨k,rfl⟩:∃j,k=j+1:=⟨k - 1,by omega⟩
  rw[tU]
  unfold kM
  refine bT (decide_eq_true (by omega)) ?_
  have e:aC blk f (n+1) i p out=if (am blk p).2.2≠0 then ([],0,(am blk p).2.2) else if (am blk p).1.2.1≠(i:Int) then ([],0,72) else if i=0∧(am blk p).1.1≠0∨aA (f+(am blk p).1.1)=false then ([],0,86)
   else aC blk f n (i+1) (am blk p).2.1 (out++[(f+(am blk p).1.1,(am blk p).1.2.2.1,(am blk p).1.2.2.2.1,(am blk p).1.2.2.2.2.1,())]):=rfl
  rw[e]
  obtain ⟨b1,b2⟩:=H2 blk p
  generalize am blk p=r at *
  obtain ⟨⟨d,o,kv⟩,q,er⟩:=r
  simp only at b1 b2 ⊢
  have b1':=ga b1
  have b2':=zT b2
  have b3:=ga hf
  by_cases c1:er=0
  rotate_left
  ·refine bT (by simpa using c1) ?_
   rw[if_pos c1]
   unfold rZ
   rw[Tr.val_ite,if_pos (by simpa using c1),Tr.val_ret]
  refine bF (by simpa using c1) ?_
  rw[if_neg (aD c1),af (n:=o) (by omega) (by omega)]
  by_cases c2:o=(i:Int)
  rotate_left
  ·refine bT (by simpa using c2) ?_
   rw[if_pos c2]
   rfl
  refine bF (by simpa using c2) ?_
  rw[if_neg (aD c2),af (n:=(i:Int)+1) (by omega) (by omega)]
  have next:aA (f+d)=true→(bif decide (out.length+1≤4294967296) then kZ k blk (out++[(f+d,kv)]) q ((i:Int)+1) z1 z2 z3 z4 cnt f z7 z8 z9 z10 else none)=(rZ blk z1 z2 z3 z4 cnt f z7 z8 z9 z10 (aC blk f n (i+1) q (out++[(f+d,kv)]))).val:=by
   intro hfit
   refine bT (decide_eq_true (by omega)) ?_
   exact ih k (i+1) q _ (by omega) (by simp[h2]) (by omega) (.inl (by rw[h4];omega))
  have fin:∀e:Int,e≠0→oR ((),(([],(e,())),()))=(rZ blk z1 z2 z3 z4 cnt f z7 z8 z9 z10 ([],0,e)).val:=by
   intro e he
   unfold rZ
   rw[Tr.val_ite,if_pos (by simpa using he),Tr.val_ret]
  by_cases c3:d = -9223372036854775808
  ·refine bT (by simpa using c3) ?_
   by_cases c4:0≤f
   ·refine bF (by rw[decide_eq_true c4];rfl) ?_
    have hfit:aA (f+d)=true:=fi.2 (by omega)
    by_cases c5:i=0
    ·refine bT (by simp[c5]) ?_
     refine bT (by rw[c3];rfl) ?_
     rw[if_pos (.inl ⟨c5,by omega⟩)]
     exact fin 86 (by decide)
    ·refine bF (by simp[c5]) ?_
     rw[if_neg (by rintro (h | h);exact c5 h.1;rw[hfit] at h;cases h),af (n:=f+d) (by omega) (by omega)]
     exact next hfit
   ·refine bT (by rw[decide_eq_false c4];rfl) ?_
    rw[if_pos (.inr (by
     cases h:aA (f+d) with
     |false=>rfl
     |true=>have:=fi.1 h;omega))]
    exact fin 86 (by decide)
  refine bF (by simpa using c3) ?_
  obtain ⟨s1,s2⟩:=LP b1 hf c3
  rw[s1]
  refine (ac rfl _ _).trans ?_
  rw[s2]
  cases hfit:aA (f+d) with
  |false=>
   rw[if_neg (by decide)]
   refine (ab rfl _ _).trans ?_
   rw[if_pos (.inr rfl)]
   exact fin 86 (by decide)
  |true=>
   rw[if_pos rfl]
   refine (ac rfl _ _).trans ?_
   by_cases c5:i=0
   ·refine bT (by simp[c5]) ?_
    by_cases c6:d=0
    ·refine bF (by simpa using c6) ?_
     rw[if_neg (by rintro (h | h);exact h.2 c6;cases h)]
     exact next hfit
    ·refine bT (by simpa using c6) ?_
     rw[if_pos (.inl ⟨c5,c6⟩)]
     exact fin 86 (by decide)
   ·refine bF (by simp[c5]) ?_
    rw[if_neg (by rintro (h | h);exact c5 h.1;cases h)]
    exact next hfit
def s7 (a0:LI)(a1 a2 a3:Int)(a4:Bool)(a5 a6 a7 a8 a9 a10:Int):Option jt.Res:=(j7 ((a0,([],(0,(0,())))),((a1,(a2,(a3,(a4,(a5,(a6,(a7,(a8,(a9,(a10,())))))))))),()))).run fun y=>match y with | .ret ((),((x108,x109,()),()))=>(oR ((x108,x109,()),())) | .pan (.ret ((),((x110,x111,x112,()),(x113,x114,x115,x116,x117,x118,x119,x120,x121,x122,()),())))=>(bif decide (x112<(↑x110.length:Int)) then oR (([],2,()),()) else bif eF x111 != x119 then oR (([],86,()),()) else oR ((x111,0,()),()))
theorem HK (a0:LI)(a1 a2 a3:Int)(a4:Bool)(a5 a6 a7 a8 a9 a10:Int):Io.run tt B5 dr p4 jt Tryz.f41 ((a0,(a1,a2,a3,a4,a5,a6,a7,a8,a9,a10,()),()),())=s7 a0 a1 a2 a3 a4 a5 a6 a7 a8 a9 a10:=by kernel_rfl
theorem tB:HcsOk prog BT:=.cons Jp (.cons JC (.cons G5 .nil))
theorem JB:HcOk prog 41 (ah jt zd):=by
 refine bL tB (lp:=p4) (fn:=Tryz.f41) jt (.step (h0:=aI cV j7) (by kernel_rfl) (jy tB (lp:=p4) (fn:=Tryz.f41) (.done (by kernel_rfl)) cV j7 ?_) (.done (by kernel_rfl))) zd ?_
 ·rintro ⟨⟨(blk:LI),(out:List bn),(p:Int),(i:Int),⟨⟩⟩,⟨⟨(z1:Int),(z2:Int),(z3:Int),(z4:Bool),(cnt:Int),(f:Int),(z7:Int),(z8:Int),(z9:Int),(z10:Int),⟨⟩⟩,⟨⟩⟩⟩ y hw hy
  obtain ⟨hg,hy⟩:=Tr.guard hy
  simp only[zA,zB] at hg
  obtain ⟨h1,h2,h3⟩:=hg
  have h1:i=0:=h1
  have h2:out.length=0:=h2
  have h3:cnt≤(4294960000:Int):=h3
  subst h1
  obtain rfl:=List.length_eq_zero_iff.1 h2
  have hf:bh .i64 f:=hw.2.1.2.2.2.2.2.1
  refine ⟨cnt.toNat+1,(xC blk z1 z2 z3 z4 cnt f z7 z8 z9 z10 hf cnt.toNat (cnt.toNat+1) 0 p [] (by omega) rfl (by omega) (by omega)).trans ?_⟩
  exact hy
 ·rintro ⟨⟨(blk:LI),⟨(z1:Int),(z2:Int),(z3:Int),(z4:Bool),(cnt:Int),(f:Int),(z7:Int),(z8:Int),(z9:Int),(z10:Int),⟨⟩⟩,⟨⟩⟩,⟨⟩⟩ out hw ho
  obtain ⟨hg,ho⟩:=Tr.guard ho
  have hg:cnt≤(4294960000:Int):=of_decide_eq_true hg
  cases ho
  refine (HK blk z1 z2 z3 z4 cnt f z7 z8 z9 z10).trans ?_
  show _=oR (((cA blk f z7 cnt.toNat).1,(cA blk f z7 cnt.toNat).2,()),())
  unfold s7 j7
  refine bT (by simp only[zA,zB];exact ⟨trivial,rfl,hg⟩) ?_
  have eR:cA blk f z7 cnt.toNat=if (aC blk f cnt.toNat 0 0 []).2.2≠0 then ([],(aC blk f cnt.toNat 0 0 []).2.2)
    else if (aC blk f cnt.toNat 0 0 []).2.1<(blk.length:Int) then ([],2)
    else if eF (aC blk f cnt.toNat 0 0 []).1≠z7 then ([],86) else ((aC blk f cnt.toNat 0 0 []).1,0):=rfl
  rw[eR]
  unfold rZ
  generalize aC blk f cnt.toNat 0 0 []=r
  obtain ⟨rs,q,e⟩:=r
  by_cases h3:e=0
  rotate_left
  ·refine bT (decide_eq_true h3) ?_
   rw[if_pos h3]
   rfl
  refine bF (decide_eq_false (aD h3)) ?_
  rw[if_neg (aD h3)]
  by_cases h4:q<(blk.length:Int)
  ·refine bT (decide_eq_true h4) ?_
   rw[if_pos h4]
  refine bF (decide_eq_false h4) ?_
  rw[if_neg h4]
  by_cases h5:eF rs=z7
  ·refine bF (by simpa using h5) ?_
   rw[if_neg (aD h5)]
  ·refine bT (by simpa using h5) ?_
   rw[if_pos h5]
end
end Go.Proofs.YtcbcbjdobbgddaaGreatDoor.Sym
namespace Go.Proofs.YtcbcbjdobbgddaaGreatDoor.Sym
open Go
noncomputable section
theorem yE (b:LI):(aO b).1.length≤32768:=by
 unfold aO
 repeat' split
 all_goals first | (simp;done) | skip
 rw[fx]
 have h:=mw (aj (aa 10 1 b 0).1)
 have:=tW ((b.drop (aa 10 1 b 0).2.1.toNat).length+1) (b.drop (aa 10 1 b 0).2.1.toNat) [] (aq (aj (aa 10 1 b 0).1)) h.1
 simp only
 omega
abbrev iv:Io:=⟨[dL],[],[],[wU,dI],none⟩
def ER (d:iv.In):Tr iv.Res:=.ite (decide (d.1.1.length≤4294960000)) (.ret (.ret (((bf d.1.1).1,(bf d.1.1).2,()),()))) .no
abbrev Ft:List (Nat×Hc):=[(39,ah gZ za),(33,ah iY vW),(40,ah jh yX),(41,ah jt zd)]
def KZ:Hd:=bt Ft
def Gz:Lp:=bG []
def wx (a0:LI):Option iv.Res:=bif (ai a0 true).2 != 0 then oR (((0,0,0,0,0,[],()),(ai a0 true).2,()),()) else bif decide (0≤61)&&(decide (61≤(↑a0.length:Int))&&decide ((↑a0.length:Int)≤(↑a0.length:Int))) then bif decide ((List.drop (Int.toNat 61) (List.take (↑a0.length:Int).toNat a0)).length≤4294967296) then bif (ai a0 true).1.2.2.2.1 then bif decide (32768=32768)&&decide ((List.drop (Int.toNat 61) (List.take (↑a0.length:Int).toNat a0)).length≤4294960000) then bif (aO (List.drop (Int.toNat 61) (List.take (↑a0.length:Int).toNat a0))).2 != 0 then oR (((0,0,0,0,0,[],()),(aO (List.drop (Int.toNat 61) (List.take (↑a0.length:Int).toNat a0))).2,()),()) else bif decide (32768<(↑(aO (List.drop (Int.toNat 61) (List.take (↑a0.length:Int).toNat a0))).1.length:Int)) then oR (((0,0,0,0,0,[],()),4,()),()) else bif decide ((ai a0 true).1.2.2.2.2.1≤4294960000) then bif (cA (aO (List.drop (Int.toNat 61) (List.take (↑a0.length:Int).toNat a0))).1 (ai a0 true).1.2.2.2.2.2.1 (ai a0 true).1.2.2.2.2.2.2.1 (Int.toNat (ai a0 true).1.2.2.2.2.1)).2 != 0 then oR (((0,0,0,0,0,[],()),(cA (aO (List.drop (Int.toNat 61) (List.take (↑a0.length:Int).toNat a0))).1 (ai a0 true).1.2.2.2.2.2.1 (ai a0 true).1.2.2.2.2.2.2.1 (Int.toNat (ai a0 true).1.2.2.2.2.1)).2,()),()) else oR ((((ai a0 true).1.1,(ai a0 true).1.2.2.1,(ai a0 true).1.2.2.2.2.2.2.2.1,(ai a0 true).1.2.2.2.2.2.2.2.2.1,(ai a0 true).1.2.2.2.2.2.2.2.2.2.1,(cA (aO (List.drop (Int.toNat 61) (List.take (↑a0.length:Int).toNat a0))).1 (ai a0 true).1.2.2.2.2.2.1 (ai a0 true).1.2.2.2.2.2.2.1 (Int.toNat (ai a0 true).1.2.2.2.2.1)).1,()),0,()),()) else none else none else bif decide (32768<(↑(List.drop (Int.toNat 61) (List.take (↑a0.length:Int).toNat a0)).length:Int)) then oR (((0,0,0,0,0,[],()),4,()),()) else bif decide ((ai a0 true).1.2.2.2.2.1≤4294960000) then bif (cA (List.drop (Int.toNat 61) (List.take (↑a0.length:Int).toNat a0)) (ai a0 true).1.2.2.2.2.2.1 (ai a0 true).1.2.2.2.2.2.2.1 (Int.toNat (ai a0 true).1.2.2.2.2.1)).2 != 0 then oR (((0,0,0,0,0,[],()),(cA (List.drop (Int.toNat 61) (List.take (↑a0.length:Int).toNat a0)) (ai a0 true).1.2.2.2.2.2.1 (ai a0 true).1.2.2.2.2.2.2.1 (Int.toNat (ai a0 true).1.2.2.2.2.1)).2,()),()) else oR ((((ai a0 true).1.1,(ai a0 true).1.2.2.1,(ai a0 true).1.2.2.2.2.2.2.2.1,(ai a0 true).1.2.2.2.2.2.2.2.2.1,(ai a0 true).1.2.2.2.2.2.2.2.2.2.1,(cA (List.drop (Int.toNat 61) (List.take (↑a0.length:Int).toNat a0)) (ai a0 true).1.2.2.2.2.2.1 (ai a0 true).1.2.2.2.2.2.2.1 (Int.toNat (ai a0 true).1.2.2.2.2.1)).1,()),0,()),()) else none else none else none
theorem J5 (a0:LI):Io.run tt KZ dr Gz iv Tryz.f13 ((a0,()),())=wx a0:=by kernel_rfl
theorem Lw:HcOk prog 13 (ah iv ER):=by
 refine bL (cs:=Ft) (.cons Jy (.cons Ai (.cons Jn (.cons JB .nil)))) (lp:=Gz) (fn:=Tryz.f13) iv (.done (by kernel_rfl)) ER ?_
 rintro ⟨⟨(b:LI),⟨⟩⟩,⟨⟩⟩ out hw ho
 obtain ⟨hg,ho⟩:=Tr.guard ho
 have hg2:b.length≤4294960000:=of_decide_eq_true hg
 clear hg
 cases ho
 refine (J5 b).trans ?_
 show _=oR (((bf b).1,(bf b).2,()),())
 have eE:jH b=if aU b true≠0 then ([],aU b true) else if (aN b (decide (b.getD 22 0=1))).2≠0 then ([],(aN b (decide (b.getD 22 0=1))).2) else cA (aN b (decide (b.getD 22 0=1))).1 (ap b 27 8) (ap b 35 8) (ap b 57 4).toNat:=rfl
 have fin:∀e:Int,e≠0→(jH b).2=e→some (Out.ret ((qa,(e,())),()):iv.Res)=oR (((bf b).1,(bf b).2,()),()):=by
  intro e he h
  have:bf b=(qa,e):=by unfold bf;rw[h,if_pos he]
  rw[this]
 have fin2:∀rs:List bn,jH b=(rs,0)→some (Out.ret (((ap b 0 8,ap b 12 4,ap b 43 8,ap b 51 2,ap b 53 4,rs,()),(0,())),()):iv.Res)=oR (((bf b).1,(bf b).2,()),()):=by
  intro rs h
  have:bf b=((ap b 0 8,ap b 12 4,ap b 43 8,ap b 51 2,ap b 53 4,rs,()),0):=by unfold bf;rw[h,if_neg (aD rfl)]
  rw[this]
 unfold wx
 by_cases h1:aU b true=0
 rotate_left
 ·have eh:ai b true=(aW,aU b true):=by unfold ai;rw[if_pos h1]
  rw[eh]
  refine bT (by simpa using h1) ?_
  exact fin _ h1 (by rw[eE,if_pos h1])
 have eh:ai b true=(gC b,0):=by unfold ai;rw[if_neg (aD h1)]
 rw[if_neg (aD h1)] at eE
 obtain ⟨k1,_,_,_,_,_,_,_,_,k2,k3,_⟩:=su h1
 have hI:gC b=(ap b 0 8,(b.length:Int),ap b 12 4,decide (b.getD 22 0=1),ap b 57 4,ap b 27 8,ap b 35 8,ap b 43 8,ap b 51 2,ap b 53 4,()):=rfl
 rw[eh,hI]
 dsimp only
 have e61:List.drop (Int.toNat 61) (List.take (b.length:Int).toNat b)=b.drop 61:=by
  show List.drop 61 (List.take (b.length:Int).toNat b)=_
  rw[zG,List.take_length]
 have l61:(b.drop 61).length=b.length - 61:=List.length_drop
 rw[e61]
 refine (ac rfl _ _).trans ?_
 refine bT (by simp only[zA,zB];omega) ?_
 refine bT (decide_eq_true (by omega)) ?_
 have rest:∀blk:LI,jH b=cA blk (ap b 27 8) (ap b 35 8) (ap b 57 4).toNat→(bif decide (ap b 57 4≤4294960000) then bif (cA blk (ap b 27 8) (ap b 35 8) (ap b 57 4).toNat).2 != 0 then oR (((0,0,0,0,0,[],()),(cA blk (ap b 27 8) (ap b 35 8) (ap b 57 4).toNat).2,()),()) else oR (((ap b 0 8,ap b 12 4,ap b 43 8,ap b 51 2,ap b 53 4,(cA blk (ap b 27 8) (ap b 35 8) (ap b 57 4).toNat).1,()),0,()),()) else none:Option iv.Res)=oR (((bf b).1,(bf b).2,()),()):=by
  intro blk hb
  refine bT (decide_eq_true (by omega)) ?_
  by_cases h4:(cA blk (ap b 27 8) (ap b 35 8) (ap b 57 4).toNat).2=0
  ·refine bF (by simpa using h4) ?_
   exact fin2 _ (by rw[hb,← h4])
  ·refine bT (by simpa using h4) ?_
   exact fin _ h4 (by rw[hb])
 by_cases h22:b.getD 22 0=1
 ·rw[decide_eq_true h22] at eE ⊢
  have hB:aN b true=aO (b.drop 61):=rfl
  rw[hB] at eE
  refine (ab rfl _ _).trans ?_
  have l62:(b.drop 61).length≤4294960000:=by omega
  refine bT (by rw[zA];exact ⟨rfl,decide_eq_true l62⟩) ?_
  by_cases h2:(aO (b.drop 61)).2=0
  rotate_left
  ·refine bT (by simpa using h2) ?_
   exact fin _ h2 (by rw[eE,if_pos h2])
  refine bF (by simpa using h2) ?_
  rw[if_neg (aD h2)] at eE
  have:=yE (b.drop 61)
  have this:¬(32768:Int)<((aO (b.drop 61)).1.length:Int):=by omega
  refine bF (decide_eq_false this) ?_
  exact rest _ eE
 ·rw[decide_eq_false h22] at eE ⊢
  have hB:aN b false=if 32768<((b.drop 61).length:Int) then ([],4) else (b.drop 61,0):=rfl
  rw[hB] at eE
  refine (ac rfl _ _).trans ?_
  by_cases h2:32768<((b.drop 61).length:Int)
  ·rw[if_pos h2] at eE
   refine bT (decide_eq_true h2) ?_
   exact fin 4 (by decide) (by rw[eE,if_pos (by decide)])
  ·rw[if_neg h2,if_neg (aD rfl)] at eE
   refine bF (decide_eq_false h2) ?_
   exact rest _ eE
end
end Go.Proofs.YtcbcbjdobbgddaaGreatDoor.Sym
namespace Go.Proofs.YtcbcbjdobbgddaaGreatDoor.Sym
open Go
open Go.IntKind (i8 i16 i32 i64 u8 u16 u32 u64)
noncomputable section
abbrev LX:Type:=LI×Int×Int×Int×Unit
def yH (d:LX):AS:=⟨[.one (.ptr 0 0),.one (.int .i64 d.2.1),.one (.int .i32 d.2.2.1)]++List.replicate 35 .any,[],[some [.ex 5 (.int .u8) 0 d.1 1 1,.int .i64 d.2.2.2.1]]⟩
def zQ:Hd:=bt []
abbrev f32:Func:=Tryz.f53
def pv:Func:={ f32 with results:=f32.results.push (.tmp 0) }
abbrev eC:Lo:=⟨⟨(.one (.ptr 0 0)::.one hI::.one hJ::.any::al (.one hI::.any::al [])),[some [.exl 5 (Ty.int u8) 2 2,hI]]⟩,[(.exit 0,⟨(.one (.ptr 0 0)::.any::al (al (cj []))),[some [.exl 5 (Ty.int u8) 2 2,hI]]⟩)]⟩
def fD (xs:LI)(p:Nat)(v:Int):LI:=(((xs.set p (v / 256 ^ 3 % 256)).set (p+1) (v / 256 ^ 2 % 256)).set (p+2) (v / 256 ^ 1 % 256)).set (p+3) (v / 256 ^ 0 % 256)
theorem rL (xs:LI)(p:Nat)(v:Int):(fD xs p v).length=xs.length:=by simp[fD]
theorem Es (A T:LI)(a b c d v:Int):fD (A++a::b::c::d::T) A.length v=A++(aF v 4++T):=by
 simp[fD,aF,List.set_append]
def mN (d:eC.st.den):Tr (ao eC.xs):=
 .ite (decide (d.1.2.2.1=0)&&(decide ((0:Int)≤d.1.1)&&decide (d.1.1+4≤(d.2.1.1.length:Int)))) (.ret (.ret ((),((),((fD d.2.1.1 d.1.1.toNat d.1.2.1,(d.2.1.2.1,())),()))))) .no
def ou:Lp:=bG [(5,aI eC mN)]
def mC {R:Type}(h4 h5 h6:Int)(h7:LI)(h8:Int)(next:Int→Int→Int→LI→Int→Option R)(out:ao eC.xs→Option R):Option R:=bif decide (h6<4) then bif decide (0≤i64.wrap (24 - i64.wrap (8*h6))) then bif decide ((↑0:Int)≤i64.wrap (h4+h6))&&decide (i64.wrap (h4+h6)<(↑0:Int)+(↑h7.length:Int)) then next (h4) (h5) (i64.wrap (h6+1)) (t5 0 (i64.wrap (h4+h6)).toNat h7 (u8.wrap (dw i32 h5 (i64.wrap (24 - i64.wrap (8*h6)))))) (h8) else none else none else out (.ret ((),((),((h7,(h8,())),()))))
def kr (n:Nat)(h4 h5 h6:Int)(h7:LI)(h8:Int):Option (ao eC.xs):=iI tt zQ dr ou 1 pv (cR pv 0) n (eC.st.mk' ((h4,(h5,(h6,()))),((h7,(h8,())),()))) (bS eC.xs)
theorem yq (n:Nat)(h4 h5 h6:Int)(h7:LI)(h8:Int):kr (n+1) h4 h5 h6 h7 h8=mC h4 h5 h6 h7 h8 (kr n) some:=by kernel_rfl
theorem MT {v:Int}(h:bh .i32 v){i:Nat}(hi:i≤3):u8.wrap (dw i32 v (i64.wrap (24 - i64.wrap (8*(i:Int)))))=v / 256 ^ (3 - i) % 256:=by
 simp[bh,IntKind.min,IntKind.max,IntKind.signed,IntKind.bits] at h
 rw[af (n:=8*(i:Int)) (by omega) (by omega),af (n:=24 - 8*(i:Int)) (by omega) (by omega)]
 unfold dw
 have e:min (24 - 8*(i:Int)).toNat (i32).bits=8*(3 - i):=by
  show min (24 - 8*(i:Int)).toNat 32=_
  omega
 rw[e,show (2:Int) ^ (8*(3 - i))=256 ^ (3 - i) by rw[Int.pow_mul];rfl]
 have hp:(0:Int)<256 ^ (3 - i):=Int.pow_pos (by decide)
 rw[Int.fdiv_eq_ediv_of_nonneg _ (Int.le_of_lt hp)]
 have hr:bh .i32 (v / 256 ^ (3 - i)):=by
  have h1:v / 256 ^ (3 - i)=v.fdiv (2 ^ (8*(3 - i))):=by
   rw[show (2:Int) ^ (8*(3 - i))=256 ^ (3 - i) by rw[Int.pow_mul];rfl,Int.fdiv_eq_ediv_of_nonneg _ (Int.le_of_lt hp)]
  have h2:=xk .i32 (x:=v) (8*(3 - i)) (by simp[bh,IntKind.min,IntKind.max,IntKind.signed,IntKind.bits];omega)
  rw[h1,← h2]
  exact bJ _ _
 rw[bA hr]
 simp[IntKind.wrap,IntKind.signed,IntKind.bits]
theorem Gg {v:Int}(hv:bh .i32 v)(m:Int)(p k:Nat)(xs:LI)(h0:p+4≤xs.length)(hl:xs.length≤maxLen):kr (k+5) p v 0 xs m=some (.ret ((),((),((fD xs p v,(m,())),())))):=by
 rw[aR] at hl
 have go:∀(j i:Nat) (ys:LI),i≤3→ys.length=xs.length→kr (j+1) p v i ys m=kr j p v ((i+1:Nat):Int) (ys.set (p+i) (v / 256 ^ (3 - i) % 256)) m:=by
  intro j i ys hi hy
  rw[yq]
  unfold mC
  rw[MT hv hi]
  rw[af (n:=(p:Int)+(i:Int)) (by omega) (by omega),af (n:=(i:Int)+1) (by omega) (by omega),af (n:=8*(i:Int)) (by omega) (by omega),af (n:=24 - 8*(i:Int)) (by omega) (by omega)]
  refine bT (by simp;omega) ?_
  refine bT (by simp;omega) ?_
  refine bT (by simp only[zA,zB];omega) ?_
  rw[show ((p:Int)+(i:Int)).toNat=p+i by omega]
  rfl
 have g0:=go (k+4) 0 xs (by omega) rfl
 have g1:=go (k+3) 1 (xs.set (p+0) (v / 256 ^ (3 - 0) % 256)) (by omega) (by simp)
 have g2:=go (k+2) 2 ((xs.set (p+0) (v / 256 ^ (3 - 0) % 256)).set (p+1) (v / 256 ^ (3 - 1) % 256)) (by omega) (by simp)
 have g3:=go (k+1) 3 (((xs.set (p+0) (v / 256 ^ (3 - 0) % 256)).set (p+1) (v / 256 ^ (3 - 1) % 256)).set (p+2) (v / 256 ^ (3 - 2) % 256)) (by omega) (by simp)
 refine g0.trans (g1.trans (g2.trans (g3.trans ?_)))
 rw[yq]
 unfold mC
 exact ac (by simp) _ _
theorem Mb:LpsOk prog 1 ou (AQ pv) 0:=by
 refine .step (h0:=aI eC mN) (by kernel_rfl) (jy (cs:=[]) HcsOk.nil (lp:=ou) (fn:=pv) (.done (by kernel_rfl)) eC mN ?_) (.done (by kernel_rfl))
 rintro ⟨⟨(p:Int),(v:Int),(i:Int),⟨⟩⟩,⟨⟨(xs:LI),(m:Int),⟨⟩⟩,⟨⟩⟩⟩ y hw hy
 obtain ⟨hg,hy⟩:=Tr.guard hy
 simp only[zA,zB] at hg
 obtain ⟨h1,h2,h3⟩:=hg
 have h1:i=0:=h1
 have h2:0≤p:=h2
 have h3:p+4≤(xs.length:Int):=h3
 subst h1
 obtain ⟨p,rfl⟩:=au h2
 refine ⟨5,(Gg (k:=0) hw.1.2.1 m p xs (by omega) hw.2.1.1.1).trans ?_⟩
 rw[← hy];rfl
def LC (ex:Ex)(A:AS):Option (Int×LI×Int):=match ex with
 |.ret=>match A.get 6,A.ob with
  |.one (.int .i64 r),some [.ex _ (.int .u8) lo xs _ _,.int .i64 m]::_=>bif Nat.beq lo 0 then some (r,xs,m) else none
  |_,_=>none
 |_=>none
theorem LD (xs:LI)(p v m:Int):ev tt zQ dr ou 1 (eJ pv) (aP pv) (eJ pv) [] (yH (xs,p,v,m,())) LC=bif decide (p<0) then some ((3:Int),xs,m) else bif decide (i64.wrap ((↑0:Int)+(↑xs.length:Int) - 4)<p) then some ((3:Int),xs,m) else (mN ((p,(v,(0,()))),((xs,(m,())),()))).run fun y=>match y with | .ret ((),((),(x16,x17,()),()))=>some ((0:Int),x16,x17):=by kernel_rfl
def Ef (w:World)(bw b:Nat):Nat→Nat→Prop:=fun b' o=>b'≠b∧b'≠bw∧∃v,w.cell? ⟨b',o,none⟩=some v
def vK (w:World)(bw b:Nat):Fra:=⟨w,fun b'=>b'=b∨b'=bw,Ef w bw b,fun k=>if k=0 then some bw else none⟩
def o7 (w:World)(bw b:Nat):Gh:=⟨Ef w bw b,fun k=>if k=0 then some bw else none,fun j=>if j=1 then some (b,0) else none⟩
theorem HM {w:World}{bw b:Nat}(hw:bw<w.heap.size)(hb:b<w.heap.size)(hne:bw≠b)(ht:iG (Ef w bw b) w):GhOk (vK w bw b) (o7 w bw b) w where
 mu:=fun k b' h=>by
  simp only[o7] at h
  split at h
  ·cases h;exact ⟨.inr (.inr rfl),fun _ h=>h.2.1 rfl,hw⟩
  ·cases h
 muI:=fun k k' b' h h'=>by
  simp only[o7] at h h'
  split at h <;> split at h'
  ·rename_i e1 e2;exact e1.trans e2.symm
  ·cases h'
  ·cases h
  ·cases h
 ow:=fun i b' l h=>by
  simp only[o7] at h
  split at h
  ·cases h
   refine ⟨fun _ _ h=>h.1 rfl,.inr (.inl rfl),hb,fun k h=>?_⟩
   simp only[o7] at h
   split at h
   ·cases h;exact hne rfl
   ·cases h
  ·cases h
 owI:=fun i j b' l l' h h'=>by
  simp only[o7] at h h'
  split at h <;> split at h'
  ·rename_i e1 e2;exact e1.trans e2.symm
  ·cases h'
  ·cases h
  ·cases h
 sB:=fun b' o h=>by
  obtain ⟨_,_,v,h⟩:=h
  unfold World.cell? at h
  split at h
  ·rename_i e
   exact (Array.getElem?_eq_some_iff.1 e).1
  ·cases h
 fr:=⟨rfl,rfl,rfl,Nat.le_refl _,fun _ _ _=>rfl⟩
 sub:=fun _ _ h=>h
 sup:=fun _ _ h=>.inl h
 keep:=fun _ _ _=>rfl
 fix_:=fun _ _ h=>h
 tab:=ht
theorem Eg (w:World)(xs:LI)(m v:Int)(bw b cap n:Nat)(curw cur:Array Value)(elw el:TypeId)(hw:w.heap[bw]?=some (.cells curw elw (0,0)))(hcw:curw.toList=[.slice (some ⟨b,0,none⟩) n cap,.int .i64 m])(hn:n=xs.length)
  (hh:w.heap[b]?=some (.cells cur el (0,0))) (hcs:cur.size=cap) (hle:xs.length≤cap) (hcap:cap≤maxLen) (hne:bw≠b) (ht:iG (Ef w bw b) w) (h21:21≤xs.length) (hv:bh .i32 v) (hmm:bh .i64 m)
  (hx:∀(k:Nat) (x:Int),xs[k]?=some x→bh .u8 x∧cur[k]?=some (Value.int .u8 x)):
  Calls prog 53 #[.pointer (some ⟨bw,0,none⟩),.int .i64 17,.int .i32 v] w fun e w'=>e=.returned (.int .i64 0)∧(vK w bw b).ok w'∧(∀b' o,Ef w bw b b' o→w'.cell? ⟨b',o,none⟩=w.cell? ⟨b',o,none⟩)∧
   ∃(b2 cap2:Nat) (curw2 cur2:Array Value) (elw2 el2:TypeId) (m':Int),w'.heap[bw]?=some (.cells curw2 elw2 (0,0))∧curw2.toList=[.slice (some ⟨b2,0,none⟩) xs.length cap2,.int .i64 m']∧(b2=b∨w.heap.size≤b2)∧b2≠bw∧b2<w'.heap.size∧
    w'.heap[b2]?=some (.cells cur2 el2 (0,0))∧cur2.size=cap2∧xs.length≤cap2∧cap2≤maxLen∧m'=m∧∀(k:Nat) (x:Int),(fD xs 17 v)[k]?=some x→bh .u8 x∧cur2[k]?=some (Value.int .u8 x):=by
 have htt:=dF Tryz.prog 400
 have hc:f32.body=some (aP pv):=by kernel_rfl
 refine calls_of_wp (P:=prog) (fn:=f32) (by kernel_rfl) hc ?_
 have hxl:(xs.length:Int)≤9223372036854775807:=by rw[aR] at hcap;omega
 have R0:Rel (vK w bw b) (o7 w bw b) (yH (xs,17,v,m,())) (#[.pointer (some ⟨bw,0,none⟩),.int .i64 17,.int .i32 v]++Array.replicate (f32.ntmps - 3) undef) [] w:=by
  refine ⟨?_,trivial,fun k cs hk=>?_,HM (B6 hw) (B6 hh) hne ht⟩
  ·rw[show f32.ntmps - 3=35 by kernel_rfl,Array.toList_append,Array.toList_replicate]
   exact ⟨⟨bw,rfl,rfl⟩,⟨rfl,(⟨by decide,by decide⟩:bh .i64 17)⟩,⟨rfl,hv⟩,All2.replicate (R:=Rv (o7 w bw b) w) (a:=.any) (b:=undef) trivial 35⟩
  ·cases k with
   |succ k=>simp[yH] at hk
   |zero=>
    simp only[yH,List.getElem?_cons_zero,zC] at hk
    subst hk
    refine ⟨bw,_,rfl,hw,.inl ⟨curw,elw,rfl,?_⟩⟩
    rw[hcw]
    refine ⟨.inr ⟨b,cap,by rw[hn,Nat.zero_add],⟨by decide,by decide,.inl rfl⟩,cur,el,hh,by rw[hcs];simp[Ty.size],by rw[Nat.zero_add];exact hle,hcap,fun k x hk=>?_⟩,⟨rfl,hmm⟩,trivial⟩
    obtain ⟨h1,h2⟩:=hx k x hk
    refine ⟨[.int .u8 x],⟨rfl,h1⟩,fun q u hq=>?_⟩
    cases q with
    |succ q=>simp at hq
    |zero=>
     simp only[List.getElem?_cons_zero,zC] at hq
     subst hq
     simpa [Ty.size] using h2
 have hrun:ev tt zQ dr ou 1 (eJ pv) (aP pv) (eJ pv) [] (yH (xs,17,v,m,())) LC=some (0,fD xs 17 v,m):=by
  refine (LD xs 17 v m).trans ?_
  refine bF (by decide) ?_
  rw[af (n:=(0:Int)+(xs.length:Int) - 4) (by omega) (by omega)]
  refine bF (decide_eq_false (by omega)) ?_
  unfold mN
  refine bT (by simp only[zA,zB];exact ⟨trivial,by decide,show (17:Int)+4≤(xs.length:Int) by omega⟩) ?_
  rfl
 have hkb:∀d,(vK w bw b).mu0 (1+d)=none:=fun d=>if_neg (by omega)
 refine cS htt hm (ir HcsOk.nil) (dm htt) hkb (lp:=ou) (aP pv) (Mb.all) hrun R0 ?_
 intro ex A' G' a' w' R' hd hk
 cases ex with
 |normal=>cases hk
 |exit i=>cases hk
 |panic v=>cases hk
 |ret=>
  refine ⟨hd,?_⟩
  unfold LC at hk
  simp only at hk
  split at hk
  ·rename_i r0 e lo ys i j m0 rest e1 e2
   cases hz:Nat.beq lo 0 with
   |false=>rw[hz] at hk;cases hk
   |true=>
    rw[hz] at hk
    have hz:=Nat.eq_of_beq_eq_true hz
    subst hz
    simp only[cond_true,zC,zD] at hk
    obtain ⟨rfl,hys,rfl⟩:=hk
    have hyl:ys.length=xs.length:=by rw[hys];exact rL _ _ _
    have e0:f32.results.toList=[.tmp 6]:=by kernel_rfl
    obtain ⟨us,hres,hus⟩:=o6 (P:=prog) htt R' f32 (by
     rw[e0]
     intro v hv
     simp only[zL,List.map_nil,List.mem_singleton] at hv
     subst hv
     show A'.get 6≠.any
     rw[e1]
     exact fun h=>by cases h)
    rw[e0] at hus
    obtain ⟨u,rfl,hu⟩:∃u,us=[u]∧Rv G' w' (A'.get 6) u:=by
     cases us with
     |nil=>exact hus.elim
     |cons u us=>
      cases us with
      |nil=>exact ⟨u,rfl,hus.1⟩
      |cons _ _=>exact hus.2.elim
    rw[e1] at hu
    have hu:u=.int .i64 0:=hu.1
    subst hu
    obtain ⟨bo,oo,hm0,hh0,ho⟩:=R'.ob 0 [.ex e (.int .u8) 0 ys i j,.int .i64 m0] (by rw[e2];rfl)
    have hfx:=R'.gh.fix_ 0 bw rfl
    rw[hfx] at hm0
    cases hm0
    obtain ⟨curw2,elw2,rfl,hcs2⟩:=ho.cells (by simp[C.isItr])
    obtain ⟨v1,v2,hv12,hv1,hv2⟩:∃v1 v2,curw2.toList=[v1,v2]∧Rc G' w' (.ex e (.int .u8) 0 ys i j) v1∧Rc G' w' (.int .i64 m0) v2:=by
     match hl:curw2.toList with
     |[]=>rw[hl] at hcs2;exact hcs2.elim
     |[_]=>rw[hl] at hcs2;exact hcs2.2.elim
     |[v1,v2]=>rw[hl] at hcs2;exact ⟨v1,v2,rfl,hcs2.1,hcs2.2.1⟩
     |_::_::_::_=>rw[hl] at hcs2;exact hcs2.2.2.elim
    have hv2:v2=.int .i64 m0:=hv2.1
    subst hv2
    rcases hv1 with ⟨_,hnil,_⟩ | ⟨b2,cap2,rfl,⟨_,_,how⟩,cur2,el2,g1,g2,g3,g4,g5⟩
    ·rw[hnil] at hyl;simp at hyl;omega
    obtain ⟨l,how⟩:∃l,G'.ow l=some (b2,0):=by rcases how with h | h <;> exact ⟨_,h⟩
    obtain ⟨_,k2,k3,k4⟩:=R'.gh.ow l b2 0 how
    have hb2:b2≠bw:=by rintro rfl;exact k4 0 hfx
    rw[Nat.zero_add] at hv12 g3
    refine ⟨_,hres,rfl,R'.gh.fr,fun b' o hs=>R'.gh.keep b' o hs,b2,cap2,curw2,cur2,elw2,el2,m0,hh0,by rw[hv12,hyl],?_,hb2,k3,g1,by rw[g2];simp[Ty.size],by omega,g4,rfl,fun k x hk=>?_⟩
    ·rcases k2 with h | h | h
     ·exact .inr h
     ·exact .inl h
     ·exact absurd h hb2
    ·rw[← hys] at hk
     obtain ⟨c,⟨rfl,hin⟩,hq⟩:=g5 k x hk
     have:=hq 0 _ rfl
     exact ⟨hin,by simpa [Ty.size] using this⟩
  ·cases hk
end
end Go.Proofs.YtcbcbjdobbgddaaGreatDoor.Sym
namespace Go.Proofs.YtcbcbjdobbgddaaGreatDoor.Sym
open Go
noncomputable section
abbrev nb:Io:=gP
def A5 (d:nb.In):Tr nb.Res:=
 .ite (dp (aJ d.1.1.2.2.2.2.2.1) d.1.1.2.2.2.2.2.1 0&&decide (aK d.1.1≠0)) (.ret (.ret ((([]:LI),(aK d.1.1,())),()))) .no
theorem GK:HcOk prog 45 (ah nb A5):=by
 refine HcOk.weakB CM ?_
 rintro ⟨⟨(b:fF),⟨⟩⟩,⟨⟩⟩ y hw hy
 obtain ⟨hg,hy⟩:=Tr.guard hy
 simp only[zA,zB] at hg
 obtain ⟨h1,h2⟩:=hg
 rw[← hy]
 have e:dq b=([],aK b):=by unfold dq;rw[if_pos h2]
 show (nP ((b,()),())).val=some (.ret ((([]:LI),(aK b,())),()))
 unfold nP
 rw[Tr.val_ite,if_pos h1,Tr.val_ret]
 show oR (((dq b).1,((dq b).2,())),())=_
 rw[e]
abbrev nc:Io:=gP
def A6 (d:nc.In):Tr nc.Res:=
 .ite (dp (aJ d.1.1.2.2.2.2.2.1) d.1.1.2.2.2.2.2.1 0&&decide (aK d.1.1=0)) (.ret (.ret (((bx d.1.1.2.2.2.2.2.1).1,(0,())),()))) .no
theorem GL:HcOk prog 45 (ah nc A6):=by
 refine HcOk.weakB CM ?_
 rintro ⟨⟨(b:fF),⟨⟩⟩,⟨⟩⟩ y hw hy
 obtain ⟨hg,hy⟩:=Tr.guard hy
 simp only[zA,zB] at hg
 obtain ⟨h1,h2⟩:=hg
 rw[← hy]
 have e:dq b=((bx b.2.2.2.2.2.1).1,0):=by unfold dq;rw[if_neg (by rw[h2];exact fun h=>h rfl)]
 show (nP ((b,()),())).val=some (.ret (((bx b.2.2.2.2.2.1).1,(0,())),()))
 unfold nP
 rw[Tr.val_ite,if_pos h1,Tr.val_ret]
 show oR (((dq b).1,((dq b).2,())),())=_
 rw[e]
abbrev B9:Io:=⟨[wU,dB],[],[],[dO,dI],none⟩
abbrev Bo:List (Nat×Hc):=[(45,ah nb A5)]
def IH:Hd:=bt Bo
def Ce:Lp:=bG []
def sy (a0 a1 a2 a3 a4:Int)(a5:List aV.den)(a6:Bool):Option B9.Res:=bif dp (aJ a5) a5 0&&decide (aK (a0,a1,a2,a3,a4,a5,())≠0) then bif aK (a0,a1,a2,a3,a4,a5,()) != 0 then oR (([],aK (a0,a1,a2,a3,a4,a5,()),()),()) else bif a6 then none else none else none
theorem Ha (a0 a1 a2 a3 a4:Int)(a5:List aV.den)(a6:Bool):Io.run tt IH dr Ce B9 Tryz.f17 (((a0,a1,a2,a3,a4,a5,()),a6,()),())=sy a0 a1 a2 a3 a4 a5 a6:=by kernel_rfl
end
end Go.Proofs.YtcbcbjdobbgddaaGreatDoor.Sym
namespace Go.Proofs.YtcbcbjdobbgddaaGreatDoor.Sym
open Go
open Go.IntKind (i8 i16 i32 i64 u8 u16 u32 u64)
noncomputable section
def rO:Nat→Code→Code
 |0,c=>c
 |n+1,.seq _ b=>rO n b
 |_+1,c=>c
def KI (tt:TT)(hd:Hd)(dr:Dr)(lr:Nat){R:Type}:Nat→Code→AS→(AS→Option R)→Option R
 |0,_,A,K=>K A
 |n+1,.seq a b,A,K=>ev tt hd dr (fun _=>none) 0 lr a lr [] A fun ex A=>match ex with
  |.normal=>KI tt hd dr lr n b A K
  |_=>none
 |_+1,_,_,_=>none
theorem zO {P:Program}{tt:TT}(htt:b8 P tt)(hm:P.follows .mixedOrders=true){hd:Hd}(hh:iQ P hd){okDraw:Dr}(hdr:il P tt okDraw){R:Type}{F:Fra}{cst:List (Array Value)}{lr:Nat}(hkb:∀d,F.mu0 (0+d)=none){r:R}{Q:Exit→Act→World→Prop}:
  ∀(n:Nat) (c:Code) {G:Gh} {A:AS} {a:Act} {w:World} {K:AS→Option R},KI tt hd okDraw lr n c A K=some r→Rel F G A a.tmps cst w→
   (∀A' G' a' w',Rel F G' A' a'.tmps cst w'→a'.defers=a.defers→K A'=some r→(rO n c).wp P Q a' w')→c.wp P Q a w:=by
 intro n
 induction n with
 |zero=>intro c G A a w K h Rl k;exact k A G a w Rl rfl h
 |succ n ih=>
  intro c G A a w K h Rl k
  cases c with
  |seq x y=>
   refine wp_seq (cS htt hm hh hdr hkb (lp:=fun _=>none) x (fun _ _ _ h=>by cases h) h Rl ?_)
   intro ex A1 G1 a1 w1 R1 hd1 h1
   cases ex with
   |normal=>exact ih y h1 R1 (by rw[hd1];exact k)
   |exit i=>cases h1
   |ret=>cases h1
   |panic v=>cases h1
  |_=>cases h
theorem EU {G:Gh}{w:World}:∀{n:Nat} {us:List Value},us.length=n→All2 (Rv G w) (List.replicate n .any) us
 |0,[],_=>trivial
 |n+1,_::us,h=>⟨trivial,EU (n:=n) (us:=us) (by simpa using h)⟩
 |0,_::_,h=>by cases h
 |_+1,[],h=>by cases h
abbrev fE:Func:=Tryz.f17
abbrev E9:List (Nat×Hc):=[(45,ah nc A6),(38,ah gO uf),(47,ah vd Kn),(48,ah vc Km),(49,ah vb Kl),(51,ah va Kk),(50,ah Cb LW),(52,ah ve Ko),(55,ah gr uz),(54,ah gQ uj)]
theorem uS:HcsOk prog E9:=.cons GL (.cons CK (.cons La (.cons K9 (.cons K8 (.cons K7 (.cons Mf (.cons Lb (.cons GZ (.cons CN .nil)))))))))
def uT:Hd:=bt E9
abbrev iu:Io:=⟨[wU,dB],[],[],[dO,dI],none⟩
def KF (A:AS):Option (LI×Int×Int):=match A.stk,A.get 9,A.get 94,A.get 100 with
 |[],.one (.ptr k 0),.one (.ptr k' 0),.one (.int .i32 v)=>match A.ob[k]? with
  |some (some [.lst _ (.int .u8) xs own,.int .i64 m])=>bif Nat.beq A.tm.length 104&&(Nat.beq k k'&&!Nat.beq own 0) then some (xs,m,v) else none
  |_=>none
 |_,_,_,_=>none
def gu:Array Oper:=gx (jE (rO 20 (aP fE)))
def oy:Code:=gz (rO 20 (aP fE))
def MF (b:fF)(packed:Bool):Option (LI×Int×Int):=
 KI tt uT dr (eJ fE) 20 (aP fE) (Io.start iu fE.ntmps ((b,packed,()),())) fun A=>jM tt uT 0 gu (List.range 7) A fun ex A=>match ex with
  |.normal=>KF A
  |_=>none
def cG {R:Type}(L:LI)(n:Nat)(p:LI)(K:LI→Option R):Option R:=bif pb L 36000 n then K (L++p) else none
def uN (a0 a1 a2 a3 a4:Int)(a5:List aV.den)(a6:Bool):Option (LI×Int×Int):=
 bif dp (aJ a5) a5 0&&decide (aK (a0,a1,a2,a3,a4,a5,())=0) then bif a6 then none else
  cG [] 8 (aF a0 8) fun L=>cG L 4 (aF (i32.wrap (i64.wrap (49+((bx a5).1.length:Int)))) 4) fun L=>cG L 4 (aF a1 4) fun L=>cG L 1 (aF 2 1) fun L=>cG L 4 (aF 0 4) fun L=>cG L 2 (aF 0 2) fun L=>
  cG L 4 (aF (i32.wrap (i64.wrap ((a5.length:Int) - 1))) 4) fun L=>bif decide ((0:Int)≤0)&&decide ((0:Int)<(a5.length:Int)) then cG L 8 (aF (a5.getD (Int.toNat 0) (0,(false,[],()),(false,[],()),[],())).1 8) fun L=>
  bif decide (1≤a5.length) then cG L 8 (aF (eF a5) 8) fun L=>cG L 8 (aF a2 8) fun L=>cG L 2 (aF a3 2) fun L=>cG L 4 (aF a4 4) fun L=>cG L 4 (aF (i32.wrap (a5.length:Int)) 4) fun L=>
  cG L (aX [(bx a5).1]) (fg [(bx a5).1]) fun L=>bif decide (List.length L≤4294967296) then bif decide ((0:Int)≤21)&&(decide ((21:Int)≤(L.length:Int))&&decide ((L.length:Int)≤(L.length:Int))) then
   some (L,36000,i32.wrap (oC [List.drop (Int.toNat 21) (List.take (L.length:Int).toNat L)] 0)) else none else none else none else none else none
theorem KG (a0 a1 a2 a3 a4:Int)(a5:List aV.den)(a6:Bool):MF (a0,a1,a2,a3,a4,a5,()) a6=uN a0 a1 a2 a3 a4 a5 a6:=by kernel_rfl
def w5 (xs:LI)(m:Int):AS:=⟨(List.replicate 104 .any).set 9 (.one (.ptr 0 0)),[],[some [.lst 5 (.int .u8) xs 1,.int .i64 m]]⟩
theorem Iz (xs:LI)(m:Int):ev tt uT dr (fun _=>none) 0 (eJ fE) oy (eJ fE) [] (w5 xs m) (Io.fin tt iu fE)=bif decide (xs.length≤4294967296) then some (.ret ((xs,0,()),())) else none:=by kernel_rfl
theorem IA {xs:LI}{m v:Int}{out:iu.Res}{F:Fra}{G2:Gh}{A2:AS}{a2:Act}{cst:List (Array Value)}{w w2:World}{R:Ending→World→Prop}
  (hkb:∀d,F.mu0 (0+d)=none) (hq:F.w0=w∧∀b,¬ F.X b) (hS0:∀b o,F.S0 b o→b<w.heap.size) (htab:iG F.S0 F.w0)
  (R2:Rel F G2 A2 a2.tmps cst w2) (hd2:a2.defers=[]) (hK:KF A2=some (xs,m,v)) (h21:21≤xs.length)
  (hrest:ev tt uT dr (fun _=>none) 0 (eJ fE) oy (eJ fE) [] (w5 (fD xs 17 v) m) (Io.fin tt iu fE)=some out)
  (hend:∀ex A' G' a' w',Rel F G' A' a'.tmps cst w'→Io.fin tt iu fE ex A'=some out→KC prog fE R ex G' a' w'):
  wpOps prog gu (Exit.then (oy.wp prog (bodyPost prog fE R)) (bodyPost prog fE R)) [7] a2 w2:=by
 have htt:=dF Tryz.prog 400
 have hX:∀b,F.mine b→w.heap.size≤b:=fun b h=>by
  rcases h with h | h
  ·rw[hq.1] at h;exact h
  ·exact absurd h (hq.2 b)
 unfold KF at hK
 split at hK
 rotate_left
 ·cases hK
 rename_i k k' v' hstk e9 e94 e100
 split at hK
 rotate_left
 ·cases hK
 rename_i e xs' own m' eob
 cases hck:Nat.beq A2.tm.length 104&&(Nat.beq k k'&&!Nat.beq own 0) with
 |false=>rw[hck] at hK;cases hK
 |true=>
 rw[hck] at hK
 simp only[cond_true,zC,zD] at hK
 obtain ⟨rfl,rfl,rfl⟩:=hK
 simp only[zA,Bool.not_eq_true'] at hck
 obtain ⟨hl104,hkk,hown⟩:=hck
 have hl104:=Nat.eq_of_beq_eq_true hl104
 have hkk:=Nat.eq_of_beq_eq_true hkk
 subst hkk
 have hown:own≠0:=fun h=>by rw[h] at hown;cases hown
 have hcst:cst=[]:=by
  have:=R2.stk
  rw[hstk] at this
  cases cst with
  |nil=>rfl
  |cons _ _=>exact this.elim
 have v9:=R2.get 9
 rw[e9] at v9
 obtain ⟨bw,hbw,v9⟩:=v9
 have v94:=R2.get 94
 rw[e94] at v94
 obtain ⟨bw',hbw',v94⟩:=v94
 rw[hbw] at hbw'
 cases hbw'
 have v100:=R2.get 100
 rw[e100] at v100
 obtain ⟨v100,hvr⟩:=v100
 obtain ⟨bo,curw,elw,hbo,hhw,hcs⟩:=R2.ob.cells eob (by simp[C.isItr])
 rw[hbw] at hbo
 cases hbo
 obtain ⟨v1,v2,hv12,hv1,hv2⟩:∃v1 v2,curw.toList=[v1,v2]∧Rc G2 w2 (.lst e (.int .u8) xs' own) v1∧Rc G2 w2 (.int .i64 m') v2:=by
  match hl:curw.toList with
  |[]=>rw[hl] at hcs;exact hcs.elim
  |[_]=>rw[hl] at hcs;exact hcs.2.elim
  |[v1,v2]=>rw[hl] at hcs;exact ⟨v1,v2,rfl,hcs.1,hcs.2.1⟩
  |_::_::_::_=>rw[hl] at hcs;exact hcs.2.2.elim
 obtain ⟨rfl,hmr⟩:=hv2
 obtain ⟨Ad,cap,rfl,hle,hcap,hrow,hownA⟩:=hv1
 have hne:xs'≠[]:=fun h=>by rw[h] at h21;simp at h21
 rcases hownA with h | ⟨h,h'⟩ | ⟨b,cur,el,rfl,how,hhb,hcsz⟩
 ·exact absurd h hown
 ·subst h
  obtain ⟨_,_,h,_⟩:=hrow hne
  cases h
 obtain ⟨k1,k2,k3,k4⟩:=R2.gh.ow own b _ how
 obtain ⟨m1,m2,m3⟩:=R2.gh.mu k bw hbw
 have hbne:bw≠b:=fun h=>k4 k (by rw[hbw,h])
 obtain ⟨b',o',hA,hel⟩:=hrow hne
 cases hA
 have hx:∀(k:Nat) (x:Int),xs'[k]?=some x→bh .u8 x∧cur[k]?=some (Value.int .u8 x):=by
  intro k x hk
  obtain ⟨c,⟨rfl,hin⟩,hat⟩:=hel k x hk
  obtain ⟨_,hc⟩:=hat 0 _ rfl
  refine ⟨hin,?_⟩
  rw[dX hhb] at hc
  simpa [Ty.size] using hc
 have hSne:∀b' o,F.S0 b' o→b'≠b∧b'≠bw:=by
  intro b' o h
  have:=hS0 b' o h
  have h1:=hX b k2
  have h2:=hX bw m1
  omega
 have htab2:iG (Ef w2 bw b) w2:=by
  intro g i hg hi
  obtain ⟨t1,t2⟩:=htab g i hg hi
  have t3:=R2.gh.tabs g i hg hi
  exact ⟨⟨(hSne _ _ t1).1,(hSne _ _ t1).2,_,t3.2⟩,t3.2⟩
 have hcalls:=Eg w2 xs' m' v' bw b cap xs'.length curw cur elw el hhw hv12 rfl hhb (by rw[hcsz];simp[Ty.size]) hle hcap hbne htab2 h21 hvr hmr hx
 simp only[wpOps]
 have ho:gu[7]?=some { dst:=some 101,op:=.call { callee:=.value (.func 53),args:=#[.tmp 94,.const (.int .i64 17),.tmp 100],argTypes:=(match ((gu[7]?).getD gu[0]!).op with | .call c=>c.argTypes | _=>#[]) },type:=((gu[7]?).getD gu[0]!).type,pos:=((gu[7]?).getD gu[0]!).pos,after:=((gu[7]?).getD gu[0]!).after,guard:=none }:=by kernel_rfl
 rw[ho]
 simp only
 rw[if_pos (by simp[Region.wanted])]
 refine .inl ?_
 have hfn:FnOk prog 53:=⟨f32,by kernel_rfl,by kernel_rfl,by kernel_rfl⟩
 have hev:a2.eval (.tmp 94)=.pointer (some ⟨bw,0,none⟩):=v94
 have hev2:a2.eval (.tmp 100)=.int .i32 v':=v100
 unfold Oper.wp
 have hrun:∀o:Oper,o.op=.call { callee:=.value (.func 53),args:=#[.tmp 94,.const (.int .i64 17),.tmp 100],argTypes:=(match ((gu[7]?).getD gu[0]!).op with | .call c=>c.argTypes | _=>#[]) }→(execOp a2.eval o).run prog w2=.ok (.enter 53 #[.pointer (some ⟨bw,0,none⟩),.int .i64 17,.int .i32 v']) w2:=by
  intro o ho
  simp[execOp,ho,resolve,Act.eval,Deferred.ofValue,invoke,hfn.run]
  exact ⟨by rw[← Array.getD_eq_getD_getElem?];exact v94,by rw[← Array.getD_eq_getD_getElem?];exact v100⟩
 rw[hrun _ rfl]
 simp only[Oper.upon]
 refine hcalls.mono fun en w3 ⟨hen,hfr,hkeep,b2,cap2,curw2,cur2,elw2,el2,m2',g1,g2,g3,g4,g5,g6,g7,g8,g9,g10,g11⟩=>?_
 subst hen
 subst g10
 show oy.wp prog (bodyPost prog fE R) (a2.put (some 101) (.int .i64 0)) w3
 have R2p:=R2.puts (v:=.any) (u:=.int .i64 0) trivial (some 101)
 have hlen:(a2.put (some 101) (.int .i64 0)).tmps.toList.length=104:=by
  rw[← R2p.tm.length]
  show (A2.put (some 101) .any).tm.length=104
  simp[AS.put,hl104]
 have hget9:(a2.put (some 101) (.int .i64 0)).tmps.toList[9]?=some (.pointer (some ⟨bw,0,none⟩)):=by
  have h9:A2.tm[9]?=some (.one (.ptr k 0)):=by
   unfold AS.get at e9
   rw[List.getD_eq_getElem?_getD] at e9
   cases h:A2.tm[9]? with
   |none=>rw[h] at e9;cases e9
   |some x=>rw[h] at e9;simpa using e9
  have h9':(A2.put (some 101) .any).tm[9]?=some (.one (.ptr k 0)):=by
   simp[AS.put,List.getElem?_set,h9]
  obtain ⟨u,hu,hr⟩:=R2p.tm.get h9'
  obtain ⟨bq,hbq,hr⟩:=hr
  rw[hbw] at hbq
  cases hbq
  rw[hu,hr]
 have hsz:w2.heap.size≤w3.heap.size:=hfr.size
 have hsz0:w.heap.size≤w2.heap.size:=by have:=R2.gh.fr.size;rw[hq.1] at this;exact this
 have hb2m:F.mine b2:=by
  rcases g3 with h | h
  ·rw[h];exact k2
  ·exact .inl (by rw[hq.1];omega)
 have hb2w:w.heap.size≤b2:=hX b2 hb2m
 have hbww:w.heap.size≤bw:=hX bw m1
 have hblk:∀j,j<w.heap.size→w3.heap[j]?=w2.heap[j]?:=by
  intro j hj
  refine hfr.block j (show j<w2.heap.size by omega) ?_
  rintro (h | h)
  ·have:=hX b k2;omega
  ·omega
 have hslen:(fD xs' 17 v').length=xs'.length:=rL _ _ _
 have gh3:GhOk F ⟨fun b' o=>F.S0 b' o∨(b'=b2∧o<xs'.length),fun k=>if k=0 then some bw else none,fun i=>if i=1 then some (b2,xs'.length) else none⟩ w3:=by
  refine { mu:=?_,muI:=?_,ow:=?_,owI:=?_,sB:=?_,fr:=?_,sub:=?_,sup:=?_,keep:=?_,fix_:=?_,tab:=htab }
  ·intro key bb h
   simp only at h
   split at h
   ·cases h
    refine ⟨m1,?_,by omega⟩
    rintro o (h | h)
    ·have:=hS0 _ _ h;omega
    ·exact g4 h.1.symm
   ·cases h
  ·intro key key' bb h h'
   simp only at h h'
   split at h <;> split at h'
   ·rename_i q1 q2;exact q1.trans q2.symm
   ·cases h'
   ·cases h
   ·cases h
  ·intro i bb l h
   simp only at h
   split at h
   ·cases h
    refine ⟨?_,hb2m,g5,?_⟩
    ·rintro o ho (h | h)
     ·have:=hS0 _ _ h;omega
     ·have:=h.2;omega
    ·intro key h
     simp only at h
     split at h
     ·cases h;exact g4 rfl
     ·cases h
   ·cases h
  ·intro i j bb l l' h h'
   simp only at h h'
   split at h <;> split at h'
   ·rename_i q1 q2;exact q1.trans q2.symm
   ·cases h'
   ·cases h
   ·cases h
  ·rintro bb o (h | h)
   ·have:=hS0 _ _ h;omega
   ·rw[h.1];exact g5
  ·have f2:=R2.gh.fr
   refine ⟨hfr.os.trans f2.os,hfr.tape.trans f2.tape,hfr.output.trans f2.output,by rw[hq.1];omega,fun j hj hx=>?_⟩
   rw[hq.1] at hj
   rw[hblk j hj]
   exact f2.block j (by rw[hq.1];exact hj) hx
  ·exact fun _ _ h=>.inl h
  ·rintro bb o (h | h)
   ·exact .inl h
   ·rw[h.1];exact .inr hb2m
  ·intro bb o h
   rw[← R2.gh.keep bb o h]
   have:=hblk bb (hS0 bb o h)
   unfold World.cell?
   rw[this]
  ·intro key bb h
   have:=hkb key
   rw[Nat.zero_add] at this
   rw[this] at h
   cases h
 have R3:Rel F ⟨fun b' o=>F.S0 b' o∨(b'=b2∧o<xs'.length),fun k=>if k=0 then some bw else none,fun i=>if i=1 then some (b2,xs'.length) else none⟩ (w5 (fD xs' 17 v') m2') (a2.put (some 101) (.int .i64 0)).tmps cst w3:=by
  refine ⟨?_,by rw[hcst];exact trivial,?_,gh3⟩
  ·refine All2.set_left 9 (EU hlen) fun u hu=>?_
   rw[hget9] at hu
   cases hu
   exact ⟨bw,rfl,rfl⟩
  ·intro key cs hk
   cases key with
   |succ key=>simp[w5] at hk
   |zero=>
    simp only[w5,List.getElem?_cons_zero,zC] at hk
    subst hk
    refine ⟨bw,_,rfl,g1,.inl ⟨curw2,elw2,rfl,?_⟩⟩
    rw[g2]
    refine ⟨⟨some ⟨b2,0,none⟩,cap2,by rw[hslen],by rw[hslen];exact g8,g9,?_,?_⟩,⟨rfl,hmr⟩,trivial⟩
    ·intro _
     refine ⟨b2,0,rfl,fun i x hx=>?_⟩
     obtain ⟨q1,q2⟩:=g11 i x hx
     have hi:i<xs'.length:=by
      rw[← hslen]
      exact (List.getElem?_eq_some_iff.1 hx).1
     refine ⟨[.int .u8 x],⟨rfl,q1⟩,fun j u hj=>?_⟩
     cases j with
     |succ j=>simp at hj
     |zero=>
      simp only[List.getElem?_cons_zero,zC] at hj
      subst hj
      refine ⟨.inr ⟨rfl,?_⟩,?_⟩
      ·simp[Ty.size];omega
      ·rw[dX g6]
       simpa [Ty.size] using q2
    ·exact .inr (.inr ⟨b2,cur2,el2,rfl,by simp[Ty.size,hslen],g6,by rw[g7];simp[Ty.size]⟩)
 refine cS htt hm (ir uS) (dm htt) hkb (lp:=fun _=>none) oy (fun _ _ _ h=>by cases h) hrest R3 ?_
 intro ex A' G' a' w' R' hdf hk
 have hdf:a'.defers=[]:=hdf.trans ((Act.put_defers' _ _ _).trans hd2)
 have:=hend ex A' G' a' w' R' hk
 cases ex with
 |normal=>exact ⟨hdf,this⟩
 |ret=>exact ⟨hdf,this⟩
 |exit i=>exact this.elim
 |panic u=>exact fun u hu=>⟨hdf,this u hu⟩
theorem uI {P:Program}{tt:TT}(htt:b8 P tt)(hm:P.follows .mixedOrders=true){hd:Hd}(hh:iQ P hd){okDraw:Dr}(hdr:il P tt okDraw){f:Nat}{fn:Func}(hf:P.funcs[f]?=some fn){c:Code}(hc:fn.body=some c){io:Io}{lp:Lp}
  (hlp:∀e∈be (eJ fn) c (eJ fn) [],∀h,lp (cw e.2.1)=some h→pr P io.obs.length e.2.1 h) {d:io.In} {out:io.Res} (hrun:io.run tt hd okDraw lp fn d=some out):ED P tt f fn io d out:=by
 intro F G cst w vals R Rl hkb _ hend
 simp only[Io.run,hc] at hrun
 refine calls_of_wp hf hc (cS htt hm hh hdr hkb c hlp hrun Rl ?_)
 intro ex A' G' a' w' R' hdf hk
 have:=hend ex A' G' a' w' R' hk
 cases ex with
 |normal=>exact ⟨hdf,this⟩
 |ret=>exact ⟨hdf,this⟩
 |exit i=>exact this.elim
 |panic v=>exact fun u hu=>⟨hdf,this u hu⟩
theorem HX (v:Int){n:Nat}(h:n≤4):aF (i32.wrap v) n=aF v n:=by
 have e:∃q:Int,i32.wrap v=v+4294967296*q:=by
  refine ⟨(i32.wrap v - v) / 4294967296,?_⟩
  simp[IntKind.wrap,IntKind.signed,IntKind.bits] <;> (try split) <;> omega
 obtain ⟨q,e⟩:=e
 rw[e]
 have key:∀k:Nat,k<4→((v+4294967296*q) / 256 ^ k) % 256=(v / 256 ^ k) % 256:=by
  intro k hk
  match k,hk with
  |0,_=>omega
  |1,_=>omega
  |2,_=>omega
  |3,_=>omega
 induction n with
 |zero=>rfl
 |succ n ih=>rw[aF,aF,key n (by omega),ih (by omega)]
theorem o9 {b:fF}(h:aK b=0):aS b.1=false∧aG b.2.2.1 b.2.2.2.1 b.2.2.2.2.1=false∧1≤b.2.2.2.2.2.1.length∧b.2.2.2.2.2.1.length≤256∧(bx b.2.2.2.2.2.1).2=0∧(bx b.2.2.2.2.2.1).1.length≤32768:=by
 unfold aK at h
 split at h
 ·cases h
 rename_i h1
 split at h
 ·cases h
 rename_i h2
 split at h
 ·cases h
 rename_i h3
 split at h
 ·cases h
 rename_i h4
 refine ⟨by simpa using h1,by simpa using h2,?_,by omega,h,?_⟩
 ·cases hr:b.2.2.2.2.2.1 with
  |nil=>exact absurd hr h3
  |cons _ _=>simp
 ·unfold bx at h ⊢
  split
  ·simp
  rename_i h5
  rw[if_neg h5] at h
  split
  ·simp
  rename_i h6
  simp only
  omega
theorem bg {R:Type}{L:LI}{n:Nat}{p:LI}{K:LI→Option R}(h:L.length+n≤36000):cG L n p K=K (L++p):=ab (fW.2 ⟨rfl,h⟩) _ _
def iH (b:fF):LI:=aF b.1 8++(aF (49+((bx b.2.2.2.2.2.1).1.length:Int)) 4++(aF b.2.1 4++[2]))
theorem kS (b:fF):(iH b).length=17:=by simp[iH,nx]
theorem zy {a0 a1 a2 a3 a4:Int}{a5:List bn}(hr:dp (aJ a5) a5 0=true)(h:aK (a0,a1,a2,a3,a4,a5,())=0):
  uN a0 a1 a2 a3 a4 a5 false=some (iH (a0,a1,a2,a3,a4,a5,())++(0::0::0::0::ck (a0,a1,a2,a3,a4,a5,()) 0 (bx a5).1),36000,i32.wrap (cy 0 (ck (a0,a1,a2,a3,a4,a5,()) 0 (bx a5).1))):=by
 obtain ⟨-,-,h1,h2,-,h3⟩:=o9 h
 have h1:1≤a5.length:=h1
 have h2:a5.length≤256:=h2
 have h3:(bx a5).1.length≤32768:=h3
 have hw:∀x:Int,0≤x→x≤2147483647→i32.wrap x=x:=fun x h h'=>bA (by simp[bh,IntKind.min,IntKind.max,IntKind.signed,IntKind.bits];omega)
 have e1:i32.wrap (i64.wrap (49+((bx a5).1.length:Int)))=49+((bx a5).1.length:Int):=by
  rw[af (n:=49+((bx a5).1.length:Int)) (by omega) (by omega),hw _ (by omega) (by omega)]
 have e2:i32.wrap (i64.wrap ((a5.length:Int) - 1))=(a5.length:Int) - 1:=by
  rw[af (n:=(a5.length:Int) - 1) (by omega) (by omega),hw _ (by omega) (by omega)]
 have e3:i32.wrap (a5.length:Int)=(a5.length:Int):=hw _ (by omega) (by omega)
 have e4:(a5.getD (Int.toNat 0) (0,(false,[],()),(false,[],()),[],())).1=aJ a5:=by
  cases a5 with
  |nil=>simp at h1
  |cons r rs=>rfl
 have j1:aX [(bx a5).1]=(bx a5).1.length:=Nat.add_zero _
 have j2:fg [(bx a5).1]=(bx a5).1:=List.append_nil _
 unfold uN
 refine bT (by rw[zA,zB];exact ⟨hr,h⟩) ?_
 refine (ac rfl _ _).trans ?_
 rw[e1,e2,e3,e4,j1,j2]
 generalize hblk:(bx a5).1=blk at *
 have ln:∀(v:Int) (n:Nat),(aF v n).length=n:=nx
 refine (bg (by simp)).trans ?_
 refine (bg (by simp[ln])).trans ?_
 refine (bg (by simp[ln])).trans ?_
 refine (bg (by simp[ln])).trans ?_
 refine (bg (by simp[ln])).trans ?_
 refine (bg (by simp[ln])).trans ?_
 refine (bg (by simp[ln])).trans ?_
 refine bT (by simp only[zA,zB];omega) ?_
 refine (bg (by simp[ln])).trans ?_
 refine bT (decide_eq_true h1) ?_
 refine (bg (by simp[ln])).trans ?_
 refine (bg (by simp[ln])).trans ?_
 refine (bg (by simp[ln])).trans ?_
 refine (bg (by simp[ln])).trans ?_
 refine (bg (by simp[ln])).trans ?_
 refine (bg (by simp[ln];omega)).trans ?_
 have eL:[]++aF a0 8++aF (49+(blk.length:Int)) 4++aF a1 4++aF 2 1++aF 0 4++aF 0 2++aF ((a5.length:Int) - 1) 4++aF (aJ a5) 8++aF (eF a5) 8++aF a2 8++aF a3 2++aF a4 4++aF (a5.length:Int) 4++blk
   = iH (a0,a1,a2,a3,a4,a5,())++(0::0::0::0::ck (a0,a1,a2,a3,a4,a5,()) 0 blk):=by
  have q1:aF 2 1=[2]:=rfl
  have q2:aF 0 4=[0,0,0,0]:=rfl
  simp only[iH,ck,hblk,q1,q2,List.nil_append,zK,List.cons_append]
 rw[eL]
 have hL:(iH (a0,a1,a2,a3,a4,a5,())++(0::0::0::0::ck (a0,a1,a2,a3,a4,a5,()) 0 blk)).length=61+blk.length:=by
  simp[kS,ck,ln];omega
 refine bT (decide_eq_true (by omega)) ?_
 refine bT (by simp only[zA,zB];omega) ?_
 have e5:List.drop (Int.toNat 21) (List.take ((iH (a0,a1,a2,a3,a4,a5,())++(0::0::0::0::ck (a0,a1,a2,a3,a4,a5,()) 0 blk)).length:Int).toNat (iH (a0,a1,a2,a3,a4,a5,())++(0::0::0::0::ck (a0,a1,a2,a3,a4,a5,()) 0 blk)))
   = ck (a0,a1,a2,a3,a4,a5,()) 0 blk:=by
  rw[zG,List.take_length]
  show List.drop 21 _=_
  have:(21:Nat)=(iH (a0,a1,a2,a3,a4,a5,())).length+4:=by rw[kS]
  rw[this,List.drop_append]
  rfl
 rw[e5]
 rfl
def EE (d:iu.In):Tr iu.Res:=
 .ite (!d.1.2.1&&dp (aJ d.1.1.2.2.2.2.2.1) d.1.1.2.2.2.2.2.1 0) (.ret (.ret (((jI d.1.1).1,(jI d.1.1).2,()),()))) .no
theorem K2:HcOk prog 17 (ah iu EE):=by
 have htt:=dF Tryz.prog 400
 have hf:prog.funcs[17]?=some fE:=by kernel_rfl
 have hc:fE.body=some (aP fE):=by kernel_rfl
 refine kX htt hf (by kernel_rfl) iu EE (fun d out hw ho=>?_) (by kernel_rfl)
 obtain ⟨⟨⟨a0,a1,a2,a3,a4,a5,⟨⟩⟩,packed,⟨⟩⟩,⟨⟩⟩:=d
 obtain ⟨hg,ho⟩:=Tr.guard ho
 simp only[zA,Bool.not_eq_true'] at hg
 obtain ⟨hp,hr⟩:=hg
 subst hp
 have ho:Out.ret (((jI (a0,a1,a2,a3,a4,a5,())).1,(jI (a0,a1,a2,a3,a4,a5,())).2,()),())=out:=Option.some.inj ho
 subst ho
 by_cases he:aK (a0,a1,a2,a3,a4,a5,())=0
 rotate_left
 ·have e:jI (a0,a1,a2,a3,a4,a5,())=([],aK (a0,a1,a2,a3,a4,a5,())):=by unfold jI;rw[if_pos he]
  rw[e]
  refine uI htt hm (ir (l:=Bo) (.cons GK .nil)) (dm htt) hf hc (lp:=Ce) (LpsOk.done (by kernel_rfl)).all ?_
  refine (Ha a0 a1 a2 a3 a4 a5 false).trans ?_
  unfold sy
  refine bT (by rw[zA,zB];exact ⟨hr,he⟩) ?_
  exact ab (by simpa using he) _ _
 ·have e:jI (a0,a1,a2,a3,a4,a5,())=(rC (a0,a1,a2,a3,a4,a5,()) 0 (bx a5).1,0):=by unfold jI;rw[if_neg (aD he)]
  rw[e]
  intro F G cst w vals R Rl hkb hq hend
  have hq:=hq rfl
  have hrun:=(KG a0 a1 a2 a3 a4 a5 false).trans (zy hr he)
  refine calls_of_wp hf hc (zO htt hm (ir uS) (dm htt) hkb 20 (aP fE) hrun Rl ?_)
  intro A1 G1 a1' w1 R1 hd1 h1
  have hsp:rO 20 (aP fE)=.seq (.region 27 gu false) oy:=by kernel_rfl
  rw[hsp]
  refine wp_seq (wp_region ?_)
  rw[show List.range gu.size=List.range 7++[7] by kernel_rfl]
  refine kT htt (ir uS) hkb [7] (List.range 7) h1 R1 ?_
  intro ex A2 G2 a2' w2 R2 hd2 h2
  cases ex with
  |exit i=>cases h2
  |ret=>cases h2
  |panic v=>cases h2
  |normal=>
  have hT:21≤(iH (a0,a1,a2,a3,a4,a5,())++(0::0::0::0::ck (a0,a1,a2,a3,a4,a5,()) 0 (bx a5).1)).length:=by
   simp[kS];omega
  refine IA hkb hq (fun b o h=>Rl.gh.sB b o (Rl.gh.sub b o h)) Rl.gh.tab R2 (hd2.trans hd1) h2 hT ?_ hend
  refine (Iz _ _).trans ?_
  have eS:fD (iH (a0,a1,a2,a3,a4,a5,())++(0::0::0::0::ck (a0,a1,a2,a3,a4,a5,()) 0 (bx a5).1)) 17 (i32.wrap (cy 0 (ck (a0,a1,a2,a3,a4,a5,()) 0 (bx a5).1)))
    = rC (a0,a1,a2,a3,a4,a5,()) 0 (bx a5).1:=by
   have:=Es (iH (a0,a1,a2,a3,a4,a5,())) (ck (a0,a1,a2,a3,a4,a5,()) 0 (bx a5).1) 0 0 0 0 (i32.wrap (cy 0 (ck (a0,a1,a2,a3,a4,a5,()) 0 (bx a5).1)))
   rw[kS] at this
   rw[this,HX _ (Nat.le_refl 4)]
   unfold iH rC
   simp only[zK]
  rw[eS]
  refine ab (decide_eq_true ?_) _ _
  obtain ⟨-,-,h1,h2,-,h3⟩:=o9 he
  have h3:(bx a5).1.length≤32768:=h3
  simp[rC,ck,nx]
  omega
end
end Go.Proofs.YtcbcbjdobbgddaaGreatDoor.Sym
namespace Go.Proofs.YtcbcbjdobbgddaaGreatDoor.Sym
open Go
noncomputable section
def yD:fF:=(5,1,-1,-1,-1,[(1000,(true,[],()),(false,[104,105],()),[],())],())
abbrev gl:Io:=⟨[],[],[],[wU],none⟩
def un (d:gl.In):Tr gl.Res:=.ret (.ret (((5,1,-1,-1,-1,[(1000,(true,[],()),(false,[104,105],()),[],())],()),()),()))
abbrev wK:List (Nat×Hc):=[]
def FT:Hd:=bt wK
def xM:Lp:=bG []
def zl:Option gl.Res:=oR (((5,1,-1,-1,-1,[(1000,(true,[],()),(false,[104,105],()),[],())],()),()),())
theorem D4:Io.run tt FT dr xM gl Tryz.f32 ((),())=zl:=by kernel_rfl
theorem GQ:HcOk prog 32 (ah gl un):=by
 refine bL (cs:=wK) HcsOk.nil (lp:=xM) (fn:=Tryz.f32) gl (.done (by kernel_rfl)) un ?_
 rintro ⟨⟨⟩,⟨⟩⟩ out hw ho
 rw[← ho]
 exact D4
abbrev gk:Io:=⟨[],[],[],[dB],none⟩
def um (d:gk.In):Tr gk.Res:=.ret (.ret ((true,()),()))
abbrev wI:List (Nat×Hc):=[(32,ah gl un),(17,ah iu EE),(12,ah i0 A4),(14,ah d0 pI)]
def FR:Hd:=bt wI
def xK:Lp:=bG []
def qz:Option gk.Res:=bif dp (aJ [(1000,(true,[],()),(false,[104,105],()),[],())]) [(1000,(true,[],()),(false,[104,105],()),[],())] 0 then bif (jI (5,1,-1,-1,-1,[(1000,(true,[],()),(false,[104,105],()),[],())],())).2 != 0 then oR ((false,()),()) else bif (↑[0,0,0,0,0,0,0,5,0,0,0,58,0,0,0,1,2,35,61,173,68,0,0,0,0,0,0,0,0,0,0,0,0,3,232,0,0,0,0,0,0,3,232,255,255,255,255,255,255,255,255,255,255,255,255,255,255,0,0,0,1,16,0,0,0,1,4,104,105,0].length:Int) != 70 then oR ((false,()),()) else bif decide (0≤7)&&decide (7<(↑[0,0,0,0,0,0,0,5,0,0,0,58,0,0,0,1,2,35,61,173,68,0,0,0,0,0,0,0,0,0,0,0,0,3,232,0,0,0,0,0,0,3,232,255,255,255,255,255,255,255,255,255,255,255,255,255,255,0,0,0,1,16,0,0,0,1,4,104,105,0].length:Int)) then bif [0,0,0,0,0,0,0,5,0,0,0,58,0,0,0,1,2,35,61,173,68,0,0,0,0,0,0,0,0,0,0,0,0,3,232,0,0,0,0,0,0,3,232,255,255,255,255,255,255,255,255,255,255,255,255,255,255,0,0,0,1,16,0,0,0,1,4,104,105,0].getD (Int.toNat 7) 0 != 5 then oR ((false,()),()) else bif decide (0≤11)&&decide (11<(↑[0,0,0,0,0,0,0,5,0,0,0,58,0,0,0,1,2,35,61,173,68,0,0,0,0,0,0,0,0,0,0,0,0,3,232,0,0,0,0,0,0,3,232,255,255,255,255,255,255,255,255,255,255,255,255,255,255,0,0,0,1,16,0,0,0,1,4,104,105,0].length:Int)) then bif [0,0,0,0,0,0,0,5,0,0,0,58,0,0,0,1,2,35,61,173,68,0,0,0,0,0,0,0,0,0,0,0,0,3,232,0,0,0,0,0,0,3,232,255,255,255,255,255,255,255,255,255,255,255,255,255,255,0,0,0,1,16,0,0,0,1,4,104,105,0].getD (Int.toNat 11) 0 != 58 then oR ((false,()),()) else bif decide (0≤16)&&decide (16<(↑[0,0,0,0,0,0,0,5,0,0,0,58,0,0,0,1,2,35,61,173,68,0,0,0,0,0,0,0,0,0,0,0,0,3,232,0,0,0,0,0,0,3,232,255,255,255,255,255,255,255,255,255,255,255,255,255,255,0,0,0,1,16,0,0,0,1,4,104,105,0].length:Int)) then bif [0,0,0,0,0,0,0,5,0,0,0,58,0,0,0,1,2,35,61,173,68,0,0,0,0,0,0,0,0,0,0,0,0,3,232,0,0,0,0,0,0,3,232,255,255,255,255,255,255,255,255,255,255,255,255,255,255,0,0,0,1,16,0,0,0,1,4,104,105,0].getD (Int.toNat 16) 0 != 2 then oR ((false,()),()) else bif decide (0≤61)&&decide (61<(↑[0,0,0,0,0,0,0,5,0,0,0,58,0,0,0,1,2,35,61,173,68,0,0,0,0,0,0,0,0,0,0,0,0,3,232,0,0,0,0,0,0,3,232,255,255,255,255,255,255,255,255,255,255,255,255,255,255,0,0,0,1,16,0,0,0,1,4,104,105,0].length:Int)) then bif [0,0,0,0,0,0,0,5,0,0,0,58,0,0,0,1,2,35,61,173,68,0,0,0,0,0,0,0,0,0,0,0,0,3,232,0,0,0,0,0,0,3,232,255,255,255,255,255,255,255,255,255,255,255,255,255,255,0,0,0,1,16,0,0,0,1,4,104,105,0].getD (Int.toNat 61) 0 != 16 then oR ((false,()),()) else bif decide ([0,0,0,0,0,0,0,5,0,0,0,58,0,0,0,1,2,35,61,173,68,0,0,0,0,0,0,0,0,0,0,0,0,3,232,0,0,0,0,0,0,3,232,255,255,255,255,255,255,255,255,255,255,255,255,255,255,0,0,0,1,16,0,0,0,1,4,104,105,0].length≤4294960000) then bif (bf [0,0,0,0,0,0,0,5,0,0,0,58,0,0,0,1,2,35,61,173,68,0,0,0,0,0,0,0,0,0,0,0,0,3,232,0,0,0,0,0,0,3,232,255,255,255,255,255,255,255,255,255,255,255,255,255,255,0,0,0,1,16,0,0,0,1,4,104,105,0]).2 == 0 then oR ((du (bf [0,0,0,0,0,0,0,5,0,0,0,58,0,0,0,1,2,35,61,173,68,0,0,0,0,0,0,0,0,0,0,0,0,3,232,0,0,0,0,0,0,3,232,255,255,255,255,255,255,255,255,255,255,255,255,255,255,0,0,0,1,16,0,0,0,1,4,104,105,0]).1 (5,1,-1,-1,-1,[(1000,(true,[],()),(false,[104,105],()),[],())],()),()),()) else oR ((false,()),()) else none else none else none else none else none else none
theorem D2:Io.run tt FR dr xK gk Tryz.f10 ((),())=qz:=by kernel_rfl
theorem GO:HcOk prog 10 (ah gk um):=by
 refine bL (cs:=wI) (.cons GQ (.cons K2 (.cons GG (.cons x7 .nil)))) (lp:=xK) (fn:=Tryz.f10) gk (.done (by kernel_rfl)) um ?_
 rintro ⟨⟨⟩,⟨⟩⟩ out hw ho
 cases ho
 have e:qz=oR ((du yD yD,()),()):=by kernel_rfl
 refine D2.trans (e.trans ?_)
 rw[ix.2 rfl]
abbrev ft:Io:=⟨[dL],[],[],[dB],none⟩
def pD (d:ft.In):Tr ft.Res:=.ite (decide (d.1.1.length≤4294950000)) (.ret (.ret ((true,()),()))) .no
abbrev wJ:List (Nat×Hc):=[(10,ah gk um),(11,ah kg AZ),(12,ah i0 A4),(13,ah iv ER),(14,ah d0 pI),(15,ah gb t9)]
def FS:Hd:=bt wJ
def xL:Lp:=bG []
def qA (a0:LI):Option ft.Res:=bif decide (a0.length≤4294967000) then bif decide (0≤0)&&(decide (0≤(↑a0.length:Int))&&decide ((↑a0.length:Int)≤(↑(List.length (a0++[13,20,27,34,41,48,55,62,69,76,83,90,97,104,111,118,125,132,139,146,153,160,167,174,181,188,195,202,209,216,223,230,237,244,251,2,9,16,23,30,37,44,51,58,65,72,79,86,93,100,107,114,121,128,135,142,149,156,163,170,177,184,191,198,205,212,219,226,233,240,247,254,5,12,19,26,33,40,47,54,61,68,75,82,89,96,103,110,117,124,131,138,145,152,159,166])):Int))) then bif decide ((List.drop (Int.toNat 0) (List.take (↑a0.length:Int).toNat (a0++[13,20,27,34,41,48,55,62,69,76,83,90,97,104,111,118,125,132,139,146,153,160,167,174,181,188,195,202,209,216,223,230,237,244,251,2,9,16,23,30,37,44,51,58,65,72,79,86,93,100,107,114,121,128,135,142,149,156,163,170,177,184,191,198,205,212,219,226,233,240,247,254,5,12,19,26,33,40,47,54,61,68,75,82,89,96,103,110,117,124,131,138,145,152,159,166]))).length≤4294960000) then bif decide (a0.length≤4294960000) then bif (bf (List.drop (Int.toNat 0) (List.take (↑a0.length:Int).toNat (a0++[13,20,27,34,41,48,55,62,69,76,83,90,97,104,111,118,125,132,139,146,153,160,167,174,181,188,195,202,209,216,223,230,237,244,251,2,9,16,23,30,37,44,51,58,65,72,79,86,93,100,107,114,121,128,135,142,149,156,163,170,177,184,191,198,205,212,219,226,233,240,247,254,5,12,19,26,33,40,47,54,61,68,75,82,89,96,103,110,117,124,131,138,145,152,159,166])))).2 == (bf a0).2 then bif du (bf (List.drop (Int.toNat 0) (List.take (↑a0.length:Int).toNat (a0++[13,20,27,34,41,48,55,62,69,76,83,90,97,104,111,118,125,132,139,146,153,160,167,174,181,188,195,202,209,216,223,230,237,244,251,2,9,16,23,30,37,44,51,58,65,72,79,86,93,100,107,114,121,128,135,142,149,156,163,170,177,184,191,198,205,212,219,226,233,240,247,254,5,12,19,26,33,40,47,54,61,68,75,82,89,96,103,110,117,124,131,138,145,152,159,166])))).1 (bf a0).1 then bif decide (a0.length≤4294967000) then oR ((decide (a0++[13,20,27,34,41,48,55,62,69,76,83,90,97,104,111,118,125,132,139,146,153,160,167,174,181,188,195,202,209,216,223,230,237,244,251,2,9,16,23,30,37,44,51,58,65,72,79,86,93,100,107,114,121,128,135,142,149,156,163,170,177,184,191,198,205,212,219,226,233,240,247,254,5,12,19,26,33,40,47,54,61,68,75,82,89,96,103,110,117,124,131,138,145,152,159,166]=a0++[13,20,27,34,41,48,55,62,69,76,83,90,97,104,111,118,125,132,139,146,153,160,167,174,181,188,195,202,209,216,223,230,237,244,251,2,9,16,23,30,37,44,51,58,65,72,79,86,93,100,107,114,121,128,135,142,149,156,163,170,177,184,191,198,205,212,219,226,233,240,247,254,5,12,19,26,33,40,47,54,61,68,75,82,89,96,103,110,117,124,131,138,145,152,159,166]),()),()) else none else oR ((false,()),()) else oR ((false,()),()) else none else none else none else none
theorem D3 (a0:LI):Io.run tt FS dr xL ft Tryz.f3 ((a0,()),())=qA a0:=by kernel_rfl
theorem GP:HcOk prog 3 (ah ft pD):=by
 refine bL (cs:=wJ) (.cons GO (.cons okWide (.cons GG (.cons Lw (.cons x7 (.cons GE .nil)))))) (lp:=xL) (fn:=Tryz.f3) ft (.done (by kernel_rfl)) pD ?_
 rintro ⟨⟨(b:LI),⟨⟩⟩,⟨⟩⟩ out hw ho
 obtain ⟨hg,ho⟩:=Tr.guard ho
 have hg:b.length≤4294950000:=of_decide_eq_true hg
 cases ho
 refine (D3 b).trans ?_
 unfold qA
 have e:∀t:LI,List.drop (Int.toNat 0) (List.take (b.length:Int).toNat (b++t))=b:=by
  intro t
  show List.drop 0 (List.take (b.length:Int).toNat (b++t))=b
  rw[zG,List.drop_zero,List.take_left]
 rw[e]
 refine bT (decide_eq_true (by omega)) ?_
 refine bT (by simp only[zA,zB,zH];omega) ?_
 refine bT (decide_eq_true (by omega)) ?_
 refine bT (decide_eq_true (by omega)) ?_
 refine (ab (beq_self_eq_true _) _ _).trans ?_
 refine (ab (ix.2 rfl) _ _).trans ?_
 refine bT (decide_eq_true (by omega)) ?_
 rw[decide_eq_true rfl]
end
end Go.Proofs.YtcbcbjdobbgddaaGreatDoor.Sym
namespace Go.Proofs.YtcbcbjdobbgddaaGreatDoor.Sym
open Go
open Go.IntKind (i8 i16 i32 i64 u8 u16 u32 u64)
open Go.ChangeShapes Go.WideShapes Go.ChangeAt Go.RowKit
noncomputable section
abbrev xn:List (String×DataW Unit):=[("leat/crc.rows",Rows.laid_leat_crc_rows)]
theorem Kv:Tryz.prog.globalNamed "leat/crc.rows"=some 0:=by kernel_rfl
theorem Mo:(Tryz.prog.globals[0]?).map (·.type)=some ((Tryz.prog.globals[0]?).map (·.type)).get!:=by kernel_rfl
theorem Mr:Tryz.prog.underlying ((Tryz.prog.globals[0]?).map (·.type)).get!=some (.array 16 98):=by kernel_rfl
theorem MJ:Tryz.prog.underlying 98=some (.int .u32):=by kernel_rfl
theorem Ma:(Rows.laid_leat_crc_rows:DataW Unit)=.agg (oG.map fun n=>.lit (.int .u32 n)):=by kernel_rfl
set_option maxRecDepth 100000 in
theorem yK {W:World}(h:laidMetH Tryz.prog xn W):iG (S0 W) W:=by
 rw[MakeChecks.laidMetH_plain _ _ _ (by kernel_rfl)] at h
 obtain ⟨ps,⟨g0,t0,cs0,f0,p0,q0,hg0,ht0,hv0,hd0,_,_⟩,_,_⟩:=h
 obtain rfl:=Option.some.inj (Kv.symm.trans hg0)
 obtain rfl:=Option.some.inj (Mo.symm.trans ht0)
 obtain ⟨xs,m,rfl,hx,hlen,hn,hel⟩:=DataW.trod_array Mr hd0
 have c1:Tryz.prog.cellsOf 98=1:=by kernel_rfl
 intro g i hg hi
 have hg:g=0:=Nat.eq_of_beq_eq_true hg
 subst hg
 have hi:i<16:=hi
 have key:W.cell? ⟨0,i,none⟩=some (.int .u32 (dH (i:Int))):=by
  have h1:=hel i hi
  have h2:xs[i]?=some xs[i]:=List.getElem?_eq_getElem (by omega)
  rw[h2,c1] at h1
  obtain ⟨k,e1,e2,_⟩:=DataW.trod_int MJ h1
  have h3:=World.var?_cell Kv hv0 i
  rw[h3]
  have h4:cs0.toList[i]?=some (.int .u32 k):=by
   have:((cs0.toList.drop (i*1)).take 1)[0]?=some (.int .u32 k):=by rw[e1];rfl
   rw[List.getElem?_take] at this
   simpa using this
  have h5:cs0[i]?=some (.int .u32 k):=by simpa using h4
  rw[h5]
  have hk:(oG.map fun n=>(DataW.lit (.int .u32 n):DataW Unit))[i]?=some (.lit (.int .u32 k)):=by
   have hx1:(.agg (oG.map fun n=>.lit (.int .u32 n)):DataW Unit)=.agg (xs.map (·.1)):=Ma.symm.trans (congrArg Prod.fst hx)
   have hx1:=DataW.agg.inj hx1
   rw[hx1,List.getElem?_map,h2]
   simp[e2]
  rw[List.getElem?_map] at hk
  have hs:dH (i:Int)=oG.getD i 0:=rfl
  rw[hs,List.getD_eq_getElem?_getD]
  cases ht:oG[i]? with
  |none=>rw[ht] at hk;cases hk
  |some x=>
   rw[ht] at hk
   simp only[Option.map_some,zC,DataW.lit.injEq,Lit.int.injEq] at hk
   rw[hk.2]
   rfl
 exact ⟨⟨_,key⟩,key⟩
theorem Fx (os:Os)(args:Array Value):laidMetH Tryz.prog xn ((World.doorLaid Tryz.prog 400 os).forCall (fun _ _=>0) ⟨#[],args,[]⟩).memory:=
 laidMetH_of_parts3 (fuel:=8) (laidMet_of_run' 8 (by kernel_rfl) (by kernel_rfl)) (by kernel_rfl) (by kernel_rfl)
section
variable {H:Type} {enc:TypeId×Value→H}
theorem lT {a:Assume}{C:Checked}{os:Os}{f:FuncId}{fn:Func}{s:OpenSpec}{k:(H:Type)→List (DataW H)→Bool}(hk:s.cond=some k){F:Stop.Interp}{conds:List PathCond}{apart fresh handsOn again:Bool}{laid:List (String×DataW Unit)}
  (own:ownKnob C.prog.godebug=none) (started:os.Started) (noInit:C.prog.inits.idxOf? f=none) (hfn:C.prog.funcs[f]?=some fn)
  (witness:∃(w:World) (tape:Tape) (i:Input),w.os=os∧(w.forCall tape i).Shaped C.prog∧i.vars=[]∧Input.okWide C.prog (w.forCall tape i) .any w.heap.size f i∧
   ((s.pre enc C.prog fn conds apart (w.forCall tape i).memory i.args∧laidMetH C.prog laid (w.forCall tape i).memory)∧sizedMet enc C.prog fn s apart (w.forCall tape i).memory i.args)∧a.holds C.prog (lone (Frame.enter C.prog f i.args .normal) [] (w.forCall tape i)))
  (contract:∀(W:World) (base:Nat) (args:Array Value) (ds gs:List (DataW H)) (before:List MemPlace),
   (∀(j:Nat) t v,fn.params[j]?=some t→args[j]?=some v→Value.okWide C.prog W .any base t v)→
   DataW.Whole enc C.prog fn.params.toList s.vars apart W args.toList ds gs before→k H (ds++gs)=true→laidMetH C.prog laid W→
   Calls C.prog f args W fun e W'=>∃v,e=.returned v∧(s.at F).post enc C.prog fn apart fresh handsOn again W args v W'):
  ReturnsInHanded a C os f .any (fun w args=>(s.pre enc C.prog fn conds apart w args∧laidMetH C.prog laid w)∧sizedMet enc C.prog fn s apart w args) ((s.at F).post enc C.prog fn apart fresh handsOn again):=by
 refine returnsInHanded_of_calls own started noInit witness ?_
 intro w tape i _ _ _ hok hpre hholds
 obtain ⟨_,_,_,fn',hfn',_,_,_,_,hval⟩:=hok
 have e:fn'=fn:=Option.some.inj (hfn'.symm.trans hfn)
 subst e
 obtain ⟨ds,gs,before,hw,hc,hkk⟩:=(OpenSpec.pre_some hk conds apart _ _).1 hpre.1.1
 have hw':=DataW.Whole.of_heap (w':=w.forCall tape i) (by rfl) hw
 refine (contract (w.forCall tape i) w.heap.size i.args ds gs before hval hw' hkk (hpre.1.2.of_heap (by rfl))).mono fun e W' ⟨v,he,hp⟩=>?_
 subst he
 exact ChangeSpec.post_blind hp
theorem vT {C:Checked}{os:Os}{f:FuncId}{fn:Func}{s:OpenSpec}{k:(H:Type)→List (DataW H)→Bool}(hk:s.cond=some k){apart:Bool}{laid:List (String×DataW Unit)}(w0:World)(args:Array Value)(fuel:Nat)(hos:w0.os=os)
  (hsh:(w0.forCall (fun _ _=>0) ⟨#[],args,[]⟩).Shaped C.prog)
  (hok:Input.okWideB C.prog (w0.forCall (fun _ _=>0) ⟨#[],args,[]⟩) f ⟨#[],args,[]⟩=true)
  {x:List (DataW H)×List (DataW H)×List MemPlace} (hx:DataW.whole enc C.prog (w0.forCall (fun _ _=>0) ⟨#[],args,[]⟩).memory fn.params.toList s.vars apart args.toList fuel=some x)
  (hkk:k H (x.1++x.2.1)=true)
  (hsz:s.bare.sizedB enc C.prog fn apart (w0.forCall (fun _ _=>0) ⟨#[],args,[]⟩).memory args fuel=true)
  (hl:laidMetH C.prog laid (w0.forCall (fun _ _=>0) ⟨#[],args,[]⟩).memory):
  ∃(w:World) (tape:Tape) (i:Input),w.os=os∧(w.forCall tape i).Shaped C.prog∧i.vars=[]∧Input.okWide C.prog (w.forCall tape i) .any w.heap.size f i∧
   ((s.pre enc C.prog fn [] apart (w.forCall tape i).memory i.args∧laidMetH C.prog laid (w.forCall tape i).memory)∧sizedMet enc C.prog fn s apart (w.forCall tape i).memory i.args)∧({}:Assume).holds C.prog (lone (Frame.enter C.prog f i.args .normal) [] (w.forCall tape i)):=
 ⟨w0,fun _ _=>0,⟨#[],args,[]⟩,hos,hsh,(Input.okWide_of_okWideB (base:=0) hok).1,(Input.okWide_of_okWideB hok).2,
  ⟨⟨(OpenSpec.pre_some hk [] apart _ _).2 ⟨x.1,x.2.1,x.2.2,DataW.Whole_of_whole hx,rfl,hkk⟩,hl⟩,sizedMet_of_sizedB hsz⟩,by
  simp only[Assume.holds]
  exact ⟨by simp,by simp,fun _=>Modest.zero,by simp,by simp⟩⟩
end
end
end Go.Proofs.YtcbcbjdobbgddaaGreatDoor.Sym
