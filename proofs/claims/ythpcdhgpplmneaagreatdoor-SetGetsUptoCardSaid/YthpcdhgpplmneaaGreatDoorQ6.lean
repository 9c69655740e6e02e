/- leatref08: records. -/
import Derived.Test.YthpcdhgpplmneaaGreatDoorQ5

set_option linter.unusedVariables false
set_option linter.unusedSimpArgs false
namespace Go.Proofs.YthpcdhgpplmneaaGreatDoor.Sym
open Go
open Go.IntKind (i8 i16 i32 i64 u8 u16 u32 u64)
noncomputable section
theorem G7 {n:Int}(h : -9223372036854775808≤n)(h':n≤9223372036854775807):bt .i64 n:=by simp[bt,IntKind.min,IntKind.max,IntKind.signed,IntKind.bits];omega
theorem NR (m:Nat)(t:Int)(b:LI)(p:Int):0≤(ab m t b p).1∧(ab m t b p).1<18446744073709551616:=by
 unfold ab
 split
 ·exact ⟨by decide,by decide⟩
 split
 ·simp only;omega
 ·simp only;omega
theorem NT (b:LI):bt .i64 (aS b).1.1∧bt .i32 (aS b).1.2.1:=by
 have h0:bt .i64 aJ.1∧bt .i32 aJ.2.1:=⟨G7 (n:=0) (by omega) (by omega),(⟨by decide,by decide⟩:bt .i32 0)⟩
 have hz:=NR 10 1 b 1
 have h1:bt .i64 (ak (ab 10 1 b 1).1):=by
  unfold ak
  split
  ·exact G7 (by omega) (by omega)
  ·exact G7 (by omega) (by omega)
 have h2:bt .i32 (ag b (ab 10 1 b 1).2.1).1:=bS _ _
 unfold aS
 repeat' split
 all_goals first | exact h0 | exact ⟨h1,h2⟩
theorem DG (b:LI)(p:Int):bt .i64 (an b p).1.1∧bt .i32 (an b p).1.2.1:=by
 have h0:bt .i64 aJ.1∧bt .i32 aJ.2.1:=⟨G7 (n:=0) (by omega) (by omega),(⟨by decide,by decide⟩:bt .i32 0)⟩
 unfold an
 repeat' split
 all_goals first | exact h0 | exact NT _
abbrev kR:Io:=⟨[dL,K2],[],[],[BT,dI],none⟩
def Eb (d:kR.In):Tr kR.Res:=.ite (decide (d.1.2.1.2.2.2.2.1≤(4294960000:Int))) (.ret (.ret (((cU d.1.1 d.1.2.1.2.2.2.2.2.1 d.1.2.1.2.2.2.2.2.2.1 d.1.2.1.2.2.2.2.1.toNat).1,(cU d.1.1 d.1.2.1.2.2.2.2.2.1 d.1.2.1.2.2.2.2.2.2.1 d.1.2.1.2.2.2.2.1.toNat).2,()),()))) .no
abbrev GM:List (Nat×Hc):=[(115,ah kH D1),(116,ah gT Ec),(72,ah iK yN)]
def G5:Hd:=bA GM
abbrev dM:Lo:=⟨⟨(.one (.hol (.sl 5 (Ty.int u8)))::bh (.one (.ptr 3 0)::bh (.one (.onl 91 bv 13)::.one hI::.one hI::ai (ai (ai (ai (ai (cy (bh []))))))))),[none,none,none,some [hI,hI,hJ,hL,hI,hI,hI,hI,hK,hJ]]⟩,[(.ret,⟨(bz (.one (.onl 91 bv 9)::.one hI::.any::ai (ai (ai (ai (ai (cy (bz [])))))))),[]⟩),(.exit 0,⟨(.one (.hol (.sl 5 (Ty.int u8)))::bh (.one (.ptr 3 0)::bh (.one (.onl 91 bv 13)::.one hI::.any::ai (ai (ai (ai (ai (cy (bh []))))))))),[none,none,none,some [hI,hI,hJ,hL,hI,hI,hI,hI,hK,hJ]]⟩)]⟩
def vX (blk:LI)(z1 z2 z3:Int)(z4:Bool)(z5 z6 z7 z8 z9 z10:Int)(x:List bJ×Int×Int):Tr (ao dM.xs):=
 .ite (decide (x.2.2≠0)) (.ret (.ret ((),(([],(x.2.2,())),())))) (.ret (.pan (.ret ((),((blk,(x.1,(x.2.1,()))),((z1,(z2,(z3,(z4,(z5,(z6,(z7,(z8,(z9,(z10,())))))))))),()))))))
def lN (d:dM.st.den):Tr (ao dM.xs):=
 .ite (decide (d.1.2.2.2.1=0)&&(decide (d.1.2.1.length=0)&&decide (d.2.1.2.2.2.2.1≤(4294960000:Int))))
  (vX d.1.1 d.2.1.1 d.2.1.2.1 d.2.1.2.2.1 d.2.1.2.2.2.1 d.2.1.2.2.2.2.1 d.2.1.2.2.2.2.2.1 d.2.1.2.2.2.2.2.2.1 d.2.1.2.2.2.2.2.2.2.1 d.2.1.2.2.2.2.2.2.2.2.1 d.2.1.2.2.2.2.2.2.2.2.2.1 (aF d.1.1 d.2.1.2.2.2.2.2.1 d.2.1.2.2.2.2.1.toNat 0 d.1.2.2.1 [])) .no
def s7:Lp:=bQ [(5,aG dM lN)]
def mE {R:Type}(h11:LI)(h12:List bv.den)(h13 h14 h15 h16 h17:Int)(h18:Bool)(h19 h20 h21 h22 h23 h24:Int)(next:LI→List bv.den→Int→Int→Int→Int→Int→Bool→Int→Int→Int→Int→Int→Int→Option R)(out:ao dM.xs→Option R):Option R:=bif decide (h14<h19) then bif (an h11 h13).2.2 != 0 then out (.ret ((),(([],((an h11 h13).2.2,())),()))) else bif i64.wrap (an h11 h13).1.2.1 != h14 then out (.ret ((),(([],(72,())),()))) else bif (an h11 h13).1.1 == -9223372036854775808 then bif !decide (0≤h20) then out (.ret ((),(([],(86,())),()))) else bif h14 == 0 then bif (an h11 h13).1.1 != 0 then out (.ret ((),(([],(86,())),()))) else bif decide (h12.length+1≤4294967296) then next (h11) (h12++[(i64.wrap (h20+(an h11 h13).1.1),(an h11 h13).1.2.2)]) ((an h11 h13).2.1) (i64.wrap (h14+1)) (h15) (h16) (h17) (h18) (h19) (h20) (h21) (h22) (h23) (h24) else none else bif decide (h12.length+1≤4294967296) then next (h11) (h12++[(i64.wrap (h20+(an h11 h13).1.1),(an h11 h13).1.2.2)]) ((an h11 h13).2.1) (i64.wrap (h14+1)) (h15) (h16) (h17) (h18) (h19) (h20) (h21) (h22) (h23) (h24) else none else bif !(cv 0 (an h11 h13).1.1).2 then out (.ret ((),(([],(86,())),()))) else bif !(cv h20 (cv 0 (an h11 h13).1.1).1).2 then out (.ret ((),(([],(86,())),()))) else bif h14 == 0 then bif (an h11 h13).1.1 != 0 then out (.ret ((),(([],(86,())),()))) else bif decide (h12.length+1≤4294967296) then next (h11) (h12++[((cv h20 (cv 0 (an h11 h13).1.1).1).1,(an h11 h13).1.2.2)]) ((an h11 h13).2.1) (i64.wrap (h14+1)) (h15) (h16) (h17) (h18) (h19) (h20) (h21) (h22) (h23) (h24) else none else bif decide (h12.length+1≤4294967296) then next (h11) (h12++[((cv h20 (cv 0 (an h11 h13).1.1).1).1,(an h11 h13).1.2.2)]) ((an h11 h13).2.1) (i64.wrap (h14+1)) (h15) (h16) (h17) (h18) (h19) (h20) (h21) (h22) (h23) (h24) else none else out (.pan (.ret ((),((h11,(h12,(h13,()))),((h15,(h16,(h17,(h18,(h19,(h20,(h21,(h22,(h23,(h24,())))))))))),())))))
def mS (n:Nat)(h11:LI)(h12:List bv.den)(h13 h14 h15 h16 h17:Int)(h18:Bool)(h19 h20 h21 h22 h23 h24:Int):Option (ao dM.xs):=fV tt G5 dr s7 0 Tryz.f80 (b9 Tryz.f80 0) n (dM.st.mk' ((h11,(h12,(h13,(h14,())))),((h15,(h16,(h17,(h18,(h19,(h20,(h21,(h22,(h23,(h24,())))))))))),()))) (bH dM.xs)
theorem xY (n:Nat)(h11:LI)(h12:List bv.den)(h13 h14 h15 h16 h17:Int)(h18:Bool)(h19 h20 h21 h22 h23 h24:Int):mS (n+1) h11 h12 h13 h14 h15 h16 h17 h18 h19 h20 h21 h22 h23 h24=mE h11 h12 h13 h14 h15 h16 h17 h18 h19 h20 h21 h22 h23 h24 (mS n) some:=by kernel_rfl
theorem RV {d f:Int}(hd:bt .i64 d)(hf:bt .i64 f)(hne:d≠-9223372036854775808):cv 0 d=(-d,true)∧cv f (-d)=(if aK (f+d)=true then (f+d,true) else (0,false)):=by
 have h1:=gH hd
 have h2:=gH hf
 constructor
 ·unfold cv
  rw[if_pos (fb.2 (by omega)),Int.zero_sub]
 ·unfold cv
  rw[Int.sub_neg]
theorem CM (blk:LI)(z1 z2 z3:Int)(z4:Bool)(cnt f z7 z8 z9 z10:Int)(hf:bt .i64 f):∀(n k i:Nat) (p:Int) (out:List bJ),n<k→out.length=i→i+n≤4294960000→(cnt=((i+n:Nat):Int)∨cnt≤i∧n=0)→
  mS k blk out p i z1 z2 z3 z4 cnt f z7 z8 z9 z10=(vX blk z1 z2 z3 z4 cnt f z7 z8 z9 z10 (aF blk f n i p out)).val:=by
 intro n
 induction n with
 |zero=>
  intro k i p out h1 h2 h3 h4
  obtain ⟨k,rfl⟩:∃j,k=j+1:=⟨k - 1,by omega⟩
  rw[xY]
  unfold mE
  refine bF (decide_eq_false (by omega)) ?_
  rfl
 |succ n ih=>
  intro k i p out h1 h2 h3 h4
  have h4:cnt=((i+(n+1):Nat):Int):=by
   rcases h4 with h | h
   ·exact h
   ·omega
  obtain ⟨k,rfl⟩:∃j,k=j+1:=⟨k - 1,by omega⟩
  rw[xY]
  unfold mE
  refine bT (decide_eq_true (by omega)) ?_
  have e:aF blk f (n+1) i p out=if (an blk p).2.2≠0 then ([],0,(an blk p).2.2) else if (an blk p).1.2.1≠(i:Int) then ([],0,72) else if i=0∧(an blk p).1.1≠0∨aK (f+(an blk p).1.1)=false then ([],0,86)
   else aF blk f n (i+1) (an blk p).2.1 (out++[(f+(an blk p).1.1,(an blk p).1.2.2.1,(an blk p).1.2.2.2.1,(an blk p).1.2.2.2.2.1,())]):=rfl
  rw[e]
  obtain ⟨b1,b2⟩:=DG blk p
  generalize an blk p=r at *
  obtain ⟨⟨d,o,kv⟩,q,er⟩:=r
  simp only at b1 b2 ⊢
  have b1':=gH b1
  have b2':=EF b2
  have b3:=gH hf
  by_cases c1:er=0
  rotate_left
  ·refine bT (by simpa using c1) ?_
   rw[if_pos c1]
   unfold vX
   rw[Tr.val_ite,if_pos (by simpa using c1),Tr.val_ret]
  refine bF (by simpa using c1) ?_
  rw[if_neg (aq c1),af (n:=o) (by omega) (by omega)]
  by_cases c2:o=(i:Int)
  rotate_left
  ·refine bT (by simpa using c2) ?_
   rw[if_pos c2]
   rfl
  refine bF (by simpa using c2) ?_
  rw[if_neg (aq c2),af (n:=(i:Int)+1) (by omega) (by omega)]
  have next:aK (f+d)=true→(bif decide (out.length+1≤4294967296) then mS k blk (out++[(f+d,kv)]) q ((i:Int)+1) z1 z2 z3 z4 cnt f z7 z8 z9 z10 else none)=(vX blk z1 z2 z3 z4 cnt f z7 z8 z9 z10 (aF blk f n (i+1) q (out++[(f+d,kv)]))).val:=by
   intro hfit
   refine bT (decide_eq_true (by omega)) ?_
   exact ih k (i+1) q _ (by omega) (by simp[h2]) (by omega) (.inl (by rw[h4];omega))
  have fin:∀e:Int,e≠0→oR ((),(([],(e,())),()))=(vX blk z1 z2 z3 z4 cnt f z7 z8 z9 z10 ([],0,e)).val:=by
   intro e he
   unfold vX
   rw[Tr.val_ite,if_pos (by simpa using he),Tr.val_ret]
  by_cases c3:d = -9223372036854775808
  ·refine bT (by simpa using c3) ?_
   by_cases c4:0≤f
   ·refine bF (by rw[decide_eq_true c4];rfl) ?_
    have hfit:aK (f+d)=true:=fb.2 (by omega)
    by_cases c5:i=0
    ·refine bT (by simp[c5]) ?_
     refine bT (by rw[c3];rfl) ?_
     rw[if_pos (.inl ⟨c5,by omega⟩)]
     exact fin 86 (by decide)
    ·refine bF (by simp[c5]) ?_
     rw[if_neg (by rintro (h | h);exact c5 h.1;rw[hfit] at h;cases h),af (n:=f+d) (by omega) (by omega)]
     exact next hfit
   ·refine bT (by rw[decide_eq_false c4];rfl) ?_
    rw[if_pos (.inr (by
     cases h:aK (f+d) with
     |false=>rfl
     |true=>have:=fb.1 h;omega))]
    exact fin 86 (by decide)
  refine bF (by simpa using c3) ?_
  obtain ⟨s1,s2⟩:=RV b1 hf c3
  rw[s1]
  refine (ae rfl _ _).trans ?_
  rw[s2]
  cases hfit:aK (f+d) with
  |false=>
   rw[if_neg (by decide)]
   refine (aa rfl _ _).trans ?_
   rw[if_pos (.inr rfl)]
   exact fin 86 (by decide)
  |true=>
   rw[if_pos rfl]
   refine (ae rfl _ _).trans ?_
   by_cases c5:i=0
   ·refine bT (by simp[c5]) ?_
    by_cases c6:d=0
    ·refine bF (by simpa using c6) ?_
     rw[if_neg (by rintro (h | h);exact h.2 c6;cases h)]
     exact next hfit
    ·refine bT (by simpa using c6) ?_
     rw[if_pos (.inl ⟨c5,c6⟩)]
     exact fin 86 (by decide)
   ·refine bF (by simp[c5]) ?_
    rw[if_neg (by rintro (h | h);exact c5 h.1;cases h)]
    exact next hfit
def w8 (a0:LI)(a1 a2 a3:Int)(a4:Bool)(a5 a6 a7 a8 a9 a10:Int):Option kR.Res:=(lN ((a0,([],(0,(0,())))),((a1,(a2,(a3,(a4,(a5,(a6,(a7,(a8,(a9,(a10,())))))))))),()))).run fun y=>match y with | .ret ((),((x108,x109,()),()))=>(oR ((x108,x109,()),())) | .pan (.ret ((),((x110,x111,x112,()),(x113,x114,x115,x116,x117,x118,x119,x120,x121,x122,()),())))=>(bif decide (x112<(↑x110.length:Int)) then oR (([],2,()),()) else bif dD x111 != x119 then oR (([],86,()),()) else oR ((x111,0,()),()))
theorem Ny (a0:LI)(a1 a2 a3:Int)(a4:Bool)(a5 a6 a7 a8 a9 a10:Int):Io.run tt G5 dr s7 kR Tryz.f80 ((a0,(a1,a2,a3,a4,a5,a6,a7,a8,a9,a10,()),()),())=w8 a0 a1 a2 a3 a4 a5 a6 a7 a8 a9 a10:=by kernel_rfl
theorem xB:HcsOk prog GM:=.cons Po (.cons PC (.cons MP .nil))
theorem PB:HcOk prog 80 (ah kR Eb):=by
 refine bW xB (lp:=s7) (fn:=Tryz.f80) kR (.step (h0:=aG dM lN) (by kernel_rfl) (gi xB (lp:=s7) (fn:=Tryz.f80) (.done (by kernel_rfl)) dM lN ?_) (.done (by kernel_rfl))) Eb ?_
 ·rintro ⟨⟨(blk:LI),(out:List bJ),(p:Int),(i:Int),⟨⟩⟩,⟨⟨(z1:Int),(z2:Int),(z3:Int),(z4:Bool),(cnt:Int),(f:Int),(z7:Int),(z8:Int),(z9:Int),(z10:Int),⟨⟩⟩,⟨⟩⟩⟩ y hw hy
  obtain ⟨hg,hy⟩:=Tr.guard hy
  simp only[zA,zB] at hg
  obtain ⟨h1,h2,h3⟩:=hg
  have h1:i=0:=h1
  have h2:out.length=0:=h2
  have h3:cnt≤(4294960000:Int):=h3
  subst h1
  obtain rfl:=List.length_eq_zero_iff.1 h2
  have hf:bt .i64 f:=hw.2.1.2.2.2.2.2.1
  refine ⟨cnt.toNat+1,(CM blk z1 z2 z3 z4 cnt f z7 z8 z9 z10 hf cnt.toNat (cnt.toNat+1) 0 p [] (by omega) rfl (by omega) (by omega)).trans ?_⟩
  exact hy
 ·rintro ⟨⟨(blk:LI),⟨(z1:Int),(z2:Int),(z3:Int),(z4:Bool),(cnt:Int),(f:Int),(z7:Int),(z8:Int),(z9:Int),(z10:Int),⟨⟩⟩,⟨⟩⟩,⟨⟩⟩ out hw ho
  obtain ⟨hg,ho⟩:=Tr.guard ho
  have hg:cnt≤(4294960000:Int):=of_decide_eq_true hg
  cases ho
  refine (Ny blk z1 z2 z3 z4 cnt f z7 z8 z9 z10).trans ?_
  show _=oR (((cU blk f z7 cnt.toNat).1,(cU blk f z7 cnt.toNat).2,()),())
  unfold w8 lN
  refine bT (by simp only[zA,zB];exact ⟨trivial,rfl,hg⟩) ?_
  have eR:cU blk f z7 cnt.toNat=if (aF blk f cnt.toNat 0 0 []).2.2≠0 then ([],(aF blk f cnt.toNat 0 0 []).2.2)
    else if (aF blk f cnt.toNat 0 0 []).2.1<(blk.length:Int) then ([],2)
    else if dD (aF blk f cnt.toNat 0 0 []).1≠z7 then ([],86) else ((aF blk f cnt.toNat 0 0 []).1,0):=rfl
  rw[eR]
  unfold vX
  generalize aF blk f cnt.toNat 0 0 []=r
  obtain ⟨rs,q,e⟩:=r
  by_cases h3:e=0
  rotate_left
  ·refine bT (decide_eq_true h3) ?_
   rw[if_pos h3]
   rfl
  refine bF (decide_eq_false (aq h3)) ?_
  rw[if_neg (aq h3)]
  by_cases h4:q<(blk.length:Int)
  ·refine bT (decide_eq_true h4) ?_
   rw[if_pos h4]
  refine bF (decide_eq_false h4) ?_
  rw[if_neg h4]
  by_cases h5:dD rs=z7
  ·refine bF (by simpa using h5) ?_
   rw[if_neg (aq h5)]
  ·refine bT (by simpa using h5) ?_
   rw[if_pos h5]
end
end Go.Proofs.YthpcdhgpplmneaaGreatDoor.Sym
namespace Go.Proofs.YthpcdhgpplmneaaGreatDoor.Sym
open Go
noncomputable section
theorem rV (b:LI):(bf b).1.length≤32768:=by
 unfold bf
 repeat' split
 all_goals first | (simp;done) | skip
 rw[ft]
 have h:=oK (ak (ab 10 1 b 0).1)
 have:=x4 ((b.drop (ab 10 1 b 0).2.1.toNat).length+1) (b.drop (ab 10 1 b 0).2.1.toNat) [] (aD (ak (ab 10 1 b 0).1)) h.1
 simp only
 omega
abbrev jI:Io:=⟨[dL],[],[],[BS,dI],none⟩
def Kj (d:jI.In):Tr jI.Res:=.ite (decide (d.1.1.length≤4294960000)) (.ret (.ret (((aE d.1.1).1,(aE d.1.1).2,()),()))) .no
abbrev K0:List (Nat×Hc):=[(78,ah jq D9),(21,ah kw AP),(79,ah kG DZ),(80,ah kR Eb)]
def Q6:Hd:=bA K0
def Me:Lp:=bQ []
def Bs (a0:LI):Option jI.Res:=bif (aj a0 true).2 != 0 then oR (((0,0,0,0,0,[],()),(aj a0 true).2,()),()) else bif decide (0≤61)&&(decide (61≤(↑a0.length:Int))&&decide ((↑a0.length:Int)≤(↑a0.length:Int))) then bif decide ((List.drop (Int.toNat 61) (List.take (↑a0.length:Int).toNat a0)).length≤4294967296) then bif (aj a0 true).1.2.2.2.1 then bif decide (32768=32768)&&decide ((List.drop (Int.toNat 61) (List.take (↑a0.length:Int).toNat a0)).length≤4294960000) then bif (bf (List.drop (Int.toNat 61) (List.take (↑a0.length:Int).toNat a0))).2 != 0 then oR (((0,0,0,0,0,[],()),(bf (List.drop (Int.toNat 61) (List.take (↑a0.length:Int).toNat a0))).2,()),()) else bif decide (32768<(↑(bf (List.drop (Int.toNat 61) (List.take (↑a0.length:Int).toNat a0))).1.length:Int)) then oR (((0,0,0,0,0,[],()),4,()),()) else bif decide ((aj a0 true).1.2.2.2.2.1≤4294960000) then bif (cU (bf (List.drop (Int.toNat 61) (List.take (↑a0.length:Int).toNat a0))).1 (aj a0 true).1.2.2.2.2.2.1 (aj a0 true).1.2.2.2.2.2.2.1 (Int.toNat (aj a0 true).1.2.2.2.2.1)).2 != 0 then oR (((0,0,0,0,0,[],()),(cU (bf (List.drop (Int.toNat 61) (List.take (↑a0.length:Int).toNat a0))).1 (aj a0 true).1.2.2.2.2.2.1 (aj a0 true).1.2.2.2.2.2.2.1 (Int.toNat (aj a0 true).1.2.2.2.2.1)).2,()),()) else oR ((((aj a0 true).1.1,(aj a0 true).1.2.2.1,(aj a0 true).1.2.2.2.2.2.2.2.1,(aj a0 true).1.2.2.2.2.2.2.2.2.1,(aj a0 true).1.2.2.2.2.2.2.2.2.2.1,(cU (bf (List.drop (Int.toNat 61) (List.take (↑a0.length:Int).toNat a0))).1 (aj a0 true).1.2.2.2.2.2.1 (aj a0 true).1.2.2.2.2.2.2.1 (Int.toNat (aj a0 true).1.2.2.2.2.1)).1,()),0,()),()) else none else none else bif decide (32768<(↑(List.drop (Int.toNat 61) (List.take (↑a0.length:Int).toNat a0)).length:Int)) then oR (((0,0,0,0,0,[],()),4,()),()) else bif decide ((aj a0 true).1.2.2.2.2.1≤4294960000) then bif (cU (List.drop (Int.toNat 61) (List.take (↑a0.length:Int).toNat a0)) (aj a0 true).1.2.2.2.2.2.1 (aj a0 true).1.2.2.2.2.2.2.1 (Int.toNat (aj a0 true).1.2.2.2.2.1)).2 != 0 then oR (((0,0,0,0,0,[],()),(cU (List.drop (Int.toNat 61) (List.take (↑a0.length:Int).toNat a0)) (aj a0 true).1.2.2.2.2.2.1 (aj a0 true).1.2.2.2.2.2.2.1 (Int.toNat (aj a0 true).1.2.2.2.2.1)).2,()),()) else oR ((((aj a0 true).1.1,(aj a0 true).1.2.2.1,(aj a0 true).1.2.2.2.2.2.2.2.1,(aj a0 true).1.2.2.2.2.2.2.2.2.1,(aj a0 true).1.2.2.2.2.2.2.2.2.2.1,(cU (List.drop (Int.toNat 61) (List.take (↑a0.length:Int).toNat a0)) (aj a0 true).1.2.2.2.2.2.1 (aj a0 true).1.2.2.2.2.2.2.1 (Int.toNat (aj a0 true).1.2.2.2.2.1)).1,()),0,()),()) else none else none else none
theorem Qa (a0:LI):Io.run tt Q6 dr Me jI Tryz.f59 ((a0,()),())=Bs a0:=by kernel_rfl
theorem RA:HcOk prog 59 (ah jI Kj):=by
 refine bW (cs:=K0) (.cons Pz (.cons EW (.cons Pm (.cons PB .nil)))) (lp:=Me) (fn:=Tryz.f59) jI (.done (by kernel_rfl)) Kj ?_
 rintro ⟨⟨(b:LI),⟨⟩⟩,⟨⟩⟩ out hw ho
 obtain ⟨hg,ho⟩:=Tr.guard ho
 have hg2:b.length≤4294960000:=of_decide_eq_true hg
 clear hg
 cases ho
 refine (Qa b).trans ?_
 show _=oR (((aE b).1,(aE b).2,()),())
 have eE:d9 b=if ba b true≠0 then ([],ba b true) else if (aN b (decide (b.getD 22 0=1))).2≠0 then ([],(aN b (decide (b.getD 22 0=1))).2) else cU (aN b (decide (b.getD 22 0=1))).1 (av b 27 8) (av b 35 8) (av b 57 4).toNat:=rfl
 have fin:∀e:Int,e≠0→(d9 b).2=e→some (Out.ret ((te,(e,())),()):jI.Res)=oR (((aE b).1,(aE b).2,()),()):=by
  intro e he h
  have:aE b=(te,e):=by unfold aE;rw[h,if_pos he]
  rw[this]
 have fin2:∀rs:List bJ,d9 b=(rs,0)→some (Out.ret (((av b 0 8,av b 12 4,av b 43 8,av b 51 2,av b 53 4,rs,()),(0,())),()):jI.Res)=oR (((aE b).1,(aE b).2,()),()):=by
  intro rs h
  have:aE b=((av b 0 8,av b 12 4,av b 43 8,av b 51 2,av b 53 4,rs,()),0):=by unfold aE;rw[h,if_neg (aq rfl)]
  rw[this]
 unfold Bs
 by_cases h1:ba b true=0
 rotate_left
 ·have eh:aj b true=(bx,ba b true):=by unfold aj;rw[if_pos h1]
  rw[eh]
  refine bT (by simpa using h1) ?_
  exact fin _ h1 (by rw[eE,if_pos h1])
 have eh:aj b true=(iS b,0):=by unfold aj;rw[if_neg (aq h1)]
 rw[if_neg (aq h1)] at eE
 obtain ⟨k1,_,_,_,_,_,_,_,_,k2,k3,_⟩:=fX h1
 have hI:iS b=(av b 0 8,(b.length:Int),av b 12 4,decide (b.getD 22 0=1),av b 57 4,av b 27 8,av b 35 8,av b 43 8,av b 51 2,av b 53 4,()):=rfl
 rw[eh,hI]
 dsimp only
 have e61:List.drop (Int.toNat 61) (List.take (b.length:Int).toNat b)=b.drop 61:=by
  show List.drop 61 (List.take (b.length:Int).toNat b)=_
  rw[zG,List.take_length]
 have l61:(b.drop 61).length=b.length - 61:=List.length_drop
 rw[e61]
 refine (ae rfl _ _).trans ?_
 refine bT (by simp only[zA,zB];omega) ?_
 refine bT (decide_eq_true (by omega)) ?_
 have rest:∀blk:LI,d9 b=cU blk (av b 27 8) (av b 35 8) (av b 57 4).toNat→(bif decide (av b 57 4≤4294960000) then bif (cU blk (av b 27 8) (av b 35 8) (av b 57 4).toNat).2 != 0 then oR (((0,0,0,0,0,[],()),(cU blk (av b 27 8) (av b 35 8) (av b 57 4).toNat).2,()),()) else oR (((av b 0 8,av b 12 4,av b 43 8,av b 51 2,av b 53 4,(cU blk (av b 27 8) (av b 35 8) (av b 57 4).toNat).1,()),0,()),()) else none:Option jI.Res)=oR (((aE b).1,(aE b).2,()),()):=by
  intro blk hb
  refine bT (decide_eq_true (by omega)) ?_
  by_cases h4:(cU blk (av b 27 8) (av b 35 8) (av b 57 4).toNat).2=0
  ·refine bF (by simpa using h4) ?_
   exact fin2 _ (by rw[hb,← h4])
  ·refine bT (by simpa using h4) ?_
   exact fin _ h4 (by rw[hb])
 by_cases h22:b.getD 22 0=1
 ·rw[decide_eq_true h22] at eE ⊢
  have hB:aN b true=bf (b.drop 61):=rfl
  rw[hB] at eE
  refine (aa rfl _ _).trans ?_
  have l62:(b.drop 61).length≤4294960000:=by omega
  refine bT (by rw[zA];exact ⟨rfl,decide_eq_true l62⟩) ?_
  by_cases h2:(bf (b.drop 61)).2=0
  rotate_left
  ·refine bT (by simpa using h2) ?_
   exact fin _ h2 (by rw[eE,if_pos h2])
  refine bF (by simpa using h2) ?_
  rw[if_neg (aq h2)] at eE
  have:=rV (b.drop 61)
  have this:¬(32768:Int)<((bf (b.drop 61)).1.length:Int):=by omega
  refine bF (decide_eq_false this) ?_
  exact rest _ eE
 ·rw[decide_eq_false h22] at eE ⊢
  have hB:aN b false=if 32768<((b.drop 61).length:Int) then ([],4) else (b.drop 61,0):=rfl
  rw[hB] at eE
  refine (ae rfl _ _).trans ?_
  by_cases h2:32768<((b.drop 61).length:Int)
  ·rw[if_pos h2] at eE
   refine bT (decide_eq_true h2) ?_
   exact fin 4 (by decide) (by rw[eE,if_pos (by decide)])
  ·rw[if_neg h2,if_neg (aq rfl)] at eE
   refine bF (decide_eq_false h2) ?_
   exact rest _ eE
end
end Go.Proofs.YthpcdhgpplmneaaGreatDoor.Sym
namespace Go.Proofs.YthpcdhgpplmneaaGreatDoor.Sym
open Go
open Go.IntKind (i8 i16 i32 i64 u8 u16 u32 u64)
noncomputable section
def Can:Bool→LI→Prop
 |_,[]=>False
 |f,[c]=>0≤c∧c<128∧(f=true→c≠0)
 |_,c::d::l=>128≤c∧c≤255∧Can true (d::l)
theorem Can.pos:∀{l:LI},Can true l→1≤br l
 |[],h=>h.elim
 |[c],h=>by
  obtain ⟨h1,h2,h3⟩:=h
  have:=h3 rfl
  simp only[br]
  omega
 |c::d::l,h=>by
  have:=Can.pos h.2.2
  rw[br]
  omega
theorem Can.dig:∀{l:LI} (n:Nat) (f:Bool),Can f l→l.length≤n+1→oM n (br l)++[ni n (br l)]=l
 |[],n,f,h,hl=>h.elim
 |[c],n,f,h,hl=>by
  obtain ⟨h1,h2,h3⟩:=h
  have e:br [c]=c:=by simp only[br];omega
  rw[e]
  cases n with
  |zero=>rfl
  |succ n=>
   have:¬ 127<c:=by omega
   simp[oM,ni,this]
 |c::d::l,n,f,h,hl=>by
  obtain ⟨h1,h2,h3⟩:=h
  have hp:=h3.pos
  cases n with
  |zero=>simp at hl
  |succ n=>
   have ih:=Can.dig n true h3 (by simpa using hl)
   have e:br (c::d::l)=c % 128+128*br (d::l):=rfl
   have e1:(c % 128+128*br (d::l)) / 128=br (d::l):=by omega
   have e2:(c % 128+128*br (d::l)) % 128+128=c:=by omega
   have e3:127<c % 128+128*br (d::l):=by omega
   rw[e,oM,ni,if_pos e3,if_pos e3,e1,e2,List.cons_append,ih]
theorem vk:∀j:Nat,(1:Int)≤128 ^ j
 |0=>by simp
 |j+1=>by
  have:=vk j
  rw[Int.pow_succ]
  omega
theorem DF (most:Nat)(top:Int)(h0:0≤top)(ht:top<128):∀(l:LI) (i:Nat),(∀c∈l,0≤c∧c≤255)→i<most→(bE most top l i).2=0→
  ∃m:Nat,(bE most top l i).1=i+m∧m<l.length∧i+m<most∧Can (decide (0<i)) (l.take (m+1))∧br (l.take (m+1))<128 ^ (most - 1 - i)*(top+1)
 |[],i,hc,hi,h=>by simp[bE] at h
 |c::l,i,hc,hi,h=>by
  have hcc:=hc c (by simp)
  simp only[bE] at h ⊢
  split at h
  ·cases h
  rename_i h1
  rw[if_neg h1]
  split at h
  ·rename_i h2
   rw[if_pos h2]
   split at h
   ·cases h
   rename_i h3
   rw[if_neg h3]
   refine ⟨0,by simp,by simp,by omega,?_,?_⟩
   ·refine ⟨hcc.1,h2,fun hf hz=>h3 ⟨hz,by simpa using hf⟩⟩
   ·have e:br ((c::l).take (0+1))=c:=by simp only[List.take_succ_cons,List.take_zero,br];omega
    rw[e]
    by_cases hm:i+1=most
    ·rw[show most - 1 - i=0 by omega]
     have:¬ top<c:=fun h=>h1 ⟨hm,h⟩
     simp;omega
    ·obtain ⟨j,hj⟩:∃j,most - 1 - i=j+1:=⟨most - 2 - i,by omega⟩
     rw[hj,Int.pow_succ]
     have hp:(1:Int)≤128 ^ j:=vk j
     have:(1:Int)*128*1≤128 ^ j*128*(top+1):=Int.mul_le_mul (Int.mul_le_mul_of_nonneg_right hp (by omega)) (by omega) (by omega) (Int.mul_nonneg (by omega) (by omega))
     omega
  ·rename_i h2
   rw[if_neg h2]
   have hne:i+1<most:=by
    rcases Nat.lt_or_ge (i+1) most with h | h'
    ·exact h
    ·exact absurd ⟨by omega,by omega⟩ h1
   obtain ⟨m,g1,g2,g3,g4,g5⟩:=DF most top h0 ht l (i+1) (fun c hc'=>hc c (by simp[hc'])) hne h
   refine ⟨m+1,by rw[g1];push_cast;omega,by simp;omega,by omega,?_,?_⟩
   ·obtain ⟨d,l',rfl⟩:∃d l',l=d::l':=by
     cases l with
     |nil=>simp at g2
     |cons d l'=>exact ⟨d,l',rfl⟩
    rw[List.take_succ_cons,List.take_succ_cons] at *
    refine ⟨by omega,hcc.2,?_⟩
    simpa using g4
   ·rw[List.take_succ_cons,br]
    obtain ⟨j,hj⟩:∃j,most - 1 - i=j+1:=⟨most - 2 - i,by omega⟩
    rw[show most - 1 - (i+1)=j by omega] at g5
    rw[hj,Int.pow_succ]
    have e:(128:Int) ^ j*128*(top+1)=128*(128 ^ j*(top+1)):=by
     rw[Int.mul_comm (128 ^ j) 128,Int.mul_assoc]
    rw[e]
    omega
def pc (b:LI)(p q:Int):LI:=(b.take q.toNat).drop p.toNat
theorem jJ {b:LI}{p q r:Int}(h0:0≤p)(h1:p≤q)(h2:q≤r):pc b p q++pc b q r=pc b p r:=by
 unfold pc
 obtain ⟨P,rfl⟩:=aA h0
 obtain ⟨Q,rfl⟩:=aA (show 0≤q by omega)
 obtain ⟨R,rfl⟩:=aA (show 0≤r by omega)
 simp only[zG]
 have e:b.take Q=(b.take R).take Q:=by rw[List.take_take,Nat.min_eq_left (by omega)]
 rw[e,List.drop_take]
 have e2:(b.take R).drop Q=((b.take R).drop P).drop (Q - P):=by rw[List.drop_drop,show P+(Q - P)=Q by omega]
 rw[e2,List.take_append_drop]
theorem H3 {b:LI}{q n:Int}(h0:0≤q)(h1:0≤n):(b.drop q.toNat).take n.toNat=pc b q (q+n):=by
 unfold pc
 rw[List.drop_take,show (q+n).toNat - q.toNat=n.toNat by omega]
theorem MR {b:LI}{p q:Int}(h0:0≤p)(h1:p≤q)(h2:q≤b.length):((pc b p q).length:Int)=q - p:=by
 unfold pc
 simp only[List.length_drop,List.length_take]
 omega
def bk (b:LI):Prop:=∀c∈b,0≤c∧c≤255
theorem x5 {most:Nat}{top:Int}(h0:0≤top)(ht:top<128)(hm:0<most)(hm':most≤10)(hB:128 ^ (most - 1)*(top+1)≤18446744073709551616){b:LI}(hb:bk b){p:Int}(h:(ab most top b p).2.2=0):
  bG (ab most top b p).1=pc b p (ab most top b p).2.1∧0≤(ab most top b p).1∧(ab most top b p).1<128 ^ (most - 1)*(top+1):=by
 obtain ⟨k1,k2,k3⟩:=mz h
 unfold ab at h k2 k3 ⊢
 by_cases hp:p<0∨(b.length:Int)<p
 ·rw[if_pos hp] at h;cases h
 rw[if_neg hp] at h k2 k3 ⊢
 by_cases hr:(bE most top (b.drop p.toNat) 0).2=0
 rotate_left
 ·rw[if_neg hr] at h;exact absurd h hr
 rw[if_pos hr] at k2 k3 ⊢
 obtain ⟨m,g1,g2,g3,g4,g5⟩:=DF most top h0 ht (b.drop p.toNat) 0 (fun c hc=>hb c (List.mem_of_mem_drop hc)) hm hr
 rw[g1] at k2 k3 ⊢
 simp only at k2 k3 ⊢
 have e1:((((0:Nat):Int)+(m:Int))+1).toNat=m+1:=by omega
 rw[e1]
 have hpos:=(vH ((b.drop p.toNat).take (m+1))).1
 rw[Nat.sub_zero] at g5
 rw[Int.emod_eq_of_lt hpos (by omega)]
 refine ⟨?_,hpos,g5⟩
 have hd:=Can.dig 10 _ g4 (by rw[List.length_take];omega)
 unfold bG
 rw[hd]
 unfold pc
 rw[List.drop_take,show (p+(((0:Nat):Int)+m)+1).toNat - p.toNat=m+1 by omega]
theorem O8 {n:Int}:bt .i32 n↔-2147483648≤n∧n≤2147483647:=by simp[bt,IntKind.min,IntKind.max,IntKind.signed,IntKind.bits]
theorem Ih {u:Int}(h:0≤u):be (ak u)=u:=by
 unfold be ak
 split <;> split <;> omega
theorem kh {b:LI}(hb:bk b){p:Int}(h:(ag b p).2.2=0):bG (be (ag b p).1)=pc b p (ag b p).2.1:=by
 obtain ⟨h1,h2,h3⟩:=x5 (most:=5) (top:=15) (by decide) (by decide) (by decide) (by decide) (by decide) hb (show (ab 5 15 b p).2.2=0 from h)
 have h3:(ab 5 15 b p).1<4294967296:=h3
 have e:(ag b p).1=ak (ab 5 15 b p).1:=by
  show IntKind.wrap .i32 (ak (ab 5 15 b p).1)=_
  refine bY (k:=.i32) (O8.2 ?_)
  unfold ak
  split <;> omega
 rw[e,Ih h2]
 exact h1
theorem FC {b:LI}(hb:bk b){p:Int}(h:(ab 10 1 b p).2.2=0):bG (be (ak (ab 10 1 b p).1))=pc b p (ab 10 1 b p).2.1:=by
 obtain ⟨h1,h2,h3⟩:=x5 (most:=10) (top:=1) (by decide) (by decide) (by decide) (by decide) (by decide) hb h
 rw[Ih h2]
 exact h1
theorem JO {b:LI}{p l:Int}(hl : -1≤l)(h:(ac b p l).2.2=0):(ag b p).2.2=0∧
  ((l<0∧(ag b p).1 = -1∧ac b p l=((true,[],()),(ag b p).2.1,0)) ∨
   (0≤(ag b p).1∧(ag b p).2.1+(ag b p).1≤b.length∧ac b p l=((false,pc b (ag b p).2.1 ((ag b p).2.1+(ag b p).1),()),(ag b p).2.1+(ag b p).1,0))):=by
 unfold ac at h ⊢
 by_cases h0:(ag b p).2.2=0
 rotate_left
 ·rw[if_pos h0] at h;exact absurd h h0
 have hk:=ee h0
 rw[if_neg (aq h0)] at h ⊢
 by_cases h1:(ag b p).1<l
 ·rw[if_pos h1] at h;cases h
 rw[if_neg h1] at h ⊢
 by_cases h2:(ag b p).1<0
 ·rw[if_pos h2]
  exact ⟨h0,.inl ⟨by omega,by omega,rfl⟩⟩
 rw[if_neg h2] at h ⊢
 by_cases h3:(b.length:Int) - (ag b p).2.1<(ag b p).1
 ·rw[if_pos h3] at h;cases h
 rw[if_neg h3,H3 (by omega) (by omega)]
 exact ⟨h0,.inr ⟨by omega,by omega,rfl⟩⟩
theorem jx {b:LI}(hb:bk b){p l:Int}(hl : -1≤l)(h:(ac b p l).2.2=0):
  cd (ac b p l).1=pc b p (ac b p l).2.1∧gD (ac b p l).1=false∧0≤p∧p<(ac b p l).2.1∧(ac b p l).2.1≤b.length∧(0≤l→(ac b p l).1.1=false):=by
 obtain ⟨h0,h1 | h1⟩:=JO hl h
 ·obtain ⟨h1,h2,e⟩:=h1
  have hk:=ee h0
  have hd:=kh hb h0
  rw[e]
  refine ⟨?_,by simp[gD],hk.1,hk.2.1,hk.2.2,fun h=>by omega⟩
  rw[h2] at hd
  exact hd
 ·obtain ⟨h1,h2,e⟩:=h1
  have hk:=ee h0
  have hd:=kh hb h0
  rw[e]
  refine ⟨?_,by simp[gD],hk.1,by simp only;omega,by simpa using h2,fun _=>rfl⟩
  show bG (be ((pc b (ag b p).2.1 ((ag b p).2.1+(ag b p).1)).length:Int))++pc b (ag b p).2.1 ((ag b p).2.1+(ag b p).1)=_
  rw[MR (by omega) (by omega) h2,show (ag b p).2.1+(ag b p).1 - (ag b p).2.1=(ag b p).1 by omega,hd,jJ hk.1 (by omega) (by omega)]
theorem nv {b:LI}(hb:bk b):∀(n:Nat) (o:List cE) (p:Int),0≤p→p≤b.length→(ay b n o p).2.2=0→
  ∃hs:List cE,(ay b n o p).1=o++hs∧hs.length=n∧ci hs=pc b p (ay b n o p).2.1∧dP hs=0∧p≤(ay b n o p).2.1∧(ay b n o p).2.1≤b.length
 |0,o,p,h0,h1,h=>by
  refine ⟨[],by simp[ay],rfl,?_,rfl,Int.le_refl _,h1⟩
  show []=pc b p p
  unfold pc
  rw[zI (by simp;omega)]
 |n+1,o,p,h0,h1,h=>by
  rw[nw] at h ⊢
  by_cases hH:(bc b p).2.2=0
  rotate_left
  ·rw[if_pos hH] at h;exact absurd h hH
  rw[if_neg (aq hH)] at h ⊢
  unfold bc at hH
  by_cases a1:(ac b p 0).2.2=0
  rotate_left
  ·rw[if_pos a1] at hH;exact absurd hH a1
  rw[if_neg (aq a1)] at hH
  by_cases a2:(cC (ac b p 0).1.2.1).2=false
  ·rw[if_pos a2] at hH;cases hH
  rw[if_neg a2] at hH
  have hH:(ac b (ac b p 0).2.1 (-1)).2.2=0:=hH
  have eH:bc b p=(((ac b p 0).1.2.1,(ac b (ac b p 0).2.1 (-1)).1,()),(ac b (ac b p 0).2.1 (-1)).2.1,(ac b (ac b p 0).2.1 (-1)).2.2):=by
   unfold bc;rw[if_neg (aq a1),if_neg a2]
  rw[eH] at h ⊢
  simp only at h ⊢
  obtain ⟨k1,k2,k3,k4,k5,k6⟩:=jx hb (by decide) a1
  obtain ⟨q1,q2,q3,q4,q5,q6⟩:=jx hb (by decide) hH
  have k6:=k6 (Int.le_refl 0)
  obtain ⟨hs,g1,g2,g3,g4,g5,g6⟩:=nv hb n _ _ (show 0≤(ac b (ac b p 0).2.1 (-1)).2.1 by omega) q5 h
  refine ⟨((ac b p 0).1.2.1,(ac b (ac b p 0).2.1 (-1)).1,())::hs,by rw[g1];simp,by simp[g2],?_,?_,by omega,g6⟩
  ·have e1:ci (((ac b p 0).1.2.1,(ac b (ac b p 0).2.1 (-1)).1,())::hs)=(bG (be (ac b p 0).1.2.1.length)++(ac b p 0).1.2.1)++cd (ac b (ac b p 0).2.1 (-1)).1++ci hs:=by
    simp[ci,AF]
   have e2:bG (be (ac b p 0).1.2.1.length)++(ac b p 0).1.2.1=pc b p (ac b p 0).2.1:=by
    rw[← k1]
    unfold cd
    rw[if_neg (by rw[k6];decide)]
   rw[e1,e2,q1,g3,jJ k3 (by omega) (by omega),jJ k3 (by omega) (by omega)]
  ·unfold dP
   rw[if_neg a2,if_neg (by rw[q2];decide)]
   exact g4
theorem AE {b:LI}(hb:bk b){p:Int}(h:(ax b p).2.2=0):
  bG (be (ax b p).1.length)++ci (ax b p).1=pc b p (ax b p).2.1∧dP (ax b p).1=0∧((ax b p).1.length:Int)≤16∧0≤p∧p<(ax b p).2.1∧(ax b p).2.1≤b.length:=by
 unfold ax at h ⊢
 by_cases c5:(ag b p).2.2=0
 rotate_left
 ·rw[if_pos c5] at h;exact absurd h c5
 rw[if_neg (aq c5)] at h ⊢
 by_cases c6:(ag b p).1<0
 ·rw[if_pos c6] at h;cases h
 rw[if_neg c6] at h ⊢
 by_cases c7:16<(ag b p).1
 ·rw[if_pos c7] at h;cases h
 rw[if_neg c7] at h ⊢
 have hk:=ee c5
 obtain ⟨hs,g1,g2,g3,g4,g5,g6⟩:=nv hb (ag b p).1.toNat [] (ag b p).2.1 (by omega) hk.2.2 h
 rw[List.nil_append] at g1
 have hl:(hs.length:Int)=(ag b p).1:=by omega
 rw[g1,hl,kh hb c5,g3,jJ hk.1 (by omega) g5]
 exact ⟨rfl,g4,by omega,hk.1,by omega,g6⟩
theorem FF {b:LI}(hb:bk b)(h:(aS b).2=0):cT (aS b).1=b∧gk (aS b).1=0:=by
 unfold aS at h ⊢
 by_cases h0:b.length=0
 ·rw[if_pos h0] at h;cases h
 rw[if_neg h0] at h ⊢
 by_cases h1:b.getD 0 0=0
 rotate_left
 ·rw[if_pos h1] at h;cases h
 rw[if_neg (aq h1)] at h ⊢
 by_cases h2:(ab 10 1 b 1).2.2=0
 rotate_left
 ·rw[if_pos h2] at h;exact absurd h h2
 rw[if_neg (aq h2)] at h ⊢
 have d1:=FC hb h2
 have k1:=mz h2
 generalize ak (ab 10 1 b 1).1=v1 at *
 generalize (ab 10 1 b 1).2.1=q1 at *
 by_cases c1:(ag b q1).2.2=0
 rotate_left
 ·rw[if_pos c1] at h;exact absurd h c1
 rw[if_neg (aq c1)] at h ⊢
 by_cases c2:(ag b q1).1<0
 ·rw[if_pos c2] at h;cases h
 rw[if_neg c2] at h ⊢
 have d2:=kh hb c1
 have k2:=ee c1
 generalize (ag b q1).1=v2 at *
 generalize (ag b q1).2.1=q2 at *
 by_cases c3:(ac b q2 (-1)).2.2=0
 rotate_left
 ·rw[if_pos c3] at h;exact absurd h c3
 rw[if_neg (aq c3)] at h ⊢
 obtain ⟨d3,b3,k3⟩:=jx hb (by decide) c3
 generalize (ac b q2 (-1)).1=B1 at *
 generalize (ac b q2 (-1)).2.1=q3 at *
 by_cases c4:(ac b q3 (-1)).2.2=0
 rotate_left
 ·rw[if_pos c4] at h;exact absurd h c4
 rw[if_neg (aq c4)] at h ⊢
 obtain ⟨d4,b4,k4⟩:=jx hb (by decide) c4
 generalize (ac b q3 (-1)).1=B2 at *
 generalize (ac b q3 (-1)).2.1=q4 at *
 by_cases c5:(ax b q4).2.2=0
 rotate_left
 ·rw[if_pos c5] at h;exact absurd h c5
 rw[if_neg (aq c5)] at h ⊢
 obtain ⟨d5,e5,n5,k5⟩:=AE hb c5
 generalize (ax b q4).1=hs at *
 generalize (ax b q4).2.1=q5 at *
 by_cases c6:q5<(b.length:Int)
 ·rw[if_pos c6] at h;cases h
 rw[if_neg c6]
 refine ⟨?_,?_⟩
 ·show 0::(bG (be v1)++(bG (be v2)++(cd B1++(cd B2++(bG (be hs.length)++ci hs)))))=b
  rw[d1,d2,d3,d4,d5,jJ (by omega) (by omega) (by omega),jJ (by omega) (by omega) (by omega),jJ (by omega) (by omega) (by omega),jJ (by omega) (by omega) (by omega),show q5=b.length by omega]
  unfold pc
  rw[zG,List.take_length]
  obtain ⟨c,l,rfl⟩:∃c l,b=c::l:=by
   cases b with
   |nil=>exact absurd rfl h0
   |cons c l=>exact ⟨c,l,rfl⟩
  have h1:c=0:=h1
  rw[h1]
  rfl
 ·show (if v2<0 then 72 else if gD B1=true∨gD B2=true then 70 else if 16<(hs.length:Int) then 9 else dP hs)=0
  rw[if_neg c2,if_neg (by rw[b3,b4];simp),if_neg (by omega),e5]
theorem FD {b:LI}(hb:bk b){p:Int}(h:(an b p).2.2=0):
  0≤p∧p<(an b p).2.1∧(an b p).2.1≤b.length∧bC (an b p).1=0∧cr (an b p).1=(pc b p (an b p).2.1,0)∧lh (an b p).1=true:=by
 unfold an at h ⊢
 by_cases c1:(ag b p).2.2=0
 rotate_left
 ·rw[if_pos c1] at h;exact absurd h c1
 rw[if_neg (aq c1)] at h ⊢
 by_cases c2:(ag b p).1<0
 ·rw[if_pos c2] at h;cases h
 rw[if_neg c2] at h ⊢
 by_cases c3:16384<(ag b p).1
 ·rw[if_pos c3] at h;cases h
 rw[if_neg c3] at h ⊢
 by_cases c4:(b.length:Int) - (ag b p).2.1<(ag b p).1
 ·rw[if_pos c4] at h;cases h
 rw[if_neg c4] at h ⊢
 have d1:=kh hb c1
 have k1:=ee c1
 generalize (ag b p).1=n at *
 generalize (ag b p).2.1=q at *
 rw[H3 (by omega) (by omega)] at h ⊢
 by_cases c5:(aS (pc b q (q+n))).2=0
 rotate_left
 ·rw[if_pos c5] at h;exact absurd h c5
 rw[if_neg (aq c5)] at h ⊢
 have hb2:bk (pc b q (q+n)):=fun c hc=>hb c (List.mem_of_mem_take (List.mem_of_mem_drop hc))
 obtain ⟨e1,e2⟩:=FF hb2 c5
 have hl:=MR (b:=b) (p:=q) (q:=q+n) (by omega) (by omega) (by omega)
 generalize (aS (pc b q (q+n))).1=r at *
 have hbl:((cT r).length:Int)=n:=by rw[e1];omega
 have hc:bC r=0:=by
  unfold bC
  rw[if_neg (aq e2),if_neg (by omega)]
 refine ⟨k1.1,by simp only;omega,by simp only;omega,hc,?_,?_⟩
 ·unfold cr
  rw[if_pos hc,hbl,d1,e1,jJ k1.1 (by omega) (by omega)]
 ·unfold lh
  rw[zB]
  omega
theorem bytesOf {b:LI}(h:Ty.wf bs b):bk b:=fun c hc=>by
 have:=h.2 c hc
 exact EG.1 this
end
end Go.Proofs.YthpcdhgpplmneaaGreatDoor.Sym
namespace Go.Proofs.YthpcdhgpplmneaaGreatDoor.Sym
open Go
noncomputable section
def Has (b:LI)(p:Int)(X:LI):Prop:=0≤p∧p≤b.length∧∃rest,b.drop p.toNat=X++rest
theorem Has.left {b:LI}{p:Int}{X Y:LI}(h:Has b p (X++Y)):Has b p X:=by
 obtain ⟨h0,h1,rest,h2⟩:=h
 exact ⟨h0,h1,Y++rest,by rw[h2,zK]⟩
theorem Has.len {b:LI}{p:Int}{X:LI}(h:Has b p X):p+X.length≤b.length:=by
 obtain ⟨h0,h1,rest,h2⟩:=h
 have:=congrArg List.length h2
 simp only[List.length_drop,zH] at this
 omega
theorem Has.right {b:LI}{p:Int}{X Y:LI}(h:Has b p (X++Y)):Has b (p+X.length) Y:=by
 have hl:=h.left.len
 obtain ⟨h0,h1,rest,h2⟩:=h
 refine ⟨by omega,hl,rest,?_⟩
 rw[show (p+X.length).toNat=p.toNat+X.length by omega,← List.drop_drop,h2,zK,List.drop_left]
theorem Has.take {b:LI}{p:Int}{X:LI}(h:Has b p X):(b.drop p.toNat).take X.length=X:=by
 obtain ⟨h0,h1,rest,h2⟩:=h
 rw[h2,List.take_left]
end
end Go.Proofs.YthpcdhgpplmneaaGreatDoor.Sym
namespace Go.Proofs.YthpcdhgpplmneaaGreatDoor.Sym
open Go
open Go.IntKind (i8 i16 i32 i64 u8 u16 u32 u64)
noncomputable section
theorem mw (x k:Int):∀(n m:Nat),m≤n→az (x+256 ^ n*k) m=az x m
 |_,0,_=>rfl
 |n,m+1,h=>by
  rw[az,az,mw x k n m (by omega)]
  congr 1
  have hp:(256:Int) ^ n=256 ^ m*(256*256 ^ (n - m - 1)):=by
   rw[← Int.pow_succ',← Int.pow_add]
   congr 1;omega
  have hq:(256:Int) ^ m≠0:=Int.ne_of_gt (Int.pow_pos (by decide))
  rw[hp,Int.mul_assoc,Int.add_mul_ediv_left _ _ hq,Int.mul_assoc,Int.add_mul_emod_self_left]
theorem Ld (l:LI):∀v:Int,l.foldl (fun v c=>v*256+c) v=v*256 ^ l.length+aV l:=by
 induction l with
 |nil=>intro v;simp[aV]
 |cons c l ih=>
  intro v
  unfold aV
  rw[List.foldl_cons,List.foldl_cons,ih,ih (0*256+c),zN,Int.pow_succ,Int.add_mul,Int.zero_mul,Int.zero_add,Int.mul_assoc,Int.mul_comm 256]
  omega
theorem p4:∀{l:LI},byteR l→az (aV l) l.length=l
 |[],_=>rfl
 |c::l,h=>by
  have hc:=h c (by simp)
  have hl:byteR l:=fun d hd=>h d (by simp[hd])
  have hb:=rR l fun d hd=>⟨(hl d hd).1,by have:=(hl d hd).2;omega⟩
  have e:aV (c::l)=aV l+256 ^ l.length*c:=by
   have:=Ld l (0*256+c)
   unfold aV
   rw[List.foldl_cons,this,Int.zero_mul,Int.zero_add,Int.mul_comm]
   unfold aV;omega
  have hq:(0:Int)<256 ^ l.length:=Int.pow_pos (by decide)
  rw[zN,az,e,mw _ _ _ _ (Nat.le_refl _),p4 hl,Int.add_mul_ediv_left _ _ (Int.ne_of_gt hq),Int.ediv_eq_zero_of_lt hb.1 hb.2]
  congr 1
  omega
theorem RR {l:LI}(h:byteR l)(hl:l.length=2):az (i16.wrap (aV l)) 2=l:=by
 have key:∃t,i16.wrap (aV l)=aV l+256 ^ 2*t:=⟨(i16.wrap (aV l) - aV l) / 65536,by simp[IntKind.wrap,IntKind.min,IntKind.max,IntKind.signed,IntKind.bits];omega⟩
 obtain ⟨t,e⟩:=key
 rw[e,mw _ _ _ _ (Nat.le_refl _)]
 have:=p4 h;rw[hl] at this;exact this
theorem RS {l:LI}(h:byteR l)(hl:l.length=4):az (i32.wrap (aV l)) 4=l:=by
 have key:∃t,i32.wrap (aV l)=aV l+256 ^ 4*t:=⟨(i32.wrap (aV l) - aV l) / 4294967296,by simp[IntKind.wrap,IntKind.min,IntKind.max,IntKind.signed,IntKind.bits];omega⟩
 obtain ⟨t,e⟩:=key
 rw[e,mw _ _ _ _ (Nat.le_refl _)]
 have:=p4 h;rw[hl] at this;exact this
theorem RT {l:LI}(h:byteR l)(hl:l.length=8):az (i64.wrap (aV l)) 8=l:=by
 have key:∃t,i64.wrap (aV l)=aV l+256 ^ 8*t:=⟨(i64.wrap (aV l) - aV l) / 18446744073709551616,by simp[IntKind.wrap,IntKind.min,IntKind.max,IntKind.signed,IntKind.bits];omega⟩
 obtain ⟨t,e⟩:=key
 rw[e,mw _ _ _ _ (Nat.le_refl _)]
 have:=p4 h;rw[hl] at this;exact this
theorem PF (b:LI)(p:Int):pc b p p=[]:=by
 unfold pc
 exact List.drop_eq_nil_of_le (by rw[List.length_take];omega)
theorem vl {blk:LI}(hb:bk blk)(f:Int):∀(n i:Nat) (p:Int) (out:List bJ),(aF blk f n i p out).2.2=0→0≤p→p≤blk.length→
  ∃rs:List bJ,(aF blk f n i p out).1=out++rs∧rs.length=n∧p≤(aF blk f n i p out).2.1∧(aF blk f n i p out).2.1≤blk.length∧
   (∀acc,bu f rs i acc=(acc++pc blk p (aF blk f n i p out).2.1,0))∧cz f rs i=true∧(i=0→0<n→aI rs=f)∧∀r∈rs,bt .i64 r.1
 |0,i,p,out,h,h0,h1=>⟨[],(List.append_nil out).symm,rfl,Int.le_refl p,h1,fun acc=>by
   show (acc,(0:Int))=(acc++pc blk p p,0)
   rw[PF,List.append_nil],rfl,fun _ h=>by omega,fun r h=>by cases h⟩
 |n+1,i,p,out,h,h0,h1=>by
  have e:aF blk f (n+1) i p out=if (an blk p).2.2≠0 then ([],0,(an blk p).2.2) else if (an blk p).1.2.1≠(i:Int) then ([],0,72) else if i=0∧(an blk p).1.1≠0∨aK (f+(an blk p).1.1)=false then ([],0,86)
    else aF blk f n (i+1) (an blk p).2.1 (out++[(f+(an blk p).1.1,(an blk p).1.2.2.1,(an blk p).1.2.2.2.1,(an blk p).1.2.2.2.2.1,())]):=rfl
  rw[e] at h ⊢
  by_cases c1:(an blk p).2.2=0
  rotate_left
  ·rw[if_pos c1] at h;exact absurd h c1
  rw[if_neg (aq c1)] at h ⊢
  by_cases c2:(an blk p).1.2.1=(i:Int)
  rotate_left
  ·rw[if_pos c2] at h;cases h
  rw[if_neg (aq c2)] at h ⊢
  by_cases c3:i=0∧(an blk p).1.1≠0∨aK (f+(an blk p).1.1)=false
  ·rw[if_pos c3] at h;cases h
  rw[if_neg c3] at h ⊢
  obtain ⟨k1,k2,k3,k4,k5,k6⟩:=FD hb c1
  obtain ⟨b1,b2⟩:=DG blk p
  obtain ⟨rs,r1,r2,r3,r4,r5,r6,r7,r8⟩:=vl hb f n (i+1) _ _ h (by omega) k3
  generalize an blk p=x at *
  obtain ⟨⟨d,o,K,V,hs,⟨⟩⟩,q,er⟩:=x
  simp only at k1 k2 k3 k4 k5 k6 b1 b2 r1 r3 r4 r5 c2 c3 h ⊢
  subst c2
  generalize aF blk f n (i+1) q (out++[(f+d,K,V,hs,())])=y at *
  have eR:dF f i (f+d,K,V,hs,())=(d,(i:Int),K,V,hs,()):=by
   unfold dF
   simp only
   rw[show f+d - f=d by omega]
  refine ⟨(f+d,K,V,hs,())::rs,by rw[r1];simp,by simp[r2],by omega,r4,fun acc=>?_,?_,fun hi _=>?_,fun r hr=>?_⟩
  ·have e2:bu f ((f+d,K,V,hs,())::rs) i acc=if aK (f+d - f)=false then ([],86) else if bC (dF f i (f+d,K,V,hs,()))≠0 then ([],bC (dF f i (f+d,K,V,hs,()))) else bu f rs (i+1) (acc++(cr (dF f i (f+d,K,V,hs,()))).1):=rfl
   rw[e2,eR,show f+d - f=d by omega,if_neg (by rw[fb.2 (gH b1)];decide),if_neg (aq k4),k5,r5]
   simp only
   rw[zK,jJ k1 (by omega) r3]
  ·show (lh (dF f i (f+d,K,V,hs,()))&&cz f rs (i+1))=true
   rw[eR,k6,r6];rfl
  ·show f+d=f
   have:d=0:=Classical.byContradiction fun hd=>c3 (.inl ⟨hi,hd⟩)
   omega
  ·rcases List.mem_cons.1 hr with rfl | hr
   ·have hft:aK (f+d)=true:=by
     cases hh:aK (f+d) with
     |true=>rfl
     |false=>exact absurd (.inr hh) c3
    have:=fb.1 hft
    show bt .i64 (f+d)
    simp[bt,IntKind.min,IntKind.max,IntKind.signed,IntKind.bits];omega
   ·exact r8 r hr
theorem ue {b:LI}(h:bk b)(i:Nat):0≤b.getD i 0∧b.getD i 0≤255:=by
 rw[List.getD_eq_getElem?_getD]
 cases e:b[i]? with
 |none=>exact ⟨by decide,by decide⟩
 |some x=>exact h x (List.mem_of_getElem? e)
theorem xc {a b:LI}(ha:bk a)(hb:bk b):bk (a++b):=fun c hc=>by
 rcases List.mem_append.1 hc with h | h
 ·exact ha c h
 ·exact hb c h
theorem dH:bk []:=fun c h=>by cases h
theorem p6 (d:Nat):∀(n:Nat) (out:LI),bk out→bk (fO d n out)
 |0,_,h=>h
 |n+1,out,h=>p6 d n _ (xc h fun c hc=>by
   have:=ue h (out.length - d)
   simp only[List.mem_singleton] at hc
   rw[hc];exact this)
theorem DD {b:LI}(hb:bk b):bk (aR b).1.1:=by
 unfold aR
 split
 ·split
  ·exact dH
  ·exact fun c hc=>hb c (List.mem_of_mem_drop (List.mem_of_mem_take hc))
 ·split
  ·exact dH
  ·split <;> exact dH
theorem p7:∀(k:Nat) (b out:LI) (m:Int),bk b→bk out→bk (bO k b out m).1
 |0,_,_,_,_,h=>h
 |k+1,b,out,m,hb,h=>by
  unfold bO
  split
  ·exact h
  split
  ·exact dH
  split
  ·exact dH
  rename_i h3
  refine p7 k _ _ _ (fun c hc=>hb c (List.mem_of_mem_drop hc)) ?_
  unfold bd at h3 ⊢
  split
  ·exact dH
  split
  ·exact dH
  exact p6 _ _ _ (xc h (DD hb))
theorem vF {b:LI}(hb:bk b):bk (bf b).1:=by
 unfold bf
 repeat' split
 all_goals first | exact dH | skip
 rw[ft]
 exact p7 _ _ _ _ (fun c hc=>hb c (List.mem_of_mem_drop hc)) dH
theorem wg {b:LI}(hb:bk b)(pk:Bool):bk (aN b pk).1:=by
 unfold aN
 split
 ·exact vF fun c hc=>hb c (List.mem_of_mem_drop hc)
 split
 ·exact dH
 exact fun c hc=>hb c (List.mem_of_mem_drop hc)
theorem FB (b:LI)(pk:Bool):(aN b pk).1.length≤32768:=by
 unfold aN
 split
 ·exact rV _
 split
 ·simp
 simp only
 omega
structure DecOk (b blk:LI) (rs:List bJ):Prop where
 head:ba b true=0
 body:aN b (decide (b.getD 22 0=1))=(blk,0)
 rows:bp rs=(blk,0)
 len:(rs.length:Int)=av b 57 4
 first:aI rs=av b 27 8
 last:dD rs=av b 35 8
 room:cz (aI rs) rs 0=true
 times:∀r∈rs,bt .i64 r.1
theorem Iy {b:LI}(hb:bk b){rs:List bJ}(h:d9 b=(rs,0)):∃blk,DecOk b blk rs:=by
 unfold d9 at h
 by_cases c1:ba b true=0
 rotate_left
 ·rw[if_pos c1] at h;exact absurd (congrArg Prod.snd h) c1
 rw[if_neg (aq c1)] at h
 by_cases c2:(aN b (decide (b.getD 22 0=1))).2=0
 rotate_left
 ·rw[if_pos c2] at h;exact absurd (congrArg Prod.snd h) c2
 rw[if_neg (aq c2)] at h
 have hby:=wg hb (decide (b.getD 22 0=1))
 have hle:=FB b (decide (b.getD 22 0=1))
 have hbk:aN b (decide (b.getD 22 0=1))=((aN b (decide (b.getD 22 0=1))).1,0):=Prod.ext rfl c2
 generalize (aN b (decide (b.getD 22 0=1))).1=blk at *
 obtain ⟨k1,_,_,_,_,_,_,_,_,k2,k3,_⟩:=fX c1
 unfold cU at h
 by_cases c3:(aF blk (av b 27 8) (av b 57 4).toNat 0 0 []).2.2=0
 rotate_left
 ·rw[if_pos c3] at h;exact absurd (congrArg Prod.snd h) c3
 rw[if_neg (aq c3)] at h
 obtain ⟨rs',r1,r2,r3,r4,r5,r6,r7,r8⟩:=vl hby (av b 27 8) _ 0 0 [] c3 (Int.le_refl 0) (by omega)
 rw[List.nil_append] at r1
 rw[r1] at h
 by_cases c4:(aF blk (av b 27 8) (av b 57 4).toNat 0 0 []).2.1<(blk.length:Int)
 ·rw[if_pos c4] at h;cases congrArg Prod.snd h
 rw[if_neg c4] at h
 have hq:(aF blk (av b 27 8) (av b 57 4).toNat 0 0 []).2.1=(blk.length:Int):=by omega
 rw[hq] at r5
 by_cases c5:dD rs'=av b 35 8
 rotate_left
 ·rw[if_pos c5] at h;cases congrArg Prod.snd h
 rw[if_neg (aq c5)] at h
 obtain rfl:rs'=rs:=congrArg Prod.fst h
 have hF:=r7 rfl (by omega)
 have hp:pc blk 0 (blk.length:Int)=blk:=by
  unfold pc
  rw[zG,List.take_length];rfl
 have h5:=r5 []
 rw[hp,List.nil_append] at h5
 refine ⟨blk,c1,hbk,?_,by omega,hF,c5,by rw[hF];exact r6,r8⟩
 unfold bp
 rw[hF,h5,if_neg (aq rfl),if_neg (by simp only;omega)]
theorem uc {b:LI}(h:bk b):byteR b:=fun c hc=>⟨(h c hc).1,by have:=(h c hc).2;omega⟩
theorem sK {b:LI}(h:bk b){p:Nat}(hp:p+8≤b.length):az (av b p 8) 8=(b.drop p).take 8:=by
 unfold av
 have h1:=dR h p 8
 rw[← AA h1 (cA hp)]
 exact RT (uc h1) (cA hp)
theorem pi {b:LI}(h:bk b){p:Nat}(hp:p+4≤b.length):az (av b p 4) 4=(b.drop p).take 4:=by
 unfold av
 have h1:=dR h p 4
 rw[← na h1 (cA hp)]
 exact RS (uc h1) (cA hp)
theorem Ok {b:LI}(h:bk b){p:Nat}(hp:p+2≤b.length):az (av b p 2) 2=(b.drop p).take 2:=by
 unfold av
 have h1:=dR h p 2
 rw[← tc h1 (cA hp)]
 exact RR (uc h1) (cA hp)
theorem qC (b:LI)(p n:Nat):(b.drop p).take n++b.drop (p+n)=b.drop p:=by
 rw[← List.drop_drop,List.take_append_drop]
structure BatR (x:aX):Prop where
 w1:bt .i64 x.1
 w2:bt .i32 x.2.1
 w3:bt .i64 x.2.2.1
 w4:bt .i16 x.2.2.2.1
 w5:bt .i32 x.2.2.2.2.1
 w6:∀r∈x.2.2.2.2.2.1,bt .i64 r.1
theorem BatR.of {x:aX}(hx:Ty.wf aZ x):BatR x:=⟨hx.1,hx.2.1,hx.2.2.1,hx.2.2.2.1,hx.2.2.2.2.1,fun r hr=>(hx.2.2.2.2.2.1.2 r hr).1⟩
theorem Ic {b:LI}(h:bk b){p:Nat}(hp:p+8≤b.length):bt .i64 (av b p 8):=by
 unfold av
 rw[← AA (dR h p 8) (cA hp)]
 exact bS _ _
theorem Ib {b:LI}(h:bk b){p:Nat}(hp:p+4≤b.length):bt .i32 (av b p 4):=by
 unfold av
 rw[← na (dR h p 4) (cA hp)]
 exact bS _ _
theorem Qf {b:LI}(h:bk b){p:Nat}(hp:p+2≤b.length):bt .i16 (av b p 2):=by
 unfold av
 rw[← tc (dR h p 2) (cA hp)]
 exact bS _ _
theorem Ew {b:LI}(hb:bk b){x:aX}(h:aE b=(x,0)):∃blk,DecOk b blk x.2.2.2.2.2.1∧aO x=0∧my x (b.getD 22 0) (b.drop 61)=b∧BatR x:=by
 unfold aE at h
 by_cases c1:(d9 b).2=0
 rotate_left
 ·rw[if_pos c1] at h;exact absurd (congrArg Prod.snd h) c1
 rw[if_neg (aq c1)] at h
 have hE:d9 b=((d9 b).1,0):=by rw[← c1]
 generalize (d9 b).1=rs at *
 obtain rfl:=congrArg Prod.fst h
 obtain ⟨blk,D⟩:=Iy hb hE
 refine ⟨blk,D,?_,?_,?_⟩
 ·obtain ⟨k1,_,_,_,_,k5,_,_,k8,k9,k10,_⟩:=fX D.head
  have hl:=D.len
  have e:aO (av b 0 8,av b 12 4,av b 43 8,av b 51 2,av b 53 4,rs,())=if aQ (av b 0 8)=true then 80 else if aW (av b 43 8) (av b 51 2) (av b 53 4)=true then 84 else if rs=[] then 85 else if 256<(rs.length:Int) then 9 else (bp rs).2:=rfl
  rw[e,if_neg (by rw[k5];decide),if_neg (by rw[k8];decide),if_neg (fun h=>by rw[h] at hl;simp at hl;omega),if_neg (by omega),D.rows]
 ·obtain ⟨k1,k2,k3,k4,k4',k5,k6,k7,k8,k9,k10,k11⟩:=fX D.head
  have hl:(rs.length:Int)=av b 57 4:=D.len
  have hF:aI rs=av b 27 8:=D.first
  have hL:dD rs=av b 35 8:=D.last
  have hS:ff b=true:=by
   cases h:ff b with
   |true=>rfl
   |false=>exact absurd ⟨rfl,h⟩ k4'
  have hS:(b.drop 17).take 4=az (cB 0 (b.drop 21)) 4:=by
   unfold ff at hS
   split at hS
   ·assumption
   ·cases hS
  have hM:av b 8 4=49+((b.drop 61).length:Int):=by
   unfold aw at k2 k3
   split at k2
   ·cases k2
   rename_i m1
   rw[if_neg m1] at k3
   split at k2
   ·cases k2
   rename_i m2
   rw[if_neg m2] at k3
   split at k2
   ·cases k2
   rename_i m3
   rw[if_neg m3] at k3
   split at k2
   ·cases k2
   rename_i m4
   rw[if_neg m4] at k3
   split at k2
   ·cases k2
   rename_i m5
   rw[if_neg m5] at k3
   have k3:av b 8 4+12=(b.length:Int):=k3
   rw[List.length_drop]
   omega
  have e22:=ue hb 22
  have h21:az (b.getD 22 0) 2=(b.drop 21).take 2:=by
   rw[QE (by omega),k6]
   rcases (by omega:b.getD 22 0=0∨b.getD 22 0=1) with h | h <;> rw[h] <;> rfl
  have t57:az (rs.length:Int) 4++b.drop 61=b.drop 57:=by rw[hl,pi hb (by omega),qC b 57 4]
  have t53:az (av b 53 4) 4++b.drop 57=b.drop 53:=by rw[pi hb (by omega),qC b 53 4]
  have t51:az (av b 51 2) 2++b.drop 53=b.drop 51:=by rw[Ok hb (by omega),qC b 51 2]
  have t43:az (av b 43 8) 8++b.drop 51=b.drop 43:=by rw[sK hb (by omega),qC b 43 8]
  have t35:az (dD rs) 8++b.drop 43=b.drop 35:=by rw[hL,sK hb (by omega),qC b 35 8]
  have t27:az (aI rs) 8++b.drop 35=b.drop 27:=by rw[hF,sK hb (by omega),qC b 27 8]
  have t23:az ((rs.length:Int) - 1) 4++b.drop 27=b.drop 23:=by rw[hl,← k11,pi hb (by omega),qC b 23 4]
  have t21:az (b.getD 22 0) 2++b.drop 23=b.drop 21:=by rw[h21,qC b 21 2]
  have t17:az (cB 0 (b.drop 21)) 4++b.drop 21=b.drop 17:=by rw[← hS,qC b 17 4]
  have t16:[2]++b.drop 17=b.drop 16:=by rw[← k4,← N1 (by omega),qC b 16 1]
  have t12:az (av b 12 4) 4++b.drop 16=b.drop 12:=by rw[pi hb (by omega),qC b 12 4]
  have t8:az (49+((b.drop 61).length:Int)) 4++b.drop 12=b.drop 8:=by rw[← hM,pi hb (by omega),qC b 8 4]
  have t0:az (av b 0 8) 8++b.drop 8=b:=by
   have:=sK hb (p:=0) (by omega)
   rw[this];exact qC b 0 8
  have hT:b7 (av b 0 8,av b 12 4,av b 43 8,av b 51 2,av b 53 4,rs,()) (b.getD 22 0) (b.drop 61)=b.drop 21:=by
   show az (b.getD 22 0) 2++(az ((rs.length:Int) - 1) 4++(az (aI rs) 8++(az (dD rs) 8++(az (av b 43 8) 8++(az (av b 51 2) 2++(az (av b 53 4) 4++(az (rs.length:Int) 4++b.drop 61)))))))=_
   rw[t57,t53,t51,t43,t35,t27,t23,t21]
  show az (av b 0 8) 8++(az (49+((b.drop 61).length:Int)) 4++(az (av b 12 4) 4++([2]++(az (cB 0 (b7 (av b 0 8,av b 12 4,av b 43 8,av b 51 2,av b 53 4,rs,()) (b.getD 22 0) (b.drop 61))) 4++b7 (av b 0 8,av b 12 4,av b 43 8,av b 51 2,av b 53 4,rs,()) (b.getD 22 0) (b.drop 61)))))=b
  rw[hT,t17,t16,t12,t8,t0]
 ·obtain ⟨k1,_⟩:=fX D.head
  exact ⟨Ic hb (by omega),Ib hb (by omega),Ic hb (by omega),Qf hb (by omega),Ib hb (by omega),D.times⟩
theorem wq {x:aX}(h:aO x=0):aQ x.1=false∧aW x.2.2.1 x.2.2.2.1 x.2.2.2.2.1=false∧1≤x.2.2.2.2.2.1.length∧x.2.2.2.2.2.1.length≤256∧(bp x.2.2.2.2.2.1).2=0:=by
 unfold aO at h
 split at h
 ·cases h
 rename_i h1
 split at h
 ·cases h
 rename_i h2
 split at h
 ·cases h
 rename_i h3
 split at h
 ·cases h
 rename_i h4
 exact ⟨by simpa using h1,by simpa using h2,List.length_pos_iff.2 h3,by omega,h⟩
theorem QG {rs:List bJ}(h:(bp rs).2=0):(bu (aI rs) rs 0 []).2=0∧(bp rs).1=(bu (aI rs) rs 0 []).1∧(bp rs).1.length≤32768:=by
 unfold bp at h ⊢
 by_cases c1:(bu (aI rs) rs 0 []).2=0
 rotate_left
 ·rw[if_pos c1] at h;exact absurd h c1
 rw[if_neg (aq c1)] at h ⊢
 by_cases c2:32768<((bu (aI rs) rs 0 []).1.length:Int)
 ·rw[if_pos c2] at h;cases h
 rw[if_neg c2] at h ⊢
 exact ⟨c1,rfl,by simp only;omega⟩
theorem Kq (x:aX)(a:Int)(raw:LI):(my x a raw).length=61+raw.length:=by
 unfold my b7
 simp only[zH,gC,List.length_singleton]
 omega
end
end Go.Proofs.YthpcdhgpplmneaaGreatDoor.Sym
namespace Go.Proofs.YthpcdhgpplmneaaGreatDoor.Sym
open Go
noncomputable section
abbrev NZ:Ty:=.sl 22 bs
abbrev QH:Sh:=.dat NZ false false
abbrev Oq:Sh:=.dat NZ false true
abbrev Sy:Ty:=.sl 77 aZ
abbrev rD:Sh:=.dat Sy false false
def aL (b:LI):Nat→Int→List (LI)→List (LI)×Int
 |0,_,ps=>(ps,0)
 |k+1,p,ps=>
  if (b.length:Int)≤p then (ps,0)
  else if ps.length=8 then ([],9)
  else if (aw b p).2≠0 then ([],(aw b p).2)
  else aL b k (p+(aw b p).1) (ps++[(b.drop p.toNat).take (aw b p).1.toNat])
def au (b:LI):List (LI)×Int:=
 if b=[] then ([],85) else if 65536<(b.length:Int) then ([],4) else aL b 10 0 []
def dQ:List aX→Int→Int
 |[],_=>-1
 |x::xs,i=>if x.2.2.1≠-1 then i else dQ xs (i+1)
def aU (bs:List aX):Int:=if bs.length<2 then -1 else dQ bs 0
def aB:List (LI)→Int→List aX→List aX×Int×Int
 |[],_,out=>(out,0,0)
 |p::ps,i,out=>if (aE p).2≠0 then ([],i,(aE p).2) else aB ps (i+1) (out++[(aE p).1])
def al (b:LI):List aX×Int×Int:=
 if (au b).2≠0 then ([],0,(au b).2)
 else if (aB (au b).1 0 []).2.2≠0 then ([],(aB (au b).1 0 []).2.1,(aB (au b).1 0 []).2.2)
 else if 0≤aU (aB (au b).1 0 []).1 then ([],aU (aB (au b).1 0 []).1,90)
 else ((aB (au b).1 0 []).1,0,0)
def db (bs:List aX):Nat:=match bs with
 |[]=>0
 |x::xs=>x.2.2.2.2.2.1.length+db xs
def cY:List aX→Int→Int×Bool
 |[],next=>(next,true)
 |x::xs,next=>if x.1≠next then (0,false) else cY xs (next+(x.2.2.2.2.2.1.length:Int))
def lg (bs:List aX):Int:=match bs with
 |[]=>0
 |x::_=>x.1
def b8 (b:LI):Int×Int×Int:=
 if (al b).2.2≠0 then (0,0,(al b).2.2)
 else if (cY (al b).1 (lg (al b).1)).2=true then (lg (al b).1,(cY (al b).1 (lg (al b).1)).1,0)
 else (0,0,190)
def bj (ep:Int):List (LI)→List aX→Int→List (LI)→List (LI)×Int×Int
 |p::ps,x::xs,base,out=>
  if (aP p base ep).2≠0 then ([],0,(aP p base ep).2)
  else bj ep ps xs (base+(x.2.2.2.2.2.1.length:Int)) (out++[(aP p base ep).1])
 |_,_,base,out=>(out,base,0)
def gU (b:LI)(base ep:Int):LI×Int×Int:=
 if (al b).2.2≠0 then ([],0,(al b).2.2)
 else if (bj ep (au b).1 (al b).1 base []).2.2≠0 then ([],0,(bj ep (au b).1 (al b).1 base []).2.2)
 else (bP (bj ep (au b).1 (al b).1 base []).1,(bj ep (au b).1 (al b).1 base []).2.1,0)
def bD:List aX→List (LI)→List (LI)×Int
 |[],ps=>(ps,0)
 |x::xs,ps=>if (bN x).2≠0 then ([],(bN x).2) else bD xs (ps++[(bN x).1])
def kj (bs:List aX):LI×Int:=
 if bs=[] then ([],85)
 else if 8<(bs.length:Int) then ([],9)
 else if (bD bs []).2≠0 then ([],(bD bs []).2)
 else if 0≤aU bs then ([],90)
 else if 65536<(ap (bD bs []).1:Int) then ([],4)
 else (bP (bD bs []).1,0)
def mB (bs:List aX):Bool:=bs.all fun x=>cz (aI x.2.2.2.2.2.1) x.2.2.2.2.2.1 0
def gf (ps:List (LI)):Bool:=ps.all fun p=>decide (p.length≤4294960000)
def eT (bs:List aX):Bool:=bs.all fun x=>decide (0≤x.1)&&(decide (x.1≤4611686018427387648)&&decide (x.2.2.2.2.2.1.length≤256))
structure PartOk (p:LI):Prop where
 len:p.length≤36000
 by_:bk p
theorem yc {b:LI}(hb:bk b):∀(k:Nat) (p:Int) (ps:List (LI)),(aL b k p ps).2=0→0≤p→(∀q∈ps,PartOk q)→ps.length≤8→
  (∀q∈(aL b k p ps).1,PartOk q)∧ps.length≤(aL b k p ps).1.length∧(aL b k p ps).1.length≤8∧(1≤k→p<(b.length:Int)→ps.length<(aL b k p ps).1.length)
 |0,p,ps,_,_,h,h8=>⟨h,Nat.le_refl _,h8,fun h=>by omega⟩
 |k+1,p,ps,h0,hp,h,h8=>by
  unfold aL at h0 ⊢
  split
  ·exact ⟨h,Nat.le_refl _,h8,fun _ h=>by omega⟩
  rename_i c1
  rw[if_neg c1] at h0
  split
  ·rename_i c2;rw[if_pos c2] at h0;cases h0
  rename_i c2
  rw[if_neg c2] at h0
  split
  ·rename_i c3;rw[if_pos c3] at h0;exact absurd h0 c3
  rename_i c3
  rw[if_neg c3] at h0
  have hm:=hY (Classical.byContradiction c3)
  obtain ⟨g1,g2,g3,g4⟩:=yc hb k (p+(aw b p).1) _ h0 (by omega) (fun q hq=>by
   rcases List.mem_append.1 hq with hq | hq
   ·exact h q hq
   ·simp only[List.mem_singleton] at hq
    rw[hq]
    exact ⟨by rw[List.length_take];omega,fun c hc=>hb c (List.mem_of_mem_drop (List.mem_of_mem_take hc))⟩) (by simp;omega)
  rw[zH,List.length_singleton] at g2
  exact ⟨g1,by omega,g3,fun _ _=>by omega⟩
theorem oQ {b:LI}:∀(k:Nat) (p:Int) (ps:List (LI)),(aL b k p ps).2≠0→(aL b k p ps).1=[]
 |0,_,_,h=>absurd rfl h
 |k+1,p,ps,h=>by
  unfold aL at h ⊢
  split
  ·rename_i c;rw[if_pos c] at h;exact absurd rfl h
  rename_i c
  rw[if_neg c] at h
  split
  ·rfl
  rename_i c2
  rw[if_neg c2] at h
  split
  ·rfl
  rename_i c3
  rw[if_neg c3] at h
  exact oQ k _ _ h
theorem fP:∀(a b:List (LI)),ap (a++b)=ap a+ap b
 |[],b=>(Nat.zero_add _).symm
 |x::a,b=>by
  have:=fP a b
  show x.length+ap (a++b)=x.length+ap a+ap b
  omega
theorem gF {b:LI}(hb:bk b)(h:(au b).2=0):(∀q∈(au b).1,PartOk q)∧1≤(au b).1.length∧(au b).1.length≤8∧b.length≤65536:=by
 unfold au at h ⊢
 split
 ·rename_i c;rw[if_pos c] at h;cases h
 rename_i c
 rw[if_neg c] at h
 split
 ·rename_i c2;rw[if_pos c2] at h;cases h
 rename_i c2
 rw[if_neg c2] at h
 obtain ⟨g1,g2,g3,g4⟩:=yc hb 10 0 [] h (Int.le_refl 0) (fun q hq=>by cases hq) (Nat.zero_le _)
 have hl:=List.length_pos_iff.2 c
 have:=g4 (by decide) (by omega)
 exact ⟨g1,this,g3,by omega⟩
theorem oJ {ps:List (LI)}(h:∀q∈ps,PartOk q):gf ps=true:=List.all_eq_true.2 fun q hq=>decide_eq_true (by have:=(h q hq).len;omega)
theorem Ix {p:LI}(hp:bk p)(h:(aE p).2=0):0≤(aE p).1.1∧(aE p).1.1≤4611686018427387648∧1≤(aE p).1.2.2.2.2.2.1.length∧(aE p).1.2.2.2.2.2.1.length≤256:=by
 have hx:aE p=((aE p).1,0):=Prod.ext rfl h
 obtain ⟨blk,D,h1,h2,hR⟩:=Ew hp hx
 obtain ⟨g1,g2,g3,g4,g5⟩:=wq h1
 unfold aQ at g1
 simp only[Bool.or_eq_false_iff,decide_eq_false_iff_not] at g1
 exact ⟨by omega,by omega,g3,g4⟩
theorem Dl:∀(ps:List (LI)) (i:Int) (out:List aX),(∀q∈ps,PartOk q)→(aB ps i out).2.2=0→(∀x∈out,0≤x.1∧x.1≤4611686018427387648∧1≤x.2.2.2.2.2.1.length∧x.2.2.2.2.2.1.length≤256)→
  (aB ps i out).1.length=out.length+ps.length∧∀x∈(aB ps i out).1,0≤x.1∧x.1≤4611686018427387648∧1≤x.2.2.2.2.2.1.length∧x.2.2.2.2.2.1.length≤256
 |[],i,out,_,_,h=>⟨rfl,h⟩
 |p::ps,i,out,hp,h0,h=>by
  unfold aB at h0 ⊢
  split
  ·rename_i c;rw[if_pos c] at h0;exact absurd h0 c
  rename_i c
  rw[if_neg c] at h0
  have:=Dl ps (i+1) _ (fun q hq=>hp q (by simp[hq])) h0 (fun x hx=>by
   rcases List.mem_append.1 hx with hx | hx
   ·exact h x hx
   ·simp only[List.mem_singleton] at hx
    rw[hx]
    exact Ix (hp p (by simp)).by_ (Classical.byContradiction c))
  refine ⟨?_,this.2⟩
  rw[this.1]
  simp only[zH,zN,List.length_nil]
  omega
theorem ke {b:LI}(hb:bk b)(h:(al b).2.2=0):(au b).2=0∧(aB (au b).1 0 []).2.2=0∧(al b).1=(aB (au b).1 0 []).1∧(al b).1.length=(au b).1.length∧
  ∀x∈(al b).1,0≤x.1∧x.1≤4611686018427387648∧1≤x.2.2.2.2.2.1.length∧x.2.2.2.2.2.1.length≤256:=by
 unfold al at h ⊢
 split
 ·rename_i c;rw[if_pos c] at h;exact absurd h c
 rename_i c
 rw[if_neg c] at h
 split
 ·rename_i c2;rw[if_pos c2] at h;exact absurd h c2
 rename_i c2
 rw[if_neg c2] at h
 split
 ·rename_i c3;rw[if_pos c3] at h;cases h
 have c:(au b).2=0:=Classical.byContradiction c
 have c2:(aB (au b).1 0 []).2.2=0:=Classical.byContradiction c2
 obtain ⟨g1,_⟩:=gF hb c
 have:=Dl (au b).1 0 [] g1 c2 (fun x hx=>by cases hx)
 exact ⟨c,c2,rfl,by rw[this.1];simp,this.2⟩
theorem ip {bs:List aX}(h:∀x∈bs,0≤x.1∧x.1≤4611686018427387648∧1≤x.2.2.2.2.2.1.length∧x.2.2.2.2.2.1.length≤256):eT bs=true:=List.all_eq_true.2 fun x hx=>by
 obtain ⟨h1,h2,h3,h4⟩:=h x hx
 simp only[zA,zB]
 exact ⟨h1,h2,h4⟩
theorem Em:∀{bs:List aX},eT bs=true→db bs≤256*bs.length
 |[],_=>Nat.le_refl 0
 |x::bs,h=>by
  unfold eT at h
  rw[List.all_cons,zA] at h
  obtain ⟨h1,h2⟩:=h
  simp only[zA,zB] at h1
  have:=Em (bs:=bs) h2
  unfold db
  rw[zN]
  omega
theorem vr {b:LI}(h:(al b).2.2≠0):(al b).1=[]:=by
 unfold al at h ⊢
 split
 ·rfl
 rename_i c
 rw[if_neg c] at h
 split
 ·rfl
 rename_i c2
 rw[if_neg c2] at h
 split
 ·rfl
 rename_i c3
 rw[if_neg c3] at h
 exact absurd rfl h
end
end Go.Proofs.YthpcdhgpplmneaaGreatDoor.Sym
namespace Go.Proofs.YthpcdhgpplmneaaGreatDoor.Sym
open Go
open Go.IntKind (i8 i16 i32 i64 u8 u16 u32 u64)
noncomputable section
abbrev R7:Type:=LI×Int×Int×Int×Unit
def DK (d:R7):AS:=⟨[.one (.ptr 0 0),.one (.int .i64 d.2.1),.one (.int .i32 d.2.2.1)]++List.replicate 35 .any,[],[some [.ex 5 (.int .u8) 0 d.1 1 1,.int .i64 d.2.2.2.1]]⟩
def EC:Hd:=bA []
abbrev f32:Func:=Tryz.f95
def so:Func:={ f32 with results:=f32.results.push (.tmp 0) }
abbrev fN:Lo:=⟨⟨(.one (.ptr 0 0)::.one hI::.one hJ::.any::ai (.one hI::.any::ai [])),[some [.exl 5 (Ty.int u8) 2 2,hI]]⟩,[(.exit 0,⟨(.one (.ptr 0 0)::.any::ai (ai (bz []))),[some [.exl 5 (Ty.int u8) 2 2,hI]]⟩)]⟩
def gK (xs:LI)(p:Nat)(v:Int):LI:=(((xs.set p (v / 256 ^ 3 % 256)).set (p+1) (v / 256 ^ 2 % 256)).set (p+2) (v / 256 ^ 1 % 256)).set (p+3) (v / 256 ^ 0 % 256)
theorem vD (xs:LI)(p:Nat)(v:Int):(gK xs p v).length=xs.length:=by simp[gK]
theorem JN (A T:LI)(a b c d v:Int):gK (A++a::b::c::d::T) A.length v=A++(az v 4++T):=by
 simp[gK,az,List.set_append]
def o9 (d:fN.st.den):Tr (ao fN.xs):=
 .ite (decide (d.1.2.2.1=0)&&(decide ((0:Int)≤d.1.1)&&decide (d.1.1+4≤(d.2.1.1.length:Int)))) (.ret (.ret ((),((),((gK d.2.1.1 d.1.1.toNat d.1.2.1,(d.2.1.2.1,())),()))))) .no
def qZ:Lp:=bQ [(5,aG fN o9)]
def oT {R:Type}(h4 h5 h6:Int)(h7:LI)(h8:Int)(next:Int→Int→Int→LI→Int→Option R)(out:ao fN.xs→Option R):Option R:=bif decide (h6<4) then bif decide (0≤i64.wrap (24 - i64.wrap (8*h6))) then bif decide ((↑0:Int)≤i64.wrap (h4+h6))&&decide (i64.wrap (h4+h6)<(↑0:Int)+(↑h7.length:Int)) then next (h4) (h5) (i64.wrap (h6+1)) (ny 0 (i64.wrap (h4+h6)).toNat h7 (u8.wrap (eY i32 h5 (i64.wrap (24 - i64.wrap (8*h6)))))) (h8) else none else none else out (.ret ((),((),((h7,(h8,())),()))))
def mc (n:Nat)(h4 h5 h6:Int)(h7:LI)(h8:Int):Option (ao fN.xs):=fV tt EC dr qZ 1 so (b9 so 0) n (fN.st.mk' ((h4,(h5,(h6,()))),((h7,(h8,())),()))) (bH fN.xs)
theorem Dw (n:Nat)(h4 h5 h6:Int)(h7:LI)(h8:Int):mc (n+1) h4 h5 h6 h7 h8=oT h4 h5 h6 h7 h8 (mc n) some:=by kernel_rfl
theorem S7 {v:Int}(h:bt .i32 v){i:Nat}(hi:i≤3):u8.wrap (eY i32 v (i64.wrap (24 - i64.wrap (8*(i:Int)))))=v / 256 ^ (3 - i) % 256:=by
 simp[bt,IntKind.min,IntKind.max,IntKind.signed,IntKind.bits] at h
 rw[af (n:=8*(i:Int)) (by omega) (by omega),af (n:=24 - 8*(i:Int)) (by omega) (by omega)]
 unfold eY
 have e:min (24 - 8*(i:Int)).toNat (i32).bits=8*(3 - i):=by
  show min (24 - 8*(i:Int)).toNat 32=_
  omega
 rw[e,show (2:Int) ^ (8*(3 - i))=256 ^ (3 - i) by rw[Int.pow_mul];rfl]
 have hp:(0:Int)<256 ^ (3 - i):=Int.pow_pos (by decide)
 rw[Int.fdiv_eq_ediv_of_nonneg _ (Int.le_of_lt hp)]
 have hr:bt .i32 (v / 256 ^ (3 - i)):=by
  have h1:v / 256 ^ (3 - i)=v.fdiv (2 ^ (8*(3 - i))):=by
   rw[show (2:Int) ^ (8*(3 - i))=256 ^ (3 - i) by rw[Int.pow_mul];rfl,Int.fdiv_eq_ediv_of_nonneg _ (Int.le_of_lt hp)]
  have h2:=Cv .i32 (x:=v) (8*(3 - i)) (by simp[bt,IntKind.min,IntKind.max,IntKind.signed,IntKind.bits];omega)
  rw[h1,← h2]
  exact bS _ _
 rw[bY hr]
 simp[IntKind.wrap,IntKind.signed,IntKind.bits]
theorem LW {v:Int}(hv:bt .i32 v)(m:Int)(p k:Nat)(xs:LI)(h0:p+4≤xs.length)(hl:xs.length≤maxLen):mc (k+5) p v 0 xs m=some (.ret ((),((),((gK xs p v,(m,())),())))):=by
 rw[bg] at hl
 have go:∀(j i:Nat) (ys:LI),i≤3→ys.length=xs.length→mc (j+1) p v i ys m=mc j p v ((i+1:Nat):Int) (ys.set (p+i) (v / 256 ^ (3 - i) % 256)) m:=by
  intro j i ys hi hy
  rw[Dw]
  unfold oT
  rw[S7 hv hi]
  rw[af (n:=(p:Int)+(i:Int)) (by omega) (by omega),af (n:=(i:Int)+1) (by omega) (by omega),af (n:=8*(i:Int)) (by omega) (by omega),af (n:=24 - 8*(i:Int)) (by omega) (by omega)]
  refine bT (by simp;omega) ?_
  refine bT (by simp;omega) ?_
  refine bT (by simp only[zA,zB];omega) ?_
  rw[show ((p:Int)+(i:Int)).toNat=p+i by omega]
  rfl
 have g0:=go (k+4) 0 xs (by omega) rfl
 have g1:=go (k+3) 1 (xs.set (p+0) (v / 256 ^ (3 - 0) % 256)) (by omega) (by simp)
 have g2:=go (k+2) 2 ((xs.set (p+0) (v / 256 ^ (3 - 0) % 256)).set (p+1) (v / 256 ^ (3 - 1) % 256)) (by omega) (by simp)
 have g3:=go (k+1) 3 (((xs.set (p+0) (v / 256 ^ (3 - 0) % 256)).set (p+1) (v / 256 ^ (3 - 1) % 256)).set (p+2) (v / 256 ^ (3 - 2) % 256)) (by omega) (by simp)
 refine g0.trans (g1.trans (g2.trans (g3.trans ?_)))
 rw[Dw]
 unfold oT
 exact ae (by simp) _ _
theorem Sm:LpsOk prog 1 qZ (FK so) 0:=by
 refine .step (h0:=aG fN o9) (by kernel_rfl) (gi (cs:=[]) HcsOk.nil (lp:=qZ) (fn:=so) (.done (by kernel_rfl)) fN o9 ?_) (.done (by kernel_rfl))
 rintro ⟨⟨(p:Int),(v:Int),(i:Int),⟨⟩⟩,⟨⟨(xs:LI),(m:Int),⟨⟩⟩,⟨⟩⟩⟩ y hw hy
 obtain ⟨hg,hy⟩:=Tr.guard hy
 simp only[zA,zB] at hg
 obtain ⟨h1,h2,h3⟩:=hg
 have h1:i=0:=h1
 have h2:0≤p:=h2
 have h3:p+4≤(xs.length:Int):=h3
 subst h1
 obtain ⟨p,rfl⟩:=aA h2
 refine ⟨5,(LW (k:=0) hw.1.2.1 m p xs (by omega) hw.2.1.1.1).trans ?_⟩
 rw[← hy];rfl
def RG (ex:Ex)(A:AS):Option (Int×LI×Int):=match ex with
 |.ret=>match A.get 6,A.ob with
  |.one (.int .i64 r),some [.ex _ (.int .u8) lo xs _ _,.int .i64 m]::_=>bif Nat.beq lo 0 then some (r,xs,m) else none
  |_,_=>none
 |_=>none
theorem RH (xs:LI)(p v m:Int):ev tt EC dr qZ 1 (fR so) (bm so) (fR so) [] (DK (xs,p,v,m,())) RG=bif decide (p<0) then some ((3:Int),xs,m) else bif decide (i64.wrap ((↑0:Int)+(↑xs.length:Int) - 4)<p) then some ((3:Int),xs,m) else (o9 ((p,(v,(0,()))),((xs,(m,())),()))).run fun y=>match y with | .ret ((),((),(x16,x17,()),()))=>some ((0:Int),x16,x17):=by kernel_rfl
def Jy (w:World)(bw b:Nat):Nat→Nat→Prop:=fun b' o=>b'≠b∧b'≠bw∧∃v,w.cell? ⟨b',o,none⟩=some v
def Az (w:World)(bw b:Nat):Fra:=⟨w,fun b'=>b'=b∨b'=bw,Jy w bw b,fun k=>if k=0 then some bw else none⟩
def rP (w:World)(bw b:Nat):Gh:=⟨Jy w bw b,fun k=>if k=0 then some bw else none,fun j=>if j=1 then some (b,0) else none⟩
theorem NA {w:World}{bw b:Nat}(hw:bw<w.heap.size)(hb:b<w.heap.size)(hne:bw≠b)(ht:j8 (Jy w bw b) w):GhOk (Az w bw b) (rP w bw b) w where
 mu:=fun k b' h=>by
  simp only[rP] at h
  split at h
  ·cases h;exact ⟨.inr (.inr rfl),fun _ h=>h.2.1 rfl,hw⟩
  ·cases h
 muI:=fun k k' b' h h'=>by
  simp only[rP] at h h'
  split at h <;> split at h'
  ·rename_i e1 e2;exact e1.trans e2.symm
  ·cases h'
  ·cases h
  ·cases h
 ow:=fun i b' l h=>by
  simp only[rP] at h
  split at h
  ·cases h
   refine ⟨fun _ _ h=>h.1 rfl,.inr (.inl rfl),hb,fun k h=>?_⟩
   simp only[rP] at h
   split at h
   ·cases h;exact hne rfl
   ·cases h
  ·cases h
 owI:=fun i j b' l l' h h'=>by
  simp only[rP] at h h'
  split at h <;> split at h'
  ·rename_i e1 e2;exact e1.trans e2.symm
  ·cases h'
  ·cases h
  ·cases h
 sB:=fun b' o h=>by
  obtain ⟨_,_,v,h⟩:=h
  unfold World.cell? at h
  split at h
  ·rename_i e
   exact (Array.getElem?_eq_some_iff.1 e).1
  ·cases h
 fr:=⟨rfl,rfl,rfl,Nat.le_refl _,fun _ _ _=>rfl⟩
 sub:=fun _ _ h=>h
 sup:=fun _ _ h=>.inl h
 keep:=fun _ _ _=>rfl
 fix_:=fun _ _ h=>h
 tab:=ht
theorem Jz (w:World)(xs:LI)(m v:Int)(bw b cap n:Nat)(curw cur:Array Value)(elw el:TypeId)(hw:w.heap[bw]?=some (.cells curw elw (0,0)))(hcw:curw.toList=[.slice (some ⟨b,0,none⟩) n cap,.int .i64 m])(hn:n=xs.length)
  (hh:w.heap[b]?=some (.cells cur el (0,0))) (hcs:cur.size=cap) (hle:xs.length≤cap) (hcap:cap≤maxLen) (hne:bw≠b) (ht:j8 (Jy w bw b) w) (h21:21≤xs.length) (hv:bt .i32 v) (hmm:bt .i64 m)
  (hx:∀(k:Nat) (x:Int),xs[k]?=some x→bt .u8 x∧cur[k]?=some (Value.int .u8 x)):
  Calls prog 95 #[.pointer (some ⟨bw,0,none⟩),.int .i64 17,.int .i32 v] w fun e w'=>e=.returned (.int .i64 0)∧(Az w bw b).ok w'∧(∀b' o,Jy w bw b b' o→w'.cell? ⟨b',o,none⟩=w.cell? ⟨b',o,none⟩)∧
   ∃(b2 cap2:Nat) (curw2 cur2:Array Value) (elw2 el2:TypeId) (m':Int),w'.heap[bw]?=some (.cells curw2 elw2 (0,0))∧curw2.toList=[.slice (some ⟨b2,0,none⟩) xs.length cap2,.int .i64 m']∧(b2=b∨w.heap.size≤b2)∧b2≠bw∧b2<w'.heap.size∧
    w'.heap[b2]?=some (.cells cur2 el2 (0,0))∧cur2.size=cap2∧xs.length≤cap2∧cap2≤maxLen∧m'=m∧∀(k:Nat) (x:Int),(gK xs 17 v)[k]?=some x→bt .u8 x∧cur2[k]?=some (Value.int .u8 x):=by
 have htt:=fg Tryz.prog 400
 have hc:f32.body=some (bm so):=by kernel_rfl
 refine calls_of_wp (P:=prog) (fn:=f32) (by kernel_rfl) hc ?_
 have hxl:(xs.length:Int)≤9223372036854775807:=by rw[bg] at hcap;omega
 have R0:Rel (Az w bw b) (rP w bw b) (DK (xs,17,v,m,())) (#[.pointer (some ⟨bw,0,none⟩),.int .i64 17,.int .i32 v]++Array.replicate (f32.ntmps - 3) undef) [] w:=by
  refine ⟨?_,trivial,fun k cs hk=>?_,NA (G6 hw) (G6 hh) hne ht⟩
  ·rw[show f32.ntmps - 3=35 by kernel_rfl,Array.toList_append,Array.toList_replicate]
   exact ⟨⟨bw,rfl,rfl⟩,⟨rfl,(⟨by decide,by decide⟩:bt .i64 17)⟩,⟨rfl,hv⟩,All2.replicate (R:=Rv (rP w bw b) w) (a:=.any) (b:=undef) trivial 35⟩
  ·cases k with
   |succ k=>simp[DK] at hk
   |zero=>
    simp only[DK,List.getElem?_cons_zero,zC] at hk
    subst hk
    refine ⟨bw,_,rfl,hw,.inl ⟨curw,elw,rfl,?_⟩⟩
    rw[hcw]
    refine ⟨.inr ⟨b,cap,by rw[hn,Nat.zero_add],⟨by decide,by decide,.inl rfl⟩,cur,el,hh,by rw[hcs];simp[Ty.size],by rw[Nat.zero_add];exact hle,hcap,fun k x hk=>?_⟩,⟨rfl,hmm⟩,trivial⟩
    obtain ⟨h1,h2⟩:=hx k x hk
    refine ⟨[.int .u8 x],⟨rfl,h1⟩,fun q u hq=>?_⟩
    cases q with
    |succ q=>simp at hq
    |zero=>
     simp only[List.getElem?_cons_zero,zC] at hq
     subst hq
     simpa [Ty.size] using h2
 have hrun:ev tt EC dr qZ 1 (fR so) (bm so) (fR so) [] (DK (xs,17,v,m,())) RG=some (0,gK xs 17 v,m):=by
  refine (RH xs 17 v m).trans ?_
  refine bF (by decide) ?_
  rw[af (n:=(0:Int)+(xs.length:Int) - 4) (by omega) (by omega)]
  refine bF (decide_eq_false (by omega)) ?_
  unfold o9
  refine bT (by simp only[zA,zB];exact ⟨trivial,by decide,show (17:Int)+4≤(xs.length:Int) by omega⟩) ?_
  rfl
 have hkb:∀d,(Az w bw b).mu0 (1+d)=none:=fun d=>if_neg (by omega)
 refine dG htt hm (jF HcsOk.nil) (eQ htt) hkb (lp:=qZ) (bm so) (Sm.all) hrun R0 ?_
 intro ex A' G' a' w' R' hd hk
 cases ex with
 |normal=>cases hk
 |exit i=>cases hk
 |panic v=>cases hk
 |ret=>
  refine ⟨hd,?_⟩
  unfold RG at hk
  simp only at hk
  split at hk
  ·rename_i r0 e lo ys i j m0 rest e1 e2
   cases hz:Nat.beq lo 0 with
   |false=>rw[hz] at hk;cases hk
   |true=>
    rw[hz] at hk
    have hz:=Nat.eq_of_beq_eq_true hz
    subst hz
    simp only[cond_true,zC,zD] at hk
    obtain ⟨rfl,hys,rfl⟩:=hk
    have hyl:ys.length=xs.length:=by rw[hys];exact vD _ _ _
    have e0:f32.results.toList=[.tmp 6]:=by kernel_rfl
    obtain ⟨us,hres,hus⟩:=rO (P:=prog) htt R' f32 (by
     rw[e0]
     intro v hv
     simp only[zL,List.map_nil,List.mem_singleton] at hv
     subst hv
     show A'.get 6≠.any
     rw[e1]
     exact fun h=>by cases h)
    rw[e0] at hus
    obtain ⟨u,rfl,hu⟩:∃u,us=[u]∧Rv G' w' (A'.get 6) u:=by
     cases us with
     |nil=>exact hus.elim
     |cons u us=>
      cases us with
      |nil=>exact ⟨u,rfl,hus.1⟩
      |cons _ _=>exact hus.2.elim
    rw[e1] at hu
    have hu:u=.int .i64 0:=hu.1
    subst hu
    obtain ⟨bo,oo,hm0,hh0,ho⟩:=R'.ob 0 [.ex e (.int .u8) 0 ys i j,.int .i64 m0] (by rw[e2];rfl)
    have hfx:=R'.gh.fix_ 0 bw rfl
    rw[hfx] at hm0
    cases hm0
    obtain ⟨curw2,elw2,rfl,hcs2⟩:=ho.cells (by simp[C.isItr])
    obtain ⟨v1,v2,hv12,hv1,hv2⟩:∃v1 v2,curw2.toList=[v1,v2]∧Rc G' w' (.ex e (.int .u8) 0 ys i j) v1∧Rc G' w' (.int .i64 m0) v2:=by
     match hl:curw2.toList with
     |[]=>rw[hl] at hcs2;exact hcs2.elim
     |[_]=>rw[hl] at hcs2;exact hcs2.2.elim
     |[v1,v2]=>rw[hl] at hcs2;exact ⟨v1,v2,rfl,hcs2.1,hcs2.2.1⟩
     |_::_::_::_=>rw[hl] at hcs2;exact hcs2.2.2.elim
    have hv2:v2=.int .i64 m0:=hv2.1
    subst hv2
    rcases hv1 with ⟨_,hnil,_⟩ | ⟨b2,cap2,rfl,⟨_,_,how⟩,cur2,el2,g1,g2,g3,g4,g5⟩
    ·rw[hnil] at hyl;simp at hyl;omega
    obtain ⟨l,how⟩:∃l,G'.ow l=some (b2,0):=by rcases how with h | h <;> exact ⟨_,h⟩
    obtain ⟨_,k2,k3,k4⟩:=R'.gh.ow l b2 0 how
    have hb2:b2≠bw:=by rintro rfl;exact k4 0 hfx
    rw[Nat.zero_add] at hv12 g3
    refine ⟨_,hres,rfl,R'.gh.fr,fun b' o hs=>R'.gh.keep b' o hs,b2,cap2,curw2,cur2,elw2,el2,m0,hh0,by rw[hv12,hyl],?_,hb2,k3,g1,by rw[g2];simp[Ty.size],by omega,g4,rfl,fun k x hk=>?_⟩
    ·rcases k2 with h | h | h
     ·exact .inr h
     ·exact .inl h
     ·exact absurd h hb2
    ·rw[← hys] at hk
     obtain ⟨c,⟨rfl,hin⟩,hq⟩:=g5 k x hk
     have:=hq 0 _ rfl
     exact ⟨hin,by simpa [Ty.size] using this⟩
  ·cases hk
end
end Go.Proofs.YthpcdhgpplmneaaGreatDoor.Sym
namespace Go.Proofs.YthpcdhgpplmneaaGreatDoor.Sym
open Go
noncomputable section
abbrev pz:Io:=je
def FT (d:pz.In):Tr pz.Res:=
 .ite (cz (aI d.1.1.2.2.2.2.2.1) d.1.1.2.2.2.2.2.1 0&&decide (aO d.1.1≠0)) (.ret (.ret ((([]:LI),(aO d.1.1,())),()))) .no
theorem Mq:HcOk prog 87 (ah pz FT):=by
 refine HcOk.weakB HP ?_
 rintro ⟨⟨(b:aX),⟨⟩⟩,⟨⟩⟩ y hw hy
 obtain ⟨hg,hy⟩:=Tr.guard hy
 simp only[zA,zB] at hg
 obtain ⟨h1,h2⟩:=hg
 rw[← hy]
 have e:eV b=([],aO b):=by unfold eV;rw[if_pos h2]
 show (qx ((b,()),())).val=some (.ret ((([]:LI),(aO b,())),()))
 unfold qx
 rw[Tr.val_ite,if_pos h1,Tr.val_ret]
 show oR (((eV b).1,((eV b).2,())),())=_
 rw[e]
abbrev pA:Io:=je
def FU (d:pA.In):Tr pA.Res:=
 .ite (cz (aI d.1.1.2.2.2.2.2.1) d.1.1.2.2.2.2.2.1 0&&decide (aO d.1.1=0)) (.ret (.ret (((bp d.1.1.2.2.2.2.2.1).1,(0,())),()))) .no
theorem Mr:HcOk prog 87 (ah pA FU):=by
 refine HcOk.weakB HP ?_
 rintro ⟨⟨(b:aX),⟨⟩⟩,⟨⟩⟩ y hw hy
 obtain ⟨hg,hy⟩:=Tr.guard hy
 simp only[zA,zB] at hg
 obtain ⟨h1,h2⟩:=hg
 rw[← hy]
 have e:eV b=((bp b.2.2.2.2.2.1).1,0):=by unfold eV;rw[if_neg (by rw[h2];exact fun h=>h rfl)]
 show (qx ((b,()),())).val=some (.ret (((bp b.2.2.2.2.2.1).1,(0,())),()))
 unfold qx
 rw[Tr.val_ite,if_pos h1,Tr.val_ret]
 show oR (((eV b).1,((eV b).2,())),())=_
 rw[e]
abbrev G9:Io:=⟨[BS,dB],[],[],[dO,dI],none⟩
abbrev Gd:List (Nat×Hc):=[(87,ah pz FT)]
def OB:Hd:=bA Gd
def Hg:Lp:=bQ []
def wu (a0 a1 a2 a3 a4:Int)(a5:List bv.den)(a6:Bool):Option G9.Res:=bif cz (aI a5) a5 0&&decide (aO (a0,a1,a2,a3,a4,a5,())≠0) then bif aO (a0,a1,a2,a3,a4,a5,()) != 0 then oR (([],aO (a0,a1,a2,a3,a4,a5,()),()),()) else bif a6 then none else none else none
theorem MW (a0 a1 a2 a3 a4:Int)(a5:List bv.den)(a6:Bool):Io.run tt OB dr Hg G9 Tryz.f65 (((a0,a1,a2,a3,a4,a5,()),a6,()),())=wu a0 a1 a2 a3 a4 a5 a6:=by kernel_rfl
end
end Go.Proofs.YthpcdhgpplmneaaGreatDoor.Sym
namespace Go.Proofs.YthpcdhgpplmneaaGreatDoor.Sym
open Go
open Go.IntKind (i8 i16 i32 i64 u8 u16 u32 u64)
noncomputable section
def vI:Nat→Code→Code
 |0,c=>c
 |n+1,.seq _ b=>vI n b
 |_+1,c=>c
def QN (tt:TT)(hd:Hd)(dr:Dr)(lr:Nat){R:Type}:Nat→Code→AS→(AS→Option R)→Option R
 |0,_,A,K=>K A
 |n+1,.seq a b,A,K=>ev tt hd dr (fun _=>none) 0 lr a lr [] A fun ex A=>match ex with
  |.normal=>QN tt hd dr lr n b A K
  |_=>none
 |_+1,_,_,_=>none
theorem Ez {P:Program}{tt:TT}(htt:cD P tt)(hm:P.follows .mixedOrders=true){hd:Hd}(hh:kl P hd){okDraw:Dr}(hdr:jB P tt okDraw){R:Type}{F:Fra}{cst:List (Array Value)}{lr:Nat}(hkb:∀d,F.mu0 (0+d)=none){r:R}{Q:Exit→Act→World→Prop}:
  ∀(n:Nat) (c:Code) {G:Gh} {A:AS} {a:Act} {w:World} {K:AS→Option R},QN tt hd okDraw lr n c A K=some r→Rel F G A a.tmps cst w→
   (∀A' G' a' w',Rel F G' A' a'.tmps cst w'→a'.defers=a.defers→K A'=some r→(vI n c).wp P Q a' w')→c.wp P Q a w:=by
 intro n
 induction n with
 |zero=>intro c G A a w K h Rl k;exact k A G a w Rl rfl h
 |succ n ih=>
  intro c G A a w K h Rl k
  cases c with
  |seq x y=>
   refine wp_seq (dG htt hm hh hdr hkb (lp:=fun _=>none) x (fun _ _ _ h=>by cases h) h Rl ?_)
   intro ex A1 G1 a1 w1 R1 hd1 h1
   cases ex with
   |normal=>exact ih y h1 R1 (by rw[hd1];exact k)
   |exit i=>cases h1
   |ret=>cases h1
   |panic v=>cases h1
  |_=>cases h
theorem Km {G:Gh}{w:World}:∀{n:Nat} {us:List Value},us.length=n→All2 (Rv G w) (List.replicate n .any) us
 |0,[],_=>trivial
 |n+1,_::us,h=>⟨trivial,Km (n:=n) (us:=us) (by simpa using h)⟩
 |0,_::_,h=>by cases h
 |_+1,[],h=>by cases h
abbrev fE:Func:=Tryz.f65
abbrev KE:List (Nat×Hc):=[(87,ah pA FU),(77,ah jc yk),(89,ah uG J6),(90,ah uF J5),(91,ah uE J4),(93,ah zl Qr),(92,ah Hb R6),(94,ah uH J7),(97,ah gz sJ),(96,ah jg yq)]
theorem zc:HcsOk prog KE:=.cons Mr (.cons HM (.cons Mu (.cons Mt (.cons Ms (.cons Rf (.cons Sq (.cons Mv (.cons Db (.cons HQ .nil)))))))))
def zd:Hd:=bA KE
abbrev jG:Io:=⟨[BS,dB],[],[],[dO,dI],none⟩
def QK (A:AS):Option (LI×Int×Int):=match A.stk,A.get 9,A.get 94,A.get 100 with
 |[],.one (.ptr k 0),.one (.ptr k' 0),.one (.int .i32 v)=>match A.ob[k]? with
  |some (some [.lst _ (.int .u8) xs own,.int .i64 m])=>bif Nat.beq A.tm.length 104&&(Nat.beq k k'&&!Nat.beq own 0) then some (xs,m,v) else none
  |_=>none
 |_,_,_,_=>none
def iL:Array Oper:=iN (lc (vI 20 (bm fE)))
def rc:Code:=iP (vI 20 (bm fE))
def SR (b:aX)(packed:Bool):Option (LI×Int×Int):=
 QN tt zd dr (fR fE) 20 (bm fE) (Io.start jG fE.ntmps ((b,packed,()),())) fun A=>lm tt zd 0 iL (List.range 7) A fun ex A=>match ex with
  |.normal=>QK A
  |_=>none
def df {R:Type}(L:LI)(n:Nat)(p:LI)(K:LI→Option R):Option R:=bif lz L 36000 n then K (L++p) else none
def y7 (a0 a1 a2 a3 a4:Int)(a5:List bv.den)(a6:Bool):Option (LI×Int×Int):=
 bif cz (aI a5) a5 0&&decide (aO (a0,a1,a2,a3,a4,a5,())=0) then bif a6 then none else
  df [] 8 (az a0 8) fun L=>df L 4 (az (i32.wrap (i64.wrap (49+((bp a5).1.length:Int)))) 4) fun L=>df L 4 (az a1 4) fun L=>df L 1 (az 2 1) fun L=>df L 4 (az 0 4) fun L=>df L 2 (az 0 2) fun L=>
  df L 4 (az (i32.wrap (i64.wrap ((a5.length:Int) - 1))) 4) fun L=>bif decide ((0:Int)≤0)&&decide ((0:Int)<(a5.length:Int)) then df L 8 (az (a5.getD (Int.toNat 0) (0,(false,[],()),(false,[],()),[],())).1 8) fun L=>
  bif decide (1≤a5.length) then df L 8 (az (dD a5) 8) fun L=>df L 8 (az a2 8) fun L=>df L 2 (az a3 2) fun L=>df L 4 (az a4 4) fun L=>df L 4 (az (i32.wrap (a5.length:Int)) 4) fun L=>
  df L (ap [(bp a5).1]) (bP [(bp a5).1]) fun L=>bif decide (List.length L≤4294967296) then bif decide ((0:Int)≤21)&&(decide ((21:Int)≤(L.length:Int))&&decide ((L.length:Int)≤(L.length:Int))) then
   some (L,36000,i32.wrap (rh [List.drop (Int.toNat 21) (List.take (L.length:Int).toNat L)] 0)) else none else none else none else none else none
theorem QL (a0 a1 a2 a3 a4:Int)(a5:List bv.den)(a6:Bool):SR (a0,a1,a2,a3,a4,a5,()) a6=y7 a0 a1 a2 a3 a4 a5 a6:=by kernel_rfl
def B0 (xs:LI)(m:Int):AS:=⟨(List.replicate 104 .any).set 9 (.one (.ptr 0 0)),[],[some [.lst 5 (.int .u8) xs 1,.int .i64 m]]⟩
theorem Ot (xs:LI)(m:Int):ev tt zd dr (fun _=>none) 0 (fR fE) rc (fR fE) [] (B0 xs m) (Io.fin tt jG fE)=bif decide (xs.length≤4294967296) then some (.ret ((xs,0,()),())) else none:=by kernel_rfl
theorem Ou {xs:LI}{m v:Int}{out:jG.Res}{F:Fra}{G2:Gh}{A2:AS}{a2:Act}{cst:List (Array Value)}{w w2:World}{R:Ending→World→Prop}
  (hkb:∀d,F.mu0 (0+d)=none) (hq:F.w0=w∧∀b,¬ F.X b) (hS0:∀b o,F.S0 b o→b<w.heap.size) (htab:j8 F.S0 F.w0)
  (R2:Rel F G2 A2 a2.tmps cst w2) (hd2:a2.defers=[]) (hK:QK A2=some (xs,m,v)) (h21:21≤xs.length)
  (hrest:ev tt zd dr (fun _=>none) 0 (fR fE) rc (fR fE) [] (B0 (gK xs 17 v) m) (Io.fin tt jG fE)=some out)
  (hend:∀ex A' G' a' w',Rel F G' A' a'.tmps cst w'→Io.fin tt jG fE ex A'=some out→QF prog fE R ex G' a' w'):
  wpOps prog iL (Exit.then (rc.wp prog (bodyPost prog fE R)) (bodyPost prog fE R)) [7] a2 w2:=by
 have htt:=fg Tryz.prog 400
 have hX:∀b,F.mine b→w.heap.size≤b:=fun b h=>by
  rcases h with h | h
  ·rw[hq.1] at h;exact h
  ·exact absurd h (hq.2 b)
 unfold QK at hK
 split at hK
 rotate_left
 ·cases hK
 rename_i k k' v' hstk e9 e94 e100
 split at hK
 rotate_left
 ·cases hK
 rename_i e xs' own m' eob
 cases hck:Nat.beq A2.tm.length 104&&(Nat.beq k k'&&!Nat.beq own 0) with
 |false=>rw[hck] at hK;cases hK
 |true=>
 rw[hck] at hK
 simp only[cond_true,zC,zD] at hK
 obtain ⟨rfl,rfl,rfl⟩:=hK
 simp only[zA,Bool.not_eq_true'] at hck
 obtain ⟨hl104,hkk,hown⟩:=hck
 have hl104:=Nat.eq_of_beq_eq_true hl104
 have hkk:=Nat.eq_of_beq_eq_true hkk
 subst hkk
 have hown:own≠0:=fun h=>by rw[h] at hown;cases hown
 have hcst:cst=[]:=by
  have:=R2.stk
  rw[hstk] at this
  cases cst with
  |nil=>rfl
  |cons _ _=>exact this.elim
 have v9:=R2.get 9
 rw[e9] at v9
 obtain ⟨bw,hbw,v9⟩:=v9
 have v94:=R2.get 94
 rw[e94] at v94
 obtain ⟨bw',hbw',v94⟩:=v94
 rw[hbw] at hbw'
 cases hbw'
 have v100:=R2.get 100
 rw[e100] at v100
 obtain ⟨v100,hvr⟩:=v100
 obtain ⟨bo,curw,elw,hbo,hhw,hcs⟩:=R2.ob.cells eob (by simp[C.isItr])
 rw[hbw] at hbo
 cases hbo
 obtain ⟨v1,v2,hv12,hv1,hv2⟩:∃v1 v2,curw.toList=[v1,v2]∧Rc G2 w2 (.lst e (.int .u8) xs' own) v1∧Rc G2 w2 (.int .i64 m') v2:=by
  match hl:curw.toList with
  |[]=>rw[hl] at hcs;exact hcs.elim
  |[_]=>rw[hl] at hcs;exact hcs.2.elim
  |[v1,v2]=>rw[hl] at hcs;exact ⟨v1,v2,rfl,hcs.1,hcs.2.1⟩
  |_::_::_::_=>rw[hl] at hcs;exact hcs.2.2.elim
 obtain ⟨rfl,hmr⟩:=hv2
 obtain ⟨Ad,cap,rfl,hle,hcap,hrow,hownA⟩:=hv1
 have hne:xs'≠[]:=fun h=>by rw[h] at h21;simp at h21
 rcases hownA with h | ⟨h,h'⟩ | ⟨b,cur,el,rfl,how,hhb,hcsz⟩
 ·exact absurd h hown
 ·subst h
  obtain ⟨_,_,h,_⟩:=hrow hne
  cases h
 obtain ⟨k1,k2,k3,k4⟩:=R2.gh.ow own b _ how
 obtain ⟨m1,m2,m3⟩:=R2.gh.mu k bw hbw
 have hbne:bw≠b:=fun h=>k4 k (by rw[hbw,h])
 obtain ⟨b',o',hA,hel⟩:=hrow hne
 cases hA
 have hx:∀(k:Nat) (x:Int),xs'[k]?=some x→bt .u8 x∧cur[k]?=some (Value.int .u8 x):=by
  intro k x hk
  obtain ⟨c,⟨rfl,hin⟩,hat⟩:=hel k x hk
  obtain ⟨_,hc⟩:=hat 0 _ rfl
  refine ⟨hin,?_⟩
  rw[ew hhb] at hc
  simpa [Ty.size] using hc
 have hSne:∀b' o,F.S0 b' o→b'≠b∧b'≠bw:=by
  intro b' o h
  have:=hS0 b' o h
  have h1:=hX b k2
  have h2:=hX bw m1
  omega
 have htab2:j8 (Jy w2 bw b) w2:=by
  intro g i hg hi
  obtain ⟨t1,t2⟩:=htab g i hg hi
  have t3:=R2.gh.tabs g i hg hi
  exact ⟨⟨(hSne _ _ t1).1,(hSne _ _ t1).2,_,t3.2⟩,t3.2⟩
 have hcalls:=Jz w2 xs' m' v' bw b cap xs'.length curw cur elw el hhw hv12 rfl hhb (by rw[hcsz];simp[Ty.size]) hle hcap hbne htab2 h21 hvr hmr hx
 simp only[wpOps]
 have ho:iL[7]?=some { dst:=some 101,op:=.call { callee:=.value (.func 95),args:=#[.tmp 94,.const (.int .i64 17),.tmp 100],argTypes:=(match ((iL[7]?).getD iL[0]!).op with | .call c=>c.argTypes | _=>#[]) },type:=((iL[7]?).getD iL[0]!).type,pos:=((iL[7]?).getD iL[0]!).pos,after:=((iL[7]?).getD iL[0]!).after,guard:=none }:=by kernel_rfl
 rw[ho]
 simp only
 rw[if_pos (by simp[Region.wanted])]
 refine .inl ?_
 have hfn:FnOk prog 95:=⟨f32,by kernel_rfl,by kernel_rfl,by kernel_rfl⟩
 have hev:a2.eval (.tmp 94)=.pointer (some ⟨bw,0,none⟩):=v94
 have hev2:a2.eval (.tmp 100)=.int .i32 v':=v100
 unfold Oper.wp
 have hrun:∀o:Oper,o.op=.call { callee:=.value (.func 95),args:=#[.tmp 94,.const (.int .i64 17),.tmp 100],argTypes:=(match ((iL[7]?).getD iL[0]!).op with | .call c=>c.argTypes | _=>#[]) }→(execOp a2.eval o).run prog w2=.ok (.enter 95 #[.pointer (some ⟨bw,0,none⟩),.int .i64 17,.int .i32 v']) w2:=by
  intro o ho
  simp[execOp,ho,resolve,Act.eval,Deferred.ofValue,invoke,hfn.run]
  exact ⟨by rw[← Array.getD_eq_getD_getElem?];exact v94,by rw[← Array.getD_eq_getD_getElem?];exact v100⟩
 rw[hrun _ rfl]
 simp only[Oper.upon]
 refine hcalls.mono fun en w3 ⟨hen,hfr,hkeep,b2,cap2,curw2,cur2,elw2,el2,m2',g1,g2,g3,g4,g5,g6,g7,g8,g9,g10,g11⟩=>?_
 subst hen
 subst g10
 show rc.wp prog (bodyPost prog fE R) (a2.put (some 101) (.int .i64 0)) w3
 have R2p:=R2.puts (v:=.any) (u:=.int .i64 0) trivial (some 101)
 have hlen:(a2.put (some 101) (.int .i64 0)).tmps.toList.length=104:=by
  rw[← R2p.tm.length]
  show (A2.put (some 101) .any).tm.length=104
  simp[AS.put,hl104]
 have hget9:(a2.put (some 101) (.int .i64 0)).tmps.toList[9]?=some (.pointer (some ⟨bw,0,none⟩)):=by
  have h9:A2.tm[9]?=some (.one (.ptr k 0)):=by
   unfold AS.get at e9
   rw[List.getD_eq_getElem?_getD] at e9
   cases h:A2.tm[9]? with
   |none=>rw[h] at e9;cases e9
   |some x=>rw[h] at e9;simpa using e9
  have h9':(A2.put (some 101) .any).tm[9]?=some (.one (.ptr k 0)):=by
   simp[AS.put,List.getElem?_set,h9]
  obtain ⟨u,hu,hr⟩:=R2p.tm.get h9'
  obtain ⟨bq,hbq,hr⟩:=hr
  rw[hbw] at hbq
  cases hbq
  rw[hu,hr]
 have hsz:w2.heap.size≤w3.heap.size:=hfr.size
 have hsz0:w.heap.size≤w2.heap.size:=by have:=R2.gh.fr.size;rw[hq.1] at this;exact this
 have hb2m:F.mine b2:=by
  rcases g3 with h | h
  ·rw[h];exact k2
  ·exact .inl (by rw[hq.1];omega)
 have hb2w:w.heap.size≤b2:=hX b2 hb2m
 have hbww:w.heap.size≤bw:=hX bw m1
 have hblk:∀j,j<w.heap.size→w3.heap[j]?=w2.heap[j]?:=by
  intro j hj
  refine hfr.block j (show j<w2.heap.size by omega) ?_
  rintro (h | h)
  ·have:=hX b k2;omega
  ·omega
 have hslen:(gK xs' 17 v').length=xs'.length:=vD _ _ _
 have gh3:GhOk F ⟨fun b' o=>F.S0 b' o∨(b'=b2∧o<xs'.length),fun k=>if k=0 then some bw else none,fun i=>if i=1 then some (b2,xs'.length) else none⟩ w3:=by
  refine { mu:=?_,muI:=?_,ow:=?_,owI:=?_,sB:=?_,fr:=?_,sub:=?_,sup:=?_,keep:=?_,fix_:=?_,tab:=htab }
  ·intro key bb h
   simp only at h
   split at h
   ·cases h
    refine ⟨m1,?_,by omega⟩
    rintro o (h | h)
    ·have:=hS0 _ _ h;omega
    ·exact g4 h.1.symm
   ·cases h
  ·intro key key' bb h h'
   simp only at h h'
   split at h <;> split at h'
   ·rename_i q1 q2;exact q1.trans q2.symm
   ·cases h'
   ·cases h
   ·cases h
  ·intro i bb l h
   simp only at h
   split at h
   ·cases h
    refine ⟨?_,hb2m,g5,?_⟩
    ·rintro o ho (h | h)
     ·have:=hS0 _ _ h;omega
     ·have:=h.2;omega
    ·intro key h
     simp only at h
     split at h
     ·cases h;exact g4 rfl
     ·cases h
   ·cases h
  ·intro i j bb l l' h h'
   simp only at h h'
   split at h <;> split at h'
   ·rename_i q1 q2;exact q1.trans q2.symm
   ·cases h'
   ·cases h
   ·cases h
  ·rintro bb o (h | h)
   ·have:=hS0 _ _ h;omega
   ·rw[h.1];exact g5
  ·have f2:=R2.gh.fr
   refine ⟨hfr.os.trans f2.os,hfr.tape.trans f2.tape,hfr.output.trans f2.output,by rw[hq.1];omega,fun j hj hx=>?_⟩
   rw[hq.1] at hj
   rw[hblk j hj]
   exact f2.block j (by rw[hq.1];exact hj) hx
  ·exact fun _ _ h=>.inl h
  ·rintro bb o (h | h)
   ·exact .inl h
   ·rw[h.1];exact .inr hb2m
  ·intro bb o h
   rw[← R2.gh.keep bb o h]
   have:=hblk bb (hS0 bb o h)
   unfold World.cell?
   rw[this]
  ·intro key bb h
   have:=hkb key
   rw[Nat.zero_add] at this
   rw[this] at h
   cases h
 have R3:Rel F ⟨fun b' o=>F.S0 b' o∨(b'=b2∧o<xs'.length),fun k=>if k=0 then some bw else none,fun i=>if i=1 then some (b2,xs'.length) else none⟩ (B0 (gK xs' 17 v') m2') (a2.put (some 101) (.int .i64 0)).tmps cst w3:=by
  refine ⟨?_,by rw[hcst];exact trivial,?_,gh3⟩
  ·refine All2.set_left 9 (Km hlen) fun u hu=>?_
   rw[hget9] at hu
   cases hu
   exact ⟨bw,rfl,rfl⟩
  ·intro key cs hk
   cases key with
   |succ key=>simp[B0] at hk
   |zero=>
    simp only[B0,List.getElem?_cons_zero,zC] at hk
    subst hk
    refine ⟨bw,_,rfl,g1,.inl ⟨curw2,elw2,rfl,?_⟩⟩
    rw[g2]
    refine ⟨⟨some ⟨b2,0,none⟩,cap2,by rw[hslen],by rw[hslen];exact g8,g9,?_,?_⟩,⟨rfl,hmr⟩,trivial⟩
    ·intro _
     refine ⟨b2,0,rfl,fun i x hx=>?_⟩
     obtain ⟨q1,q2⟩:=g11 i x hx
     have hi:i<xs'.length:=by
      rw[← hslen]
      exact (List.getElem?_eq_some_iff.1 hx).1
     refine ⟨[.int .u8 x],⟨rfl,q1⟩,fun j u hj=>?_⟩
     cases j with
     |succ j=>simp at hj
     |zero=>
      simp only[List.getElem?_cons_zero,zC] at hj
      subst hj
      refine ⟨.inr ⟨rfl,?_⟩,?_⟩
      ·simp[Ty.size];omega
      ·rw[ew g6]
       simpa [Ty.size] using q2
    ·exact .inr (.inr ⟨b2,cur2,el2,rfl,by simp[Ty.size,hslen],g6,by rw[g7];simp[Ty.size]⟩)
 refine dG htt hm (jF zc) (eQ htt) hkb (lp:=fun _=>none) rc (fun _ _ _ h=>by cases h) hrest R3 ?_
 intro ex A' G' a' w' R' hdf hk
 have hdf:a'.defers=[]:=hdf.trans ((Act.put_defers' _ _ _).trans hd2)
 have:=hend ex A' G' a' w' R' hk
 cases ex with
 |normal=>exact ⟨hdf,this⟩
 |ret=>exact ⟨hdf,this⟩
 |exit i=>exact this.elim
 |panic u=>exact fun u hu=>⟨hdf,this u hu⟩
theorem yW {P:Program}{tt:TT}(htt:cD P tt)(hm:P.follows .mixedOrders=true){hd:Hd}(hh:kl P hd){okDraw:Dr}(hdr:jB P tt okDraw){f:Nat}{fn:Func}(hf:P.funcs[f]?=some fn){c:Code}(hc:fn.body=some c){io:Io}{lp:Lp}
  (hlp:∀e∈bM (fR fn) c (fR fn) [],∀h,lp (cW e.2.1)=some h→sk P io.obs.length e.2.1 h) {d:io.In} {out:io.Res} (hrun:io.run tt hd okDraw lp fn d=some out):JZ P tt f fn io d out:=by
 intro F G cst w vals R Rl hkb _ hend
 simp only[Io.run,hc] at hrun
 refine calls_of_wp hf hc (dG htt hm hh hdr hkb c hlp hrun Rl ?_)
 intro ex A' G' a' w' R' hdf hk
 have:=hend ex A' G' a' w' R' hk
 cases ex with
 |normal=>exact ⟨hdf,this⟩
 |ret=>exact ⟨hdf,this⟩
 |exit i=>exact this.elim
 |panic v=>exact fun u hu=>⟨hdf,this u hu⟩
theorem NO (v:Int){n:Nat}(h:n≤4):az (i32.wrap v) n=az v n:=by
 have e:∃q:Int,i32.wrap v=v+4294967296*q:=by
  refine ⟨(i32.wrap v - v) / 4294967296,?_⟩
  simp[IntKind.wrap,IntKind.signed,IntKind.bits] <;> (try split) <;> omega
 obtain ⟨q,e⟩:=e
 rw[e]
 have key:∀k:Nat,k<4→((v+4294967296*q) / 256 ^ k) % 256=(v / 256 ^ k) % 256:=by
  intro k hk
  match k,hk with
  |0,_=>omega
  |1,_=>omega
  |2,_=>omega
  |3,_=>omega
 induction n with
 |zero=>rfl
 |succ n ih=>rw[az,az,key n (by omega),ih (by omega)]
theorem rS {b:aX}(h:aO b=0):aQ b.1=false∧aW b.2.2.1 b.2.2.2.1 b.2.2.2.2.1=false∧1≤b.2.2.2.2.2.1.length∧b.2.2.2.2.2.1.length≤256∧(bp b.2.2.2.2.2.1).2=0∧(bp b.2.2.2.2.2.1).1.length≤32768:=by
 unfold aO at h
 split at h
 ·cases h
 rename_i h1
 split at h
 ·cases h
 rename_i h2
 split at h
 ·cases h
 rename_i h3
 split at h
 ·cases h
 rename_i h4
 refine ⟨by simpa using h1,by simpa using h2,?_,by omega,h,?_⟩
 ·cases hr:b.2.2.2.2.2.1 with
  |nil=>exact absurd hr h3
  |cons _ _=>simp
 ·unfold bp at h ⊢
  split
  ·simp
  rename_i h5
  rw[if_neg h5] at h
  split
  ·simp
  rename_i h6
  simp only
  omega
theorem bR {R:Type}{L:LI}{n:Nat}{p:LI}{K:LI→Option R}(h:L.length+n≤36000):df L n p K=K (L++p):=aa (dN.2 ⟨rfl,h⟩) _ _
def j9 (b:aX):LI:=az b.1 8++(az (49+((bp b.2.2.2.2.2.1).1.length:Int)) 4++(az b.2.1 4++[2]))
theorem mL (b:aX):(j9 b).length=17:=by simp[j9,gC]
theorem Ey {a0 a1 a2 a3 a4:Int}{a5:List bJ}(hr:cz (aI a5) a5 0=true)(h:aO (a0,a1,a2,a3,a4,a5,())=0):
  y7 a0 a1 a2 a3 a4 a5 false=some (j9 (a0,a1,a2,a3,a4,a5,())++(0::0::0::0::b7 (a0,a1,a2,a3,a4,a5,()) 0 (bp a5).1),36000,i32.wrap (cB 0 (b7 (a0,a1,a2,a3,a4,a5,()) 0 (bp a5).1))):=by
 obtain ⟨-,-,h1,h2,-,h3⟩:=rS h
 have h1:1≤a5.length:=h1
 have h2:a5.length≤256:=h2
 have h3:(bp a5).1.length≤32768:=h3
 have hw:∀x:Int,0≤x→x≤2147483647→i32.wrap x=x:=fun x h h'=>bY (by simp[bt,IntKind.min,IntKind.max,IntKind.signed,IntKind.bits];omega)
 have e1:i32.wrap (i64.wrap (49+((bp a5).1.length:Int)))=49+((bp a5).1.length:Int):=by
  rw[af (n:=49+((bp a5).1.length:Int)) (by omega) (by omega),hw _ (by omega) (by omega)]
 have e2:i32.wrap (i64.wrap ((a5.length:Int) - 1))=(a5.length:Int) - 1:=by
  rw[af (n:=(a5.length:Int) - 1) (by omega) (by omega),hw _ (by omega) (by omega)]
 have e3:i32.wrap (a5.length:Int)=(a5.length:Int):=hw _ (by omega) (by omega)
 have e4:(a5.getD (Int.toNat 0) (0,(false,[],()),(false,[],()),[],())).1=aI a5:=by
  cases a5 with
  |nil=>simp at h1
  |cons r rs=>rfl
 have j1:ap [(bp a5).1]=(bp a5).1.length:=Nat.add_zero _
 have j2:bP [(bp a5).1]=(bp a5).1:=List.append_nil _
 unfold y7
 refine bT (by rw[zA,zB];exact ⟨hr,h⟩) ?_
 refine (ae rfl _ _).trans ?_
 rw[e1,e2,e3,e4,j1,j2]
 generalize hblk:(bp a5).1=blk at *
 have ln:∀(v:Int) (n:Nat),(az v n).length=n:=gC
 refine (bR (by simp)).trans ?_
 refine (bR (by simp[ln])).trans ?_
 refine (bR (by simp[ln])).trans ?_
 refine (bR (by simp[ln])).trans ?_
 refine (bR (by simp[ln])).trans ?_
 refine (bR (by simp[ln])).trans ?_
 refine (bR (by simp[ln])).trans ?_
 refine bT (by simp only[zA,zB];omega) ?_
 refine (bR (by simp[ln])).trans ?_
 refine bT (decide_eq_true h1) ?_
 refine (bR (by simp[ln])).trans ?_
 refine (bR (by simp[ln])).trans ?_
 refine (bR (by simp[ln])).trans ?_
 refine (bR (by simp[ln])).trans ?_
 refine (bR (by simp[ln])).trans ?_
 refine (bR (by simp[ln];omega)).trans ?_
 have eL:[]++az a0 8++az (49+(blk.length:Int)) 4++az a1 4++az 2 1++az 0 4++az 0 2++az ((a5.length:Int) - 1) 4++az (aI a5) 8++az (dD a5) 8++az a2 8++az a3 2++az a4 4++az (a5.length:Int) 4++blk
   = j9 (a0,a1,a2,a3,a4,a5,())++(0::0::0::0::b7 (a0,a1,a2,a3,a4,a5,()) 0 blk):=by
  have q1:az 2 1=[2]:=rfl
  have q2:az 0 4=[0,0,0,0]:=rfl
  simp only[j9,b7,hblk,q1,q2,List.nil_append,zK,List.cons_append]
 rw[eL]
 have hL:(j9 (a0,a1,a2,a3,a4,a5,())++(0::0::0::0::b7 (a0,a1,a2,a3,a4,a5,()) 0 blk)).length=61+blk.length:=by
  simp[mL,b7,ln];omega
 refine bT (decide_eq_true (by omega)) ?_
 refine bT (by simp only[zA,zB];omega) ?_
 have e5:List.drop (Int.toNat 21) (List.take ((j9 (a0,a1,a2,a3,a4,a5,())++(0::0::0::0::b7 (a0,a1,a2,a3,a4,a5,()) 0 blk)).length:Int).toNat (j9 (a0,a1,a2,a3,a4,a5,())++(0::0::0::0::b7 (a0,a1,a2,a3,a4,a5,()) 0 blk)))
   = b7 (a0,a1,a2,a3,a4,a5,()) 0 blk:=by
  rw[zG,List.take_length]
  show List.drop 21 _=_
  have:(21:Nat)=(j9 (a0,a1,a2,a3,a4,a5,())).length+4:=by rw[mL]
  rw[this,List.drop_append]
  rfl
 rw[e5]
 rfl
def J0 (d:jG.In):Tr jG.Res:=
 .ite (!d.1.2.1&&cz (aI d.1.1.2.2.2.2.2.1) d.1.1.2.2.2.2.2.1 0) (.ret (.ret (((bN d.1.1).1,(bN d.1.1).2,()),()))) .no
theorem Q9:HcOk prog 65 (ah jG J0):=by
 have htt:=fg Tryz.prog 400
 have hf:prog.funcs[65]?=some fE:=by kernel_rfl
 have hc:fE.body=some (bm fE):=by kernel_rfl
 refine mQ htt hf (by kernel_rfl) jG J0 (fun d out hw ho=>?_) (by kernel_rfl)
 obtain ⟨⟨⟨a0,a1,a2,a3,a4,a5,⟨⟩⟩,packed,⟨⟩⟩,⟨⟩⟩:=d
 obtain ⟨hg,ho⟩:=Tr.guard ho
 simp only[zA,Bool.not_eq_true'] at hg
 obtain ⟨hp,hr⟩:=hg
 subst hp
 have ho:Out.ret (((bN (a0,a1,a2,a3,a4,a5,())).1,(bN (a0,a1,a2,a3,a4,a5,())).2,()),())=out:=Option.some.inj ho
 subst ho
 by_cases he:aO (a0,a1,a2,a3,a4,a5,())=0
 rotate_left
 ·have e:bN (a0,a1,a2,a3,a4,a5,())=([],aO (a0,a1,a2,a3,a4,a5,())):=by unfold bN;rw[if_pos he]
  rw[e]
  refine yW htt hm (jF (l:=Gd) (.cons Mq .nil)) (eQ htt) hf hc (lp:=Hg) (LpsOk.done (by kernel_rfl)).all ?_
  refine (MW a0 a1 a2 a3 a4 a5 false).trans ?_
  unfold wu
  refine bT (by rw[zA,zB];exact ⟨hr,he⟩) ?_
  exact aa (by simpa using he) _ _
 ·have e:bN (a0,a1,a2,a3,a4,a5,())=(my (a0,a1,a2,a3,a4,a5,()) 0 (bp a5).1,0):=by unfold bN;rw[if_neg (aq he)]
  rw[e]
  intro F G cst w vals R Rl hkb hq hend
  have hq:=hq rfl
  have hrun:=(QL a0 a1 a2 a3 a4 a5 false).trans (Ey hr he)
  refine calls_of_wp hf hc (Ez htt hm (jF zc) (eQ htt) hkb 20 (bm fE) hrun Rl ?_)
  intro A1 G1 a1' w1 R1 hd1 h1
  have hsp:vI 20 (bm fE)=.seq (.region 27 iL false) rc:=by kernel_rfl
  rw[hsp]
  refine wp_seq (wp_region ?_)
  rw[show List.range iL.size=List.range 7++[7] by kernel_rfl]
  refine mM htt (jF zc) hkb [7] (List.range 7) h1 R1 ?_
  intro ex A2 G2 a2' w2 R2 hd2 h2
  cases ex with
  |exit i=>cases h2
  |ret=>cases h2
  |panic v=>cases h2
  |normal=>
  have hT:21≤(j9 (a0,a1,a2,a3,a4,a5,())++(0::0::0::0::b7 (a0,a1,a2,a3,a4,a5,()) 0 (bp a5).1)).length:=by
   simp[mL];omega
  refine Ou hkb hq (fun b o h=>Rl.gh.sB b o (Rl.gh.sub b o h)) Rl.gh.tab R2 (hd2.trans hd1) h2 hT ?_ hend
  refine (Ot _ _).trans ?_
  have eS:gK (j9 (a0,a1,a2,a3,a4,a5,())++(0::0::0::0::b7 (a0,a1,a2,a3,a4,a5,()) 0 (bp a5).1)) 17 (i32.wrap (cB 0 (b7 (a0,a1,a2,a3,a4,a5,()) 0 (bp a5).1)))
    = my (a0,a1,a2,a3,a4,a5,()) 0 (bp a5).1:=by
   have:=JN (j9 (a0,a1,a2,a3,a4,a5,())) (b7 (a0,a1,a2,a3,a4,a5,()) 0 (bp a5).1) 0 0 0 0 (i32.wrap (cB 0 (b7 (a0,a1,a2,a3,a4,a5,()) 0 (bp a5).1)))
   rw[mL] at this
   rw[this,NO _ (Nat.le_refl 4)]
   unfold j9 my
   simp only[zK]
  rw[eS]
  refine aa (decide_eq_true ?_) _ _
  obtain ⟨-,-,h1,h2,-,h3⟩:=rS he
  have h3:(bp a5).1.length≤32768:=h3
  simp[my,b7,gC]
  omega
end
end Go.Proofs.YthpcdhgpplmneaaGreatDoor.Sym
namespace Go.Proofs.YthpcdhgpplmneaaGreatDoor.Sym
open Go
def C.frz (i:Nat):C→C
 |.ex e t lo xs a b=>bif !(a == i)&&!(b == i) then .ex e t lo xs a b else bif (a == i)&&((b == i)&&Nat.beq lo 0) then .lst e t xs 0 else .top
 |.eel t k x a b=>bif !(a == i)&&!(b == i) then .eel t k x a b else .top
 |.lst e t xs own=>.lst e t xs (bif own == i then 0 else own)
 |c=>c
def rI (G:Gh)(i:Nat):Gh:=⟨fun b o=>G.S b o∨∃l,G.ow i=some (b,l),G.mu,fun j=>if j=i then none else G.ow j⟩
theorem EA {G:Gh}{i j:Nat}{p:Nat×Nat}(h:(rI G i).ow j=some p):j≠i∧G.ow j=some p:=by
 simp only[rI] at h
 split at h
 ·cases h
 ·rename_i hne;exact ⟨hne,h⟩
theorem QO {F:Fra}{G:Gh}{w:World}(h:GhOk F G w)(i:Nat):GhOk F (rI G i) w where
 mu:=fun key b hb=>by
  obtain ⟨h1,h2,h3⟩:=h.mu key b hb
  refine ⟨h1,fun o hs=>?_,h3⟩
  rcases hs with hs | ⟨l,hl⟩
  ·exact h2 o hs
  ·exact (h.ow i b l hl).2.2.2 key hb
 muI:=h.muI
 ow:=fun j b l hj=>by
  obtain ⟨hne,hj⟩:=EA hj
  obtain ⟨h1,h2,h3,h4⟩:=h.ow j b l hj
  refine ⟨fun o ho hs=>?_,h2,h3,h4⟩
  rcases hs with hs | ⟨l',hl⟩
  ·exact h1 o ho hs
  ·exact hne (h.owI j i b l l' hj hl)
 owI:=fun j k b l l' hj hk=>h.owI j k b l l' (EA hj).2 (EA hk).2
 sB:=fun b o hs=>by
  rcases hs with hs | ⟨l,hl⟩
  ·exact h.sB b o hs
  ·exact (h.ow i b l hl).2.2.1
 fr:=h.fr
 sub:=fun b o hs=>.inl (h.sub b o hs)
 sup:=fun b o hs=>by
  rcases hs with hs | ⟨l,hl⟩
  ·exact h.sup b o hs
  ·exact .inr (h.ow i b l hl).2.1
 keep:=h.keep
 fix_:=h.fix_
 tab:=h.tab
theorem B8 (G:Gh)(w:World)(i:Nat):Goes G (rI G i) w w none (some i) where
 kept:=fun b o hs=>⟨.inl hs,rfl⟩
 mu:=fun _ _ h _=>h
 ow:=fun j b l hj hne=>⟨by
  have:j≠i:=fun e=>hne (by rw[e])
  simp[rI,this,hj],rfl⟩
theorem GP {G:Gh}{w:World}{i:Nat}{c:C}{v:Value}(hc:Rc G w c v):Rc (rI G i) w (c.frz i) v:=by
 have go:=B8 G w i
 have hcell:=hc.cell
 cases c with
 |ex e t lo xs a b'=>
  simp only[C.frz]
  cases hn : !(a == i)&&!(b' == i) with
  |true=>
   simp only[cond_true]
   simp only[zA,Bool.not_eq_true',beq_eq_false_iff_ne] at hn
   exact hc.goes go (fun _ e=>by cases e) (fun j e=>by cases e;simp[C.hasOwn,hn.1,hn.2])
  |false=>
   simp only[cond_false]
   cases hy:(a == i)&&((b' == i)&&Nat.beq lo 0) with
   |false=>exact hcell
   |true=>
    simp only[cond_true]
    simp only[zA,beq_iff_eq] at hy
    obtain ⟨rfl,rfl,hl⟩:=hy
    have hl:=Nat.eq_of_beq_eq_true hl
    subst hl
    rcases hc with ⟨_,rfl,rfl⟩ | ⟨b,cap,rfl,⟨_,_,ho⟩,cur,el,hh,h1,h2,h3,h4⟩
    ·exact ⟨none,0,rfl,Nat.le_refl _,by simp[maxLen],fun hne=>absurd rfl hne,.inl rfl⟩
    ·have ho:G.ow b'=some (b,0):=by rcases ho with h | h <;> exact h
     rw[Nat.zero_add] at h2 ⊢
     refine ⟨_,cap,rfl,h2,h3,fun _=>⟨b,0,rfl,fun k x hx=>?_⟩,.inl rfl⟩
     obtain ⟨c,hc,hu⟩:=h4 k x hx
     refine ⟨c,Rt.kept go.kept t x c hc,fun q u hq=>?_⟩
     have:=hu q u hq
     rw[Nat.zero_add] at this ⊢
     refine ⟨.inr ⟨0,ho⟩,?_⟩
     rw[ew hh,Array.getElem?_toList]
     exact this
 |eel t k x a b'=>
  simp only[C.frz]
  cases hn : !(a == i)&&!(b' == i) with
  |true=>
   simp only[cond_true]
   simp only[zA,Bool.not_eq_true',beq_eq_false_iff_ne] at hn
   exact hc.goes go (fun _ e=>by cases e) (fun j e=>by cases e;simp[C.hasOwn,hn.1,hn.2])
  |false=>exact hcell
 |lst e t xs own=>
  simp only[C.frz]
  cases hb:own == i with
  |true=>
   obtain ⟨A,cap,e,h1,h2,h3,_⟩:=hc
   exact ⟨A,cap,e,h1,h2,h3.kept go.kept,.inl rfl⟩
  |false=>exact hc.goes go (fun _ e=>by cases e) (fun j e=>by cases e;simpa [C.hasOwn] using hb)
 |_=>exact Rc.goes go (fun _ e=>by cases e) (fun j e=>by cases e;simp[C.hasOwn,C.frz]) hc
theorem Rel.frz {F:Fra}{G:Gh}{A:AS}{ts:Array Value}{cst:List (Array Value)}{w:World}(R:Rel F G A ts cst w)(i:Nat):Rel F (rI G i) (A.map (C.frz i)) ts cst w:=
 R.map (fun c v h=>GP h) (fun _=>rfl) (fun key b hb=>⟨hb,rfl⟩) (QO R.gh i)
def Lb:List V→Nat
 |.one (.ex _ _ _ _ i _)::_=>i
 |_::vs=>Lb vs
 |[]=>0
noncomputable section
def Lf (h:Hc):Hc:=fun _ args id A K=>(A.map (C.frz (Lb args))).force fun A=>h _ (args.map (V.map (C.frz (Lb args)))) id A K
theorem xu {P:Program}{f:Nat}{h:Hc}(hok:HcOk P f h):HcOk P f (Lf h):=by
 intro R args id A K r F G ts cst w vals hid hrun Rl hv
 unfold Lf at hrun
 rw[AS.force_eq] at hrun
 obtain ⟨hfn,hcalls⟩:=hok R _ id _ K r F (rI G (Lb args)) ts cst w vals hid hrun (Rl.frz _) (hv.map_left _ fun a b h=>Rv.map (fun c v h=>GP h) h)
 refine ⟨hfn,hcalls.mono ?_⟩
 rintro e w' ⟨G',A',v,u,R',hu,⟨he,ks,hn,hk⟩ | ⟨he,hk⟩⟩
 ·exact ⟨G',A',v,u,R',hu,.inl ⟨he,ks,⟨(B8 G w (Lb args)).kept.trans hn.kept,fun key b hx hb=>hn.mu key b hx hb⟩,hk⟩⟩
 ·exact ⟨G',A',v,u,R',hu,.inr ⟨he,hk⟩⟩
def C.bare:C→C
 |.ex _ _ _ _ _ _=>.top
 |.eel _ _ _ _ _=>.top
 |.lst e t xs _=>.lst e t xs 0
 |.ptr _ _=>.top
 |.fn _ _ _=>.top
 |c=>c
def V.bare:V→V
 |.one c=>.one c.bare
 |.agg cs=>.agg (cs.map C.bare)
 |_=>.any
def tE (G:Gh):Gh:=⟨G.S,fun _=>none,fun _=>none⟩
def yR (G:Gh)(w:World):Fra:=⟨w,fun _=>False,G.S,fun _=>none⟩
theorem Kp {F:Fra}{G:Gh}{w:World}(h:GhOk F G w):Rel (yR G w) (tE G) ⟨[],[],[]⟩ #[] [] w:=by
 have hg:GhOk (yR G w) (tE G) w:=
  {mu:=fun _ _ h=>by cases h
   muI:=fun _ _ _ h=>by cases h
   ow:=fun _ _ _ h=>by cases h
   owI:=fun _ _ _ _ _ h=>by cases h
   sB:=h.sB
   fr:=⟨rfl,rfl,rfl,Nat.le_refl _,fun _ _ _=>rfl⟩
   sub:=fun _ _ h=>h
   sup:=fun _ _ h=>.inl h
   keep:=fun _ _ _=>rfl
   fix_:=fun _ _ h=>by cases h
   tab:=h.tabs }
 exact ⟨trivial,trivial,fun k cs hk=>by simp at hk,hg⟩
theorem C.bare_sound {G:Gh}{w:World}{c:C}{v:Value}(h:Rc G w c v):Rc (tE G) w c.bare v:=by
 have hcell:=h.cell
 cases c with
 |ex e t lo xs i j=>exact hcell
 |eel t k x i j=>exact hcell
 |lst e t xs own=>
  obtain ⟨A,cap,e,h1,h2,h3,_⟩:=h
  exact ⟨A,cap,e,h1,h2,h3,.inl rfl⟩
 |ptr k o=>exact hcell
 |fn f m caps=>exact hcell
 |_=>exact h
theorem V.bare_sound {G:Gh}{w:World}{x:V}{v:Value}(h:Rv G w x v):Rv (tE G) w x.bare v:=by
 cases x with
 |one c=>exact C.bare_sound h
 |agg cs=>
  obtain ⟨vs,e,hv⟩:=h
  exact ⟨vs,e,hv.map_left _ fun a b h=>C.bare_sound h⟩
 |tup ps=>trivial
 |any=>trivial
def QA (h:Hc):Hc:=fun _ args id A K=>h _ (args.map V.bare) id ⟨[],[],[]⟩ fun oc _=>match oc with
 |.ret (.tup [(false,[.lst e (.sl e2 (.int k2)) xs own]),(false,[.int k n])]) _=>bif own == 0 then none else
   (A.map (C.noOwn own)).force fun A=>K (.ret (.tup [(false,[.ex e (.sl e2 (.int k2)) 0 xs own own]),(false,[.int k n])]) (some [])) A
 |_=>none
def vg (G G':Gh)(n i:Nat)(o:Option Nat):Gh:=⟨fun b p=>G.S b p∨(G'.S b p∧n≤b∧some b≠o),G.mu,fun j=>if j=i then o.map (·,0) else G.ow j⟩
theorem RE {F:Fra}{G G':Gh}{w w':World}(h:GhOk F G w)(g:Grown w w')(hB:∀b p,G'.S b p→b<w'.heap.size)(i:Nat)(o:Option Nat)(ho:∀b,o=some b→w.heap.size≤b∧b<w'.heap.size):GhOk F (vg G G' w.heap.size i o) w' where
 mu:=fun key b hb=>by
  obtain ⟨h1,h2,h3⟩:=h.mu key b hb
  refine ⟨h1,fun p hs=>?_,Nat.lt_of_lt_of_le h3 g.size⟩
  rcases hs with hs | ⟨_,hs,_⟩
  ·exact h2 p hs
  ·omega
 muI:=h.muI
 ow:=fun j b l hj=>by
  simp only[vg] at hj ⊢
  split at hj
  ·cases o with
   |none=>cases hj
   |some b0=>
    simp only[Option.map_some,zC,zD] at hj
    obtain ⟨rfl,rfl⟩:=hj
    obtain ⟨h1,h2⟩:=ho b0 rfl
    refine ⟨fun p _ hs=>?_,.inl (Nat.le_trans h.fr.size h1),h2,fun key hk=>by have:=(h.mu key _ hk).2.2;omega⟩
    rcases hs with hs | ⟨_,_,hs⟩
    ·have:=h.sB _ _ hs;omega
    ·exact hs rfl
  ·obtain ⟨h1,h2,h3,h4⟩:=h.ow j b l hj
   refine ⟨fun p hp hs=>?_,h2,Nat.lt_of_lt_of_le h3 g.size,h4⟩
   rcases hs with hs | ⟨_,hs,_⟩
   ·exact h1 p hp hs
   ·omega
 owI:=fun j k b l l' hj hk=>by
  simp only[vg] at hj hk
  have hb:∀b l,o.map (·,0)=some (b,l)→w.heap.size≤b:=fun b l e=>by
   cases o with
   |none=>cases e
   |some b0=>cases e;exact (ho _ rfl).1
  split at hj <;> split at hk
  ·rename_i e1 e2;exact e1.trans e2.symm
  ·have:=hb _ _ hj;have:=(h.ow k _ _ hk).2.2.1;omega
  ·have:=hb _ _ hk;have:=(h.ow j _ _ hj).2.2.1;omega
  ·exact h.owI j k b l l' hj hk
 sB:=fun b p hs=>by
  rcases hs with hs | ⟨hs,_,_⟩
  ·exact Nat.lt_of_lt_of_le (h.sB b p hs) g.size
  ·exact hB b p hs
 fr:=h.fr.alloc g.os g.tape g.output g.size g.old
 sub:=fun b p hs=>.inl (h.sub b p hs)
 sup:=fun b p hs=>by
  rcases hs with hs | ⟨_,hs,_⟩
  ·exact h.sup b p hs
  ·exact .inr (.inl (Nat.le_trans h.fr.size hs))
 keep:=fun b p hs=>(g.cell (h.sB b p (h.sub b p hs))).trans (h.keep b p hs)
 fix_:=h.fix_
 tab:=h.tab
theorem xV {P:Program}{f:Nat}{h:Hc}(hok:HcOk P f h):HcOk P f (QA h):=by
 intro R args id A K r F G ts cst w vals hid hrun Rl hv
 obtain ⟨hfn,hcalls⟩:=hok R (args.map V.bare) id ⟨[],[],[]⟩ _ r (yR G w) (tE G) #[] [] w vals (fun _=>rfl) hrun (Kp Rl.gh) (hv.map_left _ fun a b h=>V.bare_sound h)
 refine ⟨hfn,hcalls.mono ?_⟩
 rintro e w' ⟨G',A',v,u,R',hu,⟨he,ks,_,hk⟩ | ⟨_,hk⟩⟩
 rotate_left
 ·cases hk
 have hg:Grown w w':=⟨R'.gh.fr.os,R'.gh.fr.tape,R'.gh.fr.output,R'.gh.fr.size,fun k hk=>R'.gh.fr.block k hk (fun h=>h)⟩
 split at hk
 rotate_left
 ·cases hk
 rename_i oc e1 e2 k2 xs own k n ks' heq
 cases heq
 cases hz:own == 0 with
 |true=>rw[hz] at hk;cases hk
 |false=>
 rw[hz] at hk
 simp only[cond_false,AS.force_eq] at hk
 have hi:own≠0:=by simpa using hz
 obtain ⟨us,rfl,hus⟩:=hu
 have hob:∀b,(G'.ow own).map (·.1)=some b→w.heap.size≤b∧b<w'.heap.size:=fun b hb=>by
  obtain ⟨p,hp,rfl⟩:=Option.map_eq_some_iff.1 hb
  obtain ⟨_,h2,h3,_⟩:=R'.gh.ow own p.1 p.2 hp
  exact ⟨by rcases h2 with h | h;exact h;exact h.elim,h3⟩
 have hgo:Goes G (vg G G' w.heap.size own ((G'.ow own).map (·.1))) w w' none (some own):=
  {kept:=fun b p hs=>⟨.inl hs,hg.cell (Rl.gh.sB b p hs)⟩
   mu:=fun _ _ hb _=>hb
   ow:=fun j b l hj hne=>by
    have:j≠own:=fun e=>hne (by rw[e])
    exact ⟨by simp[vg,this,hj],hg.old b (Rl.gh.ow j b l hj).2.2.1⟩ }
 have R2:Rel F (vg G G' w.heap.size own ((G'.ow own).map (·.1))) (A.map (C.noOwn own)) ts cst w':=
  Rl.map (fun c v h=>h.noOwn hgo) (fun _=>rfl) (fun key b hb=>⟨hb,hg.old b (Rl.gh.mu key b hb).2.2⟩) (RE Rl.gh hg R'.gh.sB own _ hob)
 refine ⟨_,_,.tup [(false,[.ex e1 (.sl e2 (.int k2)) 0 xs own own]),(false,[.int k n])],.tuple us,R2,⟨us,rfl,?_⟩,.inl ⟨he,some [],⟨hgo.kept,fun key b _ hb=>⟨hb,hg.old b (Rl.gh.mu key b hb).2.2⟩⟩,hk⟩⟩
 obtain ⟨u1,u2,hul⟩:∃u1 u2,us.toList=[u1,u2]:=by
  match h:us.toList with
  |[]=>rw[h] at hus;exact hus.elim
  |[_]=>rw[h] at hus;exact hus.2.elim
  |[a,b]=>exact ⟨a,b,rfl⟩
  |_::_::_::_=>rw[h] at hus;exact hus.2.2.elim
 rw[hul] at hus ⊢
 obtain ⟨hu1,hu2,_⟩:=hus
 have one:∀{c:C} {u:Value},RcOne G' w' (false,[c]) u→Rc G' w' c u:=by
  intro c u h
  rcases h with ⟨h,_⟩ | ⟨_,c',e,h⟩
  ·cases h
  ·have:c=c':=by simpa using e
   rw[this];exact h
 have hu1:=one hu1
 have hu2:=one hu2
 refine ⟨.inr ⟨rfl,_,rfl,?_⟩,.inr ⟨rfl,_,rfl,hu2⟩,trivial⟩
 obtain ⟨Ad,cap,rfl,h1,h2,hrow,hO⟩:=hu1
 rcases hO with hO | ⟨rfl,rfl⟩ | ⟨b,cur,el,rfl,how,hh,hcs⟩
 ·exact absurd hO hi
 ·have:xs=[]:=zF (by omega)
  subst this
  exact .inl ⟨rfl,rfl,rfl⟩
 ·refine .inr ⟨b,cap,by rw[Nat.zero_add],⟨hi,hi,.inl (by simp[vg,how])⟩,cur,el,hh,hcs,by rw[Nat.zero_add];exact h1,h2,fun q x hx=>?_⟩
  obtain ⟨b',o',c,e',hc,ha⟩:=hrow.cellAt hx
  cases e'
  have hfree:=(R'.gh.ow own b _ how).1
  refine ⟨c,?_,fun q' u hq=>?_⟩
  ·obtain ⟨Ai,capi,rfl,i1,i2,i3⟩:=hc
   refine ⟨Ai,capi,rfl,i1,i2,fun hne=>?_⟩
   obtain ⟨bi,oi,rfl,hin⟩:=i3 hne
   refine ⟨bi,oi,rfl,fun m y hy=>?_⟩
   obtain ⟨c,hc,hat⟩:=hin m y hy
   refine ⟨c,hc,fun q' u hq=>?_⟩
   obtain ⟨s1,s2⟩:=hat q' u hq
   refine ⟨?_,s2⟩
   rcases R'.gh.sup _ _ s1 with hs | hs
   ·exact .inl hs
   refine .inr ⟨s1,by rcases hs with h | h;exact h;exact h.elim,?_⟩
   rw[how]
   intro hbi
   simp only[Option.map_some,zC] at hbi
   subst hbi
   have hlt:oi+m*Ty.size (.int k2)+q'<xs.length*Ty.size (.sl e2 (.int k2)):=by
    rcases Nat.lt_or_ge (oi+m*Ty.size (.int k2)+q') (xs.length*Ty.size (.sl e2 (.int k2))) with h | h
    ·exact h
    ·exact absurd s1 (hfree _ h)
   have hlt:oi+m*Ty.size (.int k2)+q'<xs.length:=by simpa [Ty.size] using hlt
   obtain ⟨y2,hy2⟩:∃y2,xs[oi+m*Ty.size (.int k2)+q']?=some y2:=⟨_,List.getElem?_eq_getElem hlt⟩
   obtain ⟨b2,o2,c2,e2',hc2,ha2⟩:=hrow.cellAt hy2
   cases e2'
   obtain ⟨A2,cap2,rfl,_⟩:=hc2
   have:=(ha2 0 _ rfl).2
   have e3:0+(oi+m*Ty.size (.int k2)+q')*Ty.size (.sl e2 (.int k2))+0=oi+m*Ty.size (.int k2)+q':=by simp[Ty.size]
   rw[e3,s2] at this
   obtain ⟨rfl,_⟩:=hc
   cases q' with
   |zero=>
    simp only[List.getElem?_cons_zero,zC] at hq
    subst hq
    simp at this
   |succ q'=>simp at hq
  ·have:=(ha q' u hq).2
   rw[ew hh,Array.getElem?_toList] at this
   rw[Nat.zero_add] at this ⊢
   exact this
end
end Go.Proofs.YthpcdhgpplmneaaGreatDoor.Sym
namespace Go.Proofs.YthpcdhgpplmneaaGreatDoor.Sym
open Go
open Go.IntKind (i8 i16 i32 i64 u8 u16 u32 u64)
noncomputable section
abbrev gy:Io:=⟨[dL],[],[],[Oq,dI],none⟩
def sI (d:gy.In):Tr gy.Res:=.ite (decide (d.1.1.length≤4294960000)) (.ret (.ret (((au d.1.1).1,(au d.1.1).2,()),()))) .no
abbrev BK:List (Nat×Hc):=[(67,ah jd yl),(47,ah d7 mJ)]
def Cn:Hd:=bA BK
abbrev dp:Lo:=⟨⟨(.one (.hol (.sl 5 (Ty.int u8)))::.any::bh (.one (.onl 22 (Ty.sl 5 (Ty.int u8)) 9)::.one hI::ai (ai (cy [])))),[]⟩,[(.ret,⟨(bh (.one (.onl 22 (Ty.sl 5 (Ty.int u8)) 5)::.one hI::ai (ai (cy (bh []))))),[]⟩),(.exit 1,⟨(bz (.one (.onl 22 (Ty.sl 5 (Ty.int u8)) 9)::.any::ai (ai (cy [])))),[]⟩)]⟩
def jY (d:dp.st.den):Tr (ao dp.xs):=
 .ite (decide (d.1.2.1.length=0)&&(decide (d.1.2.2.1=0)&&decide (d.1.1.length≤65536))) (.ite (decide ((aL d.1.1 10 0 []).2=0)) (.ret (.pan (.ret ((),(((aL d.1.1 10 0 []).1,()),()))))) (.ret (.ret ((),(([],((aL d.1.1 10 0 []).2,())),()))))) .no
def pL:Lp:=bQ [(8,aG dp jY)]
def qn {R:Type}(h1:LI)(h2:List (Ty.sl 5 (Ty.int u8)).den)(h3:Int)(next:LI→List (Ty.sl 5 (Ty.int u8)).den→Int→Option R)(out:ao dp.xs→Option R):Option R:=bif decide (h3<(↑h1.length:Int)) then bif (↑h2.length:Int) == 8 then out (.ret ((),(([],(9,())),()))) else bif decide (h1.length≤4294960000) then bif (aw h1 h3).2 != 0 then out (.ret ((),(([],((aw h1 h3).2,())),()))) else bif decide (0≤h3)&&(decide (h3≤i64.wrap (h3+(aw h1 h3).1))&&decide (i64.wrap (h3+(aw h1 h3).1)≤(↑h1.length:Int))) then bif decide ((List.drop h3.toNat (List.take (i64.wrap (h3+(aw h1 h3).1)).toNat h1)).length≤4294967296) then bif decide (h2.length+1≤4294967296) then next (h1) (h2++[List.drop h3.toNat (List.take (i64.wrap (h3+(aw h1 h3).1)).toNat h1)]) (i64.wrap (h3+(aw h1 h3).1)) else none else none else none else none else out (.pan (.ret ((),((h2,()),()))))
def oz (n:Nat)(h1:LI)(h2:List (Ty.sl 5 (Ty.int u8)).den)(h3:Int):Option (ao dp.xs):=fV tt Cn dr pL 0 Tryz.f39 (b9 Tryz.f39 0) n (dp.st.mk' ((h1,(h2,(h3,()))),())) (bH dp.xs)
theorem Fu (n:Nat)(h1:LI)(h2:List (Ty.sl 5 (Ty.int u8)).den)(h3:Int):oz (n+1) h1 h2 h3=qn h1 h2 h3 (oz n) some:=by kernel_rfl
theorem zu (b:LI)(hl:b.length≤65536):∀(n k:Nat) (p:Int) (ps:List (LI)),8<n+ps.length→n≤k→0≤p→p≤(b.length:Int)→ps.length≤8→
  oz k b ps p=if (aL b n p ps).2=0 then some (.pan (.ret ((),(((aL b n p ps).1,()),())))) else some (.ret ((),(([],((aL b n p ps).2,())),()))):=by
 intro n
 induction n with
 |zero=>intro k p ps h1 h2 h3 h4 h5;omega
 |succ n ih=>
  intro k p ps h1 h2 h3 h4 h5
  obtain ⟨k,rfl⟩:∃j,k=j+1:=⟨k - 1,by omega⟩
  rw[Fu]
  unfold qn aL
  by_cases c1:(b.length:Int)≤p
  ·refine bF (decide_eq_false (by omega)) ?_
   rw[if_pos c1,if_pos rfl]
  refine bT (decide_eq_true (by omega)) ?_
  rw[if_neg c1]
  by_cases c2:ps.length=8
  ·refine bT (by simp[c2]) ?_
   rw[if_pos c2,if_neg (show (9:Int)≠0 by decide)]
  refine bF (by simp;omega) ?_
  rw[if_neg c2]
  refine bT (decide_eq_true (by omega)) ?_
  by_cases c3:(aw b p).2=0
  rotate_left
  ·refine bT (by simpa using c3) ?_
   rw[if_pos c3,if_neg c3]
  refine bF (by simpa using c3) ?_
  rw[if_neg (aq c3)]
  have hm:=hY c3
  rw[af (n:=p+(aw b p).1) (by omega) (by omega),List.drop_take,show (p+(aw b p).1).toNat - p.toNat=(aw b p).1.toNat by omega]
  refine bT (by simp only[zA,zB];omega) ?_
  refine bT (decide_eq_true (by rw[List.length_take];omega)) ?_
  refine bT (decide_eq_true (by omega)) ?_
  exact ih k _ _ (by simp;omega) (by omega) (by omega) (by omega) (by simp;omega)
def tW (a0:LI):Option gy.Res:=bif (↑a0.length:Int) == 0 then oR (([],85,()),()) else bif decide (65536<(↑a0.length:Int)) then oR (([],4,()),()) else (jY ((a0,([],(0,()))),())).run fun y=>match y with | .ret ((),((x12,x13,()),()))=>(oR ((x12,x13,()),())) | .pan (.ret ((),((x14,()),())))=>(oR ((x14,0,()),()))
theorem Jo (a0:LI):Io.run tt Cn dr pL gy Tryz.f39 ((a0,()),())=tW a0:=by kernel_rfl
theorem ux:HcsOk prog BK:=.cons HN (.cons pW .nil)
theorem uZ:HcOk prog 39 (ah gy sI):=by
 refine bW ux (lp:=pL) (fn:=Tryz.f39) gy (.step (h0:=aG dp jY) (by kernel_rfl) (gi ux (lp:=pL) (fn:=Tryz.f39) (.done (by kernel_rfl)) dp jY ?_) (.done (by kernel_rfl))) sI ?_
 ·rintro ⟨⟨(b:LI),(ps:List (LI)),(p:Int),⟨⟩⟩,⟨⟩⟩ y hw hy
  obtain ⟨hg,hy⟩:=Tr.guard hy
  simp only[zA,zB] at hg
  obtain ⟨h1,h2,h3⟩:=hg
  have h1:ps=[]:=List.length_eq_zero_iff.1 h1
  have h2:p=0:=h2
  have h3:b.length≤65536:=h3
  subst h1 h2
  refine ⟨10,(zu b h3 10 10 0 [] (by simp) (Nat.le_refl _) (Int.le_refl 0) (by omega) (Nat.zero_le _)).trans ?_⟩
  rw[← hy]
  simp only[Tr.val_ite,zB,Tr.val_ret]
 ·rintro ⟨⟨(b:LI),⟨⟩⟩,⟨⟩⟩ out hw ho
  obtain ⟨hg,ho⟩:=Tr.guard ho
  cases ho
  refine (Jo b).trans ?_
  show _=oR (((au b).1,(au b).2,()),())
  unfold tW au
  by_cases c1:b=[]
  ·refine bT (by simp[c1]) ?_
   rw[if_pos c1]
  refine bF (by simp[c1]) ?_
  rw[if_neg c1]
  by_cases c2:65536<(b.length:Int)
  ·refine bT (decide_eq_true c2) ?_
   rw[if_pos c2]
  refine bF (decide_eq_false c2) ?_
  rw[if_neg c2]
  unfold jY
  refine bT (by simp only[zA,zB];exact ⟨rfl,trivial,show b.length≤65536 by omega⟩) ?_
  show (bif decide ((aL b 10 0 []).2=0) then oR (((aL b 10 0 []).1,0,()),()) else oR (([],(aL b 10 0 []).2,()),()))=_
  by_cases c3:(aL b 10 0 []).2=0
  ·refine bT (decide_eq_true c3) ?_
   rw[c3]
  ·refine bF (decide_eq_false c3) ?_
   rw[oQ 10 0 [] c3]
abbrev gx:Io:=⟨[rD],[],[],[dI],none⟩
def sH (d:gx.In):Tr gx.Res:=.ret (.ret ((aU d.1.1,()),()))
abbrev uj:List (Nat×Hc):=[]
def Cl:Hd:=bA uj
abbrev dm:Lo:=⟨⟨(cy (.one (.hol (.sl 77 aZ))::.one hI::.one hI::.any::cy [])),[]⟩,[(.ret,⟨(bh (.one hI::.any::ai [])),[]⟩),(.exit 0,⟨(ai (bz [])),[]⟩)]⟩
def jW (d:dm.st.den):Tr (ao dm.xs):=
 .ite (decide (d.1.2.1=(d.1.1.length:Int))&&decide (d.1.2.2.1=0)) (.ite (decide (0≤dQ d.1.1 0)) (.ret (.ret ((),((dQ d.1.1 0,()),())))) (.ret (.pan (.ret ((),((),())))))) .no
def pJ:Lp:=bQ [(5,aG dm jW)]
def ql {R:Type}(h1:List aZ.den)(h2 h3:Int)(next:List aZ.den→Int→Int→Option R)(out:ao dm.xs→Option R):Option R:=bif decide (h3<h2) then bif decide (0≤h3)&&decide (h3<(↑h1.length:Int)) then bif (h1.getD h3.toNat (0,0,0,0,0,[],())).2.2.1 != -1 then out (.ret ((),((h3,()),()))) else next (h1) (h2) (i64.wrap (h3+1)) else none else out (.pan (.ret ((),((),()))))
def ox (n:Nat)(h1:List aZ.den)(h2 h3:Int):Option (ao dm.xs):=fV tt Cl dr pJ 0 Tryz.f57 (b9 Tryz.f57 0) n (dm.st.mk' ((h1,(h2,(h3,()))),())) (bH dm.xs)
theorem Fs (n:Nat)(h1:List aZ.den)(h2 h3:Int):ox (n+1) h1 h2 h3=ql h1 h2 h3 (ox n) some:=by kernel_rfl
theorem zr (bs:List aX)(hl:bs.length≤maxLen):∀(k i:Nat),bs.length<i+k→i≤bs.length→
  ox k bs (bs.length:Int) i=if 0≤dQ (bs.drop i) i then some (.ret ((),((dQ (bs.drop i) i,()),()))) else some (.pan (.ret ((),((),())))):=by
 intro k
 induction k with
 |zero=>intro i h;omega
 |succ k ih=>
  intro i h1 h2
  rw[Fs]
  unfold ql
  by_cases hi:i<bs.length
  rotate_left
  ·refine bF (decide_eq_false (by omega)) ?_
   rw[zI (by omega)]
   exact (if_neg (show ¬(0:Int)≤-1 by decide)).symm
  refine bT (decide_eq_true (by omega)) ?_
  refine bT (by simpa using hi) ?_
  have e:List.getD bs (i:Int).toNat (0,0,0,0,0,[],())=bs[i]:=by rw[zG,aC hi]
  rw[e,zE hi,aM hi hl]
  have e2:dQ (bs[i]::bs.drop (i+1)) i=if bs[i].2.2.1≠-1 then (i:Int) else dQ (bs.drop (i+1)) ((i:Int)+1):=rfl
  rw[e2]
  by_cases c:bs[i].2.2.1 = -1
  ·refine bF (by simpa using c) ?_
   rw[if_neg (aq c)]
   exact ih (i+1) (by omega) (by omega)
  ·refine bT (by simpa using c) ?_
   rw[if_pos c,if_pos (by omega)]
theorem oN:∀(bs:List aX) (i:Int),0≤i→(0≤dQ bs i∨dQ bs i = -1)
 |[],_,_=>.inr rfl
 |x::xs,i,h=>by
  unfold dQ
  split
  ·exact .inl h
  ·exact oN xs (i+1) (by omega)
def tU (a0:List aZ.den):Option gx.Res:=bif decide ((↑a0.length:Int)<2) then oR ((-1,()),()) else (jW ((a0,((↑a0.length:Int),(0,()))),())).run fun y=>match y with | .ret ((),((x8,()),()))=>(oR ((x8,()),())) | .pan (.ret ((),((),())))=>(oR ((-1,()),()))
theorem Jm (a0:List aZ.den):Io.run tt Cl dr pJ gx Tryz.f57 ((a0,()),())=tU a0:=by kernel_rfl
theorem Da:HcOk prog 57 (ah gx sH):=by
 refine bW (cs:=uj) HcsOk.nil (lp:=pJ) (fn:=Tryz.f57) gx (.step (h0:=aG dm jW) (by kernel_rfl) (gi (cs:=uj) HcsOk.nil (lp:=pJ) (fn:=Tryz.f57) (.done (by kernel_rfl)) dm jW ?_) (.done (by kernel_rfl))) sH ?_
 ·rintro ⟨⟨(bs:List aX),(m:Int),(i:Int),⟨⟩⟩,⟨⟩⟩ y hw hy
  obtain ⟨hg,hy⟩:=Tr.guard hy
  simp only[zA,zB] at hg
  have h1:m=(bs.length:Int):=hg.1
  have h2:i=0:=hg.2
  subst h1 h2
  refine ⟨bs.length+1,(zr bs hw.1.1.1 (bs.length+1) 0 (by omega) (Nat.zero_le _)).trans ?_⟩
  rw[← hy]
  simp only[Tr.val_ite,zB,Tr.val_ret,List.drop_zero]
  rfl
 ·rintro ⟨⟨(bs:List aX),⟨⟩⟩,⟨⟩⟩ out hw ho
  cases ho
  refine (Jm bs).trans ?_
  show _=oR ((aU bs,()),())
  unfold tU aU
  by_cases c1:bs.length<2
  ·refine bT (decide_eq_true (by omega)) ?_
   rw[if_pos c1]
  refine bF (decide_eq_false (by omega)) ?_
  rw[if_neg c1]
  unfold jW
  refine bT (by simp only[zA,zB];exact ⟨trivial,trivial⟩) ?_
  show (bif decide (0≤dQ bs 0) then oR ((dQ bs 0,()),()) else oR ((-1,()),()))=_
  rcases oN bs 0 (Int.le_refl 0) with c2 | c2
  ·exact aa (decide_eq_true c2) _ _
  ·refine bF (decide_eq_false (by omega)) ?_
   rw[c2]
abbrev jH:Io:=⟨[dL],[],[],[rD,dI,dI],none⟩
def wk (d:jH.In):Tr jH.Res:=.ite (decide (d.1.1.length≤4294960000)) (.ret (.ret (((al d.1.1).1,(al d.1.1).2.1,(al d.1.1).2.2,()),()))) .no
abbrev KS:List (Nat×Hc):=[(39,ah gy sI),(56,ah kz FS),(57,ah gx sH)]
def LF:Hd:=bA KS
abbrev fJ:Lo:=⟨⟨(.any::bz (bh (.one (.onl 77 aZ 15)::.any::cy (bz (.one (.onl 22 (Ty.sl 5 (Ty.int u8)) 43)::.one hI::.one hI::ai (cy [])))))),[]⟩,[(.ret,⟨(bh (.one (.onl 77 aZ 5)::.one hI::.one hI::.any::ai (ai (cy (bh []))))),[]⟩),(.exit 0,⟨(.any::bz (bh (.one (.onl 77 aZ 15)::ai (ai (cy []))))),[]⟩)]⟩
def o5 (d:fJ.st.den):Tr (ao fJ.xs):=
 .ite (decide (d.1.1.length=0)&&(decide (d.1.2.2.1=(d.1.2.1.length:Int))&&(decide (d.1.2.2.2.1=0)&&(decide (d.1.2.1.length≤8)&&gf d.1.2.1))))
  (.ite (decide ((aB d.1.2.1 0 []).2.2=0)) (.ret (.pan (.ret ((),(((aB d.1.2.1 0 []).1,()),()))))) (.ret (.ret ((),(([],((aB d.1.2.1 0 []).2.1,((aB d.1.2.1 0 []).2.2,()))),()))))) .no
def zZ:Lp:=bQ [(7,aG fJ o5)]
def vO {R:Type}(h1:List aZ.den)(h2:List bs.den)(h3 h4:Int)(next:List aZ.den→List bs.den→Int→Int→Option R)(out:ao fJ.xs→Option R):Option R:=bif decide (h4<h3) then bif decide (0≤h4)&&decide (h4<(↑h2.length:Int)) then bif decide (List.length (h2.getD h4.toNat [])≤4294960000) then bif (aE (h2.getD h4.toNat [])).2 != 0 then out (.ret ((),(([],(h4,((aE (h2.getD h4.toNat [])).2,()))),()))) else bif decide (h1.length+1≤4294967296) then next (h1++[(aE (h2.getD h4.toNat [])).1]) (h2) (h3) (i64.wrap (h4+1)) else none else none else none else out (.pan (.ret ((),((h1,()),()))))
def uO (n:Nat)(h1:List aZ.den)(h2:List bs.den)(h3 h4:Int):Option (ao fJ.xs):=fV tt LF dr zZ 0 Tryz.f29 (b9 Tryz.f29 0) n (fJ.st.mk' ((h1,(h2,(h3,(h4,())))),())) (bH fJ.xs)
theorem NK (n:Nat)(h1:List aZ.den)(h2:List bs.den)(h3 h4:Int):uO (n+1) h1 h2 h3 h4=vO h1 h2 h3 h4 (uO n) some:=by kernel_rfl
theorem EP (ps:List (LI))(h8:ps.length≤8)(hl:ps.length≤maxLen)(hp:gf ps=true):∀(k i:Nat) (out:List aX),ps.length<i+k→i≤ps.length→out.length≤i→
  uO k out ps (ps.length:Int) i=if (aB (ps.drop i) i out).2.2=0 then some (.pan (.ret ((),(((aB (ps.drop i) i out).1,()),())))) else some (.ret ((),(([],((aB (ps.drop i) i out).2.1,((aB (ps.drop i) i out).2.2,()))),()))):=by
 have hl':=hl
 rw[bg] at hl'
 intro k
 induction k with
 |zero=>intro i out h;omega
 |succ k ih=>
  intro i out h1 h2 h3
  rw[NK]
  unfold vO
  by_cases hi:i<ps.length
  rotate_left
  ·refine bF (decide_eq_false (by omega)) ?_
   rw[zI (by omega)]
   rfl
  refine bT (decide_eq_true (by omega)) ?_
  refine bT (by simpa using hi) ?_
  have e:List.getD ps (i:Int).toNat []=ps[i]:=by rw[zG,aC hi]
  have hpi:ps[i].length≤4294960000:=of_decide_eq_true (List.all_eq_true.1 hp ps[i] (List.getElem_mem hi))
  rw[e,zE hi,aM hi hl]
  have e2:aB (ps[i]::ps.drop (i+1)) i out=if (aE ps[i]).2≠0 then ([],(i:Int),(aE ps[i]).2) else aB (ps.drop (i+1)) ((i:Int)+1) (out++[(aE ps[i]).1]):=rfl
  rw[e2]
  refine bT (decide_eq_true hpi) ?_
  by_cases c:(aE ps[i]).2=0
  ·refine bF (by simpa using c) ?_
   rw[if_neg (aq c)]
   refine bT (decide_eq_true (by omega)) ?_
   exact ih (i+1) _ (by omega) (by omega) (by simp;omega)
  ·refine bT (by simpa using c) ?_
   rw[if_pos c,if_neg c]
def Bj (a0:LI):Option jH.Res:=bif decide (a0.length≤4294960000) then bif (au a0).2 != 0 then oR (([],0,(au a0).2,()),()) else (o5 (([],((au a0).1,((↑(au a0).1.length:Int),(0,())))),())).run fun y=>match y with | .ret ((),((x13,x14,x15,()),()))=>(oR ((x13,x14,x15,()),())) | .pan (.ret ((),((x16,()),())))=>(bif decide (0≤aU x16) then oR (([],aU x16,90,()),()) else oR ((x16,0,0,()),())) else none
theorem P2 (a0:LI):Io.run tt LF dr zZ jH Tryz.f29 ((a0,()),())=Bj a0:=by kernel_rfl
theorem Cd:HcsOk prog KS:=.cons uZ (.cons Ml (.cons Da .nil))
theorem uY:HcOk prog 29 (ah jH wk):=by
 refine bW Cd (lp:=zZ) (fn:=Tryz.f29) jH (.step (h0:=aG fJ o5) (by kernel_rfl) (gi Cd (lp:=zZ) (fn:=Tryz.f29) (.done (by kernel_rfl)) fJ o5 ?_) (.done (by kernel_rfl))) wk ?_
 ·rintro ⟨⟨(out:List aX),(ps:List (LI)),(m:Int),(i:Int),⟨⟩⟩,⟨⟩⟩ y hw hy
  obtain ⟨hg,hy⟩:=Tr.guard hy
  simp only[zA,zB] at hg
  obtain ⟨h1,h2,h3,h5,h4⟩:=hg
  have h1:out=[]:=List.length_eq_zero_iff.1 h1
  have h2:m=(ps.length:Int):=h2
  have h3:i=0:=h3
  subst h1 h2 h3
  refine ⟨ps.length+1,(EP ps h5 hw.1.2.1.1 h4 (ps.length+1) 0 [] (by omega) (Nat.zero_le _) (Nat.zero_le _)).trans ?_⟩
  rw[← hy]
  simp only[Tr.val_ite,zB,Tr.val_ret,List.drop_zero]
  rfl
 ·rintro ⟨⟨(b:LI),⟨⟩⟩,⟨⟩⟩ out hw ho
  obtain ⟨hg,ho⟩:=Tr.guard ho
  cases ho
  have hb:bk b:=bytesOf hw.1.1
  refine (P2 b).trans ?_
  show _=oR (((al b).1,(al b).2.1,(al b).2.2,()),())
  unfold Bj al
  refine (aa hg _ _).trans ?_
  by_cases c1:(au b).2=0
  rotate_left
  ·refine bT (by simpa using c1) ?_
   rw[if_pos c1]
  refine bF (by simpa using c1) ?_
  rw[if_neg (aq c1)]
  obtain ⟨k1,_,k3,_⟩:=gF hb c1
  unfold o5
  refine bT (by simp only[zA,zB];exact ⟨rfl,trivial,trivial,k3,oJ k1⟩) ?_
  show (bif decide ((aB (au b).1 0 []).2.2=0) then (bif decide (0≤aU (aB (au b).1 0 []).1) then oR (([],aU (aB (au b).1 0 []).1,90,()),()) else oR (((aB (au b).1 0 []).1,0,0,()),())) else oR (([],(aB (au b).1 0 []).2.1,(aB (au b).1 0 []).2.2,()),()))=_
  by_cases c2:(aB (au b).1 0 []).2.2=0
  rotate_left
  ·refine bF (decide_eq_false c2) ?_
   rw[if_pos c2]
  refine bT (decide_eq_true c2) ?_
  rw[if_neg (aq c2)]
  by_cases c3:0≤aU (aB (au b).1 0 []).1
  ·refine bT (decide_eq_true c3) ?_
   rw[if_pos c3]
  ·refine bF (decide_eq_false c3) ?_
   rw[if_neg c3]
abbrev gu:Io:=⟨[dL],[],[],[dI,dI],none⟩
def sF (d:gu.In):Tr gu.Res:=.ite (decide (d.1.1.length≤4294960000)) (.ret (.ret ((((db (al d.1.1).1:Nat):Int),(al d.1.1).2.2,()),()))) .no
abbrev BI:List (Nat×Hc):=[(29,ah jH wk)]
def Cj:Hd:=bA BI
abbrev dk:Lo:=⟨⟨(bz (bh (.one hI::.one hI::cy (.one (.hol (.sl 77 aZ))::.one hI::.one hI::.any::cy (bh []))))),[]⟩,[(.exit 0,⟨(bz (bh (.one hI::.one hI::ai (bz (bh []))))),[]⟩)]⟩
def jU (d:dk.st.den):Tr (ao dk.xs):=
 .ite (decide (d.1.2.1=0)&&(decide (d.1.2.2.2.1=(d.1.2.2.1.length:Int))&&(decide (d.1.2.2.2.2.1=0)&&decide (db d.1.2.2.1≤4294960000)))) (.ret (.ret ((),((d.1.1,((db d.1.2.2.1:Int),())),())))) .no
def pH:Lp:=bQ [(5,aG dk jU)]
def qj {R:Type}(h1 h2:Int)(h3:List aZ.den)(h4 h5:Int)(next:Int→Int→List aZ.den→Int→Int→Option R)(out:ao dk.xs→Option R):Option R:=bif decide (h5<h4) then bif decide (0≤h5)&&decide (h5<(↑h3.length:Int)) then next (h1) (i64.wrap (h2+(↑(List.length (h3.getD h5.toNat (0,0,0,0,0,[],())).2.2.2.2.2.1):Int))) (h3) (h4) (i64.wrap (h5+1)) else none else out (.ret ((),((h1,(h2,())),())))
def ou (n:Nat)(h1 h2:Int)(h3:List aZ.den)(h4 h5:Int):Option (ao dk.xs):=fV tt Cj dr pH 0 Tryz.f32 (b9 Tryz.f32 0) n (dk.st.mk' ((h1,(h2,(h3,(h4,(h5,()))))),())) (bH dk.xs)
theorem Fp (n:Nat)(h1 h2:Int)(h3:List aZ.den)(h4 h5:Int):ou (n+1) h1 h2 h3 h4 h5=qj h1 h2 h3 h4 h5 (ou n) some:=by kernel_rfl
theorem vv {bs:List aX}{i:Nat}(hi:i<bs.length):db (bs.drop i)=bs[i].2.2.2.2.2.1.length+db (bs.drop (i+1)):=by
 rw[zE hi];rfl
theorem zp (e:Int)(bs:List aX)(hl:bs.length≤maxLen):∀(k i n:Nat),bs.length<i+k→i≤bs.length→n+db (bs.drop i)≤4294960000→
  ou k e n bs (bs.length:Int) i=some (.ret ((),((e,(((n+db (bs.drop i):Nat):Int),())),()))):=by
 intro k
 induction k with
 |zero=>intro i n h;omega
 |succ k ih=>
  intro i n h1 h2 h3
  rw[Fp]
  unfold qj
  by_cases hi:i<bs.length
  rotate_left
  ·refine bF (decide_eq_false (by omega)) ?_
   rw[zI (by omega)]
   rfl
  rw[vv hi] at h3 ⊢
  refine bT (decide_eq_true (by omega)) ?_
  refine bT (by simpa using hi) ?_
  have e:List.getD bs (i:Int).toNat (0,0,0,0,0,[],())=bs[i]:=by rw[zG,aC hi]
  rw[e,aM hi hl,af (n:=(n:Int)+(bs[i].2.2.2.2.2.1.length:Int)) (by omega) (by omega)]
  have:=ih (i+1) (n+bs[i].2.2.2.2.2.1.length) (by omega) (by omega) (by omega)
  rw[show ((n+bs[i].2.2.2.2.2.1.length:Nat):Int)=(n:Int)+(bs[i].2.2.2.2.2.1.length:Int) by omega] at this
  refine this.trans ?_
  rw[Nat.add_assoc]
def tS (a0:LI):Option gu.Res:=bif decide (a0.length≤4294960000) then (jU (((al a0).2.2,(0,((al a0).1,((↑(al a0).1.length:Int),(0,()))))),())).run fun y=>match y with | .ret ((),((x13,x14,()),()))=>(oR ((x14,x13,()),())) else none
theorem Jk (a0:LI):Io.run tt Cj dr pH gu Tryz.f32 ((a0,()),())=tS a0:=by kernel_rfl
theorem uu:HcsOk prog BI:=.cons uY .nil
theorem C8:HcOk prog 32 (ah gu sF):=by
 refine bW uu (lp:=pH) (fn:=Tryz.f32) gu (.step (h0:=aG dk jU) (by kernel_rfl) (gi uu (lp:=pH) (fn:=Tryz.f32) (.done (by kernel_rfl)) dk jU ?_) (.done (by kernel_rfl))) sF ?_
 ·rintro ⟨⟨(e:Int),(n:Int),(bs:List aX),(m:Int),(i:Int),⟨⟩⟩,⟨⟩⟩ y hw hy
  obtain ⟨hg,hy⟩:=Tr.guard hy
  simp only[zA,zB] at hg
  obtain ⟨h1,h2,h3,h4⟩:=hg
  have h1:n=0:=h1
  have h2:m=(bs.length:Int):=h2
  have h3:i=0:=h3
  have h4:db bs≤4294960000:=h4
  subst h1 h2 h3
  refine ⟨bs.length+1,(zp e bs hw.1.2.2.1.1 (bs.length+1) 0 0 (by omega) (Nat.zero_le _) (by rw[List.drop_zero];omega)).trans ?_⟩
  rw[← hy,List.drop_zero,Nat.zero_add];rfl
 ·rintro ⟨⟨(b:LI),⟨⟩⟩,⟨⟩⟩ out hw ho
  obtain ⟨hg,ho⟩:=Tr.guard ho
  cases ho
  have hb:bk b:=bytesOf hw.1.1
  refine (Jk b).trans ?_
  unfold tS
  refine (aa hg _ _).trans ?_
  have hc:db (al b).1≤4294960000:=by
   by_cases h:(al b).2.2=0
   ·obtain ⟨g1,g2,g3,g4,g5⟩:=ke hb h
    have h1:=Em (ip g5)
    obtain ⟨_,_,h2,_⟩:=gF hb g1
    omega
   ·rw[vr h];decide
  unfold jU
  refine bT (by simp only[zA,zB];exact ⟨trivial,trivial,trivial,hc⟩) ?_
  rfl
abbrev gv:Io:=⟨[dL],[],[],[gL,gL,dI],none⟩
def sG (d:gv.In):Tr gv.Res:=.ite (decide (d.1.1.length≤4294960000)) (.ret (.ret (((b8 d.1.1).1,(b8 d.1.1).2.1,(b8 d.1.1).2.2,()),()))) .no
abbrev BJ:List (Nat×Hc):=[(29,ah jH wk)]
def Ck:Hd:=bA BJ
abbrev dl:Lo:=⟨⟨(.any::bz (.one (.hol (.sl 77 aZ))::bh (.one hI::.any::cy (bz (bh (.one (.hol (.sl 77 aZ))::.one hI::.one hI::ai (bh []))))))),[]⟩,[(.ret,⟨(bh (.one hI::.one hI::.one hI::ai (ai (cy [])))),[]⟩),(.exit 0,⟨(.any::bz (.one (.hol (.sl 77 aZ))::bh (.one hI::ai (ai (bz []))))),[]⟩)]⟩
def jV (d:dl.st.den):Tr (ao dl.xs):=
 .ite (decide (d.1.2.2.2.1=(d.1.2.2.1.length:Int))&&(decide (d.1.2.2.2.2.1=0)&&eT d.1.2.2.1))
  (.ite (cY d.1.2.2.1 d.1.2.1).2 (.ret (.pan (.ret ((),((d.1.1,((cY d.1.2.2.1 d.1.2.1).1,())),()))))) (.ret (.ret ((),((0,(0,(190,()))),()))))) .no
def pI:Lp:=bQ [(7,aG dl jV)]
def qk {R:Type}(h1:List aZ.den)(h2:Int)(h3:List aZ.den)(h4 h5:Int)(next:List aZ.den→Int→List aZ.den→Int→Int→Option R)(out:ao dl.xs→Option R):Option R:=bif decide (h5<h4) then bif decide (0≤h5)&&decide (h5<(↑h3.length:Int)) then bif (h3.getD h5.toNat (0,0,0,0,0,[],())).1 != h2 then out (.ret ((),((0,(0,(190,()))),()))) else next (h1) (i64.wrap (h2+(↑(List.length (h3.getD h5.toNat (0,0,0,0,0,[],())).2.2.2.2.2.1):Int))) (h3) (h4) (i64.wrap (h5+1)) else none else out (.pan (.ret ((),((h1,(h2,())),()))))
def ov (n:Nat)(h1:List aZ.den)(h2:Int)(h3:List aZ.den)(h4 h5:Int):Option (ao dl.xs):=fV tt Ck dr pI 0 Tryz.f34 (b9 Tryz.f34 0) n (dl.st.mk' ((h1,(h2,(h3,(h4,(h5,()))))),())) (bH dl.xs)
theorem Fq (n:Nat)(h1:List aZ.den)(h2:Int)(h3:List aZ.den)(h4 h5:Int):ov (n+1) h1 h2 h3 h4 h5=qk h1 h2 h3 h4 h5 (ov n) some:=by kernel_rfl
theorem zq (b0 bs:List aX)(hl:bs.length≤maxLen)(hk:eT bs=true):∀(k i:Nat) (q:Int),bs.length<i+k→i≤bs.length→
  ov k b0 q bs (bs.length:Int) i=if (cY (bs.drop i) q).2=true then some (.pan (.ret ((),((b0,((cY (bs.drop i) q).1,())),())))) else some (.ret ((),((0,(0,(190,()))),()))):=by
 intro k
 induction k with
 |zero=>intro i q h;omega
 |succ k ih=>
  intro i q h1 h2
  rw[Fq]
  unfold qk
  by_cases hi:i<bs.length
  rotate_left
  ·refine bF (decide_eq_false (by omega)) ?_
   rw[zI (by omega)]
   rfl
  refine bT (decide_eq_true (by omega)) ?_
  refine bT (by simpa using hi) ?_
  have e:List.getD bs (i:Int).toNat (0,0,0,0,0,[],())=bs[i]:=by rw[zG,aC hi]
  have hx:=List.all_eq_true.1 hk bs[i] (List.getElem_mem hi)
  simp only[zA,zB] at hx
  obtain ⟨x1,x2,x3⟩:=hx
  rw[e,zE hi,aM hi hl]
  have e2:cY (bs[i]::bs.drop (i+1)) q=if bs[i].1≠q then (0,false) else cY (bs.drop (i+1)) (q+(bs[i].2.2.2.2.2.1.length:Int)):=rfl
  rw[e2]
  by_cases c:bs[i].1=q
  ·refine bF (by simpa using c) ?_
   rw[if_neg (aq c),af (n:=q+(bs[i].2.2.2.2.2.1.length:Int)) (by omega) (by omega)]
   exact ih (i+1) _ (by omega) (by omega)
  ·refine bT (by simpa using c) ?_
   rw[if_pos c,if_neg (by decide)]
def tT (a0:LI):Option gv.Res:=bif decide (a0.length≤4294960000) then bif (al a0).2.2 != 0 then oR ((0,0,(al a0).2.2,()),()) else bif decide (0≤0)&&decide (0<(↑(al a0).1.length:Int)) then (jV (((al a0).1,(((al a0).1.getD (Int.toNat 0) (0,0,0,0,0,[],())).1,((al a0).1,((↑(al a0).1.length:Int),(0,()))))),())).run fun y=>match y with | .ret ((),((x16,x17,x18,()),()))=>(oR ((x16,x17,x18,()),())) | .pan (.ret ((),((x19,x20,()),())))=>(bif decide (0≤0)&&decide (0<(↑x19.length:Int)) then oR (((x19.getD (Int.toNat 0) (0,0,0,0,0,[],())).1,x20,0,()),()) else none) else none else none
theorem Jl (a0:LI):Io.run tt Ck dr pI gv Tryz.f34 ((a0,()),())=tT a0:=by kernel_rfl
theorem uw:HcsOk prog BJ:=.cons uY .nil
theorem C9:HcOk prog 34 (ah gv sG):=by
 refine bW uw (lp:=pI) (fn:=Tryz.f34) gv (.step (h0:=aG dl jV) (by kernel_rfl) (gi uw (lp:=pI) (fn:=Tryz.f34) (.done (by kernel_rfl)) dl jV ?_) (.done (by kernel_rfl))) sG ?_
 ·rintro ⟨⟨(b0:List aX),(q:Int),(bs:List aX),(m:Int),(i:Int),⟨⟩⟩,⟨⟩⟩ y hw hy
  obtain ⟨hg,hy⟩:=Tr.guard hy
  simp only[zA,zB] at hg
  obtain ⟨h1,h2,h3⟩:=hg
  have h1:m=(bs.length:Int):=h1
  have h2:i=0:=h2
  subst h1 h2
  refine ⟨bs.length+1,(zq b0 bs hw.1.2.2.1.1 h3 (bs.length+1) 0 q (by omega) (Nat.zero_le _)).trans ?_⟩
  rw[← hy]
  simp only[Tr.val_ite,Tr.val_ret,List.drop_zero]
 ·rintro ⟨⟨(b:LI),⟨⟩⟩,⟨⟩⟩ out hw ho
  obtain ⟨hg,ho⟩:=Tr.guard ho
  cases ho
  have hb:bk b:=bytesOf hw.1.1
  refine (Jl b).trans ?_
  show _=oR (((b8 b).1,(b8 b).2.1,(b8 b).2.2,()),())
  unfold tT b8
  refine (aa hg _ _).trans ?_
  by_cases c1:(al b).2.2=0
  rotate_left
  ·refine bT (by simpa using c1) ?_
   rw[if_pos c1]
  refine bF (by simpa using c1) ?_
  rw[if_neg (aq c1)]
  obtain ⟨g1,g2,g3,g4,g5⟩:=ke hb c1
  obtain ⟨_,h1,h2,_⟩:=gF hb g1
  generalize (al b).1=bs at *
  refine bT (by simp only[zA,zB];omega) ?_
  unfold jV
  refine bT (by simp only[zA,zB];exact ⟨trivial,trivial,ip g5⟩) ?_
  have e0:(bs.getD (Int.toNat 0) (0,0,0,0,0,[],())).1=lg bs:=by
   cases bs with
   |nil=>simp at g4;omega
   |cons x xs=>rfl
  show (bif (cY bs (bs.getD (Int.toNat 0) (0,0,0,0,0,[],())).1).2 then (bif decide ((0:Int)≤0)&&decide ((0:Int)<(bs.length:Int)) then oR (((bs.getD (Int.toNat 0) (0,0,0,0,0,[],())).1,(cY bs (bs.getD (Int.toNat 0) (0,0,0,0,0,[],())).1).1,0,()),()) else none) else oR ((0,0,190,()),()))=_
  rw[e0]
  cases c2:(cY bs (lg bs)).2 with
  |true=>
   refine (aa rfl _ _).trans ?_
   refine bT (by simp only[zA,zB];omega) ?_
   rw[if_pos rfl]
  |false=>
   refine (ae rfl _ _).trans ?_
   rw[if_neg (by decide)]
abbrev iE:Io:=⟨[dL,gL,Iw],[],[],[dO,gL,dI],none⟩
def yC (d:iE.In):Tr iE.Res:=.ite (decide (d.1.1.length≤4294960000)) (.ret (.ret (((gU d.1.1 d.1.2.1 d.1.2.2.1).1,(gU d.1.1 d.1.2.1 d.1.2.2.1).2.1,(gU d.1.1 d.1.2.1 d.1.2.2.1).2.2,()),()))) .no
abbrev uk:List (Nat×Hc):=[(29,ah jH wk),(39,QA (ah gy sI)),(69,ah nP J1),(66,Lf (ah jf yn))]
def Cm:Hd:=bA uk
abbrev dn:Lo:=⟨⟨(.any::.one hI::.one hJ::bz (bh (.one (.hol (.sl 77 aZ))::bh (.one (.exl 22 (Ty.sl 5 (Ty.int u8)) 25 25)::.any::ai (.one (.exl 22 (Ty.sl 5 (Ty.int u8)) 25 25)::.one hI::.one hI::.any::ai (cy (bz []))))))),[]⟩,[(.ret,⟨(bz (bh (.one (.onl 5 (Ty.int u8) 13)::.one hI::.one hI::.any::ai (ai (ai (bz [])))))),[]⟩),(.exit 0,⟨(.any::.one hI::cy (bh (.one (.exl 22 (Ty.sl 5 (Ty.int u8)) 25 25)::.any::ai (ai (ai []))))),[]⟩)]⟩
def jX (d:dn.st.den):Tr (ao dn.xs):=
 .ite (decide (d.1.2.2.2.1=d.1.2.2.2.2.1)&&(decide (d.1.2.2.2.2.2.1=(d.1.2.2.2.1.length:Int))&&(decide (d.1.2.2.2.2.2.2.1=0)&&(decide (d.1.2.2.2.1.length=d.1.2.2.1.length)&&(gf d.1.2.2.2.1&&eT d.1.2.2.1)))))
  (.ite (decide ((bj d.1.2.1 d.1.2.2.2.1 d.1.2.2.1 d.1.1 []).2.2=0)) (.ret (.pan (.ret ((),(((bj d.1.2.1 d.1.2.2.2.1 d.1.2.2.1 d.1.1 []).2.1,((bj d.1.2.1 d.1.2.2.2.1 d.1.2.2.1 d.1.1 []).1,())),())))))
   (.ret (.ret ((),(([],(0,((bj d.1.2.1 d.1.2.2.2.1 d.1.2.2.1 d.1.1 []).2.2,()))),()))))) .no
def pK:Lp:=bQ [(7,aG dn jX)]
def qm {R:Type}(h3 h4:Int)(h5:List aZ.den)(h6 h7:List bs.den)(h8 h9:Int)(next:Int→Int→List aZ.den→List bs.den→List bs.den→Int→Int→Option R)(out:ao dn.xs→Option R):Option R:=bif decide (h9<h8) then bif decide ((↑0:Int)≤h9)&&decide (h9<(↑0:Int)+(↑h7.length:Int)) then bif decide (List.length (h7.getD (h9.toNat - 0) [])≤4294960000) then bif decide ((↑0:Int)≤h9)&&decide (h9<(↑0:Int)+(↑h6.length:Int)) then bif (aP (h7.getD (h9.toNat - 0) []) h3 h4).2 != 0 then out (.ret ((),(([],(0,((aP (h7.getD (h9.toNat - 0) []) h3 h4).2,()))),()))) else bif decide (0≤h9)&&decide (h9<(↑h5.length:Int)) then next (i64.wrap (h3+(↑(List.length (h5.getD h9.toNat (0,0,0,0,0,[],())).2.2.2.2.2.1):Int))) (h4) (h5) (ny 0 h9.toNat h6 (aP (h7.getD (h9.toNat - 0) []) h3 h4).1) (ny 0 h9.toNat h7 (aP (h7.getD (h9.toNat - 0) []) h3 h4).1) (h8) (i64.wrap (h9+1)) else none else none else none else none else out (.pan (.ret ((),((h3,(h6,())),()))))
def oy (n:Nat)(h3 h4:Int)(h5:List aZ.den)(h6 h7:List bs.den)(h8 h9:Int):Option (ao dn.xs):=fV tt Cm dr pK 0 Tryz.f41 (b9 Tryz.f41 0) n (dn.st.mk' ((h3,(h4,(h5,(h6,(h7,(h8,(h9,()))))))),())) (bH dn.xs)
theorem Ft (n:Nat)(h3 h4:Int)(h5:List aZ.den)(h6 h7:List bs.den)(h8 h9:Int):oy (n+1) h3 h4 h5 h6 h7 h8 h9=qm h3 h4 h5 h6 h7 h8 h9 (oy n) some:=by kernel_rfl
theorem Di {p:LI}{base ep:Int}(h:(aP p base ep).2=0):0≤base∧base≤4611686018427387648:=by
 unfold aP at h
 split at h
 ·rename_i c;exact absurd h c
 split at h
 ·cases h
 rename_i c
 unfold aQ at c
 simp only[Bool.or_eq_true,zB] at c
 omega
theorem Qd {done:List (LI)}{ps:List (LI)}{i:Nat}(hd:done.length=i)(hi:i<ps.length)(y:LI):ny 0 (i:Int).toNat (done++ps.drop i) y=(done++[y])++ps.drop (i+1):=by
 unfold ny
 rw[zG]
 refine (aa (show Nat.ble 0 i=true from rfl) _ _).trans ?_
 rw[Nat.sub_zero,zE hi,List.set_append,if_neg (by omega),hd,Nat.sub_self,List.set_cons_zero]
 simp
theorem zt (ep:Int)(bs:List aX)(ps:List (LI))(hn:ps.length=bs.length)(hl:ps.length≤maxLen)(hp:gf ps=true)(hk:eT bs=true):∀(k i:Nat) (done:List (LI)) (base:Int),ps.length<i+k→i≤ps.length→done.length=i→
  oy k base ep bs (done++ps.drop i) (done++ps.drop i) (ps.length:Int) i=if (bj ep (ps.drop i) (bs.drop i) base done).2.2=0 then some (.pan (.ret ((),(((bj ep (ps.drop i) (bs.drop i) base done).2.1,((bj ep (ps.drop i) (bs.drop i) base done).1,())),()))))
   else some (.ret ((),(([],(0,((bj ep (ps.drop i) (bs.drop i) base done).2.2,()))),()))):=by
 intro k
 induction k with
 |zero=>intro i done base h;omega
 |succ k ih=>
  intro i done base h1 h2 hd
  rw[Ft]
  unfold qm
  by_cases hi:i<ps.length
  rotate_left
  ·refine bF (decide_eq_false (by omega)) ?_
   rw[zI (show ps.length≤i by omega),List.append_nil]
   rfl
  have hi2:i<bs.length:=by omega
  have hlen:(done++ps.drop i).length=ps.length:=by rw[zH,List.length_drop];omega
  refine bT (decide_eq_true (by omega)) ?_
  have e:List.getD (done++ps.drop i) ((i:Int).toNat - 0) []=ps[i]:=by
   rw[zG,Nat.sub_zero,List.getD_eq_getElem?_getD,List.getElem?_append_right (by omega),hd,Nat.sub_self,List.getElem?_drop,Nat.add_zero,List.getElem?_eq_getElem hi]
   rfl
  have e2:List.getD bs (i:Int).toNat (0,0,0,0,0,[],())=bs[i]:=by rw[zG,aC hi2]
  have hpi:ps[i].length≤4294960000:=of_decide_eq_true (List.all_eq_true.1 hp ps[i] (List.getElem_mem hi))
  have hx:=List.all_eq_true.1 hk bs[i] (List.getElem_mem hi2)
  simp only[zA,zB] at hx
  obtain ⟨x1,x2,x3⟩:=hx
  rw[e,e2,hlen,aM hi hl]
  refine bT (by simp only[zA,zB];omega) ?_
  refine bT (decide_eq_true hpi) ?_
  refine bT (by simp only[zA,zB];omega) ?_
  rw[Qd hd hi,zE hi,zE hi2]
  have eP:bj ep (ps[i]::ps.drop (i+1)) (bs[i]::bs.drop (i+1)) base done=if (aP ps[i] base ep).2≠0 then ([],0,(aP ps[i] base ep).2) else bj ep (ps.drop (i+1)) (bs.drop (i+1)) (base+(bs[i].2.2.2.2.2.1.length:Int)) (done++[(aP ps[i] base ep).1]):=rfl
  rw[eP]
  by_cases c:(aP ps[i] base ep).2=0
  ·refine bF (by simpa using c) ?_
   obtain ⟨b1,b2⟩:=Di c
   rw[if_neg (aq c),af (n:=base+(bs[i].2.2.2.2.2.1.length:Int)) (by omega) (by omega)]
   refine bT (by simp only[zA,zB];omega) ?_
   exact ih (i+1) _ _ (by omega) (by omega) (by simp[hd])
  ·refine bT (by simpa using c) ?_
   rw[if_pos c,if_neg c]
theorem vj (ep:Int):∀(ps:List (LI)) (xs:List aX) (base:Int) (out:List (LI)),(∀q∈ps,PartOk q)→(bj ep ps xs base out).2.2=0→ap (bj ep ps xs base out).1≤ap out+36016*ps.length
 |[],_,_,out,_,_=>Nat.le_refl _
 |_::_,[],_,out,_,_=>Nat.le_add_right _ _
 |p::ps,x::xs,base,out,h,h0=>by
  have e:bj ep (p::ps) (x::xs) base out=if (aP p base ep).2≠0 then ([],0,(aP p base ep).2) else bj ep ps xs (base+(x.2.2.2.2.2.1.length:Int)) (out++[(aP p base ep).1]):=rfl
  rw[e] at h0 ⊢
  by_cases c:(aP p base ep).2=0
  rotate_left
  ·rw[if_pos c] at h0;exact absurd h0 c
  rw[if_neg (aq c)] at h0 ⊢
  have:=vj ep ps xs _ _ (fun q hq=>h q (by simp[hq])) h0
  have h2:(aP p base ep).1.length≤36016:=by
   unfold aP
   split
   ·simp
   split
   ·simp
   have:=(h p (by simp)).len
   simp only[zH,gC,List.length_take,List.length_drop]
   omega
  rw[fP] at this
  have h3:ap [(aP p base ep).1]=(aP p base ep).1.length:=Nat.add_zero _
  rw[zN]
  omega
def tV (a0:LI)(a1 a2:Int):Option iE.Res:=bif decide (a0.length≤4294960000) then bif (al a0).2.2 != 0 then oR (([],0,(al a0).2.2,()),()) else bif decide (a0.length≤4294960000) then (jX ((a1,(a2,((al a0).1,((au a0).1,((au a0).1,((↑0:Int)+(↑(au a0).1.length:Int),(0,()))))))),())).run fun y=>match y with | .ret ((),((x22,x23,x24,()),()))=>(oR ((x22,x23,x24,()),())) | .pan (.ret ((),((x25,x26,()),())))=>(bif decide (ap x26≤4294967296) then oR ((bP x26,x25,0,()),()) else none) else none else none
theorem Jn (a0:LI)(a1 a2:Int):Io.run tt Cm dr pK iE Tryz.f41 ((a0,a1,a2,()),())=tV a0 a1 a2:=by kernel_rfl
theorem MG:HcOk prog 41 (ah iE yC):=by
 refine bW (cs:=uk) (.cons uY (.cons (xV uZ) (.cons Mn (.cons (xu An) .nil)))) (lp:=pK) (fn:=Tryz.f41) iE (.step (h0:=aG dn jX) (by kernel_rfl) (gi (cs:=uk) (.cons uY (.cons (xV uZ) (.cons Mn (.cons (xu An) .nil)))) (lp:=pK) (fn:=Tryz.f41) (.done (by kernel_rfl)) dn jX ?_) (.done (by kernel_rfl))) yC ?_
 ·rintro ⟨⟨(base:Int),(ep:Int),(bs:List aX),(ps:List (LI)),(ps2:List (LI)),(m:Int),(i:Int),⟨⟩⟩,⟨⟩⟩ y hw hy
  obtain ⟨hg,hy⟩:=Tr.guard hy
  simp only[zA,zB] at hg
  obtain ⟨h1,h2,h3,h4,h5,h6⟩:=hg
  have h1:ps=ps2:=h1
  have h2:m=(ps.length:Int):=h2
  have h3:i=0:=h3
  have h4:ps.length=bs.length:=h4
  subst h1 h2 h3
  have hl:ps.length≤maxLen:=by
   have:bs.length≤maxLen:=hw.1.2.2.1.1
   omega
  have:=zt ep bs ps h4 hl h5 h6 (ps.length+1) 0 [] base (by omega) (Nat.zero_le _) rfl
  rw[List.nil_append,List.drop_zero,List.drop_zero] at this
  refine ⟨ps.length+1,this.trans ?_⟩
  rw[← hy]
  simp only[Tr.val_ite,zB,Tr.val_ret]
 ·rintro ⟨⟨(b:LI),(base:Int),(ep:Int),⟨⟩⟩,⟨⟩⟩ out hw ho
  obtain ⟨hg,ho⟩:=Tr.guard ho
  cases ho
  have hb:bk b:=bytesOf hw.1.1
  refine (Jn b base ep).trans ?_
  show _=oR (((gU b base ep).1,(gU b base ep).2.1,(gU b base ep).2.2,()),())
  unfold tV gU
  refine (aa hg _ _).trans ?_
  by_cases c1:(al b).2.2=0
  rotate_left
  ·refine bT (by simpa using c1) ?_
   rw[if_pos c1]
  refine bF (by simpa using c1) ?_
  rw[if_neg (aq c1)]
  refine (aa hg _ _).trans ?_
  obtain ⟨g1,g2,g3,g4,g5⟩:=ke hb c1
  obtain ⟨h0,h1,h2,_⟩:=gF hb g1
  generalize (al b).1=bs at *
  generalize (au b).1=ps at *
  unfold jX
  refine bT (by simp only[zA,zB];exact ⟨trivial,by show (0:Int)+(ps.length:Int)=_;omega,trivial,g4.symm,oJ h0,ip g5⟩) ?_
  show (bif decide ((bj ep ps bs base []).2.2=0) then (bif decide (ap (bj ep ps bs base []).1≤4294967296) then oR ((bP (bj ep ps bs base []).1,(bj ep ps bs base []).2.1,0,()),()) else none) else oR (([],0,(bj ep ps bs base []).2.2,()),()))=_
  by_cases c2:(bj ep ps bs base []).2.2=0
  ·refine bT (decide_eq_true c2) ?_
   have:=vj ep ps bs base [] h0 c2
   refine bT (decide_eq_true (by have h9:ap ([]:List (LI))=0:=rfl;omega)) ?_
   rw[if_neg (aq c2)]
  ·refine bF (decide_eq_false c2) ?_
   rw[if_pos c2]
abbrev n9:Io:=⟨[dB,rD],[],[],[dO,dI],none⟩
def Ki (d:n9.In):Tr n9.Res:=.ite (!d.1.1&&mB d.1.2.1) (.ret (.ret (((kj d.1.2.1).1,(kj d.1.2.1).2,()),()))) .no
abbrev KT:List (Nat×Hc):=[(65,ah jG J0),(57,ah gx sH),(66,ah jf yn)]
def LG:Hd:=bA KT
abbrev fK:Lo:=⟨⟨(.one hL::.one (.hol (.sl 77 aZ))::bz (.one (.onl 22 (Ty.sl 5 (Ty.int u8)) 13)::.one hI::cy (bz (.one (.hol (.sl 77 aZ))::.one hI::.one hI::ai (cy (bz (bh []))))))),[]⟩,[(.ret,⟨(bz (.one (.onl 5 (Ty.int u8) 9)::.one hI::.any::ai (ai (cy (bz (bh [])))))),[]⟩),(.exit 1,⟨(.any::.one (.hol (.sl 77 aZ))::bz (.one (.onl 22 (Ty.sl 5 (Ty.int u8)) 13)::.one hI::.any::ai (ai (cy (bz []))))),[]⟩)]⟩
def o6 (d:fK.st.den):Tr (ao fK.xs):=
 .ite (!d.1.1&&(decide (d.1.2.2.1.length=0)&&(decide (d.1.2.2.2.1=0)&&(decide (d.1.2.2.2.2.2.1=(d.1.2.2.2.2.1.length:Int))&&(decide (d.1.2.2.2.2.2.2.1=0)&&(decide (d.1.2.2.2.2.1.length≤8)&&mB d.1.2.2.2.2.1))))))
  (.ite (decide ((bD d.1.2.2.2.2.1 []).2=0)) (.ret (.pan (.ret ((),((d.1.2.1,((bD d.1.2.2.2.2.1 []).1,((ap (bD d.1.2.2.2.2.1 []).1:Int),()))),()))))) (.ret (.ret ((),(([],((bD d.1.2.2.2.2.1 []).2,())),()))))) .no
def Ab:Lp:=bQ [(9,aG fK o6)]
def vP {R:Type}(h2:Bool)(h3:List aZ.den)(h4:List (Ty.sl 5 (Ty.int u8)).den)(h5:Int)(h6:List aZ.den)(h7 h8:Int)(next:Bool→List aZ.den→List (Ty.sl 5 (Ty.int u8)).den→Int→List aZ.den→Int→Int→Option R)(out:ao fK.xs→Option R):Option R:=bif decide (h8<h7) then bif decide (0≤h8)&&decide (h8<(↑h6.length:Int)) then bif !h2&&cz (aI (h6.getD h8.toNat (0,0,0,0,0,[],())).2.2.2.2.2.1) (h6.getD h8.toNat (0,0,0,0,0,[],())).2.2.2.2.2.1 0 then bif (bN (h6.getD h8.toNat (0,0,0,0,0,[],()))).2 != 0 then out (.ret ((),(([],((bN (h6.getD h8.toNat (0,0,0,0,0,[],()))).2,())),()))) else bif decide (h4.length+1≤4294967296) then next (h2) (h3) (h4++[(bN (h6.getD h8.toNat (0,0,0,0,0,[],()))).1]) (i64.wrap (h5+(↑(bN (h6.getD h8.toNat (0,0,0,0,0,[],()))).1.length:Int))) (h6) (h7) (i64.wrap (h8+1)) else none else none else none else out (.pan (.ret ((),((h3,(h4,(h5,()))),()))))
def uP (n:Nat)(h2:Bool)(h3:List aZ.den)(h4:List (Ty.sl 5 (Ty.int u8)).den)(h5:Int)(h6:List aZ.den)(h7 h8:Int):Option (ao fK.xs):=fV tt LG dr Ab 0 Tryz.f38 (b9 Tryz.f38 0) n (fK.st.mk' ((h2,(h3,(h4,(h5,(h6,(h7,(h8,()))))))),())) (bH fK.xs)
theorem NL (n:Nat)(h2:Bool)(h3:List aZ.den)(h4:List (Ty.sl 5 (Ty.int u8)).den)(h5:Int)(h6:List aZ.den)(h7 h8:Int):uP (n+1) h2 h3 h4 h5 h6 h7 h8=vP h2 h3 h4 h5 h6 h7 h8 (uP n) some:=by kernel_rfl
theorem B3 {x:aX}(h:(bN x).2=0):(bN x).1.length≤32829:=by
 unfold bN at h ⊢
 by_cases c:aO x=0
 ·rw[if_neg (aq c)]
  obtain ⟨_,_,h3⟩:=QG (wq c).2.2.2.2
  have:=Kq x 0 (bp x.2.2.2.2.2.1).1
  simp only
  omega
 ·rw[if_pos c] at h;exact absurd h c
theorem EQ (b0 bs:List aX)(hl:bs.length≤8)(hr:mB bs=true):∀(k i:Nat) (ps:List (LI)),bs.length<i+k→i≤bs.length→ps.length≤i→ap ps≤i*32829→
  uP k false b0 ps (ap ps:Int) bs (bs.length:Int) i=if (bD (bs.drop i) ps).2=0 then some (.pan (.ret ((),((b0,((bD (bs.drop i) ps).1,((ap (bD (bs.drop i) ps).1:Int),()))),())))) else some (.ret ((),(([],((bD (bs.drop i) ps).2,())),()))):=by
 intro k
 induction k with
 |zero=>intro i ps h;omega
 |succ k ih=>
  intro i ps h1 h2 h3 h4
  rw[NL]
  unfold vP
  by_cases hi:i<bs.length
  rotate_left
  ·refine bF (decide_eq_false (by omega)) ?_
   rw[zI (by omega)]
   rfl
  refine bT (decide_eq_true (by omega)) ?_
  refine bT (by simpa using hi) ?_
  have e:List.getD bs (i:Int).toNat (0,0,0,0,0,[],())=bs[i]:=by rw[zG,aC hi]
  have hx:cz (aI bs[i].2.2.2.2.2.1) bs[i].2.2.2.2.2.1 0=true:=List.all_eq_true.1 hr bs[i] (List.getElem_mem hi)
  rw[e,zE hi,af (n:=(i:Int)+1) (by omega) (by omega)]
  have e2:bD (bs[i]::bs.drop (i+1)) ps=if (bN bs[i]).2≠0 then ([],(bN bs[i]).2) else bD (bs.drop (i+1)) (ps++[(bN bs[i]).1]):=rfl
  rw[e2]
  refine bT (by rw[hx];rfl) ?_
  by_cases c:(bN bs[i]).2=0
  ·refine bF (by simpa using c) ?_
   have hle:=B3 c
   rw[if_neg (aq c),af (n:=(ap ps:Int)+((bN bs[i]).1.length:Int)) (by omega) (by omega)]
   refine bT (decide_eq_true (by omega)) ?_
   have h9:ap [(bN bs[i]).1]=(bN bs[i]).1.length:=Nat.add_zero _
   have:=ih (i+1) (ps++[(bN bs[i]).1]) (by omega) (by omega) (by simp;omega) (by rw[fP,h9];omega)
   rw[fP,h9] at this
   rw[show ((ap ps+(bN bs[i]).1.length:Nat):Int)=(ap ps:Int)+((bN bs[i]).1.length:Int) by omega] at this
   exact this
  ·refine bT (by simpa using c) ?_
   rw[if_pos c,if_neg c]
theorem xW:∀(bs:List aX) (ps:List (LI)),(bD bs ps).2=0→ap (bD bs ps).1≤ap ps+32829*bs.length
 |[],ps,_=>Nat.le_refl _
 |x::xs,ps,h=>by
  unfold bD at h ⊢
  split
  ·rename_i c;rw[if_pos c] at h;exact absurd h c
  rename_i c
  rw[if_neg c] at h
  have:=xW xs _ h
  have h2:=B3 (x:=x) (Classical.byContradiction c)
  have h9:ap [(bN x).1]=(bN x).1.length:=Nat.add_zero _
  rw[fP,h9] at this
  rw[zN]
  omega
def Bk (a0:Bool)(a1:List aZ.den):Option n9.Res:=bif (↑a1.length:Int) == 0 then oR (([],85,()),()) else bif decide (8<(↑a1.length:Int)) then oR (([],9,()),()) else (o6 ((a0,(a1,([],(0,(a1,((↑a1.length:Int),(0,()))))))),())).run fun y=>match y with | .ret ((),((x21,x22,()),()))=>(oR ((x21,x22,()),())) | .pan (.ret ((),((x23,x24,x25,()),())))=>(bif decide (0≤aU x23) then oR (([],90,()),()) else bif decide (65536<x25) then oR (([],4,()),()) else bif decide (ap x24≤4294967296) then oR ((bP x24,0,()),()) else none)
theorem P3 (a0:Bool)(a1:List aZ.den):Io.run tt LG dr Ab n9 Tryz.f38 ((a0,a1,()),())=Bk a0 a1:=by kernel_rfl
theorem Ce:HcsOk prog KT:=.cons Q9 (.cons Da (.cons An .nil))
theorem Rr:HcOk prog 38 (ah n9 Ki):=by
 refine bW Ce (lp:=Ab) (fn:=Tryz.f38) n9 (.step (h0:=aG fK o6) (by kernel_rfl) (gi Ce (lp:=Ab) (fn:=Tryz.f38) (.done (by kernel_rfl)) fK o6 ?_) (.done (by kernel_rfl))) Ki ?_
 ·rintro ⟨⟨(pk:Bool),(b0:List aX),(ps:List (LI)),(sz:Int),(bs:List aX),(m:Int),(i:Int),⟨⟩⟩,⟨⟩⟩ y hw hy
  obtain ⟨hg,hy⟩:=Tr.guard hy
  simp only[zA,zB,Bool.not_eq_true'] at hg
  obtain ⟨h1,h2,h3,h4,h5,h6,h7⟩:=hg
  have h1:pk=false:=h1
  have h2:ps=[]:=List.length_eq_zero_iff.1 h2
  have h3:sz=0:=h3
  have h4:m=(bs.length:Int):=h4
  have h5:i=0:=h5
  have h6:bs.length≤8:=h6
  subst h1 h2 h3 h4 h5
  refine ⟨bs.length+1,(EQ b0 bs h6 h7 (bs.length+1) 0 [] (by omega) (Nat.zero_le _) (Nat.zero_le _) (Nat.zero_le _)).trans ?_⟩
  rw[← hy]
  simp only[Tr.val_ite,zB,Tr.val_ret,List.drop_zero]
 ·rintro ⟨⟨(pk:Bool),(bs:List aX),⟨⟩⟩,⟨⟩⟩ out hw ho
  obtain ⟨hg,ho⟩:=Tr.guard ho
  simp only[zA,Bool.not_eq_true'] at hg
  have h1:pk=false:=hg.1
  have h2:mB bs=true:=hg.2
  subst h1
  cases ho
  refine (P3 false bs).trans ?_
  show _=oR (((kj bs).1,(kj bs).2,()),())
  unfold Bk kj
  by_cases c1:bs=[]
  ·refine bT (by simp[c1]) ?_
   rw[if_pos c1]
  refine bF (by simp[c1]) ?_
  rw[if_neg c1]
  by_cases c2:8<(bs.length:Int)
  ·refine bT (decide_eq_true c2) ?_
   rw[if_pos c2]
  refine bF (decide_eq_false c2) ?_
  rw[if_neg c2]
  unfold o6
  refine bT (by simp only[zA,zB,Bool.not_eq_true'];exact ⟨trivial,rfl,trivial,trivial,trivial,show bs.length≤8 by omega,h2⟩) ?_
  show (bif decide ((bD bs []).2=0) then (bif decide (0≤aU bs) then oR (([],90,()),()) else bif decide (65536<(ap (bD bs []).1:Int)) then oR (([],4,()),()) else bif decide (ap (bD bs []).1≤4294967296) then oR ((bP (bD bs []).1,0,()),()) else none) else oR (([],(bD bs []).2,()),()))=_
  by_cases c3:(bD bs []).2=0
  rotate_left
  ·refine bF (decide_eq_false c3) ?_
   rw[if_pos c3]
  refine bT (decide_eq_true c3) ?_
  rw[if_neg (aq c3)]
  by_cases c4:0≤aU bs
  ·refine bT (decide_eq_true c4) ?_
   rw[if_pos c4]
  refine bF (decide_eq_false c4) ?_
  rw[if_neg c4]
  by_cases c5:65536<(ap (bD bs []).1:Int)
  ·refine bT (decide_eq_true c5) ?_
   rw[if_pos c5]
  refine bF (decide_eq_false c5) ?_
  rw[if_neg c5]
  have:=xW bs [] c3
  exact aa (decide_eq_true (by have h9:ap ([]:List (LI))=0:=rfl;omega)) _ _
end
end Go.Proofs.YthpcdhgpplmneaaGreatDoor.Sym
namespace Go.Proofs.YthpcdhgpplmneaaGreatDoor.Sym
open Go
noncomputable section
abbrev kK:Io:=⟨[gL],[],[],[BS],none⟩
def D2 (d:kK.In):Tr kK.Res:=.ret (.ret (((d.1.1,0,-1,-1,-1,[(7,(false,[],()),(false,[1],()),[],())],()),()),()))
abbrev Gz:List (Nat×Hc):=[]
def OS:Hd:=bA Gz
def Hx:Lp:=bQ []
def Im (a0:Int):Option kK.Res:=oR (((a0,0,-1,-1,-1,[(7,(false,[],()),(false,[1],()),[],())],()),()),())
theorem Nl (a0:Int):Io.run tt OS dr Hx kK Tryz.f55 ((a0,()),())=Im a0:=by kernel_rfl
theorem Ps:HcOk prog 55 (ah kK D2):=by
 refine bW (cs:=Gz) HcsOk.nil (lp:=Hx) (fn:=Tryz.f55) kK (.done (by kernel_rfl)) D2 ?_
 rintro ⟨⟨(b:Int),⟨⟩⟩,⟨⟩⟩ out hw ho
 rw[← ho]
 exact Nl b
abbrev f6:Io:=⟨[],[],[],[dB],none⟩
def tv (d:f6.In):Tr f6.Res:=.ret (.ret ((true,()),()))
abbrev xj:List (Nat×Hc):=[(55,ah kK D2),(38,ah n9 Ki),(34,ah gv sG),(41,ah iE yC),(32,ah gu sF)]
def IG:Hd:=bA xj
def xK:Lp:=bQ []
def rx:Option f6.Res:=bif mB [(5,0,-1,-1,-1,[(7,(false,[],()),(false,[1],()),[],())],()),(5,0,-1,-1,-1,[(7,(false,[],()),(false,[1],()),[],())],())] then bif (kj [(5,0,-1,-1,-1,[(7,(false,[],()),(false,[1],()),[],())],()),(5,0,-1,-1,-1,[(7,(false,[],()),(false,[1],()),[],())],())]).2 != 0 then oR ((false,()),()) else bif (↑[0,0,0,0,0,0,0,5,0,0,0,57,0,0,0,0,2,252,52,46,176,0,0,0,0,0,0,0,0,0,0,0,0,0,7,0,0,0,0,0,0,0,7,255,255,255,255,255,255,255,255,255,255,255,255,255,255,0,0,0,1,14,0,0,0,0,2,1,0,0,0,0,0,0,0,0,5,0,0,0,57,0,0,0,0,2,252,52,46,176,0,0,0,0,0,0,0,0,0,0,0,0,0,7,0,0,0,0,0,0,0,7,255,255,255,255,255,255,255,255,255,255,255,255,255,255,0,0,0,1,14,0,0,0,0,2,1,0].length:Int) != 138 then oR ((false,()),()) else bif decide ([0,0,0,0,0,0,0,5,0,0,0,57,0,0,0,0,2,252,52,46,176,0,0,0,0,0,0,0,0,0,0,0,0,0,7,0,0,0,0,0,0,0,7,255,255,255,255,255,255,255,255,255,255,255,255,255,255,0,0,0,1,14,0,0,0,0,2,1,0,0,0,0,0,0,0,0,5,0,0,0,57,0,0,0,0,2,252,52,46,176,0,0,0,0,0,0,0,0,0,0,0,0,0,7,0,0,0,0,0,0,0,7,255,255,255,255,255,255,255,255,255,255,255,255,255,255,0,0,0,1,14,0,0,0,0,2,1,0].length≤4294960000) then bif decide ([0,0,0,0,0,0,0,5,0,0,0,57,0,0,0,0,2,252,52,46,176,0,0,0,0,0,0,0,0,0,0,0,0,0,7,0,0,0,0,0,0,0,7,255,255,255,255,255,255,255,255,255,255,255,255,255,255,0,0,0,1,14,0,0,0,0,2,1,0,0,0,0,0,0,0,0,5,0,0,0,57,0,0,0,0,2,252,52,46,176,0,0,0,0,0,0,0,0,0,0,0,0,0,7,0,0,0,0,0,0,0,7,255,255,255,255,255,255,255,255,255,255,255,255,255,255,0,0,0,1,14,0,0,0,0,2,1,0].length≤4294960000) then bif decide ([0,0,0,0,0,0,0,9,0,0,0,57,0,0,0,2,2,252,52,46,176,0,0,0,0,0,0,0,0,0,0,0,0,0,7,0,0,0,0,0,0,0,7,255,255,255,255,255,255,255,255,255,255,255,255,255,255,0,0,0,1,14,0,0,0,0,2,1,0,0,0,0,0,0,0,0,10,0,0,0,57,0,0,0,2,2,252,52,46,176,0,0,0,0,0,0,0,0,0,0,0,0,0,7,0,0,0,0,0,0,0,7,255,255,255,255,255,255,255,255,255,255,255,255,255,255,0,0,0,1,14,0,0,0,0,2,1,0].length≤4294960000) then bif (b8 [0,0,0,0,0,0,0,5,0,0,0,57,0,0,0,0,2,252,52,46,176,0,0,0,0,0,0,0,0,0,0,0,0,0,7,0,0,0,0,0,0,0,7,255,255,255,255,255,255,255,255,255,255,255,255,255,255,0,0,0,1,14,0,0,0,0,2,1,0,0,0,0,0,0,0,0,5,0,0,0,57,0,0,0,0,2,252,52,46,176,0,0,0,0,0,0,0,0,0,0,0,0,0,7,0,0,0,0,0,0,0,7,255,255,255,255,255,255,255,255,255,255,255,255,255,255,0,0,0,1,14,0,0,0,0,2,1,0]).2.2 == 190 then bif (gU [0,0,0,0,0,0,0,5,0,0,0,57,0,0,0,0,2,252,52,46,176,0,0,0,0,0,0,0,0,0,0,0,0,0,7,0,0,0,0,0,0,0,7,255,255,255,255,255,255,255,255,255,255,255,255,255,255,0,0,0,1,14,0,0,0,0,2,1,0,0,0,0,0,0,0,0,5,0,0,0,57,0,0,0,0,2,252,52,46,176,0,0,0,0,0,0,0,0,0,0,0,0,0,7,0,0,0,0,0,0,0,7,255,255,255,255,255,255,255,255,255,255,255,255,255,255,0,0,0,1,14,0,0,0,0,2,1,0] 9 2).2.2 == 0 then bif (gU [0,0,0,0,0,0,0,5,0,0,0,57,0,0,0,0,2,252,52,46,176,0,0,0,0,0,0,0,0,0,0,0,0,0,7,0,0,0,0,0,0,0,7,255,255,255,255,255,255,255,255,255,255,255,255,255,255,0,0,0,1,14,0,0,0,0,2,1,0,0,0,0,0,0,0,0,5,0,0,0,57,0,0,0,0,2,252,52,46,176,0,0,0,0,0,0,0,0,0,0,0,0,0,7,0,0,0,0,0,0,0,7,255,255,255,255,255,255,255,255,255,255,255,255,255,255,0,0,0,1,14,0,0,0,0,2,1,0] 9 2).2.1 == 11 then bif (↑(db (al [0,0,0,0,0,0,0,9,0,0,0,57,0,0,0,2,2,252,52,46,176,0,0,0,0,0,0,0,0,0,0,0,0,0,7,0,0,0,0,0,0,0,7,255,255,255,255,255,255,255,255,255,255,255,255,255,255,0,0,0,1,14,0,0,0,0,2,1,0,0,0,0,0,0,0,0,10,0,0,0,57,0,0,0,2,2,252,52,46,176,0,0,0,0,0,0,0,0,0,0,0,0,0,7,0,0,0,0,0,0,0,7,255,255,255,255,255,255,255,255,255,255,255,255,255,255,0,0,0,1,14,0,0,0,0,2,1,0]).1):Int) == 2 then oR (((al [0,0,0,0,0,0,0,9,0,0,0,57,0,0,0,2,2,252,52,46,176,0,0,0,0,0,0,0,0,0,0,0,0,0,7,0,0,0,0,0,0,0,7,255,255,255,255,255,255,255,255,255,255,255,255,255,255,0,0,0,1,14,0,0,0,0,2,1,0,0,0,0,0,0,0,0,10,0,0,0,57,0,0,0,2,2,252,52,46,176,0,0,0,0,0,0,0,0,0,0,0,0,0,7,0,0,0,0,0,0,0,7,255,255,255,255,255,255,255,255,255,255,255,255,255,255,0,0,0,1,14,0,0,0,0,2,1,0]).2.2 == 0,()),()) else oR ((false,()),()) else oR ((false,()),()) else oR ((false,()),()) else oR ((false,()),()) else none else none else none else none
theorem Fb:Io.run tt IG dr xK f6 Tryz.f28 ((),())=rx:=by kernel_rfl
theorem IZ:HcOk prog 28 (ah f6 tv):=by
 refine bW (cs:=xj) (.cons Ps (.cons Rr (.cons C9 (.cons MG (.cons C8 .nil))))) (lp:=xK) (fn:=Tryz.f28) f6 (.done (by kernel_rfl)) tv ?_
 rintro ⟨⟨⟩,⟨⟩⟩ out hw ho
 cases ho
 have e:rx=oR ((true,()),()):=by kernel_rfl
 exact Fb.trans e
end
end Go.Proofs.YthpcdhgpplmneaaGreatDoor.Sym
namespace Go.Proofs.YthpcdhgpplmneaaGreatDoor.Sym
open Go
open Go.IntKind (i8 i16 i32 i64 u8 u16 u32 u64)
noncomputable section
def ch (a b:List aX):Bool:=@ite Bool (a=b) (Classical.propDecidable _) true false
theorem ce {a b:List aX}:ch a b=true↔a=b:=by unfold ch;split <;> simp[*]
abbrev iJ:Io:=⟨[dL],[],[],[QH,dI],none⟩
def yJ (d:iJ.In):Tr iJ.Res:=.ite (decide (d.1.1.length≤4294960000)) (.ret (.ret (((au d.1.1).1,(au d.1.1).2,()),()))) .no
abbrev BN:List (Nat×Hc):=[(71,ah jr yO),(23,ah kx DS)]
def Ct:Hd:=bA BN
abbrev dy:Lo:=⟨⟨(.one (.hol (.sl 5 (Ty.int u8)))::.any::bh (.one (.onl 22 (Ty.sl 5 (Ty.int u8)) 9)::.one hI::ai (ai (bz (bh []))))),[]⟩,[(.ret,⟨(bh (.one (.onl 22 (Ty.sl 5 (Ty.int u8)) 5)::.one hI::ai (ai (cy [])))),[]⟩),(.exit 0,⟨(bz (.one (.onl 22 (Ty.sl 5 (Ty.int u8)) 9)::.any::ai (ai (bz (bh []))))),[]⟩)]⟩
def j5 (d:dy.st.den):Tr (ao dy.xs):=
 .ite (decide (d.1.2.1.length=0)&&(decide (d.1.2.2.1=0)&&decide (d.1.1.length≤65536))) (.ite (decide ((aL d.1.1 10 0 []).2=0)) (.ret (.pan (.ret ((),(((aL d.1.1 10 0 []).1,()),()))))) (.ret (.ret ((),(([],((aL d.1.1 10 0 []).2,())),()))))) .no
def pQ:Lp:=bQ [(8,aG dy j5)]
def qs {R:Type}(h1:LI)(h2:List (Ty.sl 5 (Ty.int u8)).den)(h3:Int)(next:LI→List (Ty.sl 5 (Ty.int u8)).den→Int→Option R)(out:ao dy.xs→Option R):Option R:=bif decide (h3<(↑h1.length:Int)) then bif decide (8≤(↑h2.length:Int)) then out (.ret ((),(([],(9,())),()))) else bif (aw h1 h3).2 != 0 then out (.ret ((),(([],((aw h1 h3).2,())),()))) else bif decide (h1.length≤4294967296) then bif decide (h2.length+1≤4294967296) then next (h1) (h2++[List.drop h3.toNat (List.take (i64.wrap (h3+(aw h1 h3).1)).toNat h1)]) (i64.wrap (h3+(aw h1 h3).1)) else none else none else out (.pan (.ret ((),((h2,()),()))))
def oE (n:Nat)(h1:LI)(h2:List (Ty.sl 5 (Ty.int u8)).den)(h3:Int):Option (ao dy.xs):=fV tt Ct dr pQ 0 Tryz.f58 (b9 Tryz.f58 0) n (dy.st.mk' ((h1,(h2,(h3,()))),())) (bH dy.xs)
theorem Fz (n:Nat)(h1:LI)(h2:List (Ty.sl 5 (Ty.int u8)).den)(h3:Int):oE (n+1) h1 h2 h3=qs h1 h2 h3 (oE n) some:=by kernel_rfl
theorem zO (b:LI)(hl:b.length≤65536):∀(n k:Nat) (p:Int) (ps:List (LI)),8<n+ps.length→n≤k→0≤p→p≤(b.length:Int)→ps.length≤8→
  oE k b ps p=if (aL b n p ps).2=0 then some (.pan (.ret ((),(((aL b n p ps).1,()),())))) else some (.ret ((),(([],((aL b n p ps).2,())),()))):=by
 intro n
 induction n with
 |zero=>intro k p ps h1 h2 h3 h4 h5;omega
 |succ n ih=>
  intro k p ps h1 h2 h3 h4 h5
  obtain ⟨k,rfl⟩:∃j,k=j+1:=⟨k - 1,by omega⟩
  rw[Fz]
  unfold qs aL
  by_cases c1:(b.length:Int)≤p
  ·refine bF (decide_eq_false (by omega)) ?_
   rw[if_pos c1,if_pos rfl]
  refine bT (decide_eq_true (by omega)) ?_
  rw[if_neg c1]
  by_cases c2:ps.length=8
  ·refine bT (decide_eq_true (by omega)) ?_
   rw[if_pos c2,if_neg (show (9:Int)≠0 by decide)]
  refine bF (decide_eq_false (by omega)) ?_
  rw[if_neg c2]
  by_cases c3:(aw b p).2=0
  rotate_left
  ·refine bT (by simpa using c3) ?_
   rw[if_pos c3,if_neg c3]
  refine bF (by simpa using c3) ?_
  rw[if_neg (aq c3)]
  have hm:=hY c3
  rw[af (n:=p+(aw b p).1) (by omega) (by omega),List.drop_take,show (p+(aw b p).1).toNat - p.toNat=(aw b p).1.toNat by omega]
  refine bT (decide_eq_true (by omega)) ?_
  refine bT (decide_eq_true (by omega)) ?_
  exact ih k _ _ (by simp;omega) (by omega) (by omega) (by omega) (by simp;omega)
def t5 (a0:LI):Option iJ.Res:=bif (↑a0.length:Int) == 0 then oR (([],85,()),()) else bif decide (65536<(↑a0.length:Int)) then oR (([],4,()),()) else (j5 ((a0,([],(0,()))),())).run fun y=>match y with | .ret ((),((x12,x13,()),()))=>(oR ((x12,x13,()),())) | .pan (.ret ((),((x14,()),())))=>(oR ((x14,0,()),()))
theorem Jt (a0:LI):Io.run tt Ct dr pQ iJ Tryz.f58 ((a0,()),())=t5 a0:=by kernel_rfl
theorem uA:HcsOk prog BN:=.cons H0 (.cons Pd .nil)
theorem MM:HcOk prog 58 (ah iJ yJ):=by
 refine bW uA (lp:=pQ) (fn:=Tryz.f58) iJ (.step (h0:=aG dy j5) (by kernel_rfl) (gi uA (lp:=pQ) (fn:=Tryz.f58) (.done (by kernel_rfl)) dy j5 ?_) (.done (by kernel_rfl))) yJ ?_
 ·rintro ⟨⟨(b:LI),(ps:List (LI)),(p:Int),⟨⟩⟩,⟨⟩⟩ y hw hy
  obtain ⟨hg,hy⟩:=Tr.guard hy
  simp only[zA,zB] at hg
  obtain ⟨h1,h2,h3⟩:=hg
  have h1:ps=[]:=List.length_eq_zero_iff.1 h1
  have h2:p=0:=h2
  have h3:b.length≤65536:=h3
  subst h1 h2
  refine ⟨10,(zO b h3 10 10 0 [] (by simp) (Nat.le_refl _) (Int.le_refl 0) (by omega) (Nat.zero_le _)).trans ?_⟩
  rw[← hy]
  simp only[Tr.val_ite,zB,Tr.val_ret]
 ·rintro ⟨⟨(b:LI),⟨⟩⟩,⟨⟩⟩ out hw ho
  obtain ⟨hg,ho⟩:=Tr.guard ho
  cases ho
  refine (Jt b).trans ?_
  show _=oR (((au b).1,(au b).2,()),())
  unfold t5 au
  by_cases c1:b=[]
  ·refine bT (by simp[c1]) ?_
   rw[if_pos c1]
  refine bF (by simp[c1]) ?_
  rw[if_neg c1]
  by_cases c2:65536<(b.length:Int)
  ·refine bT (decide_eq_true c2) ?_
   rw[if_pos c2]
  refine bF (decide_eq_false c2) ?_
  rw[if_neg c2]
  unfold j5
  refine bT (by simp only[zA,zB];exact ⟨rfl,trivial,show b.length≤65536 by omega⟩) ?_
  show (bif decide ((aL b 10 0 []).2=0) then oR (((aL b 10 0 []).1,0,()),()) else oR (([],(aL b 10 0 []).2,()),()))=_
  by_cases c3:(aL b 10 0 []).2=0
  ·refine bT (decide_eq_true c3) ?_
   rw[c3]
  ·refine bF (decide_eq_false c3) ?_
   rw[oQ 10 0 [] c3]
abbrev iI:Io:=⟨[rD],[],[],[dI],none⟩
def yI (d:iI.In):Tr iI.Res:=.ret (.ret ((aU d.1.1,()),()))
abbrev um:List (Nat×Hc):=[]
def Cs:Hd:=bA um
abbrev dx:Lo:=⟨⟨(.one (.hol (.sl 77 aZ))::bh (.one hI::ai (bh []))),[]⟩,[(.ret,⟨(bh (.one hI::.any::ai (bh []))),[]⟩),(.exit 0,⟨(ai (bz (bh []))),[]⟩)]⟩
def j4 (d:dx.st.den):Tr (ao dx.xs):=
 .ite (decide (d.1.2.1=0)) (.ite (decide (0≤aU d.1.1)) (.ret (.ret ((),((aU d.1.1,()),())))) (.ret (.pan (.ret ((),((),())))))) .no
def pP:Lp:=bQ [(3,aG dx j4)]
def lk {R:Type}(h1:List aZ.den)(h2:Int)(next:List aZ.den→Int→Option R)(out:ao dx.xs→Option R):Option R:=bif decide (h2<(↑h1.length:Int)) then bif decide (1<(↑h1.length:Int)) then bif decide (0≤h2)&&decide (h2<(↑h1.length:Int)) then bif (h1.getD h2.toNat (0,0,0,0,0,[],())).2.2.1 != -1 then out (.ret ((),((h2,()),()))) else next (h1) (i64.wrap (h2+1)) else none else out (.pan (.ret ((),((),())))) else out (.pan (.ret ((),((),()))))
def kW (n:Nat)(h1:List aZ.den)(h2:Int):Option (ao dx.xs):=fV tt Cs dr pP 0 Tryz.f60 (b9 Tryz.f60 0) n (dx.st.mk' ((h1,(h2,())),())) (bH dx.xs)
theorem vu (n:Nat)(h1:List aZ.den)(h2:Int):kW (n+1) h1 h2=lk h1 h2 (kW n) some:=by kernel_rfl
theorem zy (bs:List aX)(h2l:2≤bs.length)(hl:bs.length≤maxLen):∀(k i:Nat),bs.length<i+k→i≤bs.length→
  kW k bs i=if 0≤dQ (bs.drop i) i then some (.ret ((),((dQ (bs.drop i) i,()),()))) else some (.pan (.ret ((),((),())))):=by
 intro k
 induction k with
 |zero=>intro i h;omega
 |succ k ih=>
  intro i h1 h2
  rw[vu]
  unfold lk
  by_cases hi:i<bs.length
  rotate_left
  ·refine bF (decide_eq_false (by omega)) ?_
   rw[zI (by omega)]
   exact (if_neg (show ¬(0:Int)≤-1 by decide)).symm
  refine bT (decide_eq_true (by omega)) ?_
  refine bT (decide_eq_true (by omega)) ?_
  refine bT (by simpa using hi) ?_
  have e:List.getD bs (i:Int).toNat (0,0,0,0,0,[],())=bs[i]:=by rw[zG,aC hi]
  rw[e,zE hi,aM hi hl]
  have e2:dQ (bs[i]::bs.drop (i+1)) i=if bs[i].2.2.1≠-1 then (i:Int) else dQ (bs.drop (i+1)) ((i:Int)+1):=rfl
  rw[e2]
  by_cases c:bs[i].2.2.1 = -1
  ·refine bF (by simpa using c) ?_
   rw[if_neg (aq c)]
   exact ih (i+1) (by omega) (by omega)
  ·refine bT (by simpa using c) ?_
   rw[if_pos c,if_pos (by omega)]
def t4 (a0:List aZ.den):Option iI.Res:=(j4 ((a0,(0,())),())).run fun y=>match y with | .ret ((),((x6,()),()))=>(oR ((x6,()),())) | .pan (.ret ((),((),())))=>(oR ((-1,()),()))
theorem Js (a0:List aZ.den):Io.run tt Cs dr pP iI Tryz.f60 ((a0,()),())=t4 a0:=by kernel_rfl
theorem ML:HcOk prog 60 (ah iI yI):=by
 refine bW (cs:=um) HcsOk.nil (lp:=pP) (fn:=Tryz.f60) iI (.step (h0:=aG dx j4) (by kernel_rfl) (gi (cs:=um) HcsOk.nil (lp:=pP) (fn:=Tryz.f60) (.done (by kernel_rfl)) dx j4 ?_) (.done (by kernel_rfl))) yI ?_
 ·rintro ⟨⟨(bs:List aX),(i:Int),⟨⟩⟩,⟨⟩⟩ y hw hy
  obtain ⟨hg,hy⟩:=Tr.guard hy
  have h2:i=0:=of_decide_eq_true hg
  subst h2
  by_cases c:bs.length<2
  ·refine ⟨1,?_⟩
   have e:aU bs = -1:=by unfold aU;rw[if_pos c]
   have hy:Tr.val (Tr.ite (decide (0≤aU bs)) (Tr.ret (Out.ret ((),((aU bs,()),())))) (Tr.ret (Out.pan (Out.ret ((),((),()))))))=some y:=hy
   rw[e,Tr.val_ite,if_neg (by decide),Tr.val_ret] at hy
   refine Eq.trans ?_ hy
   show kW 1 bs 0=_
   rw[vu]
   unfold lk
   by_cases c0:bs.length=0
   ·exact ae (decide_eq_false (by omega)) _ _
   ·refine bT (decide_eq_true (by omega)) ?_
    exact ae (decide_eq_false (by omega)) _ _
  ·refine ⟨bs.length+1,(zy bs (by omega) hw.1.1.1 (bs.length+1) 0 (by omega) (Nat.zero_le _)).trans ?_⟩
   have e:aU bs=dQ bs 0:=by unfold aU;rw[if_neg c]
   have hy:Tr.val (Tr.ite (decide (0≤aU bs)) (Tr.ret (Out.ret ((),((aU bs,()),())))) (Tr.ret (Out.pan (Out.ret ((),((),()))))))=some y:=hy
   rw[← hy,e]
   simp only[Tr.val_ite,zB,Tr.val_ret,List.drop_zero]
   rfl
 ·rintro ⟨⟨(bs:List aX),⟨⟩⟩,⟨⟩⟩ out hw ho
  cases ho
  refine (Js bs).trans ?_
  show _=oR ((aU bs,()),())
  unfold t4 j4
  refine (aa rfl _ _).trans ?_
  show (bif decide (0≤aU bs) then oR ((aU bs,()),()) else oR ((-1,()),()))=_
  have h:0≤aU bs∨aU bs = -1:=by
   unfold aU
   split
   ·exact .inr rfl
   ·exact oN bs 0 (Int.le_refl 0)
  rcases h with c2 | c2
  ·exact aa (decide_eq_true c2) _ _
  ·refine bF (decide_eq_false (by omega)) ?_
   rw[c2]
abbrev lY:Io:=⟨[dL],[],[],[rD,dI,dI],none⟩
def F1 (d:lY.In):Tr lY.Res:=.ite (decide (d.1.1.length≤4294960000)) (.ret (.ret (((al d.1.1).1,(al d.1.1).2.1,(al d.1.1).2.2,()),()))) .no
abbrev KU:List (Nat×Hc):=[(58,ah iJ yJ),(59,ah jI Kj),(60,ah iI yI)]
def LH:Hd:=bA KU
abbrev fL:Lo:=⟨⟨(.any::bz (.one (.hol (.sl 22 (Ty.sl 5 (Ty.int u8))))::.any::.one (.onl 77 aZ 15)::.one hI::ai (ai (cy [])))),[]⟩,[(.ret,⟨(bh (.one (.onl 77 aZ 5)::.one hI::.one hI::ai (ai (cy (bz []))))),[]⟩),(.exit 0,⟨(.any::bz (bh (.one (.onl 77 aZ 15)::.any::ai (ai (cy []))))),[]⟩)]⟩
def o7 (d:fL.st.den):Tr (ao fL.xs):=
 .ite (decide (d.1.2.1.length=0)&&(decide (d.1.2.2.1=0)&&(decide (d.1.1.length≤8)&&gf d.1.1)))
  (.ite (decide ((aB d.1.1 0 []).2.2=0)) (.ret (.pan (.ret ((),(((aB d.1.1 0 []).1,()),()))))) (.ret (.ret ((),(([],((aB d.1.1 0 []).2.1,((aB d.1.1 0 []).2.2,()))),()))))) .no
def Ac:Lp:=bQ [(7,aG fL o7)]
def vQ {R:Type}(h1:List bs.den)(h2:List aZ.den)(h3:Int)(next:List bs.den→List aZ.den→Int→Option R)(out:ao fL.xs→Option R):Option R:=bif decide (h3<(↑h1.length:Int)) then bif decide (0≤h3)&&decide (h3<(↑h1.length:Int)) then bif decide (List.length (h1.getD h3.toNat [])≤4294960000) then bif (aE (h1.getD h3.toNat [])).2 != 0 then out (.ret ((),(([],(h3,((aE (h1.getD h3.toNat [])).2,()))),()))) else bif decide (h2.length+1≤4294967296) then next (h1) (h2++[(aE (h1.getD h3.toNat [])).1]) (i64.wrap (h3+1)) else none else none else none else out (.pan (.ret ((),((h2,()),()))))
def uQ (n:Nat)(h1:List bs.den)(h2:List aZ.den)(h3:Int):Option (ao fL.xs):=fV tt LH dr Ac 0 Tryz.f30 (b9 Tryz.f30 0) n (fL.st.mk' ((h1,(h2,(h3,()))),())) (bH fL.xs)
theorem NM (n:Nat)(h1:List bs.den)(h2:List aZ.den)(h3:Int):uQ (n+1) h1 h2 h3=vQ h1 h2 h3 (uQ n) some:=by kernel_rfl
theorem ES (ps:List (LI))(h8:ps.length≤8)(hl:ps.length≤maxLen)(hp:gf ps=true):∀(k i:Nat) (out:List aX),ps.length<i+k→i≤ps.length→out.length≤i→
  uQ k ps out i=if (aB (ps.drop i) i out).2.2=0 then some (.pan (.ret ((),(((aB (ps.drop i) i out).1,()),())))) else some (.ret ((),(([],((aB (ps.drop i) i out).2.1,((aB (ps.drop i) i out).2.2,()))),()))):=by
 intro k
 induction k with
 |zero=>intro i out h;omega
 |succ k ih=>
  intro i out h1 h2 h3
  rw[NM]
  unfold vQ
  by_cases hi:i<ps.length
  rotate_left
  ·refine bF (decide_eq_false (by omega)) ?_
   rw[zI (by omega)]
   rfl
  refine bT (decide_eq_true (by omega)) ?_
  refine bT (by simpa using hi) ?_
  have e:List.getD ps (i:Int).toNat []=ps[i]:=by rw[zG,aC hi]
  have hpi:ps[i].length≤4294960000:=of_decide_eq_true (List.all_eq_true.1 hp ps[i] (List.getElem_mem hi))
  rw[e,zE hi,aM hi hl]
  have e2:aB (ps[i]::ps.drop (i+1)) i out=if (aE ps[i]).2≠0 then ([],(i:Int),(aE ps[i]).2) else aB (ps.drop (i+1)) ((i:Int)+1) (out++[(aE ps[i]).1]):=rfl
  rw[e2]
  refine bT (decide_eq_true hpi) ?_
  by_cases c:(aE ps[i]).2=0
  ·refine bF (by simpa using c) ?_
   rw[if_neg (aq c)]
   refine bT (decide_eq_true (by omega)) ?_
   exact ih (i+1) _ (by omega) (by omega) (by simp;omega)
  ·refine bT (by simpa using c) ?_
   rw[if_pos c,if_neg c]
def Bm (a0:LI):Option lY.Res:=bif decide (a0.length≤4294960000) then bif (au a0).2 != 0 then oR (([],0,(au a0).2,()),()) else (o7 (((au a0).1,([],(0,()))),())).run fun y=>match y with | .ret ((),((x11,x12,x13,()),()))=>(oR ((x11,x12,x13,()),())) | .pan (.ret ((),((x14,()),())))=>(bif decide (0≤aU x14) then oR (([],aU x14,90,()),()) else oR ((x14,0,0,()),())) else none
theorem P4 (a0:LI):Io.run tt LH dr Ac lY Tryz.f30 ((a0,()),())=Bm a0:=by kernel_rfl
theorem Cf:HcsOk prog KU:=.cons MM (.cons RA (.cons ML .nil))
theorem MJ:HcOk prog 30 (ah lY F1):=by
 refine bW Cf (lp:=Ac) (fn:=Tryz.f30) lY (.step (h0:=aG fL o7) (by kernel_rfl) (gi Cf (lp:=Ac) (fn:=Tryz.f30) (.done (by kernel_rfl)) fL o7 ?_) (.done (by kernel_rfl))) F1 ?_
 ·rintro ⟨⟨(ps:List (LI)),(out:List aX),(i:Int),⟨⟩⟩,⟨⟩⟩ y hw hy
  obtain ⟨hg,hy⟩:=Tr.guard hy
  simp only[zA,zB] at hg
  obtain ⟨h1,h3,h5,h4⟩:=hg
  have h1:out=[]:=List.length_eq_zero_iff.1 h1
  have h3:i=0:=h3
  subst h1 h3
  refine ⟨ps.length+1,(ES ps h5 hw.1.1.1 h4 (ps.length+1) 0 [] (by omega) (Nat.zero_le _) (Nat.zero_le _)).trans ?_⟩
  rw[← hy]
  simp only[Tr.val_ite,zB,Tr.val_ret,List.drop_zero]
  rfl
 ·rintro ⟨⟨(b:LI),⟨⟩⟩,⟨⟩⟩ out hw ho
  obtain ⟨hg,ho⟩:=Tr.guard ho
  cases ho
  have hb:bk b:=bytesOf hw.1.1
  refine (P4 b).trans ?_
  show _=oR (((al b).1,(al b).2.1,(al b).2.2,()),())
  unfold Bm al
  refine (aa hg _ _).trans ?_
  by_cases c1:(au b).2=0
  rotate_left
  ·refine bT (by simpa using c1) ?_
   rw[if_pos c1]
  refine bF (by simpa using c1) ?_
  rw[if_neg (aq c1)]
  obtain ⟨k1,_,k3,_⟩:=gF hb c1
  unfold o7
  refine bT (by simp only[zA,zB];exact ⟨rfl,trivial,k3,oJ k1⟩) ?_
  show (bif decide ((aB (au b).1 0 []).2.2=0) then (bif decide (0≤aU (aB (au b).1 0 []).1) then oR (([],aU (aB (au b).1 0 []).1,90,()),()) else oR (((aB (au b).1 0 []).1,0,0,()),())) else oR (([],(aB (au b).1 0 []).2.1,(aB (au b).1 0 []).2.2,()),()))=_
  by_cases c2:(aB (au b).1 0 []).2.2=0
  rotate_left
  ·refine bF (decide_eq_false c2) ?_
   rw[if_pos c2]
  refine bT (decide_eq_true c2) ?_
  rw[if_neg (aq c2)]
  by_cases c3:0≤aU (aB (au b).1 0 []).1
  ·refine bT (decide_eq_true c3) ?_
   rw[if_pos c3]
  ·refine bF (decide_eq_false c3) ?_
   rw[if_neg c3]
abbrev iG:Io:=⟨[rD],[],[],[dI],none⟩
def yG (d:iG.In):Tr iG.Res:=.ite (decide (db d.1.1≤4294960000)) (.ret (.ret ((((db d.1.1:Nat):Int),()),()))) .no
abbrev ul:List (Nat×Hc):=[]
def Cq:Hd:=bA ul
abbrev dv:Lo:=⟨⟨(.one (.hol (.sl 77 aZ))::bh (.one hI::.one hI::.any::cy (bz (bh [])))),[]⟩,[(.exit 0,⟨(.any::bh (.one hI::ai [])),[]⟩)]⟩
def j0 (d:dv.st.den):Tr (ao dv.xs):=
 .ite (decide (d.1.2.1=0)&&(decide (d.1.2.2.1=0)&&decide (db d.1.1≤4294960000))) (.ret (.ret ((),(((db d.1.1:Int),()),())))) .no
def pN:Lp:=bQ [(4,aG dv j0)]
def qq {R:Type}(h1:List aZ.den)(h2 h3:Int)(next:List aZ.den→Int→Int→Option R)(out:ao dv.xs→Option R):Option R:=bif decide (h3<(↑h1.length:Int)) then bif decide (0≤h3)&&decide (h3<(↑h1.length:Int)) then next (h1) (i64.wrap (h2+(↑(List.length (h1.getD h3.toNat (0,0,0,0,0,[],())).2.2.2.2.2.1):Int))) (i64.wrap (h3+1)) else none else out (.ret ((),((h2,()),())))
def oC (n:Nat)(h1:List aZ.den)(h2 h3:Int):Option (ao dv.xs):=fV tt Cq dr pN 0 Tryz.f33 (b9 Tryz.f33 0) n (dv.st.mk' ((h1,(h2,(h3,()))),())) (bH dv.xs)
theorem Fx (n:Nat)(h1:List aZ.den)(h2 h3:Int):oC (n+1) h1 h2 h3=qq h1 h2 h3 (oC n) some:=by kernel_rfl
theorem zw (bs:List aX)(hl:bs.length≤maxLen):∀(k i n:Nat),bs.length<i+k→i≤bs.length→n+db (bs.drop i)≤4294960000→
  oC k bs n i=some (.ret ((),((((n+db (bs.drop i):Nat):Int),()),()))):=by
 intro k
 induction k with
 |zero=>intro i n h;omega
 |succ k ih=>
  intro i n h1 h2 h3
  rw[Fx]
  unfold qq
  by_cases hi:i<bs.length
  rotate_left
  ·refine bF (decide_eq_false (by omega)) ?_
   rw[zI (by omega)]
   rfl
  rw[vv hi] at h3 ⊢
  refine bT (decide_eq_true (by omega)) ?_
  refine bT (by simpa using hi) ?_
  have e:List.getD bs (i:Int).toNat (0,0,0,0,0,[],())=bs[i]:=by rw[zG,aC hi]
  rw[e,aM hi hl,af (n:=(n:Int)+(bs[i].2.2.2.2.2.1.length:Int)) (by omega) (by omega)]
  have:=ih (i+1) (n+bs[i].2.2.2.2.2.1.length) (by omega) (by omega) (by omega)
  rw[show ((n+bs[i].2.2.2.2.2.1.length:Nat):Int)=(n:Int)+(bs[i].2.2.2.2.2.1.length:Int) by omega] at this
  refine this.trans ?_
  rw[Nat.add_assoc]
def tY (a0:List aZ.den):Option iG.Res:=(j0 ((a0,(0,(0,()))),())).run fun y=>match y with | .ret ((),((x8,()),()))=>(oR ((x8,()),()))
theorem Jq (a0:List aZ.den):Io.run tt Cq dr pN iG Tryz.f33 ((a0,()),())=tY a0:=by kernel_rfl
theorem MI:HcOk prog 33 (ah iG yG):=by
 refine bW (cs:=ul) HcsOk.nil (lp:=pN) (fn:=Tryz.f33) iG (.step (h0:=aG dv j0) (by kernel_rfl) (gi (cs:=ul) HcsOk.nil (lp:=pN) (fn:=Tryz.f33) (.done (by kernel_rfl)) dv j0 ?_) (.done (by kernel_rfl))) yG ?_
 ·rintro ⟨⟨(bs:List aX),(n:Int),(i:Int),⟨⟩⟩,⟨⟩⟩ y hw hy
  obtain ⟨hg,hy⟩:=Tr.guard hy
  simp only[zA,zB] at hg
  obtain ⟨h1,h3,h4⟩:=hg
  have h1:n=0:=h1
  have h3:i=0:=h3
  have h4:db bs≤4294960000:=h4
  subst h1 h3
  refine ⟨bs.length+1,(zw bs hw.1.1.1 (bs.length+1) 0 0 (by omega) (Nat.zero_le _) (by rw[List.drop_zero];omega)).trans ?_⟩
  rw[← hy,List.drop_zero,Nat.zero_add];rfl
 ·rintro ⟨⟨(bs:List aX),⟨⟩⟩,⟨⟩⟩ out hw ho
  obtain ⟨hg,ho⟩:=Tr.guard ho
  cases ho
  refine (Jq bs).trans ?_
  unfold tY j0
  refine bT (by show (decide ((0:Int)=0)&&(decide ((0:Int)=0)&&decide (db bs≤4294960000)))=true;rw[show decide (db bs≤4294960000)=true from hg];rfl) ?_
  rfl
abbrev iH:Io:=⟨[dL],[],[],[gL,gL,dI],none⟩
def yH (d:iH.In):Tr iH.Res:=.ite (decide (d.1.1.length≤4294960000)) (.ret (.ret (((b8 d.1.1).1,(b8 d.1.1).2.1,(b8 d.1.1).2.2,()),()))) .no
abbrev BM:List (Nat×Hc):=[(30,ah lY F1)]
def Cr:Hd:=bA BM
abbrev dw:Lo:=⟨⟨(.any::bz (.one (.hol (.sl 77 aZ))::bh (.one hI::.any::ai (ai (ai (bz (bh []))))))),[]⟩,[(.ret,⟨(bh (.one hI::.one hI::.one hI::.any::ai (ai (ai (cy (bh [])))))),[]⟩),(.exit 0,⟨(.any::bz (.one (.hol (.sl 77 aZ))::ai (ai (ai (cy (bh [])))))),[]⟩)]⟩
def j3 (d:dw.st.den):Tr (ao dw.xs):=
 .ite (decide (d.1.2.1=1)&&(decide (1≤d.1.1.length)&&eT d.1.1))
  (.ite (cY d.1.1 (lg d.1.1)).2 (.ret (.pan (.ret ((),((d.1.1,()),()))))) (.ret (.ret ((),((0,(0,(190,()))),()))))) .no
def pO:Lp:=bQ [(6,aG dw j3)]
def qr {R:Type}(h1:List aZ.den)(h2:Int)(next:List aZ.den→Int→Option R)(out:ao dw.xs→Option R):Option R:=bif decide (h2<(↑h1.length:Int)) then bif decide (0≤h2)&&decide (h2<(↑h1.length:Int)) then bif decide (0≤i64.wrap (h2 - 1))&&decide (i64.wrap (h2 - 1)<(↑h1.length:Int)) then bif decide (0≤i64.wrap (h2 - 1))&&decide (i64.wrap (h2 - 1)<(↑h1.length:Int)) then bif (h1.getD h2.toNat (0,0,0,0,0,[],())).1 != i64.wrap ((h1.getD (i64.wrap (h2 - 1)).toNat (0,0,0,0,0,[],())).1+(↑(List.length (h1.getD (i64.wrap (h2 - 1)).toNat (0,0,0,0,0,[],())).2.2.2.2.2.1):Int)) then out (.ret ((),((0,(0,(190,()))),()))) else next (h1) (i64.wrap (h2+1)) else none else none else none else out (.pan (.ret ((),((h1,()),()))))
def oD (n:Nat)(h1:List aZ.den)(h2:Int):Option (ao dw.xs):=fV tt Cr dr pO 0 Tryz.f35 (b9 Tryz.f35 0) n (dw.st.mk' ((h1,(h2,())),())) (bH dw.xs)
theorem Fy (n:Nat)(h1:List aZ.den)(h2:Int):oD (n+1) h1 h2=qr h1 h2 (oD n) some:=by kernel_rfl
theorem K4 {bs:List aX}{i:Nat}(hi:i<bs.length)(q:Int):cY (bs.drop i) q=if bs[i].1≠q then (0,false) else cY (bs.drop (i+1)) (q+(bs[i].2.2.2.2.2.1.length:Int)):=by
 rw[zE hi];rfl
theorem zx (bs:List aX)(hl:bs.length≤maxLen)(hk:eT bs=true):∀(k i:Nat) (h1:1≤i) (h2:i≤bs.length),bs.length<i+k→
  oD k bs i=if (cY (bs.drop i) ((bs[i - 1]'(by omega)).1+((bs[i - 1]'(by omega)).2.2.2.2.2.1.length:Int))).2=true then some (.pan (.ret ((),((bs,()),())))) else some (.ret ((),((0,(0,(190,()))),()))):=by
 have hl':=hl
 rw[bg] at hl'
 have hx:∀(j:Nat) (hj:j<bs.length),0≤bs[j].1∧bs[j].1≤4611686018427387648∧bs[j].2.2.2.2.2.1.length≤256:=by
  intro j hj
  have h:=List.all_eq_true.1 hk bs[j] (List.getElem_mem hj)
  simp only[zA,zB] at h
  exact h
 intro k
 induction k with
 |zero=>intro i h1 h2 h;omega
 |succ k ih=>
  intro i h1 h2 h
  rw[Fy]
  unfold qr
  by_cases hi:i<bs.length
  rotate_left
  ·refine bF (decide_eq_false (by omega)) ?_
   rw[zI (by omega)]
   rfl
  have hj:i - 1<bs.length:=by omega
  obtain ⟨y1,y2,y3⟩:=hx (i - 1) hj
  rw[K4 hi]
  rw[af (n:=(i:Int) - 1) (by omega) (by omega),show ((i:Int) - 1).toNat=i - 1 by omega,zG,aC hi,aC hj,aM hi hl,
   af (n:=bs[i - 1].1+(bs[i - 1].2.2.2.2.2.1.length:Int)) (by omega) (by omega)]
  refine bT (decide_eq_true (by omega)) ?_
  refine bT (by simpa using hi) ?_
  refine bT (by simp only[zA,zB];omega) ?_
  refine bT (by simp only[zA,zB];omega) ?_
  by_cases c:bs[i].1=bs[i - 1].1+(bs[i - 1].2.2.2.2.2.1.length:Int)
  ·refine bF (by simpa using c) ?_
   rw[if_neg (aq c)]
   have:=ih (i+1) (by omega) (by omega) (by omega)
   simp only[Nat.add_sub_cancel] at this
   rw[c] at this
   exact this
  ·refine bT (by simpa using c) ?_
   rw[if_pos c,if_neg (by decide)]
theorem BX:∀(bs:List aX) (q:Int) (x:aX),(cY (x::bs) q).2=true→(cY (x::bs) q).1=((x::bs)[bs.length]'(by simp)).1+(((x::bs)[bs.length]'(by simp)).2.2.2.2.2.1.length:Int)
 |[],q,x,h=>by
  have e:cY [x] q=if x.1≠q then (0,false) else cY [] (q+(x.2.2.2.2.2.1.length:Int)):=rfl
  rw[e] at h ⊢
  by_cases c:x.1=q
  ·rw[if_neg (aq c),← c];rfl
  ·rw[if_pos c] at h;cases h
 |y::bs,q,x,h=>by
  have e:cY (x::y::bs) q=if x.1≠q then (0,false) else cY (y::bs) (q+(x.2.2.2.2.2.1.length:Int)):=rfl
  rw[e] at h ⊢
  by_cases c:x.1=q
  ·rw[if_neg (aq c)] at h ⊢
   exact BX bs _ y h
  ·rw[if_pos c] at h;cases h
def tZ (a0:LI):Option iH.Res:=bif decide (a0.length≤4294960000) then bif (al a0).2.2 != 0 then oR ((0,0,(al a0).2.2,()),()) else (j3 (((al a0).1,(1,())),())).run fun y=>match y with | .ret ((),((x9,x10,x11,()),()))=>(oR ((x9,x10,x11,()),())) | .pan (.ret ((),((x12,()),())))=>(bif (↑x12.length:Int) == 0 then oR ((0,0,85,()),()) else bif decide (0≤i64.wrap ((↑x12.length:Int) - 1))&&decide (i64.wrap ((↑x12.length:Int) - 1)<(↑x12.length:Int)) then bif decide (0≤0)&&decide (0<(↑x12.length:Int)) then oR (((x12.getD (Int.toNat 0) (0,0,0,0,0,[],())).1,i64.wrap ((x12.getD (i64.wrap ((↑x12.length:Int) - 1)).toNat (0,0,0,0,0,[],())).1+(↑(List.length (x12.getD (i64.wrap ((↑x12.length:Int) - 1)).toNat (0,0,0,0,0,[],())).2.2.2.2.2.1):Int)),0,()),()) else none else none) else none
theorem Jr (a0:LI):Io.run tt Cr dr pO iH Tryz.f35 ((a0,()),())=tZ a0:=by kernel_rfl
theorem uz:HcsOk prog BM:=.cons MJ .nil
theorem MK:HcOk prog 35 (ah iH yH):=by
 refine bW uz (lp:=pO) (fn:=Tryz.f35) iH (.step (h0:=aG dw j3) (by kernel_rfl) (gi uz (lp:=pO) (fn:=Tryz.f35) (.done (by kernel_rfl)) dw j3 ?_) (.done (by kernel_rfl))) yH ?_
 ·rintro ⟨⟨(bs:List aX),(i:Int),⟨⟩⟩,⟨⟩⟩ y hw hy
  obtain ⟨hg,hy⟩:=Tr.guard hy
  simp only[zA,zB] at hg
  obtain ⟨h1,h2,h3⟩:=hg
  have h1:i=((1:Nat):Int):=h1
  have h2:1≤bs.length:=h2
  subst h1
  refine ⟨bs.length+1,(zx bs hw.1.1.1 h3 (bs.length+1) 1 (Nat.le_refl 1) h2 (by omega)).trans ?_⟩
  rw[← hy]
  cases bs with
  |nil=>simp at h2
  |cons x xs=>
   have e:cY (x::xs) (lg (x::xs))=cY xs (x.1+(x.2.2.2.2.2.1.length:Int)):=by
    show (if x.1≠x.1 then (0,false) else cY xs (x.1+(x.2.2.2.2.2.1.length:Int)))=_
    rw[if_neg (aq rfl)]
   simp only[Tr.val_ite,Tr.val_ret,e,List.drop_succ_cons,List.drop_zero]
   rfl
 ·rintro ⟨⟨(b:LI),⟨⟩⟩,⟨⟩⟩ out hw ho
  obtain ⟨hg,ho⟩:=Tr.guard ho
  cases ho
  have hb:bk b:=bytesOf hw.1.1
  refine (Jr b).trans ?_
  show _=oR (((b8 b).1,(b8 b).2.1,(b8 b).2.2,()),())
  unfold tZ b8
  refine (aa hg _ _).trans ?_
  by_cases c1:(al b).2.2=0
  rotate_left
  ·refine bT (by simpa using c1) ?_
   rw[if_pos c1]
  refine bF (by simpa using c1) ?_
  rw[if_neg (aq c1)]
  obtain ⟨g1,g2,g3,g4,g5⟩:=ke hb c1
  obtain ⟨_,h1,h2,_⟩:=gF hb g1
  generalize (al b).1=bs at *
  have hk:=ip g5
  unfold j3
  refine bT (by simp only[zA,zB];exact ⟨trivial,show 1≤bs.length by omega,hk⟩) ?_
  show (bif (cY bs (lg bs)).2 then (bif (bs.length:Int) == 0 then oR ((0,0,85,()),()) else bif decide (0≤i64.wrap ((bs.length:Int) - 1))&&decide (i64.wrap ((bs.length:Int) - 1)<(bs.length:Int)) then bif decide ((0:Int)≤0)&&decide ((0:Int)<(bs.length:Int)) then oR (((bs.getD (Int.toNat 0) (0,0,0,0,0,[],())).1,i64.wrap ((bs.getD (i64.wrap ((bs.length:Int) - 1)).toNat (0,0,0,0,0,[],())).1+((bs.getD (i64.wrap ((bs.length:Int) - 1)).toNat (0,0,0,0,0,[],())).2.2.2.2.2.1.length:Int)),0,()),()) else none else none) else oR ((0,0,190,()),()))=_
  cases c2:(cY bs (lg bs)).2 with
  |false=>
   refine (ae rfl _ _).trans ?_
   rw[if_neg (by decide)]
  |true=>
   refine (aa rfl _ _).trans ?_
   rw[if_pos rfl]
   cases bs with
   |nil=>simp at g4;omega
   |cons x xs=>
    have hlen:(x::xs).length=xs.length+1:=rfl
    have hlt:xs.length<(x::xs).length:=by simp
    rw[af (n:=((x::xs).length:Int) - 1) (by omega) (by omega),show (((x::xs).length:Int) - 1).toNat=xs.length by omega,aC hlt]
    have hb2:=g5 _ (List.getElem_mem hlt)
    rw[BX xs _ x c2]
    rw[af (n:=(x::xs)[xs.length].1+((x::xs)[xs.length].2.2.2.2.2.1.length:Int)) (by omega) (by omega)]
    refine bF (by simp;omega) ?_
    refine bT (by simp only[zA,zB];omega) ?_
    refine bT (by simp only[zA,zB];omega) ?_
    rfl
abbrev iF:Io:=⟨[rD,rD],[],[],[dB],none⟩
def yF (d:iF.In):Tr iF.Res:=.ret (.ret ((ch d.1.1 d.1.2.1,()),()))
abbrev BL:List (Nat×Hc):=[(61,ah gB yM)]
def Co:Hd:=bA BL
abbrev du:Lo:=⟨⟨(.one (.hol (.sl 77 aZ))::.one (.hol (.sl 77 aZ))::.any::bh (.one hI::.any::ai (bz []))),[]⟩,[(.ret,⟨(bz (.one hL::ai (bz (bh [])))),[]⟩),(.exit 0,⟨(.any::ai (cy (bh []))),[]⟩)]⟩
def jZ (d:du.st.den):Tr (ao du.xs):=
 .ite (decide (d.1.2.2.1=(0:Int))&&decide (d.1.1.length=d.1.2.1.length)) (.ite (ch d.1.1 d.1.2.1) (.ret (.pan (.ret ((),((),()))))) (.ret (.ret ((),((false,()),()))))) .no
def pM:Lp:=bQ [(5,aG du jZ)]
def qp {R:Type}(h2 h3:List aZ.den)(h4:Int)(next:List aZ.den→List aZ.den→Int→Option R)(out:ao du.xs→Option R):Option R:=bif decide (h4<(↑h2.length:Int)) then bif decide (0≤h4)&&decide (h4<(↑h2.length:Int)) then bif decide (0≤h4)&&decide (h4<(↑h3.length:Int)) then bif !fv (h2.getD h4.toNat (0,0,0,0,0,[],())) (h3.getD h4.toNat (0,0,0,0,0,[],())) then out (.ret ((),((false,()),()))) else next (h2) (h3) (i64.wrap (h4+1)) else none else none else out (.pan (.ret ((),((),()))))
def oB (n:Nat)(h2 h3:List aZ.den)(h4:Int):Option (ao du.xs):=fV tt Co dr pM 0 Tryz.f31 (b9 Tryz.f31 0) n (du.st.mk' ((h2,(h3,(h4,()))),())) (bH du.xs)
theorem Fw (n:Nat)(h2 h3:List aZ.den)(h4:Int):oB (n+1) h2 h3 h4=qp h2 h3 h4 (oB n) some:=by kernel_rfl
theorem ER (xs ys:List aX)(hl:xs.length=ys.length)(hb:xs.length≤maxLen):∀(k i:Nat),i≤xs.length→xs.length<i+k→
  oB k xs ys (i:Int)=if ch (xs.drop i) (ys.drop i)=true then some (.pan (.ret ((),((),())))) else some (.ret ((),((false,()),()))):=by
 intro k
 induction k with
 |zero=>intro i h h';omega
 |succ k ih=>
  intro i hi h
  rw[Fw]
  unfold qp
  by_cases h1:i<xs.length
  ·have h2:i<ys.length:=by omega
   rw[aM h1 hb,ih (i+1) h1 (by omega)]
   have e1:(xs.getD (i:Int).toNat (0,0,0,0,0,[],()):aX)=xs[i]:=aC h1
   have e2:(ys.getD (i:Int).toNat (0,0,0,0,0,[],()):aX)=ys[i]:=aC h2
   refine bT (by simpa using h1) ?_
   refine bT (by simpa using h1) ?_
   refine bT (by simpa using h2) ?_
   rw[e1,e2,zE h1,zE h2]
   cases hc:fv xs[i] ys[i] with
   |false=>
    refine (aa rfl _ _).trans ?_
    rw[if_neg]
    intro h
    have h:=ce.1 h
    rw[List.cons.injEq] at h
    rw[jL.2 h.1] at hc
    cases hc
   |true=>
    refine (ae rfl _ _).trans ?_
    have e:=jL.1 hc
    by_cases hd:ch (xs.drop (i+1)) (ys.drop (i+1))=true
    ·rw[if_pos hd,if_pos (ce.2 (by rw[e,ce.1 hd]))]
    ·rw[if_neg hd,if_neg]
     intro h
     have h:=ce.1 h
     rw[List.cons.injEq] at h
     exact hd (ce.2 h.2)
  ·rw[zI (by omega),zI (by omega),if_pos (ce.2 rfl)]
   exact ae (by simpa using h1) _ _
def tX (a0 a1:List aZ.den):Option iF.Res:=bif (↑a0.length:Int) != (↑a1.length:Int) then oR ((false,()),()) else (jZ ((a0,(a1,(0,()))),())).run fun y=>match y with | .ret ((),((x9,()),()))=>(oR ((x9,()),())) | .pan (.ret ((),((),())))=>(oR ((true,()),()))
theorem Jp (a0 a1:List aZ.den):Io.run tt Co dr pM iF Tryz.f31 ((a0,a1,()),())=tX a0 a1:=by kernel_rfl
theorem uy:HcsOk prog BL:=.cons MO .nil
theorem MH:HcOk prog 31 (ah iF yF):=by
 refine bW uy (lp:=pM) (fn:=Tryz.f31) iF (.step (h0:=aG du jZ) (by kernel_rfl) (gi uy (lp:=pM) (fn:=Tryz.f31) (.done (by kernel_rfl)) du jZ ?_) (.done (by kernel_rfl))) yF ?_
 ·rintro ⟨⟨(xs:List aX),(ys:List aX),(i:Int),⟨⟩⟩,⟨⟩⟩ y hw hy
  obtain ⟨hg,hy⟩:=Tr.guard hy
  simp only[zA,zB] at hg
  obtain ⟨hi,hl⟩:=hg
  have hi:i=0:=hi
  have hl:xs.length=ys.length:=hl
  subst hi
  refine ⟨xs.length+1,(ER xs ys hl hw.1.1.1 _ 0 (by omega) (by omega)).trans ?_⟩
  rw[← hy,List.drop_zero,List.drop_zero]
  simp only[Tr.val_ite,Tr.val_ret]
 ·rintro ⟨⟨(xs:List aX),(ys:List aX),⟨⟩⟩,⟨⟩⟩ out hw ho
  cases ho
  refine (Jp xs ys).trans ?_
  unfold tX jZ
  show _=oR ((ch xs ys,()),())
  by_cases hl:xs.length=ys.length
  ·refine bF (by rw[hl];exact bne_self_eq_false' _) ?_
   refine bT (by simpa using hl) ?_
   cases h:ch xs ys with
   |true=>rfl
   |false=>rfl
  ·have e:ch xs ys=false:=by
    cases h:ch xs ys with
    |false=>rfl
    |true=>exact absurd (congrArg List.length (ce.1 h)) hl
   rw[e]
   refine aa ?_ _ _
   have:(xs.length:Int)≠ys.length:=by omega
   simpa using this
end
end Go.Proofs.YthpcdhgpplmneaaGreatDoor.Sym
namespace Go.Proofs.YthpcdhgpplmneaaGreatDoor.Sym
open Go
noncomputable section
abbrev ji:Io:=⟨[dL],[],[],[dB],none⟩
def yu (d:ji.In):Tr ji.Res:=.ite (decide (d.1.1.length≤4294950000)) (.ret (.ret ((true,()),()))) .no
abbrev Gn:List (Nat×Hc):=[(28,ah f6 tv),(13,ah lV FR),(29,ah jH wk),(30,ah lY F1),(31,ah iF yF),(32,ah gu sF),(33,ah iG yG),(34,ah gv sG),(35,ah iH yH),(16,ah ir yh)]
def OH:Hd:=bA Gn
def Hm:Lp:=bQ []
def wG (a0:LI):Option ji.Res:=bif decide (a0.length≤4294967000) then bif decide (0≤0)&&(decide (0≤(↑a0.length:Int))&&decide ((↑a0.length:Int)≤(↑(List.length (a0++[13,20,27,34,41,48,55,62,69,76,83,90,97,104,111,118,125,132,139,146,153,160,167,174,181,188,195,202,209,216,223,230,237,244,251,2,9,16,23,30,37,44,51,58,65,72,79,86,93,100,107,114,121,128,135,142,149,156,163,170,177,184,191,198,205,212,219,226,233,240,247,254,5,12,19,26,33,40,47,54,61,68,75,82,89,96,103,110,117,124,131,138,145,152,159,166])):Int))) then bif decide ((List.drop (Int.toNat 0) (List.take (↑a0.length:Int).toNat (a0++[13,20,27,34,41,48,55,62,69,76,83,90,97,104,111,118,125,132,139,146,153,160,167,174,181,188,195,202,209,216,223,230,237,244,251,2,9,16,23,30,37,44,51,58,65,72,79,86,93,100,107,114,121,128,135,142,149,156,163,170,177,184,191,198,205,212,219,226,233,240,247,254,5,12,19,26,33,40,47,54,61,68,75,82,89,96,103,110,117,124,131,138,145,152,159,166]))).length≤4294960000) then bif decide (a0.length≤4294960000) then bif (al (List.drop (Int.toNat 0) (List.take (↑a0.length:Int).toNat (a0++[13,20,27,34,41,48,55,62,69,76,83,90,97,104,111,118,125,132,139,146,153,160,167,174,181,188,195,202,209,216,223,230,237,244,251,2,9,16,23,30,37,44,51,58,65,72,79,86,93,100,107,114,121,128,135,142,149,156,163,170,177,184,191,198,205,212,219,226,233,240,247,254,5,12,19,26,33,40,47,54,61,68,75,82,89,96,103,110,117,124,131,138,145,152,159,166])))).2.2 != (al a0).2.2 then oR ((false,()),()) else bif (al (List.drop (Int.toNat 0) (List.take (↑a0.length:Int).toNat (a0++[13,20,27,34,41,48,55,62,69,76,83,90,97,104,111,118,125,132,139,146,153,160,167,174,181,188,195,202,209,216,223,230,237,244,251,2,9,16,23,30,37,44,51,58,65,72,79,86,93,100,107,114,121,128,135,142,149,156,163,170,177,184,191,198,205,212,219,226,233,240,247,254,5,12,19,26,33,40,47,54,61,68,75,82,89,96,103,110,117,124,131,138,145,152,159,166])))).2.1 != (al a0).2.1 then oR ((false,()),()) else bif !ch (al (List.drop (Int.toNat 0) (List.take (↑a0.length:Int).toNat (a0++[13,20,27,34,41,48,55,62,69,76,83,90,97,104,111,118,125,132,139,146,153,160,167,174,181,188,195,202,209,216,223,230,237,244,251,2,9,16,23,30,37,44,51,58,65,72,79,86,93,100,107,114,121,128,135,142,149,156,163,170,177,184,191,198,205,212,219,226,233,240,247,254,5,12,19,26,33,40,47,54,61,68,75,82,89,96,103,110,117,124,131,138,145,152,159,166])))).1 (al a0).1 then oR ((false,()),()) else bif decide (0≤0)&&(decide (0≤(↑a0.length:Int))&&decide ((↑a0.length:Int)≤(↑(List.length (a0++[13,20,27,34,41,48,55,62,69,76,83,90,97,104,111,118,125,132,139,146,153,160,167,174,181,188,195,202,209,216,223,230,237,244,251,2,9,16,23,30,37,44,51,58,65,72,79,86,93,100,107,114,121,128,135,142,149,156,163,170,177,184,191,198,205,212,219,226,233,240,247,254,5,12,19,26,33,40,47,54,61,68,75,82,89,96,103,110,117,124,131,138,145,152,159,166])):Int))) then bif decide ((List.drop (Int.toNat 0) (List.take (↑a0.length:Int).toNat (a0++[13,20,27,34,41,48,55,62,69,76,83,90,97,104,111,118,125,132,139,146,153,160,167,174,181,188,195,202,209,216,223,230,237,244,251,2,9,16,23,30,37,44,51,58,65,72,79,86,93,100,107,114,121,128,135,142,149,156,163,170,177,184,191,198,205,212,219,226,233,240,247,254,5,12,19,26,33,40,47,54,61,68,75,82,89,96,103,110,117,124,131,138,145,152,159,166]))).length≤4294960000) then bif decide (db (al a0).1≤4294960000) then bif (↑(db (al (List.drop (Int.toNat 0) (List.take (↑a0.length:Int).toNat (a0++[13,20,27,34,41,48,55,62,69,76,83,90,97,104,111,118,125,132,139,146,153,160,167,174,181,188,195,202,209,216,223,230,237,244,251,2,9,16,23,30,37,44,51,58,65,72,79,86,93,100,107,114,121,128,135,142,149,156,163,170,177,184,191,198,205,212,219,226,233,240,247,254,5,12,19,26,33,40,47,54,61,68,75,82,89,96,103,110,117,124,131,138,145,152,159,166])))).1):Int) != (↑(db (al a0).1):Int) then oR ((false,()),()) else bif (al (List.drop (Int.toNat 0) (List.take (↑a0.length:Int).toNat (a0++[13,20,27,34,41,48,55,62,69,76,83,90,97,104,111,118,125,132,139,146,153,160,167,174,181,188,195,202,209,216,223,230,237,244,251,2,9,16,23,30,37,44,51,58,65,72,79,86,93,100,107,114,121,128,135,142,149,156,163,170,177,184,191,198,205,212,219,226,233,240,247,254,5,12,19,26,33,40,47,54,61,68,75,82,89,96,103,110,117,124,131,138,145,152,159,166])))).2.2 != (al a0).2.2 then oR ((false,()),()) else bif decide (0≤0)&&(decide (0≤(↑a0.length:Int))&&decide ((↑a0.length:Int)≤(↑(List.length (a0++[13,20,27,34,41,48,55,62,69,76,83,90,97,104,111,118,125,132,139,146,153,160,167,174,181,188,195,202,209,216,223,230,237,244,251,2,9,16,23,30,37,44,51,58,65,72,79,86,93,100,107,114,121,128,135,142,149,156,163,170,177,184,191,198,205,212,219,226,233,240,247,254,5,12,19,26,33,40,47,54,61,68,75,82,89,96,103,110,117,124,131,138,145,152,159,166])):Int))) then bif decide ((List.drop (Int.toNat 0) (List.take (↑a0.length:Int).toNat (a0++[13,20,27,34,41,48,55,62,69,76,83,90,97,104,111,118,125,132,139,146,153,160,167,174,181,188,195,202,209,216,223,230,237,244,251,2,9,16,23,30,37,44,51,58,65,72,79,86,93,100,107,114,121,128,135,142,149,156,163,170,177,184,191,198,205,212,219,226,233,240,247,254,5,12,19,26,33,40,47,54,61,68,75,82,89,96,103,110,117,124,131,138,145,152,159,166]))).length≤4294960000) then bif decide (a0.length≤4294960000) then bif (b8 (List.drop (Int.toNat 0) (List.take (↑a0.length:Int).toNat (a0++[13,20,27,34,41,48,55,62,69,76,83,90,97,104,111,118,125,132,139,146,153,160,167,174,181,188,195,202,209,216,223,230,237,244,251,2,9,16,23,30,37,44,51,58,65,72,79,86,93,100,107,114,121,128,135,142,149,156,163,170,177,184,191,198,205,212,219,226,233,240,247,254,5,12,19,26,33,40,47,54,61,68,75,82,89,96,103,110,117,124,131,138,145,152,159,166])))).1 == (b8 a0).1 then bif (b8 (List.drop (Int.toNat 0) (List.take (↑a0.length:Int).toNat (a0++[13,20,27,34,41,48,55,62,69,76,83,90,97,104,111,118,125,132,139,146,153,160,167,174,181,188,195,202,209,216,223,230,237,244,251,2,9,16,23,30,37,44,51,58,65,72,79,86,93,100,107,114,121,128,135,142,149,156,163,170,177,184,191,198,205,212,219,226,233,240,247,254,5,12,19,26,33,40,47,54,61,68,75,82,89,96,103,110,117,124,131,138,145,152,159,166])))).2.1 == (b8 a0).2.1 then bif (b8 (List.drop (Int.toNat 0) (List.take (↑a0.length:Int).toNat (a0++[13,20,27,34,41,48,55,62,69,76,83,90,97,104,111,118,125,132,139,146,153,160,167,174,181,188,195,202,209,216,223,230,237,244,251,2,9,16,23,30,37,44,51,58,65,72,79,86,93,100,107,114,121,128,135,142,149,156,163,170,177,184,191,198,205,212,219,226,233,240,247,254,5,12,19,26,33,40,47,54,61,68,75,82,89,96,103,110,117,124,131,138,145,152,159,166])))).2.2 == (b8 a0).2.2 then bif decide (a0.length≤4294967000) then oR ((decide (a0++[13,20,27,34,41,48,55,62,69,76,83,90,97,104,111,118,125,132,139,146,153,160,167,174,181,188,195,202,209,216,223,230,237,244,251,2,9,16,23,30,37,44,51,58,65,72,79,86,93,100,107,114,121,128,135,142,149,156,163,170,177,184,191,198,205,212,219,226,233,240,247,254,5,12,19,26,33,40,47,54,61,68,75,82,89,96,103,110,117,124,131,138,145,152,159,166]=a0++[13,20,27,34,41,48,55,62,69,76,83,90,97,104,111,118,125,132,139,146,153,160,167,174,181,188,195,202,209,216,223,230,237,244,251,2,9,16,23,30,37,44,51,58,65,72,79,86,93,100,107,114,121,128,135,142,149,156,163,170,177,184,191,198,205,212,219,226,233,240,247,254,5,12,19,26,33,40,47,54,61,68,75,82,89,96,103,110,117,124,131,138,145,152,159,166]),()),()) else none else oR ((false,()),()) else oR ((false,()),()) else oR ((false,()),()) else none else none else none else none else none else none else none else none else none else none
theorem M8 (a0:LI):Io.run tt OH dr Hm ji Tryz.f7 ((a0,()),())=wG a0:=by kernel_rfl
theorem Fi {b:LI}(hb:bk b):db (al b).1≤4294960000:=by
 by_cases h:(al b).2.2=0
 ·obtain ⟨g1,g2,g3,g4,g5⟩:=ke hb h
  have h1:=Em (ip g5)
  obtain ⟨_,_,h2,_⟩:=gF hb g1
  omega
 ·rw[vr h];decide
theorem Pj:HcOk prog 7 (ah ji yu):=by
 refine bW (cs:=Gn) (.cons IZ (.cons okWide (.cons uY (.cons MJ (.cons MH (.cons C8 (.cons MI (.cons C9 (.cons MK (.cons Mj .nil)))))))))) (lp:=Hm) (fn:=Tryz.f7) ji (.done (by kernel_rfl)) yu ?_
 rintro ⟨⟨(b:LI),⟨⟩⟩,⟨⟩⟩ out hw ho
 obtain ⟨hg,ho⟩:=Tr.guard ho
 have hg:b.length≤4294950000:=of_decide_eq_true hg
 cases ho
 have hb:bk b:=bytesOf hw.1.1
 refine (M8 b).trans ?_
 unfold wG
 have e:∀t:LI,List.drop (Int.toNat 0) (List.take (b.length:Int).toNat (b++t))=b:=by
  intro t
  show List.drop 0 (List.take (b.length:Int).toNat (b++t))=b
  rw[zG,List.drop_zero,List.take_left]
 rw[e]
 have sl:∀t:LI,(decide ((0:Int)≤0)&&(decide ((0:Int)≤(b.length:Int))&&decide ((b.length:Int)≤((b++t).length:Int))))=true:=by
  intro t
  simp only[zA,zB,zH];omega
 have g1:decide (b.length≤4294967000)=true:=decide_eq_true (by omega)
 have g2:decide (b.length≤4294960000)=true:=decide_eq_true (by omega)
 refine (aa g1 _ _).trans ?_
 refine (aa (sl _) _ _).trans ?_
 refine (aa g2 _ _).trans ?_
 refine (aa g2 _ _).trans ?_
 refine (ae (bne_self_eq_false _) _ _).trans ?_
 refine (ae (bne_self_eq_false _) _ _).trans ?_
 refine bF (by rw[show ch (al b).1 (al b).1=true from ce.2 rfl];rfl) ?_
 refine (aa (sl _) _ _).trans ?_
 refine (aa g2 _ _).trans ?_
 refine bT (decide_eq_true (Fi hb)) ?_
 refine (ae (bne_self_eq_false _) _ _).trans ?_
 refine (ae (bne_self_eq_false _) _ _).trans ?_
 refine (aa (sl _) _ _).trans ?_
 refine (aa g2 _ _).trans ?_
 refine (aa g2 _ _).trans ?_
 refine (aa (beq_self_eq_true _) _ _).trans ?_
 refine (aa (beq_self_eq_true _) _ _).trans ?_
 refine (aa (beq_self_eq_true _) _ _).trans ?_
 refine (aa g1 _ _).trans ?_
 rw[decide_eq_true rfl]
end
end Go.Proofs.YthpcdhgpplmneaaGreatDoor.Sym
