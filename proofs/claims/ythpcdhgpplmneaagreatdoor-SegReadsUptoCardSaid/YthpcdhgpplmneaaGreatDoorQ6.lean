/- leatref08: Head. -/
import Derived.Test.YthpcdhgpplmneaaGreatDoorQ5

set_option linter.unusedVariables false
set_option linter.unusedSimpArgs false
namespace Go.Proofs.YthpcdhgpplmneaaGreatDoor.Sym
open Go
open Go.IntKind (i8 i16 i32 i64 u8 u16 u32 u64)
noncomputable section
def FU (a0:LI):Option (Out ((wJ×Int×Unit)×Unit) Empty):=bif decide (0≤22)&&decide (22<(↑a0.length:Int)) then bif decide ((am a0 0 8).1<0) then oR (((0,0,0,false,0,0,0,0,0,0,()),80,()),()) else bif decide (4611686018427387648<(am a0 0 8).1) then oR (((0,0,0,false,0,0,0,0,0,0,()),80,()),()) else bif decide (0≤21)&&decide (21<(↑a0.length:Int)) then bif a0.getD (Int.toNat 21) 0 != 0 then oR (((0,0,0,false,0,0,0,0,0,0,()),83,()),()) else bif decide (0≤22)&&decide (22<(↑a0.length:Int)) then bif decide (1<a0.getD (Int.toNat 22) 0) then oR (((0,0,0,false,0,0,0,0,0,0,()),83,()),()) else bif !!aW (am a0 43 8).1 (i16.wrap (am a0 51 2).1) (i32.wrap (am a0 53 4).1) then oR (((0,0,0,false,0,0,0,0,0,0,()),84,()),()) else bif decide ((am a0 57 4).1<1) then oR (((0,0,0,false,0,0,0,0,0,0,()),85,()),()) else bif decide (256<(am a0 57 4).1) then oR (((0,0,0,false,0,0,0,0,0,0,()),9,()),()) else bif (am a0 23 4).1 != i64.wrap ((am a0 57 4).1 - 1) then oR (((0,0,0,false,0,0,0,0,0,0,()),72,()),()) else oR ((((am a0 0 8).1,(↑a0.length:Int),i32.wrap (am a0 12 4).1,a0.getD (Int.toNat 22) 0 == 1,(am a0 57 4).1,(am a0 27 8).1,(am a0 35 8).1,(am a0 43 8).1,i16.wrap (am a0 51 2).1,i32.wrap (am a0 53 4).1,()),0,()),()) else none else none else none
theorem Kk {b:LI}(hb:∀c∈b,0≤c∧c≤255){p:Nat}(h:p+2≤b.length):i16.wrap (ar b p 2)=ar b p 2:=by
 unfold ar
 rw[← tz (dy hb p 2) (cE h)]
 exact bN (bO _ _)
theorem yK {b:LI}(hb:∀c∈b,0≤c∧c≤255){p:Nat}(h:p+4≤b.length):i32.wrap (ar b p 4)=ar b p 4:=by
 unfold ar
 rw[← nm (dy hb p 4) (cE h)]
 exact bN (bO _ _)
theorem Kl {b:LI}(hb:∀c∈b,0≤c∧c≤255)(hl:61≤b.length):
  FU b=some (.ret ((if bg (ar b 0 8)=true then (br,(80,())) else if b.getD 21 0≠0∨1<b.getD 22 0 then (br,(83,())) else if aW (ar b 43 8) (ar b 51 2) (ar b 53 4)=true then (br,(84,())) else if ar b 57 4<1 then (br,(85,())) else if 256<ar b 57 4 then (br,(9,())) else if ar b 23 4≠ar b 57 4 - 1 then (br,(72,())) else (iV b,(0,()))),())):=by
 have hz:∀p n:Nat,p+n≤61→(am b (p:Int) (n:Int)).1=ar b p n:=fun p n h=>qf (by omega)
 have z0:(am b 0 8).1=ar b 0 8:=hz 0 8 (by decide)
 have z12:(am b 12 4).1=ar b 12 4:=hz 12 4 (by decide)
 have z23:(am b 23 4).1=ar b 23 4:=hz 23 4 (by decide)
 have z27:(am b 27 8).1=ar b 27 8:=hz 27 8 (by decide)
 have z35:(am b 35 8).1=ar b 35 8:=hz 35 8 (by decide)
 have z43:(am b 43 8).1=ar b 43 8:=hz 43 8 (by decide)
 have z51:(am b 51 2).1=ar b 51 2:=hz 51 2 (by decide)
 have z53:(am b 53 4).1=ar b 53 4:=hz 53 4 (by decide)
 have z57:(am b 57 4).1=ar b 57 4:=hz 57 4 (by decide)
 have w51:=Kk hb (p:=51) (by omega)
 have w53:=yK hb (p:=53) (by omega)
 have w12:=yK hb (p:=12) (by omega)
 unfold FU
 rw[z0,z12,z23,z27,z35,z43,z51,z53,z57,w51,w53,w12]
 have hI:iV b=(ar b 0 8,(b.length:Int),ar b 12 4,decide (b.getD 22 0=1),ar b 57 4,ar b 27 8,ar b 35 8,ar b 43 8,ar b 51 2,ar b 53 4,()):=rfl
 have hB:bg (ar b 0 8)=(decide (ar b 0 8<0) || decide (4611686018427387648<ar b 0 8)):=rfl
 have hxy:(b.getD (Int.toNat 22) 0 == 1)=decide (b.getD 22 0=1):=by
  show (b.getD 22 0 == 1)=_
  by_cases h:b.getD 22 0=1
  ·rw[h];rfl
  ·rw[decide_eq_false h];exact beq_eq_false_iff_ne.2 h
 rw[hI,hB,hxy,show Int.toNat 21=21 from rfl,show Int.toNat 22=22 from rfl]
 generalize b.getD 21 0=x at *
 generalize b.getD 22 0=y at *
 generalize ar b 0 8=base at *
 generalize ar b 57 4=cnt at *
 generalize ar b 23 4=mst at *
 refine bT (by simp only[zA,zB];omega) ?_
 by_cases c0:base<0
 ·refine bT (decide_eq_true c0) ?_
  rw[if_pos (by rw[decide_eq_true c0];rfl)]
  rfl
 refine bF (decide_eq_false c0) ?_
 by_cases c1:4611686018427387648<base
 ·refine bT (decide_eq_true c1) ?_
  rw[if_pos (by rw[decide_eq_true c1,Bool.or_true])]
  rfl
 refine bF (decide_eq_false c1) ?_
 rw[if_neg (by rw[decide_eq_false c0,decide_eq_false c1];decide)]
 refine bT (by simp only[zA,zB];omega) ?_
 by_cases c2:x=0
 rotate_left
 ·refine bT (by simpa using c2) ?_
  rw[if_pos (.inl c2)]
  rfl
 refine bF (by simpa using c2) ?_
 refine bT (by simp only[zA,zB];omega) ?_
 by_cases c3:1<y
 ·refine bT (decide_eq_true c3) ?_
  rw[if_pos (.inr c3)]
  rfl
 refine bF (decide_eq_false c3) ?_
 rw[if_neg (by rintro (h | h);exact h c2;exact c3 h)]
 cases c3:aW (ar b 43 8) (ar b 51 2) (ar b 53 4) with
 |true=>exact (aa rfl _ _)
 |false=>
 refine (af rfl _ _).trans ?_
 rw[if_neg (show ¬ false=true by decide)]
 by_cases c4:cnt<1
 ·refine bT (decide_eq_true c4) ?_
  rw[if_pos c4]
  rfl
 refine bF (decide_eq_false c4) ?_
 rw[if_neg c4]
 by_cases c5:256<cnt
 ·refine bT (decide_eq_true c5) ?_
  rw[if_pos c5]
  rfl
 refine bF (decide_eq_false c5) ?_
 rw[if_neg c5,ae (n:=cnt - 1) (by omega) (by omega)]
 by_cases c6:mst=cnt - 1
 ·refine bF (by simpa using c6) ?_
  rw[if_neg (az c6)]
 ·refine bT (by simpa using c6) ?_
  rw[if_pos c6]
  rfl
abbrev jt:Io:=⟨[dL,dB],[],[],[K9,dI],none⟩
def Es (d:jt.In):Tr jt.Res:=.ret (.ret (((ak d.1.1 d.1.2.1).1,(ak d.1.1 d.1.2.1).2,()),()))
abbrev GK:List (Nat×Hc):=[(71,ai ju zl),(103,ai mm F3),(82,ai gP zm),(22,ai jL wG),(85,ai fm pa),(86,ai gu sS)]
def O6:Hd:=bB GK
def HP:Lp:=bP []
def xA (a0:LI)(a1:Bool):Option jt.Res:=bif decide ((↑a0.length:Int)<61) then oR (((0,0,0,false,0,0,0,0,0,0,()),1,()),()) else bif (aj a0 0).2 != 0 then oR (((0,0,0,false,0,0,0,0,0,0,()),(aj a0 0).2,()),()) else bif decide ((aj a0 0).1<(↑a0.length:Int)) then oR (((0,0,0,false,0,0,0,0,0,0,()),2,()),()) else bif decide (0≤16)&&decide (16<(↑a0.length:Int)) then bif a0.getD (Int.toNat 16) 0 != 2 then oR (((0,0,0,false,0,0,0,0,0,0,()),81,()),()) else bif a1 then bif decide (0≤17)&&(decide (17≤21)&&decide (21≤(↑a0.length:Int))) then bif decide (0≤21)&&(decide (21≤(↑a0.length:Int))&&decide ((↑a0.length:Int)≤(↑a0.length:Int))) then bif !decide (List.drop (Int.toNat 17) (List.take (Int.toNat 21) a0)=aU (i64.wrap (cC 0 (List.drop (Int.toNat 21) (List.take (↑a0.length:Int).toNat a0)))) (Int.toNat 4)) then oR (((0,0,0,false,0,0,0,0,0,0,()),82,()),()) else bif decide (0≤22)&&decide (22<(↑a0.length:Int)) then bif decide ((am a0 0 8).1<0) then oR (((0,0,0,false,0,0,0,0,0,0,()),80,()),()) else bif decide (4611686018427387648<(am a0 0 8).1) then oR (((0,0,0,false,0,0,0,0,0,0,()),80,()),()) else bif decide (0≤21)&&decide (21<(↑a0.length:Int)) then bif a0.getD (Int.toNat 21) 0 != 0 then oR (((0,0,0,false,0,0,0,0,0,0,()),83,()),()) else bif decide (0≤22)&&decide (22<(↑a0.length:Int)) then bif decide (1<a0.getD (Int.toNat 22) 0) then oR (((0,0,0,false,0,0,0,0,0,0,()),83,()),()) else bif !!aW (am a0 43 8).1 (i16.wrap (am a0 51 2).1) (i32.wrap (am a0 53 4).1) then oR (((0,0,0,false,0,0,0,0,0,0,()),84,()),()) else bif decide ((am a0 57 4).1<1) then oR (((0,0,0,false,0,0,0,0,0,0,()),85,()),()) else bif decide (256<(am a0 57 4).1) then oR (((0,0,0,false,0,0,0,0,0,0,()),9,()),()) else bif (am a0 23 4).1 != i64.wrap ((am a0 57 4).1 - 1) then oR (((0,0,0,false,0,0,0,0,0,0,()),72,()),()) else oR ((((am a0 0 8).1,(↑a0.length:Int),i32.wrap (am a0 12 4).1,a0.getD (Int.toNat 22) 0 == 1,(am a0 57 4).1,(am a0 27 8).1,(am a0 35 8).1,(am a0 43 8).1,i16.wrap (am a0 51 2).1,i32.wrap (am a0 53 4).1,()),0,()),()) else none else none else none else none else none else bif decide (0≤22)&&decide (22<(↑a0.length:Int)) then bif decide ((am a0 0 8).1<0) then oR (((0,0,0,false,0,0,0,0,0,0,()),80,()),()) else bif decide (4611686018427387648<(am a0 0 8).1) then oR (((0,0,0,false,0,0,0,0,0,0,()),80,()),()) else bif decide (0≤21)&&decide (21<(↑a0.length:Int)) then bif a0.getD (Int.toNat 21) 0 != 0 then oR (((0,0,0,false,0,0,0,0,0,0,()),83,()),()) else bif decide (0≤22)&&decide (22<(↑a0.length:Int)) then bif decide (1<a0.getD (Int.toNat 22) 0) then oR (((0,0,0,false,0,0,0,0,0,0,()),83,()),()) else bif !!aW (am a0 43 8).1 (i16.wrap (am a0 51 2).1) (i32.wrap (am a0 53 4).1) then oR (((0,0,0,false,0,0,0,0,0,0,()),84,()),()) else bif decide ((am a0 57 4).1<1) then oR (((0,0,0,false,0,0,0,0,0,0,()),85,()),()) else bif decide (256<(am a0 57 4).1) then oR (((0,0,0,false,0,0,0,0,0,0,()),9,()),()) else bif (am a0 23 4).1 != i64.wrap ((am a0 57 4).1 - 1) then oR (((0,0,0,false,0,0,0,0,0,0,()),72,()),()) else oR ((((am a0 0 8).1,(↑a0.length:Int),i32.wrap (am a0 12 4).1,a0.getD (Int.toNat 22) 0 == 1,(am a0 57 4).1,(am a0 27 8).1,(am a0 35 8).1,(am a0 43 8).1,i16.wrap (am a0 51 2).1,i32.wrap (am a0 53 4).1,()),0,()),()) else none else none else none else none
theorem Nv (a0:LI)(a1:Bool):Io.run tt O6 dr HP jt Tryz.f78 ((a0,a1,()),())=xA a0 a1:=by kernel_rfl
theorem PM:HcOk prog 78 (ai jt Es):=by
 refine bQ (cs:=GK) (.cons H9 (.cons MK (.cons Ia (.cons AR (.cons yy (.cons Di .nil)))))) (lp:=HP) (fn:=Tryz.f78) jt (.done (by kernel_rfl)) Es ?_
 rintro ⟨⟨(b:LI),(sm:Bool),⟨⟩⟩,⟨⟩⟩ out hw ho
 cases ho
 have hb:∀c∈b,0≤c∧c≤255:=dA hw.1.1
 refine (Nv b sm).trans ?_
 show _=oR (((ak b sm).1,(ak b sm).2,()),())
 have eE:bc b sm=if (b.length:Int)<61 then 1 else if (aj b 0).2≠0 then (aj b 0).2 else if (aj b 0).1<(b.length:Int) then 2 else if b.getD 16 0≠2 then 81 else if sm=true∧eU b=false then 82
   else if bg (ar b 0 8)=true then 80 else if b.getD 21 0≠0∨1<b.getD 22 0 then 83 else if aW (ar b 43 8) (ar b 51 2) (ar b 53 4)=true then 84 else if ar b 57 4<1 then 85 else if 256<ar b 57 4 then 9 else if ar b 23 4≠ar b 57 4 - 1 then 72 else 0:=rfl
 have fin:∀e:Int,e≠0→bc b sm=e→some (Out.ret ((br,(e,())),()):jt.Res)=oR (((ak b sm).1,(ak b sm).2,()),()):=by
  intro e he h
  have:ak b sm=(br,e):=by unfold ak;rw[h,if_pos he]
  rw[this]
 unfold xA
 by_cases h1:(b.length:Int)<61
 ·refine bT (decide_eq_true h1) ?_
  exact fin 1 (by decide) (by rw[eE,if_pos h1])
 refine bF (decide_eq_false h1) ?_
 rw[if_neg h1] at eE
 by_cases h2:(aj b 0).2=0
 rotate_left
 ·refine bT (by simpa using h2) ?_
  exact fin _ h2 (by rw[eE,if_pos h2])
 refine bF (by simpa using h2) ?_
 rw[if_neg (az h2)] at eE
 by_cases h3:(aj b 0).1<(b.length:Int)
 ·refine bT (decide_eq_true h3) ?_
  exact fin 2 (by decide) (by rw[eE,if_pos h3])
 refine bF (decide_eq_false h3) ?_
 rw[if_neg h3] at eE
 refine bT (by simp only[zA,zB];omega) ?_
 rw[show Int.toNat 16=16 from rfl]
 by_cases h4:b.getD 16 0=2
 rotate_left
 ·refine bT (by simpa using h4) ?_
  exact fin 81 (by decide) (by rw[eE,if_pos h4])
 refine bF (by simpa using h4) ?_
 rw[if_neg (az h4)] at eE
 have hT:=Kl hb (by omega)
 have fin2:¬(sm=true∧eU b=false)→FU b=oR (((ak b sm).1,(ak b sm).2,()),()):=by
  intro hn
  rw[if_neg hn] at eE
  rw[hT]
  have hs:ak b sm=if bc b sm≠0 then (br,bc b sm) else (iV b,0):=rfl
  rw[hs,eE]
  by_cases d1:bg (ar b 0 8)=true
  ·rw[if_pos d1,if_pos d1,if_pos (by decide)]
  rw[if_neg d1,if_neg d1]
  by_cases d2:b.getD 21 0≠0∨1<b.getD 22 0
  ·rw[if_pos d2,if_pos d2,if_pos (by decide)]
  rw[if_neg d2,if_neg d2]
  by_cases d3:aW (ar b 43 8) (ar b 51 2) (ar b 53 4)=true
  ·rw[if_pos d3,if_pos d3,if_pos (by decide)]
  rw[if_neg d3,if_neg d3]
  by_cases d4:ar b 57 4<1
  ·rw[if_pos d4,if_pos d4,if_pos (by decide)]
  rw[if_neg d4,if_neg d4]
  by_cases d5:256<ar b 57 4
  ·rw[if_pos d5,if_pos d5,if_pos (by decide)]
  rw[if_neg d5,if_neg d5]
  by_cases d6:ar b 23 4≠ar b 57 4 - 1
  ·rw[if_pos d6,if_pos d6,if_pos (by decide)]
  rw[if_neg d6,if_neg d6,if_neg (by decide)]
 cases sm with
 |false=>
  refine (af rfl _ _).trans ?_
  exact fin2 (fun h=>by cases h.1)
 |true=>
  refine (aa rfl _ _).trans ?_
  rw[zG,List.take_length,show Int.toNat 21=21 from rfl,show Int.toNat 17=17 from rfl]
  refine bT (by simp only[zA,zB];omega) ?_
  refine bT (by simp only[zA,zB];omega) ?_
  have hc:=DJ 0 (b:=b.drop 21) (by decide) (fun x h=>hb x (List.mem_of_mem_drop h))
  have e17:List.drop 17 (List.take 21 b)=(b.drop 17).take 4:=by rw[List.drop_take]
  rw[ae (by omega) (by omega),e17]
  have hS:eU b=if (b.drop 17).take 4=aU (cC 0 (b.drop 21)) 4 then true else false:=rfl
  by_cases h5:(b.drop 17).take 4=aU (cC 0 (b.drop 21)) 4
  ·rw[if_pos h5] at hS
   refine bF (by rw[show Int.toNat 4=4 from rfl,decide_eq_true h5];rfl) ?_
   exact fin2 (by rw[hS];exact fun h=>by cases h.2)
  ·rw[if_neg h5] at hS
   refine bT (by rw[show Int.toNat 4=4 from rfl,decide_eq_false h5];rfl) ?_
   exact fin 82 (by decide) (by rw[eE,if_pos ⟨rfl,hS⟩])
theorem Hi {n:Int}(h : -9223372036854775808≤n)(h':n≤9223372036854775807):bC .i64 n:=by simp[bC,IntKind.min,IntKind.max,IntKind.signed,IntKind.bits];omega
theorem NO (m:Nat)(t:Int)(b:LI)(p:Int):0≤(ab m t b p).1∧(ab m t b p).1<18446744073709551616:=by
 unfold ab
 split
 ·exact ⟨by decide,by decide⟩
 split
 ·simp only;omega
 ·simp only;omega
theorem NY (b:LI):bC .i64 (aQ b).1.1∧bC .i32 (aQ b).1.2.1:=by
 have h0:bC .i64 aH.1∧bC .i32 aH.2.1:=⟨Hi (n:=0) (by omega) (by omega),(⟨by decide,by decide⟩:bC .i32 0)⟩
 have hz:=NO 10 1 b 1
 have h1:bC .i64 (al (ab 10 1 b 1).1):=by
  unfold al
  split
  ·exact Hi (by omega) (by omega)
  ·exact Hi (by omega) (by omega)
 have h2:bC .i32 (ag b (ab 10 1 b 1).2.1).1:=bO _ _
 unfold aQ
 repeat' split
 all_goals first | exact h0 | exact ⟨h1,h2⟩
theorem DP (b:LI)(p:Int):bC .i64 (an b p).1.1∧bC .i32 (an b p).1.2.1:=by
 have h0:bC .i64 aH.1∧bC .i32 aH.2.1:=⟨Hi (n:=0) (by omega) (by omega),(⟨by decide,by decide⟩:bC .i32 0)⟩
 unfold an
 repeat' split
 all_goals first | exact h0 | exact NY _
abbrev kW:Io:=⟨[dL,K9],[],[],[La,dI],none⟩
def Et (d:kW.In):Tr kW.Res:=.ite (decide (d.1.2.1.2.2.2.2.1≤(4294960000:Int))) (.ret (.ret (((cK d.1.1 d.1.2.1.2.2.2.2.2.1 d.1.2.1.2.2.2.2.2.2.1 d.1.2.1.2.2.2.2.1.toNat).1,(cK d.1.1 d.1.2.1.2.2.2.2.2.1 d.1.2.1.2.2.2.2.2.2.1 d.1.2.1.2.2.2.2.1.toNat).2,()),()))) .no
abbrev GN:List (Nat×Hc):=[(115,ai kM Ek),(116,ai gl zo),(72,ai fx pj)]
def Hg:Hd:=bB GN
abbrev dx:Lo:=⟨⟨(.one (.hol (.sl 5 (Ty.int u8)))::bi (.one (.ptr 3 0)::bi (.one (.onl 91 aR 13)::.one hI::.one hI::ah (ah (ah (ah (ah (cN (bi []))))))))),[none,none,none,some [hI,hI,hJ,hL,hI,hI,hI,hI,hK,hJ]]⟩,[(.ret,⟨(bv (.one (.onl 91 aR 9)::.one hI::.any::ah (ah (ah (ah (ah (cN (bv [])))))))),[]⟩),(.exit 0,⟨(.one (.hol (.sl 5 (Ty.int u8)))::bi (.one (.ptr 3 0)::bi (.one (.onl 91 aR 13)::.one hI::.any::ah (ah (ah (ah (ah (cN (bi []))))))))),[none,none,none,some [hI,hI,hJ,hL,hI,hI,hI,hI,hK,hJ]]⟩)]⟩
def wo (blk:LI)(z1 z2 z3:Int)(z4:Bool)(z5 z6 z7 z8 z9 z10:Int)(x:List bq×Int×Int):Tr (ao dx.xs):=
 .ite (decide (x.2.2≠0)) (.ret (.ret ((),(([],(x.2.2,())),())))) (.ret (.pan (.ret ((),((blk,(x.1,(x.2.1,()))),((z1,(z2,(z3,(z4,(z5,(z6,(z7,(z8,(z9,(z10,())))))))))),()))))))
def l6 (d:dx.st.den):Tr (ao dx.xs):=
 .ite (decide (d.1.2.2.2.1=0)&&(decide (d.1.2.1.length=0)&&decide (d.2.1.2.2.2.2.1≤(4294960000:Int))))
  (wo d.1.1 d.2.1.1 d.2.1.2.1 d.2.1.2.2.1 d.2.1.2.2.2.1 d.2.1.2.2.2.2.1 d.2.1.2.2.2.2.2.1 d.2.1.2.2.2.2.2.2.1 d.2.1.2.2.2.2.2.2.2.1 d.2.1.2.2.2.2.2.2.2.2.1 d.2.1.2.2.2.2.2.2.2.2.2.1 (aD d.1.1 d.2.1.2.2.2.2.2.1 d.2.1.2.2.2.2.1.toNat 0 d.1.2.2.1 [])) .no
def tr:Lp:=bP [(5,aA dx l6)]
def mR {R:Type}(h11:LI)(h12:List aR.den)(h13 h14 h15 h16 h17:Int)(h18:Bool)(h19 h20 h21 h22 h23 h24:Int)(next:LI→List aR.den→Int→Int→Int→Int→Int→Bool→Int→Int→Int→Int→Int→Int→Option R)(out:ao dx.xs→Option R):Option R:=bif decide (h14<h19) then bif (an h11 h13).2.2 != 0 then out (.ret ((),(([],((an h11 h13).2.2,())),()))) else bif i64.wrap (an h11 h13).1.2.1 != h14 then out (.ret ((),(([],(72,())),()))) else bif (an h11 h13).1.1 == -9223372036854775808 then bif !decide (0≤h20) then out (.ret ((),(([],(86,())),()))) else bif h14 == 0 then bif (an h11 h13).1.1 != 0 then out (.ret ((),(([],(86,())),()))) else bif decide (h12.length+1≤4294967296) then next (h11) (h12++[(i64.wrap (h20+(an h11 h13).1.1),(an h11 h13).1.2.2)]) ((an h11 h13).2.1) (i64.wrap (h14+1)) (h15) (h16) (h17) (h18) (h19) (h20) (h21) (h22) (h23) (h24) else none else bif decide (h12.length+1≤4294967296) then next (h11) (h12++[(i64.wrap (h20+(an h11 h13).1.1),(an h11 h13).1.2.2)]) ((an h11 h13).2.1) (i64.wrap (h14+1)) (h15) (h16) (h17) (h18) (h19) (h20) (h21) (h22) (h23) (h24) else none else bif !(bt 0 (an h11 h13).1.1).2 then out (.ret ((),(([],(86,())),()))) else bif !(bt h20 (bt 0 (an h11 h13).1.1).1).2 then out (.ret ((),(([],(86,())),()))) else bif h14 == 0 then bif (an h11 h13).1.1 != 0 then out (.ret ((),(([],(86,())),()))) else bif decide (h12.length+1≤4294967296) then next (h11) (h12++[((bt h20 (bt 0 (an h11 h13).1.1).1).1,(an h11 h13).1.2.2)]) ((an h11 h13).2.1) (i64.wrap (h14+1)) (h15) (h16) (h17) (h18) (h19) (h20) (h21) (h22) (h23) (h24) else none else bif decide (h12.length+1≤4294967296) then next (h11) (h12++[((bt h20 (bt 0 (an h11 h13).1.1).1).1,(an h11 h13).1.2.2)]) ((an h11 h13).2.1) (i64.wrap (h14+1)) (h15) (h16) (h17) (h18) (h19) (h20) (h21) (h22) (h23) (h24) else none else out (.pan (.ret ((),((h11,(h12,(h13,()))),((h15,(h16,(h17,(h18,(h19,(h20,(h21,(h22,(h23,(h24,())))))))))),())))))
def na (n:Nat)(h11:LI)(h12:List aR.den)(h13 h14 h15 h16 h17:Int)(h18:Bool)(h19 h20 h21 h22 h23 h24:Int):Option (ao dx.xs):=fH tt Hg dr tr 0 Tryz.f80 (bI Tryz.f80 0) n (dx.st.mk' ((h11,(h12,(h13,(h14,())))),((h15,(h16,(h17,(h18,(h19,(h20,(h21,(h22,(h23,(h24,())))))))))),()))) (bo dx.xs)
theorem yA (n:Nat)(h11:LI)(h12:List aR.den)(h13 h14 h15 h16 h17:Int)(h18:Bool)(h19 h20 h21 h22 h23 h24:Int):na (n+1) h11 h12 h13 h14 h15 h16 h17 h18 h19 h20 h21 h22 h23 h24=mR h11 h12 h13 h14 h15 h16 h17 h18 h19 h20 h21 h22 h23 h24 (na n) some:=by kernel_rfl
theorem RO {d f:Int}(hd:bC .i64 d)(hf:bC .i64 f)(hne:d≠-9223372036854775808):bt 0 d=(-d,true)∧bt f (-d)=(if aP (f+d)=true then (f+d,true) else (0,false)):=by
 have h1:=jJ hd
 have h2:=jJ hf
 constructor
 ·unfold bt
  rw[if_pos (fv.2 (by omega)),Int.zero_sub]
 ·unfold bt
  rw[Int.sub_neg]
theorem C1 (blk:LI)(z1 z2 z3:Int)(z4:Bool)(cnt f z7 z8 z9 z10:Int)(hf:bC .i64 f):∀(n k i:Nat) (p:Int) (out:List bq),n<k→out.length=i→i+n≤4294960000→(cnt=((i+n:Nat):Int)∨cnt≤i∧n=0)→
  na k blk out p i z1 z2 z3 z4 cnt f z7 z8 z9 z10=(wo blk z1 z2 z3 z4 cnt f z7 z8 z9 z10 (aD blk f n i p out)).val:=by
 intro n
 induction n with
 |zero=>
  intro k i p out h1 h2 h3 h4
  obtain ⟨k,rfl⟩:∃j,k=j+1:=⟨k - 1,by omega⟩
  rw[yA]
  unfold mR
  refine bF (decide_eq_false (by omega)) ?_
  rfl
 |succ n ih=>
  intro k i p out h1 h2 h3 h4
  have h4:cnt=((i+(n+1):Nat):Int):=by
   rcases h4 with h | h
   ·exact h
   ·omega
  obtain ⟨k,rfl⟩:∃j,k=j+1:=⟨k - 1,by omega⟩
  rw[yA]
  unfold mR
  refine bT (decide_eq_true (by omega)) ?_
  have e:aD blk f (n+1) i p out=if (an blk p).2.2≠0 then ([],0,(an blk p).2.2) else if (an blk p).1.2.1≠(i:Int) then ([],0,72) else if i=0∧(an blk p).1.1≠0∨aP (f+(an blk p).1.1)=false then ([],0,86)
   else aD blk f n (i+1) (an blk p).2.1 (out++[(f+(an blk p).1.1,(an blk p).1.2.2.1,(an blk p).1.2.2.2.1,(an blk p).1.2.2.2.2.1,())]):=rfl
  rw[e]
  obtain ⟨b1,b2⟩:=DP blk p
  generalize an blk p=r at *
  obtain ⟨⟨d,o,kv⟩,q,er⟩:=r
  simp only at b1 b2 ⊢
  have b1':=jJ b1
  have b2':=EQ b2
  have b3:=jJ hf
  by_cases c1:er=0
  rotate_left
  ·refine bT (by simpa using c1) ?_
   rw[if_pos c1]
   unfold wo
   rw[Tr.val_ite,if_pos (by simpa using c1),Tr.val_ret]
  refine bF (by simpa using c1) ?_
  rw[if_neg (az c1),ae (n:=o) (by omega) (by omega)]
  by_cases c2:o=(i:Int)
  rotate_left
  ·refine bT (by simpa using c2) ?_
   rw[if_pos c2]
   rfl
  refine bF (by simpa using c2) ?_
  rw[if_neg (az c2),ae (n:=(i:Int)+1) (by omega) (by omega)]
  have next:aP (f+d)=true→(bif decide (out.length+1≤4294967296) then na k blk (out++[(f+d,kv)]) q ((i:Int)+1) z1 z2 z3 z4 cnt f z7 z8 z9 z10 else none)=(wo blk z1 z2 z3 z4 cnt f z7 z8 z9 z10 (aD blk f n (i+1) q (out++[(f+d,kv)]))).val:=by
   intro hfit
   refine bT (decide_eq_true (by omega)) ?_
   exact ih k (i+1) q _ (by omega) (by simp[h2]) (by omega) (.inl (by rw[h4];omega))
  have fin:∀e:Int,e≠0→oR ((),(([],(e,())),()))=(wo blk z1 z2 z3 z4 cnt f z7 z8 z9 z10 ([],0,e)).val:=by
   intro e he
   unfold wo
   rw[Tr.val_ite,if_pos (by simpa using he),Tr.val_ret]
  by_cases c3:d = -9223372036854775808
  ·refine bT (by simpa using c3) ?_
   by_cases c4:0≤f
   ·refine bF (by rw[decide_eq_true c4];rfl) ?_
    have hfit:aP (f+d)=true:=fv.2 (by omega)
    by_cases c5:i=0
    ·refine bT (by simp[c5]) ?_
     refine bT (by rw[c3];rfl) ?_
     rw[if_pos (.inl ⟨c5,by omega⟩)]
     exact fin 86 (by decide)
    ·refine bF (by simp[c5]) ?_
     rw[if_neg (by rintro (h | h);exact c5 h.1;rw[hfit] at h;cases h),ae (n:=f+d) (by omega) (by omega)]
     exact next hfit
   ·refine bT (by rw[decide_eq_false c4];rfl) ?_
    rw[if_pos (.inr (by
     cases h:aP (f+d) with
     |false=>rfl
     |true=>have:=fv.1 h;omega))]
    exact fin 86 (by decide)
  refine bF (by simpa using c3) ?_
  obtain ⟨s1,s2⟩:=RO b1 hf c3
  rw[s1]
  refine (af rfl _ _).trans ?_
  rw[s2]
  cases hfit:aP (f+d) with
  |false=>
   rw[if_neg (by decide)]
   refine (aa rfl _ _).trans ?_
   rw[if_pos (.inr rfl)]
   exact fin 86 (by decide)
  |true=>
   rw[if_pos rfl]
   refine (af rfl _ _).trans ?_
   by_cases c5:i=0
   ·refine bT (by simp[c5]) ?_
    by_cases c6:d=0
    ·refine bF (by simpa using c6) ?_
     rw[if_neg (by rintro (h | h);exact h.2 c6;cases h)]
     exact next hfit
    ·refine bT (by simpa using c6) ?_
     rw[if_pos (.inl ⟨c5,c6⟩)]
     exact fin 86 (by decide)
   ·refine bF (by simp[c5]) ?_
    rw[if_neg (by rintro (h | h);exact c5 h.1;cases h)]
    exact next hfit
def xD (a0:LI)(a1 a2 a3:Int)(a4:Bool)(a5 a6 a7 a8 a9 a10:Int):Option kW.Res:=(l6 ((a0,([],(0,(0,())))),((a1,(a2,(a3,(a4,(a5,(a6,(a7,(a8,(a9,(a10,())))))))))),()))).run fun y=>match y with | .ret ((),((x108,x109,()),()))=>(oR ((x108,x109,()),())) | .pan (.ret ((),((x110,x111,x112,()),(x113,x114,x115,x116,x117,x118,x119,x120,x121,x122,()),())))=>(bif decide (x112<(↑x110.length:Int)) then oR (([],2,()),()) else bif ch x111 != x119 then oR (([],86,()),()) else oR ((x111,0,()),()))
theorem Ny (a0:LI)(a1 a2 a3:Int)(a4:Bool)(a5 a6 a7 a8 a9 a10:Int):Io.run tt Hg dr tr kW Tryz.f80 ((a0,(a1,a2,a3,a4,a5,a6,a7,a8,a9,a10,()),()),())=xD a0 a1 a2 a3 a4 a5 a6 a7 a8 a9 a10:=by kernel_rfl
theorem yg:HcsOk prog GN:=.cons PB (.cons Ic (.cons vr .nil))
theorem PN:HcOk prog 80 (ai kW Et):=by
 refine bQ yg (lp:=tr) (fn:=Tryz.f80) kW (.step (h0:=aA dx l6) (by kernel_rfl) (fR yg (lp:=tr) (fn:=Tryz.f80) (.done (by kernel_rfl)) dx l6 ?_) (.done (by kernel_rfl))) Et ?_
 ·rintro ⟨⟨(blk:LI),(out:List bq),(p:Int),(i:Int),⟨⟩⟩,⟨⟨(z1:Int),(z2:Int),(z3:Int),(z4:Bool),(cnt:Int),(f:Int),(z7:Int),(z8:Int),(z9:Int),(z10:Int),⟨⟩⟩,⟨⟩⟩⟩ y hw hy
  obtain ⟨hg,hy⟩:=Tr.guard hy
  simp only[zA,zB] at hg
  obtain ⟨h1,h2,h3⟩:=hg
  have h1:i=0:=h1
  have h2:out.length=0:=h2
  have h3:cnt≤(4294960000:Int):=h3
  subst h1
  obtain rfl:=List.length_eq_zero_iff.1 h2
  have hf:bC .i64 f:=hw.2.1.2.2.2.2.2.1
  refine ⟨cnt.toNat+1,(C1 blk z1 z2 z3 z4 cnt f z7 z8 z9 z10 hf cnt.toNat (cnt.toNat+1) 0 p [] (by omega) rfl (by omega) (by omega)).trans ?_⟩
  exact hy
 ·rintro ⟨⟨(blk:LI),⟨(z1:Int),(z2:Int),(z3:Int),(z4:Bool),(cnt:Int),(f:Int),(z7:Int),(z8:Int),(z9:Int),(z10:Int),⟨⟩⟩,⟨⟩⟩,⟨⟩⟩ out hw ho
  obtain ⟨hg,ho⟩:=Tr.guard ho
  have hg:cnt≤(4294960000:Int):=of_decide_eq_true hg
  cases ho
  refine (Ny blk z1 z2 z3 z4 cnt f z7 z8 z9 z10).trans ?_
  show _=oR (((cK blk f z7 cnt.toNat).1,(cK blk f z7 cnt.toNat).2,()),())
  unfold xD l6
  refine bT (by simp only[zA,zB];exact ⟨trivial,rfl,hg⟩) ?_
  have eR:cK blk f z7 cnt.toNat=if (aD blk f cnt.toNat 0 0 []).2.2≠0 then ([],(aD blk f cnt.toNat 0 0 []).2.2)
    else if (aD blk f cnt.toNat 0 0 []).2.1<(blk.length:Int) then ([],2)
    else if ch (aD blk f cnt.toNat 0 0 []).1≠z7 then ([],86) else ((aD blk f cnt.toNat 0 0 []).1,0):=rfl
  rw[eR]
  unfold wo
  generalize aD blk f cnt.toNat 0 0 []=r
  obtain ⟨rs,q,e⟩:=r
  by_cases h3:e=0
  rotate_left
  ·refine bT (decide_eq_true h3) ?_
   rw[if_pos h3]
   rfl
  refine bF (decide_eq_false (az h3)) ?_
  rw[if_neg (az h3)]
  by_cases h4:q<(blk.length:Int)
  ·refine bT (decide_eq_true h4) ?_
   rw[if_pos h4]
  refine bF (decide_eq_false h4) ?_
  rw[if_neg h4]
  by_cases h5:ch rs=z7
  ·refine bF (by simpa using h5) ?_
   rw[if_neg (az h5)]
  ·refine bT (by simpa using h5) ?_
   rw[if_pos h5]
end
end Go.Proofs.YthpcdhgpplmneaaGreatDoor.Sym
namespace Go.Proofs.YthpcdhgpplmneaaGreatDoor.Sym
open Go
noncomputable section
theorem sn (b:LI):(aY b).1.length≤32768:=by
 unfold aY
 repeat' split
 all_goals first | (simp;done) | skip
 rw[dE]
 have h:=oW (al (ab 10 1 b 0).1)
 have:=yC ((b.drop (ab 10 1 b 0).2.1.toNat).length+1) (b.drop (ab 10 1 b 0).2.1.toNat) [] (ay (al (ab 10 1 b 0).1)) h.1
 simp only
 omega
abbrev jN:Io:=⟨[dL],[],[],[Cm,dI],none⟩
def KB (d:jN.In):Tr jN.Res:=.ite (decide (d.1.1.length≤4294960000)) (.ret (.ret (((ap d.1.1).1,(ap d.1.1).2,()),()))) .no
abbrev K6:List (Nat×Hc):=[(78,ai jt Es),(21,ai jK wF),(79,ai kJ Ef),(80,ai kW Et)]
def Q3:Hd:=bB K6
def Me:Lp:=bP []
def BV (a0:LI):Option jN.Res:=bif (ak a0 true).2 != 0 then oR (((0,0,0,0,0,[],()),(ak a0 true).2,()),()) else bif decide (0≤61)&&(decide (61≤(↑a0.length:Int))&&decide ((↑a0.length:Int)≤(↑a0.length:Int))) then bif decide ((List.drop (Int.toNat 61) (List.take (↑a0.length:Int).toNat a0)).length≤4294967296) then bif (ak a0 true).1.2.2.2.1 then bif decide (32768=32768)&&decide ((List.drop (Int.toNat 61) (List.take (↑a0.length:Int).toNat a0)).length≤4294960000) then bif (aY (List.drop (Int.toNat 61) (List.take (↑a0.length:Int).toNat a0))).2 != 0 then oR (((0,0,0,0,0,[],()),(aY (List.drop (Int.toNat 61) (List.take (↑a0.length:Int).toNat a0))).2,()),()) else bif decide (32768<(↑(aY (List.drop (Int.toNat 61) (List.take (↑a0.length:Int).toNat a0))).1.length:Int)) then oR (((0,0,0,0,0,[],()),4,()),()) else bif decide ((ak a0 true).1.2.2.2.2.1≤4294960000) then bif (cK (aY (List.drop (Int.toNat 61) (List.take (↑a0.length:Int).toNat a0))).1 (ak a0 true).1.2.2.2.2.2.1 (ak a0 true).1.2.2.2.2.2.2.1 (Int.toNat (ak a0 true).1.2.2.2.2.1)).2 != 0 then oR (((0,0,0,0,0,[],()),(cK (aY (List.drop (Int.toNat 61) (List.take (↑a0.length:Int).toNat a0))).1 (ak a0 true).1.2.2.2.2.2.1 (ak a0 true).1.2.2.2.2.2.2.1 (Int.toNat (ak a0 true).1.2.2.2.2.1)).2,()),()) else oR ((((ak a0 true).1.1,(ak a0 true).1.2.2.1,(ak a0 true).1.2.2.2.2.2.2.2.1,(ak a0 true).1.2.2.2.2.2.2.2.2.1,(ak a0 true).1.2.2.2.2.2.2.2.2.2.1,(cK (aY (List.drop (Int.toNat 61) (List.take (↑a0.length:Int).toNat a0))).1 (ak a0 true).1.2.2.2.2.2.1 (ak a0 true).1.2.2.2.2.2.2.1 (Int.toNat (ak a0 true).1.2.2.2.2.1)).1,()),0,()),()) else none else none else bif decide (32768<(↑(List.drop (Int.toNat 61) (List.take (↑a0.length:Int).toNat a0)).length:Int)) then oR (((0,0,0,0,0,[],()),4,()),()) else bif decide ((ak a0 true).1.2.2.2.2.1≤4294960000) then bif (cK (List.drop (Int.toNat 61) (List.take (↑a0.length:Int).toNat a0)) (ak a0 true).1.2.2.2.2.2.1 (ak a0 true).1.2.2.2.2.2.2.1 (Int.toNat (ak a0 true).1.2.2.2.2.1)).2 != 0 then oR (((0,0,0,0,0,[],()),(cK (List.drop (Int.toNat 61) (List.take (↑a0.length:Int).toNat a0)) (ak a0 true).1.2.2.2.2.2.1 (ak a0 true).1.2.2.2.2.2.2.1 (Int.toNat (ak a0 true).1.2.2.2.2.1)).2,()),()) else oR ((((ak a0 true).1.1,(ak a0 true).1.2.2.1,(ak a0 true).1.2.2.2.2.2.2.2.1,(ak a0 true).1.2.2.2.2.2.2.2.2.1,(ak a0 true).1.2.2.2.2.2.2.2.2.2.1,(cK (List.drop (Int.toNat 61) (List.take (↑a0.length:Int).toNat a0)) (ak a0 true).1.2.2.2.2.2.1 (ak a0 true).1.2.2.2.2.2.2.1 (Int.toNat (ak a0 true).1.2.2.2.2.1)).1,()),0,()),()) else none else none else none
theorem Qb (a0:LI):Io.run tt Q3 dr Me jN Tryz.f59 ((a0,()),())=BV a0:=by kernel_rfl
theorem Ro:HcOk prog 59 (ai jN KB):=by
 refine bQ (cs:=K6) (.cons PM (.cons AP (.cons Pw (.cons PN .nil)))) (lp:=Me) (fn:=Tryz.f59) jN (.done (by kernel_rfl)) KB ?_
 rintro ⟨⟨(b:LI),⟨⟩⟩,⟨⟩⟩ out hw ho
 obtain ⟨hg,ho⟩:=Tr.guard ho
 have hg2:b.length≤4294960000:=of_decide_eq_true hg
 clear hg
 cases ho
 refine (Qb b).trans ?_
 show _=oR (((ap b).1,(ap b).2,()),())
 have eE:fa b=if bc b true≠0 then ([],bc b true) else if (aN b (decide (b.getD 22 0=1))).2≠0 then ([],(aN b (decide (b.getD 22 0=1))).2) else cK (aN b (decide (b.getD 22 0=1))).1 (ar b 27 8) (ar b 35 8) (ar b 57 4).toNat:=rfl
 have fin:∀e:Int,e≠0→(fa b).2=e→some (Out.ret ((tB,(e,())),()):jN.Res)=oR (((ap b).1,(ap b).2,()),()):=by
  intro e he h
  have:ap b=(tB,e):=by unfold ap;rw[h,if_pos he]
  rw[this]
 have fin2:∀rs:List bq,fa b=(rs,0)→some (Out.ret (((ar b 0 8,ar b 12 4,ar b 43 8,ar b 51 2,ar b 53 4,rs,()),(0,())),()):jN.Res)=oR (((ap b).1,(ap b).2,()),()):=by
  intro rs h
  have:ap b=((ar b 0 8,ar b 12 4,ar b 43 8,ar b 51 2,ar b 53 4,rs,()),0):=by unfold ap;rw[h,if_neg (az rfl)]
  rw[this]
 unfold BV
 by_cases h1:bc b true=0
 rotate_left
 ·have eh:ak b true=(br,bc b true):=by unfold ak;rw[if_pos h1]
  rw[eh]
  refine bT (by simpa using h1) ?_
  exact fin _ h1 (by rw[eE,if_pos h1])
 have eh:ak b true=(iV b,0):=by unfold ak;rw[if_neg (az h1)]
 rw[if_neg (az h1)] at eE
 obtain ⟨k1,_,_,_,_,_,_,_,_,k2,k3,_⟩:=gV h1
 have hI:iV b=(ar b 0 8,(b.length:Int),ar b 12 4,decide (b.getD 22 0=1),ar b 57 4,ar b 27 8,ar b 35 8,ar b 43 8,ar b 51 2,ar b 53 4,()):=rfl
 rw[eh,hI]
 dsimp only
 have e61:List.drop (Int.toNat 61) (List.take (b.length:Int).toNat b)=b.drop 61:=by
  show List.drop 61 (List.take (b.length:Int).toNat b)=_
  rw[zG,List.take_length]
 have l61:(b.drop 61).length=b.length - 61:=List.length_drop
 rw[e61]
 refine (af rfl _ _).trans ?_
 refine bT (by simp only[zA,zB];omega) ?_
 refine bT (decide_eq_true (by omega)) ?_
 have rest:∀blk:LI,fa b=cK blk (ar b 27 8) (ar b 35 8) (ar b 57 4).toNat→(bif decide (ar b 57 4≤4294960000) then bif (cK blk (ar b 27 8) (ar b 35 8) (ar b 57 4).toNat).2 != 0 then oR (((0,0,0,0,0,[],()),(cK blk (ar b 27 8) (ar b 35 8) (ar b 57 4).toNat).2,()),()) else oR (((ar b 0 8,ar b 12 4,ar b 43 8,ar b 51 2,ar b 53 4,(cK blk (ar b 27 8) (ar b 35 8) (ar b 57 4).toNat).1,()),0,()),()) else none:Option jN.Res)=oR (((ap b).1,(ap b).2,()),()):=by
  intro blk hb
  refine bT (decide_eq_true (by omega)) ?_
  by_cases h4:(cK blk (ar b 27 8) (ar b 35 8) (ar b 57 4).toNat).2=0
  ·refine bF (by simpa using h4) ?_
   exact fin2 _ (by rw[hb,← h4])
  ·refine bT (by simpa using h4) ?_
   exact fin _ h4 (by rw[hb])
 by_cases h22:b.getD 22 0=1
 ·rw[decide_eq_true h22] at eE ⊢
  have hB:aN b true=aY (b.drop 61):=rfl
  rw[hB] at eE
  refine (aa rfl _ _).trans ?_
  have l62:(b.drop 61).length≤4294960000:=by omega
  refine bT (by rw[zA];exact ⟨rfl,decide_eq_true l62⟩) ?_
  by_cases h2:(aY (b.drop 61)).2=0
  rotate_left
  ·refine bT (by simpa using h2) ?_
   exact fin _ h2 (by rw[eE,if_pos h2])
  refine bF (by simpa using h2) ?_
  rw[if_neg (az h2)] at eE
  have:=sn (b.drop 61)
  have this:¬(32768:Int)<((aY (b.drop 61)).1.length:Int):=by omega
  refine bF (decide_eq_false this) ?_
  exact rest _ eE
 ·rw[decide_eq_false h22] at eE ⊢
  have hB:aN b false=if 32768<((b.drop 61).length:Int) then ([],4) else (b.drop 61,0):=rfl
  rw[hB] at eE
  refine (af rfl _ _).trans ?_
  by_cases h2:32768<((b.drop 61).length:Int)
  ·rw[if_pos h2] at eE
   refine bT (decide_eq_true h2) ?_
   exact fin 4 (by decide) (by rw[eE,if_pos (by decide)])
  ·rw[if_neg h2,if_neg (az rfl)] at eE
   refine bF (decide_eq_false h2) ?_
   exact rest _ eE
end
end Go.Proofs.YthpcdhgpplmneaaGreatDoor.Sym
namespace Go.Proofs.YthpcdhgpplmneaaGreatDoor.Sym
open Go
open Go.IntKind (i8 i16 i32 i64 u8 u16 u32 u64)
noncomputable section
abbrev oy:Io:=⟨[GR],[],[],[dB],none⟩
def Ky (d:oy.In):Tr oy.Res:=.ret (.ret ((fJ d.1.1,()),()))
abbrev K2:List (Nat×Hc):=[]
def QZ:Hd:=bB K2
def Ma:Lp:=bP []
def KM (a0:Bool)(a1:LI):Option oy.Res:=bif a0 then oR ((decide (0<(↑a1.length:Int)),()),()) else oR ((false,()),())
theorem P6 (a0:Bool)(a1:LI):Io.run tt QZ dr Ma oy Tryz.f173 (((a0,a1,()),()),())=KM a0 a1:=by kernel_rfl
theorem Rj:HcOk prog 173 (ai oy Ky):=by
 refine bQ (cs:=K2) .nil (lp:=Ma) (fn:=Tryz.f173) oy (.done (by kernel_rfl)) Ky ?_
 rintro ⟨⟨⟨(n:Bool),(b:LI),⟨⟩⟩,⟨⟩⟩,⟨⟩⟩ out hw ho
 cases ho
 refine (P6 n b).trans ?_
 cases n <;> rfl
abbrev iN:Io:=⟨[GR],[],[],[dO],none⟩
def zi (d:iN.In):Tr iN.Res:=.ite (decide ((bJ d.1.1).length≤4294967296)) (.ret (.ret ((bJ d.1.1,()),()))) .no
abbrev Ck:List (Nat×Hc):=[(121,ai jM wI),(24,ai lG By)]
def LQ:Hd:=bB Ck
def De:Lp:=bP []
def uB (a0:Bool)(a1:LI):Option iN.Res:=bif a0 then oR ((aF (aC (-1)),()),()) else bif decide ((aF (aC (↑a1.length:Int))).length+a1.length≤4294967296) then oR ((aF (aC (↑a1.length:Int))++a1,()),()) else none
theorem JN (a0:Bool)(a1:LI):Io.run tt LQ dr De iN Tryz.f175 (((a0,a1,()),()),())=uB a0 a1:=by kernel_rfl
theorem MJ:HcOk prog 175 (ai iN zi):=by
 refine bQ (cs:=Ck) (.cons AW (.cons yw .nil)) (lp:=De) (fn:=Tryz.f175) iN (.done (by kernel_rfl)) zi ?_
 rintro ⟨⟨⟨(n:Bool),(b:LI),⟨⟩⟩,⟨⟩⟩,⟨⟩⟩ out hw ho
 obtain ⟨hg,ho⟩:=Tr.guard ho
 have hg:(bJ (n,b,())).length≤4294967296:=of_decide_eq_true hg
 cases ho
 refine (JN n b).trans ?_
 show _=oR ((bJ (n,b,()),()),())
 unfold uB
 cases n with
 |true=>rfl
 |false=>
  have e:bJ (false,b,())=aF (aC b.length)++b:=rfl
  rw[e] at hg ⊢
  simp only[zH] at hg
  rw[af rfl,aa (by simp;omega)]
abbrev jm:Io:=⟨[Cn],[],[],[dO],none⟩
def zb (d:jm.In):Tr jm.Res:=.ite (gj d.1.1) (.ret (.ret ((cf d.1.1,()),()))) .no
abbrev s3:List (Nat×Hc):=[(121,ai jM wI),(24,ai lG By),(175,ai iN zi)]
def Ha:Hd:=bB s3
abbrev dY:Lo:=⟨⟨(.any::.one (.ptr 1 0)::.any::.one (.onl 5 (Ty.int u8) 7)::.one hI::ah (ah (ah (cN (bv []))))),[none,some [hI,hJ,hL,.hol (.sl 5 (Ty.int u8)),hL,.hol (.sl 5 (Ty.int u8)),.hol (.sl 206 (Ty.str.prod ((Ty.bool.prod ((Ty.sl 5 (Ty.int u8)).prod Ty.unit)).prod Ty.unit)))]]⟩,[(.exit 0,⟨(.any::bi (.one (.onl 5 (Ty.int u8) 7)::.any::ah (ah (ah (cN (bv [])))))),[]⟩)]⟩
def lX (d:dY.st.den):Tr (ao dY.xs):=
 .ite (decide (d.1.2.1=(0:Int))&&decide (d.1.1.length+(ca d.2.1.2.2.2.2.2.2.1).length≤4294967296)) (.ret (.ret ((),((d.1.1++ca d.2.1.2.2.2.2.2.2.1,()),())))) .no
def tl:Lp:=bP [(8,aA dY lX)]
def sG {R:Type}(h7:LI)(h8 h9 h10:Int)(h11:Bool)(h12:LI)(h13:Bool)(h14:LI)(h15:List fZ.den)(next:LI→Int→Int→Int→Bool→LI→Bool→LI→List fZ.den→Option R)(out:ao dY.xs→Option R):Option R:=bif decide (h8<(↑h15.length:Int)) then bif decide (0≤h8)&&decide (h8<(↑h15.length:Int)) then bif decide (h7.length+(aF (aC (↑(List.length (h15.getD h8.toNat ([],(false,[],()),())).1):Int))).length≤4294967296) then bif decide (List.length (h7++aF (aC (↑(List.length (h15.getD h8.toNat ([],(false,[],()),())).1):Int)))+List.length (h15.getD h8.toNat ([],(false,[],()),())).1≤4294967296) then bif decide (0≤h8)&&decide (h8<(↑h15.length:Int)) then bif decide ((bJ ((h15.getD h8.toNat ([],(false,[],()),())).2.1.1,(h15.getD h8.toNat ([],(false,[],()),())).2.1.2.1,())).length≤4294967296) then bif decide (List.length (h7++aF (aC (↑(List.length (h15.getD h8.toNat ([],(false,[],()),())).1):Int))++(h15.getD h8.toNat ([],(false,[],()),())).1)+(bJ ((h15.getD h8.toNat ([],(false,[],()),())).2.1.1,(h15.getD h8.toNat ([],(false,[],()),())).2.1.2.1,())).length≤4294967296) then next (h7++aF (aC (↑(List.length (h15.getD h8.toNat ([],(false,[],()),())).1):Int))++(h15.getD h8.toNat ([],(false,[],()),())).1++bJ ((h15.getD h8.toNat ([],(false,[],()),())).2.1.1,(h15.getD h8.toNat ([],(false,[],()),())).2.1.2.1,())) (i64.wrap (h8+1)) (h9) (h10) (h11) (h12) (h13) (h14) (h15) else none else none else none else none else none else none else out (.ret ((),((h7,()),())))
def rj (n:Nat)(h7:LI)(h8 h9 h10:Int)(h11:Bool)(h12:LI)(h13:Bool)(h14:LI)(h15:List fZ.den):Option (ao dY.xs):=fH tt Ha dr tl 0 Tryz.f153 (bI Tryz.f153 0) n (dY.st.mk' ((h7,(h8,())),((h9,(h10,(h11,(h12,(h13,(h14,(h15,()))))))),()))) (bo dY.xs)
theorem J0 (n:Nat)(h7:LI)(h8 h9 h10:Int)(h11:Bool)(h12:LI)(h13:Bool)(h14:LI)(h15:List fZ.den):rj (n+1) h7 h8 h9 h10 h11 h12 h13 h14 h15=sG h7 h8 h9 h10 h11 h12 h13 h14 h15 (rj n) some:=by kernel_rfl
theorem I7 (h9 h10:Int)(h11:Bool)(h12:LI)(h13:Bool)(h14:LI)(hs:List ez)(hm:hs.length≤maxLen):∀(k i:Nat) (o:LI),i≤hs.length→hs.length<i+k→o.length+(ca (hs.drop i)).length≤4294967296→
  rj k o (i:Int) h9 h10 h11 h12 h13 h14 hs=some (.ret ((),((o++ca (hs.drop i),()),()))):=by
 intro k
 induction k with
 |zero=>intro i o h1 h2;omega
 |succ k ih=>
  intro i o h1 h2 h3
  rw[J0]
  unfold sG
  by_cases h4:i<hs.length
  ·have e:(hs.getD (i:Int).toNat ([],(false,[],()),()):ez)=hs[i]:=aB h4
   rw[zE h4,← e] at h3 ⊢
   rw[bb h4 hm]
   generalize (hs.getD (i:Int).toNat ([],(false,[],()),()):ez)=x at *
   obtain ⟨x1,⟨x2,x3,⟨⟩⟩,⟨⟩⟩:=x
   have eW:ca ((x1,(x2,x3,()),())::hs.drop (i+1))=aF (aC x1.length)++(x1++bJ (x2,x3,()))++ca (hs.drop (i+1)):=by simp[ca,Bk]
   rw[eW] at h3 ⊢
   simp only[zH] at h3
   rw[aa (by simpa using h4),aa (by simp[h4]),aa (by simp;omega),aa (by simp;omega),aa (by simp[h4]),aa (by simp;omega),aa (by simp;omega)]
   refine (ih (i+1) _ h4 (by omega) (by simp only[zH];omega)).trans ?_
   simp only[zK]
  ·rw[zI (by omega)]
   rw[af (by simpa using h4)]
   simp[ca]
def xm (a0 a1:Int)(a2:Bool)(a3:LI)(a4:Bool)(a5:LI)(a6:List fZ.den):Option jm.Res:=bif decide ([0].length+(aF (aC a0)).length≤4294967296) then bif decide (List.length ([0]++aF (aC a0))+(aF (aC (i64.wrap a1))).length≤4294967296) then bif decide ((bJ (a2,a3,())).length≤4294967296) then bif decide (List.length ([0]++aF (aC a0)++aF (aC (i64.wrap a1)))+(bJ (a2,a3,())).length≤4294967296) then bif decide ((bJ (a4,a5,())).length≤4294967296) then bif decide (List.length ([0]++aF (aC a0)++aF (aC (i64.wrap a1))++bJ (a2,a3,()))+(bJ (a4,a5,())).length≤4294967296) then bif decide (List.length ([0]++aF (aC a0)++aF (aC (i64.wrap a1))++bJ (a2,a3,())++bJ (a4,a5,()))+(aF (aC (↑a6.length:Int))).length≤4294967296) then (lX (([0]++aF (aC a0)++aF (aC (i64.wrap a1))++bJ (a2,a3,())++bJ (a4,a5,())++aF (aC (↑a6.length:Int)),(0,())),((a0,(a1,(a2,(a3,(a4,(a5,(a6,()))))))),()))).run fun y=>match y with | .ret ((),((x26,()),()))=>(oR ((x26,()),())) else none else none else none else none else none else none else none
theorem Ng (a0 a1:Int)(a2:Bool)(a3:LI)(a4:Bool)(a5:LI)(a6:List fZ.den):Io.run tt Ha dr tl jm Tryz.f153 (((a0,a1,(a2,a3,()),(a4,a5,()),a6,()),()),())=xm a0 a1 a2 a3 a4 a5 a6:=by kernel_rfl
theorem H3:HcOk prog 153 (ai jm zb):=by
 have hcs:HcsOk prog s3:=.cons AW (.cons yw (.cons MJ .nil))
 refine bQ (cs:=s3) hcs (lp:=tl) (fn:=Tryz.f153) jm
  (.step (h0:=aA dY lX) (by kernel_rfl) (fR (cs:=s3) hcs (lp:=tl) (fn:=Tryz.f153) (.done (by kernel_rfl)) dY lX ?_) (.done (by kernel_rfl))) zb ?_
 ·rintro ⟨⟨(o:LI),(i:Int),⟨⟩⟩,⟨(h9:Int),(h10:Int),(h11:Bool),(h12:LI),(h13:Bool),(h14:LI),(hs:List ez),⟨⟩⟩,⟨⟩⟩ y hw hy
  obtain ⟨hg,hy⟩:=Tr.guard hy
  simp only[zA,zB] at hg
  obtain ⟨hi,hl⟩:=hg
  have hi:i=0:=hi
  subst hi
  refine ⟨hs.length+1,(I7 h9 h10 h11 h12 h13 h14 hs hw.2.1.2.2.2.2.2.2.1.1 _ 0 o (by omega) (by omega) hl).trans ?_⟩
  rw[← hy]
  rfl
 ·rintro ⟨⟨⟨(a0:Int),(a1:Int),⟨(a2:Bool),(a3:LI),⟨⟩⟩,⟨(a4:Bool),(a5:LI),⟨⟩⟩,(a6:List ez),⟨⟩⟩,⟨⟩⟩,⟨⟩⟩ out hw ho
  obtain ⟨hg,ho⟩:=Tr.guard ho
  cases ho
  refine (Ng a0 a1 a2 a3 a4 a5 a6).trans ?_
  have ha1:bC .i32 a1:=hw.1.1.2.1
  have ha1 : -2147483648≤a1∧a1≤2147483647:=by simpa [bC,IntKind.min,IntKind.max,IntKind.signed,IntKind.bits] using ha1
  have hg:(cf (a0,a1,(a2,a3,()),(a4,a5,()),a6,())).length≤4294967000:=of_decide_eq_true hg
  show _=oR ((cf (a0,a1,(a2,a3,()),(a4,a5,()),a6,()),()),())
  have eb:cf (a0,a1,(a2,a3,()),(a4,a5,()),a6,())=[0]++aF (aC a0)++aF (aC a1)++bJ (a2,a3,())++bJ (a4,a5,())++aF (aC a6.length)++ca a6:=by
   simp[cf]
  rw[eb] at hg ⊢
  simp only[zH] at hg
  unfold xm
  rw[ae (n:=a1) (by omega) (by omega),aa (by simp;omega),aa (by simp;omega),aa (by simp;omega),aa (by simp;omega),aa (by simp;omega),aa (by simp;omega),aa (by simp;omega)]
  unfold lX
  simp only[Tr.run_ite,Tr.run_ret]
  rw[if_pos (by simp;omega)]
abbrev iI:Io:=⟨[Cn],[],[],[dI],none⟩
def y9 (d:iI.In):Tr iI.Res:=.ite (gj d.1.1) (.ret (.ret ((bh d.1.1,()),()))) .no
abbrev pB:List (Nat×Hc):=[(173,ai oy Ky),(174,ai mj FZ),(153,ai jm zb)]
def CH:Hd:=bB pB
abbrev dh:Lo:=⟨⟨(.any::.one (.ptr 1 0)::.any::.one hI::ah (ah (ah []))),[none,some [hI,hJ,hL,.hol (.sl 5 (Ty.int u8)),hL,.hol (.sl 5 (Ty.int u8)),.hol (.sl 206 (Ty.str.prod ((Ty.bool.prod ((Ty.sl 5 (Ty.int u8)).prod Ty.unit)).prod Ty.unit)))]]⟩,[(.ret,⟨(bi (.one hI::.any::ah (ah (ah [])))),[]⟩),(.exit 0,⟨(.any::.one (.ptr 1 0)::ah (ah (ah (bi [])))),[none,some [hI,hJ,hL,.hol (.sl 5 (Ty.int u8)),hL,.hol (.sl 5 (Ty.int u8)),.hol (.sl 206 (Ty.str.prod ((Ty.bool.prod ((Ty.sl 5 (Ty.int u8)).prod Ty.unit)).prod Ty.unit)))]]⟩)]⟩
def j6 (d:dh.st.den):Tr (ao dh.xs):=
 .ite (decide (d.1.1=(0:Int))) (.ite (decide (dn d.2.1.2.2.2.2.2.2.1=(0:Int))) (.ret (.pan (.ret ((),((),(d.2.1,())))))) (.ret (.ret ((),((dn d.2.1.2.2.2.2.2.2.1,()),()))))) .no
def pR:Lp:=bP [(9,aA dh j6)]
def qx {R:Type}(h7 h8 h9:Int)(h10:Bool)(h11:LI)(h12:Bool)(h13:LI)(h14:List fZ.den)(next:Int→Int→Int→Bool→LI→Bool→LI→List fZ.den→Option R)(out:ao dh.xs→Option R):Option R:=bif decide (h7<(↑h14.length:Int)) then bif decide (0≤h7)&&decide (h7<(↑h14.length:Int)) then bif !(cq (h14.getD h7.toNat ([],(false,[],()),())).1).2 then out (.ret ((),((6,()),()))) else bif decide (0≤h7)&&decide (h7<(↑h14.length:Int)) then bif fJ ((h14.getD h7.toNat ([],(false,[],()),())).2.1.1,(h14.getD h7.toNat ([],(false,[],()),())).2.1.2.1,()) then out (.ret ((),((70,()),()))) else next (i64.wrap (h7+1)) (h8) (h9) (h10) (h11) (h12) (h13) (h14) else none else none else out (.pan (.ret ((),((),((h8,(h9,(h10,(h11,(h12,(h13,(h14,()))))))),())))))
def oM (n:Nat)(h7 h8 h9:Int)(h10:Bool)(h11:LI)(h12:Bool)(h13:LI)(h14:List fZ.den):Option (ao dh.xs):=fH tt CH dr pR 0 Tryz.f152 (bI Tryz.f152 0) n (dh.st.mk' ((h7,()),((h8,(h9,(h10,(h11,(h12,(h13,(h14,()))))))),()))) (bo dh.xs)
theorem FB (n:Nat)(h7 h8 h9:Int)(h10:Bool)(h11:LI)(h12:Bool)(h13:LI)(h14:List fZ.den):oM (n+1) h7 h8 h9 h10 h11 h12 h13 h14=qx h7 h8 h9 h10 h11 h12 h13 h14 (oM n) some:=by kernel_rfl
theorem EY (h8 h9:Int)(h10:Bool)(h11:LI)(h12:Bool)(h13:LI)(hs:List ez)(hm:hs.length≤maxLen):∀(k i:Nat),i≤hs.length→hs.length<i+k→
  oM k (i:Int) h8 h9 h10 h11 h12 h13 hs=if dn (hs.drop i)=0 then some (.pan (.ret ((),((),((h8,(h9,(h10,(h11,(h12,(h13,(hs,()))))))),()))))) else some (.ret ((),((dn (hs.drop i),()),()))):=by
 intro k
 induction k with
 |zero=>intro i h1 h2;omega
 |succ k ih=>
  intro i h1 h2
  rw[FB]
  unfold qx
  by_cases h3:i<hs.length
  ·have e:(hs.getD (i:Int).toNat ([],(false,[],()),()):ez)=hs[i]:=aB h3
   rw[zE h3,← e,bb h3 hm]
   generalize (hs.getD (i:Int).toNat ([],(false,[],()),()):ez)=x
   obtain ⟨x1,⟨x2,x3,⟨⟩⟩,⟨⟩⟩:=x
   rw[aa (by simpa using h3),aa (by simp[h3])]
   by_cases h4:(cq x1).2=false
   ·have eE:dn ((x1,(x2,x3,()),())::hs.drop (i+1))=6:=by unfold dn;rw[if_pos h4]
    rw[eE,aa (by simpa using h4)]
    rfl
   ·rw[af (by simpa using h4),aa (by simp[h3])]
    by_cases h5:fJ (x2,x3,())=true
    ·have eE:dn ((x1,(x2,x3,()),())::hs.drop (i+1))=70:=by unfold dn;rw[if_neg h4,if_pos h5]
     rw[eE,aa h5]
     rfl
    ·have eE:dn ((x1,(x2,x3,()),())::hs.drop (i+1))=dn (hs.drop (i+1)):=by rw[dn,if_neg h4,if_neg h5]
     rw[eE,af (by simpa using h5)]
     exact ih (i+1) h3 (by omega)
  ·rw[zI (by omega)]
   rw[af (by simpa using h3)]
   rfl
def uw (a0 a1:Int)(a2:Bool)(a3:LI)(a4:Bool)(a5:LI)(a6:List fZ.den):Option iI.Res:=bif decide (a1<0) then oR ((72,()),()) else bif fJ (a2,a3,()) then oR ((70,()),()) else bif fJ (a4,a5,()) then oR ((70,()),()) else bif decide (16<(↑a6.length:Int)) then oR ((9,()),()) else (j6 ((0,()),((a0,(a1,(a2,(a3,(a4,(a5,(a6,()))))))),()))).run fun y=>match y with | .ret ((),((x32,()),()))=>(oR ((x32,()),())) | .pan (.ret ((),((),(x33,x34,x35,x36,x37,x38,x39,()),())))=>(bif gj (x33,x34,(x35,x36,()),(x37,x38,()),x39,()) then bif decide (16384<(↑(cf (x33,x34,(x35,x36,()),(x37,x38,()),x39,())).length:Int)) then oR ((4,()),()) else oR ((0,()),()) else none)
theorem JH (a0 a1:Int)(a2:Bool)(a3:LI)(a4:Bool)(a5:LI)(a6:List fZ.den):Io.run tt CH dr pR iI Tryz.f152 (((a0,a1,(a2,a3,()),(a4,a5,()),a6,()),()),())=uw a0 a1 a2 a3 a4 a5 a6:=by kernel_rfl
theorem MC:HcOk prog 152 (ai iI y9):=by
 have hcs:HcsOk prog pB:=.cons Rj (.cons ME (.cons H3 .nil))
 refine bQ (cs:=pB) hcs (lp:=pR) (fn:=Tryz.f152) iI
  (.step (h0:=aA dh j6) (by kernel_rfl) (fR (cs:=pB) hcs (lp:=pR) (fn:=Tryz.f152) (.done (by kernel_rfl)) dh j6 ?_) (.done (by kernel_rfl))) y9 ?_
 ·rintro ⟨⟨(i:Int),⟨⟩⟩,⟨(h8:Int),(h9:Int),(h10:Bool),(h11:LI),(h12:Bool),(h13:LI),(hs:List ez),⟨⟩⟩,⟨⟩⟩ y hw hy
  obtain ⟨hg,hy⟩:=Tr.guard hy
  have hi:i=0:=of_decide_eq_true hg
  subst hi
  refine ⟨hs.length+1,(EY h8 h9 h10 h11 h12 h13 hs hw.2.1.2.2.2.2.2.2.1.1 _ 0 (by omega) (by omega)).trans ?_⟩
  rw[← hy]
  simp only[Tr.val_ite,zB,Tr.val_ret,List.drop_zero]
 ·rintro ⟨⟨⟨(a0:Int),(a1:Int),⟨(a2:Bool),(a3:LI),⟨⟩⟩,⟨(a4:Bool),(a5:LI),⟨⟩⟩,(a6:List ez),⟨⟩⟩,⟨⟩⟩,⟨⟩⟩ out hw ho
  obtain ⟨hg,ho⟩:=Tr.guard ho
  cases ho
  refine (JH a0 a1 a2 a3 a4 a5 a6).trans ?_
  have hg:gj (a0,a1,(a2,a3,()),(a4,a5,()),a6,())=true:=hg
  unfold uw j6
  show _=oR ((bh (a0,a1,(a2,a3,()),(a4,a5,()),a6,()),()),())
  simp only[Tr.run_ite,Tr.run_ret]
  have eS:tD (a0,a1,(a2,a3,()),(a4,a5,()),a6,())=if a1<0 then 72 else if fJ (a2,a3,())=true∨fJ (a4,a5,())=true then 70 else if 16<(a6.length:Int) then 9 else dn a6:=rfl
  by_cases h1:a1<0
  ·rw[if_pos h1] at eS
   rw[aa (by simpa using h1)]
   unfold bh
   rw[eS]
   rfl
  rw[if_neg h1] at eS
  rw[af (by simpa using h1)]
  by_cases h2:fJ (a2,a3,())=true
  ·rw[if_pos (.inl h2)] at eS
   rw[aa h2]
   unfold bh
   rw[eS]
   rfl
  rw[af (by simpa using h2)]
  by_cases h3:fJ (a4,a5,())=true
  ·rw[if_pos (.inr h3)] at eS
   rw[aa h3]
   unfold bh
   rw[eS]
   rfl
  rw[if_neg (show ¬(fJ (a2,a3,())=true∨fJ (a4,a5,())=true) from fun h=>h.elim h2 h3)] at eS
  rw[af (by simpa using h3)]
  by_cases h4:16<(a6.length:Int)
  ·rw[if_pos h4] at eS
   rw[aa (by simpa using h4)]
   unfold bh
   rw[eS]
   rfl
  rw[if_neg h4] at eS
  rw[af (by simpa using h4),if_pos (by simp)]
  by_cases h5:dn a6=0
  ·rw[if_pos (decide_eq_true h5)]
   rw[aa hg]
   unfold bh
   rw[if_neg (az (eS.trans h5))]
   simp only[cond_eq_ite,zB]
   split
   ·rfl
   ·rfl
  ·rw[if_neg (by simpa using h5)]
   unfold bh
   rw[eS,if_pos h5]
abbrev kN:Io:=⟨[Cn],[],[],[dL,dI],none⟩
def El (d:kN.In):Tr kN.Res:=.ite (gj d.1.1) (.ret (.ret (((ci d.1.1).1,(ci d.1.1).2,()),()))) .no
abbrev Gv:List (Nat×Hc):=[(152,ai iI y9),(153,ai jm zb),(121,ai jM wI),(24,ai lG By)]
def OT:Hd:=bB Gv
def HD:Lp:=bP []
def xl (a0 a1:Int)(a2:Bool)(a3:LI)(a4:Bool)(a5:LI)(a6:List fZ.den):Option kN.Res:=bif gj (a0,a1,(a2,a3,()),(a4,a5,()),a6,()) then bif bh (a0,a1,(a2,a3,()),(a4,a5,()),a6,()) != 0 then oR (([],bh (a0,a1,(a2,a3,()),(a4,a5,()),a6,()),()),()) else bif gj (a0,a1,(a2,a3,()),(a4,a5,()),a6,()) then bif decide ((aF (aC (↑(cf (a0,a1,(a2,a3,()),(a4,a5,()),a6,())).length:Int))).length+(cf (a0,a1,(a2,a3,()),(a4,a5,()),a6,())).length≤4294967296) then oR ((aF (aC (↑(cf (a0,a1,(a2,a3,()),(a4,a5,()),a6,())).length:Int))++cf (a0,a1,(a2,a3,()),(a4,a5,()),a6,()),0,()),()) else none else none else none
theorem Nf (a0 a1:Int)(a2:Bool)(a3:LI)(a4:Bool)(a5:LI)(a6:List fZ.den):Io.run tt OT dr HD kN Tryz.f119 (((a0,a1,(a2,a3,()),(a4,a5,()),a6,()),()),())=xl a0 a1 a2 a3 a4 a5 a6:=by kernel_rfl
theorem PC:HcOk prog 119 (ai kN El):=by
 refine bQ (cs:=Gv) (.cons MC (.cons H3 (.cons AW (.cons yw .nil)))) (lp:=HD) (fn:=Tryz.f119) kN (.done (by kernel_rfl)) El ?_
 rintro ⟨⟨⟨(a0:Int),(a1:Int),⟨(a2:Bool),(a3:LI),⟨⟩⟩,⟨(a4:Bool),(a5:LI),⟨⟩⟩,(a6:List ez),⟨⟩⟩,⟨⟩⟩,⟨⟩⟩ out hw ho
 obtain ⟨hg,ho⟩:=Tr.guard ho
 cases ho
 refine (Nf a0 a1 a2 a3 a4 a5 a6).trans ?_
 show _=oR (((ci (a0,a1,(a2,a3,()),(a4,a5,()),a6,())).1,(ci (a0,a1,(a2,a3,()),(a4,a5,()),a6,())).2,()),())
 have hg:gj (a0,a1,(a2,a3,()),(a4,a5,()),a6,())=true:=hg
 unfold xl
 generalize ((a0,a1,(a2,a3,()),(a4,a5,()),a6,()):pl)=r at *
 have hl:(cf r).length≤4294967000:=of_decide_eq_true hg
 rw[aa hg,aa hg]
 by_cases h1:bh r=0
 ·have e2:ci r=(aF (aC (cf r).length)++cf r,0):=by unfold ci;rw[if_pos h1]
  have:=np (aC (cf r).length)
  rw[e2,af (by simpa using h1),aa (by simp;omega)]
 ·have e2:ci r=([],bh r):=by unfold ci;rw[if_neg h1]
  rw[e2,aa (by simpa using h1)]
end
end Go.Proofs.YthpcdhgpplmneaaGreatDoor.Sym
namespace Go.Proofs.YthpcdhgpplmneaaGreatDoor.Sym
open Go
noncomputable section
end
end Go.Proofs.YthpcdhgpplmneaaGreatDoor.Sym
namespace Go.Proofs.YthpcdhgpplmneaaGreatDoor.Sym
open Go
open Go.IntKind (i8 i16 i32 i64 u8 u16 u32 u64)
noncomputable section
def Can:Bool→LI→Prop
 |_,[]=>False
 |f,[c]=>0≤c∧c<128∧(f=true→c≠0)
 |_,c::d::l=>128≤c∧c≤255∧Can true (d::l)
theorem Can.pos:∀{l:LI},Can true l→1≤ba l
 |[],h=>h.elim
 |[c],h=>by
  obtain ⟨h1,h2,h3⟩:=h
  have:=h3 rfl
  simp only[ba]
  omega
 |c::d::l,h=>by
  have:=Can.pos h.2.2
  rw[ba]
  omega
theorem Can.dig:∀{l:LI} (n:Nat) (f:Bool),Can f l→l.length≤n+1→fU n (ba l)++[gF n (ba l)]=l
 |[],n,f,h,hl=>h.elim
 |[c],n,f,h,hl=>by
  obtain ⟨h1,h2,h3⟩:=h
  have e:ba [c]=c:=by simp only[ba];omega
  rw[e]
  cases n with
  |zero=>rfl
  |succ n=>
   have:¬ 127<c:=by omega
   simp[fU,gF,this]
 |c::d::l,n,f,h,hl=>by
  obtain ⟨h1,h2,h3⟩:=h
  have hp:=h3.pos
  cases n with
  |zero=>simp at hl
  |succ n=>
   have ih:=Can.dig n true h3 (by simpa using hl)
   have e:ba (c::d::l)=c % 128+128*ba (d::l):=rfl
   have e1:(c % 128+128*ba (d::l)) / 128=ba (d::l):=by omega
   have e2:(c % 128+128*ba (d::l)) % 128+128=c:=by omega
   have e3:127<c % 128+128*ba (d::l):=by omega
   rw[e,fU,gF,if_pos e3,if_pos e3,e1,e2,List.cons_append,ih]
theorem vE:∀j:Nat,(1:Int)≤128 ^ j
 |0=>by simp
 |j+1=>by
  have:=vE j
  rw[Int.pow_succ]
  omega
theorem DO (most:Nat)(top:Int)(h0:0≤top)(ht:top<128):∀(l:LI) (i:Nat),(∀c∈l,0≤c∧c≤255)→i<most→(bm most top l i).2=0→
  ∃m:Nat,(bm most top l i).1=i+m∧m<l.length∧i+m<most∧Can (decide (0<i)) (l.take (m+1))∧ba (l.take (m+1))<128 ^ (most - 1 - i)*(top+1)
 |[],i,hc,hi,h=>by simp[bm] at h
 |c::l,i,hc,hi,h=>by
  have hcc:=hc c (by simp)
  simp only[bm] at h ⊢
  split at h
  ·cases h
  rename_i h1
  rw[if_neg h1]
  split at h
  ·rename_i h2
   rw[if_pos h2]
   split at h
   ·cases h
   rename_i h3
   rw[if_neg h3]
   refine ⟨0,by simp,by simp,by omega,?_,?_⟩
   ·refine ⟨hcc.1,h2,fun hf hz=>h3 ⟨hz,by simpa using hf⟩⟩
   ·have e:ba ((c::l).take (0+1))=c:=by simp only[List.take_succ_cons,List.take_zero,ba];omega
    rw[e]
    by_cases hm:i+1=most
    ·rw[show most - 1 - i=0 by omega]
     have:¬ top<c:=fun h=>h1 ⟨hm,h⟩
     simp;omega
    ·obtain ⟨j,hj⟩:∃j,most - 1 - i=j+1:=⟨most - 2 - i,by omega⟩
     rw[hj,Int.pow_succ]
     have hp:(1:Int)≤128 ^ j:=vE j
     have:(1:Int)*128*1≤128 ^ j*128*(top+1):=Int.mul_le_mul (Int.mul_le_mul_of_nonneg_right hp (by omega)) (by omega) (by omega) (Int.mul_nonneg (by omega) (by omega))
     omega
  ·rename_i h2
   rw[if_neg h2]
   have hne:i+1<most:=by
    rcases Nat.lt_or_ge (i+1) most with h | h'
    ·exact h
    ·exact absurd ⟨by omega,by omega⟩ h1
   obtain ⟨m,g1,g2,g3,g4,g5⟩:=DO most top h0 ht l (i+1) (fun c hc'=>hc c (by simp[hc'])) hne h
   refine ⟨m+1,by rw[g1];push_cast;omega,by simp;omega,by omega,?_,?_⟩
   ·obtain ⟨d,l',rfl⟩:∃d l',l=d::l':=by
     cases l with
     |nil=>simp at g2
     |cons d l'=>exact ⟨d,l',rfl⟩
    rw[List.take_succ_cons,List.take_succ_cons] at *
    refine ⟨by omega,hcc.2,?_⟩
    simpa using g4
   ·rw[List.take_succ_cons,ba]
    obtain ⟨j,hj⟩:∃j,most - 1 - i=j+1:=⟨most - 2 - i,by omega⟩
    rw[show most - 1 - (i+1)=j by omega] at g5
    rw[hj,Int.pow_succ]
    have e:(128:Int) ^ j*128*(top+1)=128*(128 ^ j*(top+1)):=by
     rw[Int.mul_comm (128 ^ j) 128,Int.mul_assoc]
    rw[e]
    omega
def pc (b:LI)(p q:Int):LI:=(b.take q.toNat).drop p.toNat
theorem jO {b:LI}{p q r:Int}(h0:0≤p)(h1:p≤q)(h2:q≤r):pc b p q++pc b q r=pc b p r:=by
 unfold pc
 obtain ⟨P,rfl⟩:=au h0
 obtain ⟨Q,rfl⟩:=au (show 0≤q by omega)
 obtain ⟨R,rfl⟩:=au (show 0≤r by omega)
 simp only[zG]
 have e:b.take Q=(b.take R).take Q:=by rw[List.take_take,Nat.min_eq_left (by omega)]
 rw[e,List.drop_take]
 have e2:(b.take R).drop Q=((b.take R).drop P).drop (Q - P):=by rw[List.drop_drop,show P+(Q - P)=Q by omega]
 rw[e2,List.take_append_drop]
theorem If {b:LI}{q n:Int}(h0:0≤q)(h1:0≤n):(b.drop q.toNat).take n.toNat=pc b q (q+n):=by
 unfold pc
 rw[List.drop_take,show (q+n).toNat - q.toNat=n.toNat by omega]
theorem MM {b:LI}{p q:Int}(h0:0≤p)(h1:p≤q)(h2:q≤b.length):((pc b p q).length:Int)=q - p:=by
 unfold pc
 simp only[List.length_drop,List.length_take]
 omega
def bf (b:LI):Prop:=∀c∈b,0≤c∧c≤255
theorem yD {most:Nat}{top:Int}(h0:0≤top)(ht:top<128)(hm:0<most)(hm':most≤10)(hB:128 ^ (most - 1)*(top+1)≤18446744073709551616){b:LI}(hb:bf b){p:Int}(h:(ab most top b p).2.2=0):
  aF (ab most top b p).1=pc b p (ab most top b p).2.1∧0≤(ab most top b p).1∧(ab most top b p).1<128 ^ (most - 1)*(top+1):=by
 obtain ⟨k1,k2,k3⟩:=mK h
 unfold ab at h k2 k3 ⊢
 by_cases hp:p<0∨(b.length:Int)<p
 ·rw[if_pos hp] at h;cases h
 rw[if_neg hp] at h k2 k3 ⊢
 by_cases hr:(bm most top (b.drop p.toNat) 0).2=0
 rotate_left
 ·rw[if_neg hr] at h;exact absurd h hr
 rw[if_pos hr] at k2 k3 ⊢
 obtain ⟨m,g1,g2,g3,g4,g5⟩:=DO most top h0 ht (b.drop p.toNat) 0 (fun c hc=>hb c (List.mem_of_mem_drop hc)) hm hr
 rw[g1] at k2 k3 ⊢
 simp only at k2 k3 ⊢
 have e1:((((0:Nat):Int)+(m:Int))+1).toNat=m+1:=by omega
 rw[e1]
 have hpos:=(wa ((b.drop p.toNat).take (m+1))).1
 rw[Nat.sub_zero] at g5
 rw[Int.emod_eq_of_lt hpos (by omega)]
 refine ⟨?_,hpos,g5⟩
 have hd:=Can.dig 10 _ g4 (by rw[List.length_take];omega)
 unfold aF
 rw[hd]
 unfold pc
 rw[List.drop_take,show (p+(((0:Nat):Int)+m)+1).toNat - p.toNat=m+1 by omega]
theorem Pd {n:Int}:bC .i32 n↔-2147483648≤n∧n≤2147483647:=by simp[bC,IntKind.min,IntKind.max,IntKind.signed,IntKind.bits]
theorem IC {u:Int}(h:0≤u):aC (al u)=u:=by
 unfold aC al
 split <;> split <;> omega
theorem kl {b:LI}(hb:bf b){p:Int}(h:(ag b p).2.2=0):aF (aC (ag b p).1)=pc b p (ag b p).2.1:=by
 obtain ⟨h1,h2,h3⟩:=yD (most:=5) (top:=15) (by decide) (by decide) (by decide) (by decide) (by decide) hb (show (ab 5 15 b p).2.2=0 from h)
 have h3:(ab 5 15 b p).1<4294967296:=h3
 have e:(ag b p).1=al (ab 5 15 b p).1:=by
  show IntKind.wrap .i32 (al (ab 5 15 b p).1)=_
  refine bN (k:=.i32) (Pd.2 ?_)
  unfold al
  split <;> omega
 rw[e,IC h2]
 exact h1
theorem FG {b:LI}(hb:bf b){p:Int}(h:(ab 10 1 b p).2.2=0):aF (aC (al (ab 10 1 b p).1))=pc b p (ab 10 1 b p).2.1:=by
 obtain ⟨h1,h2,h3⟩:=yD (most:=10) (top:=1) (by decide) (by decide) (by decide) (by decide) (by decide) hb h
 rw[IC h2]
 exact h1
theorem J9 {b:LI}{p l:Int}(hl : -1≤l)(h:(ac b p l).2.2=0):(ag b p).2.2=0∧
  ((l<0∧(ag b p).1 = -1∧ac b p l=((true,[],()),(ag b p).2.1,0)) ∨
   (0≤(ag b p).1∧(ag b p).2.1+(ag b p).1≤b.length∧ac b p l=((false,pc b (ag b p).2.1 ((ag b p).2.1+(ag b p).1),()),(ag b p).2.1+(ag b p).1,0))):=by
 unfold ac at h ⊢
 by_cases h0:(ag b p).2.2=0
 rotate_left
 ·rw[if_pos h0] at h;exact absurd h h0
 have hk:=dF h0
 rw[if_neg (az h0)] at h ⊢
 by_cases h1:(ag b p).1<l
 ·rw[if_pos h1] at h;cases h
 rw[if_neg h1] at h ⊢
 by_cases h2:(ag b p).1<0
 ·rw[if_pos h2]
  exact ⟨h0,.inl ⟨by omega,by omega,rfl⟩⟩
 rw[if_neg h2] at h ⊢
 by_cases h3:(b.length:Int) - (ag b p).2.1<(ag b p).1
 ·rw[if_pos h3] at h;cases h
 rw[if_neg h3,If (by omega) (by omega)]
 exact ⟨h0,.inr ⟨by omega,by omega,rfl⟩⟩
theorem jD {b:LI}(hb:bf b){p l:Int}(hl : -1≤l)(h:(ac b p l).2.2=0):
  bJ (ac b p l).1=pc b p (ac b p l).2.1∧fJ (ac b p l).1=false∧0≤p∧p<(ac b p l).2.1∧(ac b p l).2.1≤b.length∧(0≤l→(ac b p l).1.1=false):=by
 obtain ⟨h0,h1 | h1⟩:=J9 hl h
 ·obtain ⟨h1,h2,e⟩:=h1
  have hk:=dF h0
  have hd:=kl hb h0
  rw[e]
  refine ⟨?_,by simp[fJ],hk.1,hk.2.1,hk.2.2,fun h=>by omega⟩
  rw[h2] at hd
  exact hd
 ·obtain ⟨h1,h2,e⟩:=h1
  have hk:=dF h0
  have hd:=kl hb h0
  rw[e]
  refine ⟨?_,by simp[fJ],hk.1,by simp only;omega,by simpa using h2,fun _=>rfl⟩
  show aF (aC ((pc b (ag b p).2.1 ((ag b p).2.1+(ag b p).1)).length:Int))++pc b (ag b p).2.1 ((ag b p).2.1+(ag b p).1)=_
  rw[MM (by omega) (by omega) h2,show (ag b p).2.1+(ag b p).1 - (ag b p).2.1=(ag b p).1 by omega,hd,jO hk.1 (by omega) (by omega)]
theorem nI {b:LI}(hb:bf b):∀(n:Nat) (o:List ez) (p:Int),0≤p→p≤b.length→(aw b n o p).2.2=0→
  ∃hs:List ez,(aw b n o p).1=o++hs∧hs.length=n∧ca hs=pc b p (aw b n o p).2.1∧dn hs=0∧p≤(aw b n o p).2.1∧(aw b n o p).2.1≤b.length
 |0,o,p,h0,h1,h=>by
  refine ⟨[],by simp[aw],rfl,?_,rfl,Int.le_refl _,h1⟩
  show []=pc b p p
  unfold pc
  rw[zI (by simp;omega)]
 |n+1,o,p,h0,h1,h=>by
  rw[nJ] at h ⊢
  by_cases hH:(aZ b p).2.2=0
  rotate_left
  ·rw[if_pos hH] at h;exact absurd h hH
  rw[if_neg (az hH)] at h ⊢
  unfold aZ at hH
  by_cases a1:(ac b p 0).2.2=0
  rotate_left
  ·rw[if_pos a1] at hH;exact absurd hH a1
  rw[if_neg (az a1)] at hH
  by_cases a2:(cq (ac b p 0).1.2.1).2=false
  ·rw[if_pos a2] at hH;cases hH
  rw[if_neg a2] at hH
  have hH:(ac b (ac b p 0).2.1 (-1)).2.2=0:=hH
  have eH:aZ b p=(((ac b p 0).1.2.1,(ac b (ac b p 0).2.1 (-1)).1,()),(ac b (ac b p 0).2.1 (-1)).2.1,(ac b (ac b p 0).2.1 (-1)).2.2):=by
   unfold aZ;rw[if_neg (az a1),if_neg a2]
  rw[eH] at h ⊢
  simp only at h ⊢
  obtain ⟨k1,k2,k3,k4,k5,k6⟩:=jD hb (by decide) a1
  obtain ⟨q1,q2,q3,q4,q5,q6⟩:=jD hb (by decide) hH
  have k6:=k6 (Int.le_refl 0)
  obtain ⟨hs,g1,g2,g3,g4,g5,g6⟩:=nI hb n _ _ (show 0≤(ac b (ac b p 0).2.1 (-1)).2.1 by omega) q5 h
  refine ⟨((ac b p 0).1.2.1,(ac b (ac b p 0).2.1 (-1)).1,())::hs,by rw[g1];simp,by simp[g2],?_,?_,by omega,g6⟩
  ·have e1:ca (((ac b p 0).1.2.1,(ac b (ac b p 0).2.1 (-1)).1,())::hs)=(aF (aC (ac b p 0).1.2.1.length)++(ac b p 0).1.2.1)++bJ (ac b (ac b p 0).2.1 (-1)).1++ca hs:=by
    simp[ca,Bk]
   have e2:aF (aC (ac b p 0).1.2.1.length)++(ac b p 0).1.2.1=pc b p (ac b p 0).2.1:=by
    rw[← k1]
    unfold bJ
    rw[if_neg (by rw[k6];decide)]
   rw[e1,e2,q1,g3,jO k3 (by omega) (by omega),jO k3 (by omega) (by omega)]
  ·unfold dn
   rw[if_neg a2,if_neg (by rw[q2];decide)]
   exact g4
theorem Bj {b:LI}(hb:bf b){p:Int}(h:(av b p).2.2=0):
  aF (aC (av b p).1.length)++ca (av b p).1=pc b p (av b p).2.1∧dn (av b p).1=0∧((av b p).1.length:Int)≤16∧0≤p∧p<(av b p).2.1∧(av b p).2.1≤b.length:=by
 unfold av at h ⊢
 by_cases c5:(ag b p).2.2=0
 rotate_left
 ·rw[if_pos c5] at h;exact absurd h c5
 rw[if_neg (az c5)] at h ⊢
 by_cases c6:(ag b p).1<0
 ·rw[if_pos c6] at h;cases h
 rw[if_neg c6] at h ⊢
 by_cases c7:16<(ag b p).1
 ·rw[if_pos c7] at h;cases h
 rw[if_neg c7] at h ⊢
 have hk:=dF c5
 obtain ⟨hs,g1,g2,g3,g4,g5,g6⟩:=nI hb (ag b p).1.toNat [] (ag b p).2.1 (by omega) hk.2.2 h
 rw[List.nil_append] at g1
 have hl:(hs.length:Int)=(ag b p).1:=by omega
 rw[g1,hl,kl hb c5,g3,jO hk.1 (by omega) g5]
 exact ⟨rfl,g4,by omega,hk.1,by omega,g6⟩
theorem FK {b:LI}(hb:bf b)(h:(aQ b).2=0):cf (aQ b).1=b∧tD (aQ b).1=0:=by
 unfold aQ at h ⊢
 by_cases h0:b.length=0
 ·rw[if_pos h0] at h;cases h
 rw[if_neg h0] at h ⊢
 by_cases h1:b.getD 0 0=0
 rotate_left
 ·rw[if_pos h1] at h;cases h
 rw[if_neg (az h1)] at h ⊢
 by_cases h2:(ab 10 1 b 1).2.2=0
 rotate_left
 ·rw[if_pos h2] at h;exact absurd h h2
 rw[if_neg (az h2)] at h ⊢
 have d1:=FG hb h2
 have k1:=mK h2
 generalize al (ab 10 1 b 1).1=v1 at *
 generalize (ab 10 1 b 1).2.1=q1 at *
 by_cases c1:(ag b q1).2.2=0
 rotate_left
 ·rw[if_pos c1] at h;exact absurd h c1
 rw[if_neg (az c1)] at h ⊢
 by_cases c2:(ag b q1).1<0
 ·rw[if_pos c2] at h;cases h
 rw[if_neg c2] at h ⊢
 have d2:=kl hb c1
 have k2:=dF c1
 generalize (ag b q1).1=v2 at *
 generalize (ag b q1).2.1=q2 at *
 by_cases c3:(ac b q2 (-1)).2.2=0
 rotate_left
 ·rw[if_pos c3] at h;exact absurd h c3
 rw[if_neg (az c3)] at h ⊢
 obtain ⟨d3,b3,k3⟩:=jD hb (by decide) c3
 generalize (ac b q2 (-1)).1=B1 at *
 generalize (ac b q2 (-1)).2.1=q3 at *
 by_cases c4:(ac b q3 (-1)).2.2=0
 rotate_left
 ·rw[if_pos c4] at h;exact absurd h c4
 rw[if_neg (az c4)] at h ⊢
 obtain ⟨d4,b4,k4⟩:=jD hb (by decide) c4
 generalize (ac b q3 (-1)).1=B2 at *
 generalize (ac b q3 (-1)).2.1=q4 at *
 by_cases c5:(av b q4).2.2=0
 rotate_left
 ·rw[if_pos c5] at h;exact absurd h c5
 rw[if_neg (az c5)] at h ⊢
 obtain ⟨d5,e5,n5,k5⟩:=Bj hb c5
 generalize (av b q4).1=hs at *
 generalize (av b q4).2.1=q5 at *
 by_cases c6:q5<(b.length:Int)
 ·rw[if_pos c6] at h;cases h
 rw[if_neg c6]
 refine ⟨?_,?_⟩
 ·show 0::(aF (aC v1)++(aF (aC v2)++(bJ B1++(bJ B2++(aF (aC hs.length)++ca hs)))))=b
  rw[d1,d2,d3,d4,d5,jO (by omega) (by omega) (by omega),jO (by omega) (by omega) (by omega),jO (by omega) (by omega) (by omega),jO (by omega) (by omega) (by omega),show q5=b.length by omega]
  unfold pc
  rw[zG,List.take_length]
  obtain ⟨c,l,rfl⟩:∃c l,b=c::l:=by
   cases b with
   |nil=>exact absurd rfl h0
   |cons c l=>exact ⟨c,l,rfl⟩
  have h1:c=0:=h1
  rw[h1]
  rfl
 ·show (if v2<0 then 72 else if fJ B1=true∨fJ B2=true then 70 else if 16<(hs.length:Int) then 9 else dn hs)=0
  rw[if_neg c2,if_neg (by rw[b3,b4];simp),if_neg (by omega),e5]
theorem FI {b:LI}(hb:bf b){p:Int}(h:(an b p).2.2=0):
  0≤p∧p<(an b p).2.1∧(an b p).2.1≤b.length∧bh (an b p).1=0∧ci (an b p).1=(pc b p (an b p).2.1,0)∧gj (an b p).1=true:=by
 unfold an at h ⊢
 by_cases c1:(ag b p).2.2=0
 rotate_left
 ·rw[if_pos c1] at h;exact absurd h c1
 rw[if_neg (az c1)] at h ⊢
 by_cases c2:(ag b p).1<0
 ·rw[if_pos c2] at h;cases h
 rw[if_neg c2] at h ⊢
 by_cases c3:16384<(ag b p).1
 ·rw[if_pos c3] at h;cases h
 rw[if_neg c3] at h ⊢
 by_cases c4:(b.length:Int) - (ag b p).2.1<(ag b p).1
 ·rw[if_pos c4] at h;cases h
 rw[if_neg c4] at h ⊢
 have d1:=kl hb c1
 have k1:=dF c1
 generalize (ag b p).1=n at *
 generalize (ag b p).2.1=q at *
 rw[If (by omega) (by omega)] at h ⊢
 by_cases c5:(aQ (pc b q (q+n))).2=0
 rotate_left
 ·rw[if_pos c5] at h;exact absurd h c5
 rw[if_neg (az c5)] at h ⊢
 have hb2:bf (pc b q (q+n)):=fun c hc=>hb c (List.mem_of_mem_take (List.mem_of_mem_drop hc))
 obtain ⟨e1,e2⟩:=FK hb2 c5
 have hl:=MM (b:=b) (p:=q) (q:=q+n) (by omega) (by omega) (by omega)
 generalize (aQ (pc b q (q+n))).1=r at *
 have hbl:((cf r).length:Int)=n:=by rw[e1];omega
 have hc:bh r=0:=by
  unfold bh
  rw[if_neg (az e2),if_neg (by omega)]
 refine ⟨k1.1,by simp only;omega,by simp only;omega,hc,?_,?_⟩
 ·unfold ci
  rw[if_pos hc,hbl,d1,e1,jO k1.1 (by omega) (by omega)]
 ·unfold gj
  rw[zB]
  omega
theorem bytesOf {b:LI}(h:Ty.wf bs b):bf b:=fun c hc=>by
 have:=h.2 c hc
 exact ER.1 this
end
end Go.Proofs.YthpcdhgpplmneaaGreatDoor.Sym
namespace Go.Proofs.YthpcdhgpplmneaaGreatDoor.Sym
open Go
noncomputable section
theorem GS:∀(n:Nat) (u:Int) (f:Bool),0≤u→u<128 ^ (n+1)→(f=true→1≤u)→Can f (fU n u++[gF n u])∧ba (fU n u++[gF n u])=u∧(fU n u++[gF n u]).length≤n+1
 |0,u,f,h0,h1,hf=>by
  have h1:u<128:=h1
  refine ⟨⟨h0,h1,fun h=>by have:=hf h;show u≠0;omega⟩,?_,by simp[fU]⟩
  show u % 128+128*0=u
  omega
 |n+1,u,f,h0,h1,hf=>by
  by_cases h:127<u
  ·rw[Int.pow_succ] at h1
   obtain ⟨g1,g2,g3⟩:=GS n (u / 128) true (by omega) (Int.ediv_lt_of_lt_mul (by omega) h1) (fun _=>by omega)
   have e:fU (n+1) u++[gF (n+1) u]=(u % 128+128)::(fU n (u / 128)++[gF n (u / 128)]):=by
    rw[fU,gF,if_pos h,if_pos h,List.cons_append]
   rw[e]
   obtain ⟨d,l,hl⟩:∃d l,fU n (u / 128)++[gF n (u / 128)]=d::l:=by
    cases hx:fU n (u / 128)++[gF n (u / 128)] with
    |nil=>simp at hx
    |cons d l=>exact ⟨d,l,rfl⟩
   rw[hl] at g1 g2 g3 ⊢
   refine ⟨⟨by omega,by omega,g1⟩,?_,by simp at g3 ⊢;omega⟩
   show (u % 128+128) % 128+128*ba (d::l)=u
   rw[g2]
   omega
  ·have e:fU (n+1) u++[gF (n+1) u]=[u]:=by
    rw[fU,gF,if_neg h,if_neg h];rfl
   rw[e]
   refine ⟨⟨h0,by omega,fun h=>by have:=hf h;omega⟩,?_,by simp⟩
   show u % 128+128*0=u
   omega
theorem J4 {u:Int}(h0:0≤u)(h:u<18446744073709551616):Can false (aF u)∧ba (aF u)=u∧0<(aF u).length:=
 have g:=GS 10 u false h0 (Int.lt_of_lt_of_le h (by decide)) (fun h=>by cases h)
 ⟨g.1,g.2.1,by simp[aF]⟩
theorem sj (most:Nat)(top:Int)(ht:top<128):∀(l rest:LI) (i:Nat),Can (decide (0<i)) l→i<most→ba l<128 ^ (most - 1 - i)*(top+1)→bm most top (l++rest) i=(((i+l.length - 1:Nat):Int),0)
 |[],rest,i,hc,_,_=>hc.elim
 |[c],rest,i,hc,hi,hv=>by
  obtain ⟨h1,h2,h3⟩:=hc
  have e:ba [c]=c:=by simp only[ba];omega
  rw[e] at hv
  simp only[List.cons_append,List.nil_append,bm]
  have hn:¬(i+1=most∧top<c):=by
   rintro ⟨h4,h5⟩
   rw[show most - 1 - i=0 by omega] at hv
   simp at hv
   omega
  have hz:¬(c=0∧0<i):=fun h=>h3 (by simpa using h.2) h.1
  rw[if_neg hn,if_pos h2,if_neg hz]
  simp
 |c::d::l,rest,i,hc,hi,hv=>by
  obtain ⟨h1,h2,h3⟩:=hc
  have hp:=h3.pos
  have e:ba (c::d::l)=c % 128+128*ba (d::l):=rfl
  rw[e] at hv
  have hne:i+1<most:=by
   rcases Nat.lt_or_ge (i+1) most with h | h
   ·exact h
   ·rw[show most - 1 - i=0 by omega] at hv
    simp at hv
    omega
  obtain ⟨j,hj⟩:∃j,most - 1 - i=j+1:=⟨most - 2 - i,by omega⟩
  rw[hj,Int.pow_succ] at hv
  have e2:(128:Int) ^ j*128*(top+1)=128*(128 ^ j*(top+1)):=by rw[Int.mul_comm (128 ^ j) 128,Int.mul_assoc]
  rw[e2] at hv
  have ih:=sj most top ht (d::l) rest (i+1) (by simpa using h3) hne (by rw[show most - 1 - (i+1)=j by omega];omega)
  rw[List.cons_append,bm,if_neg (fun h=>by omega),if_neg (by omega),ih]
  simp only[zN,zD,and_true]
  congr 1
  omega
def Has (b:LI)(p:Int)(X:LI):Prop:=0≤p∧p≤b.length∧∃rest,b.drop p.toNat=X++rest
theorem Has.left {b:LI}{p:Int}{X Y:LI}(h:Has b p (X++Y)):Has b p X:=by
 obtain ⟨h0,h1,rest,h2⟩:=h
 exact ⟨h0,h1,Y++rest,by rw[h2,zK]⟩
theorem Has.len {b:LI}{p:Int}{X:LI}(h:Has b p X):p+X.length≤b.length:=by
 obtain ⟨h0,h1,rest,h2⟩:=h
 have:=congrArg List.length h2
 simp only[List.length_drop,zH] at this
 omega
theorem Has.right {b:LI}{p:Int}{X Y:LI}(h:Has b p (X++Y)):Has b (p+X.length) Y:=by
 have hl:=h.left.len
 obtain ⟨h0,h1,rest,h2⟩:=h
 refine ⟨by omega,hl,rest,?_⟩
 rw[show (p+X.length).toNat=p.toNat+X.length by omega,← List.drop_drop,h2,zK,List.drop_left]
theorem Has.take {b:LI}{p:Int}{X:LI}(h:Has b p X):(b.drop p.toNat).take X.length=X:=by
 obtain ⟨h0,h1,rest,h2⟩:=h
 rw[h2,List.take_left]
theorem NN {most:Nat}{top:Int}(ht:top<128)(hm:0<most)(hB:128 ^ (most - 1)*(top+1)≤18446744073709551616){b:LI}{p u:Int}(h0:0≤u)(hu:u<128 ^ (most - 1)*(top+1))(h:Has b p (aF u)):
  ab most top b p=(u,p+(aF u).length,0):=by
 obtain ⟨hp,hl,rest,hd⟩:=h
 obtain ⟨c1,c2,c3⟩:=J4 h0 (by omega)
 have hr:=sj most top ht (aF u) rest 0 c1 hm (by rw[c2];simpa using hu)
 have e1:((0+(aF u).length - 1:Nat):Int)=(aF u).length - 1:=by omega
 rw[e1] at hr
 unfold ab
 rw[if_neg (by omega),hd,hr,if_pos rfl]
 simp only
 rw[show ((aF u).length - 1+1:Int).toNat=(aF u).length by omega,List.take_left,c2,Int.emod_eq_of_lt h0 (by omega),show p+((aF u).length - 1)+1=p+(aF u).length by omega]
theorem Qt {v:Int}:al (aC v)=v:=by
 unfold aC al
 split <;> split <;> omega
theorem J5 {b:LI}{p v:Int}(h1 : -9223372036854775808≤v)(h2:v≤9223372036854775807)(h:Has b p (aF (aC v))):ab 10 1 b p=(aC v,p+(aF (aC v)).length,0):=by
 have hz:0≤aC v∧aC v<18446744073709551616:=by unfold aC;split <;> omega
 exact NN (most:=10) (top:=1) (by decide) (by decide) (by decide) hz.1 hz.2 h
end
end Go.Proofs.YthpcdhgpplmneaaGreatDoor.Sym
namespace Go.Proofs.YthpcdhgpplmneaaGreatDoor.Sym
open Go
open Go.IntKind (i8 i16 i32 i64 u8 u16 u32 u64)
noncomputable section
theorem ki (x k:Int):∀(n m:Nat),m≤n→aU (x+256 ^ n*k) m=aU x m
 |_,0,_=>rfl
 |n,m+1,h=>by
  rw[aU,aU,ki x k n m (by omega)]
  congr 1
  have hp:(256:Int) ^ n=256 ^ m*(256*256 ^ (n - m - 1)):=by
   rw[← Int.pow_succ',← Int.pow_add]
   congr 1;omega
  have hq:(256:Int) ^ m≠0:=Int.ne_of_gt (Int.pow_pos (by decide))
  rw[hp,Int.mul_assoc,Int.add_mul_ediv_left _ _ hq,Int.mul_assoc,Int.add_mul_emod_self_left]
theorem Lr (l:LI):∀v:Int,l.foldl (fun v c=>v*256+c) v=v*256 ^ l.length+aS l:=by
 induction l with
 |nil=>intro v;simp[aS]
 |cons c l ih=>
  intro v
  unfold aS
  rw[List.foldl_cons,List.foldl_cons,ih,ih (0*256+c),zN,Int.pow_succ,Int.add_mul,Int.zero_mul,Int.zero_add,Int.mul_assoc,Int.mul_comm 256]
  omega
theorem p4:∀{l:LI},byteR l→aU (aS l) l.length=l
 |[],_=>rfl
 |c::l,h=>by
  have hc:=h c (by simp)
  have hl:byteR l:=fun d hd=>h d (by simp[hd])
  have hb:=sg l fun d hd=>⟨(hl d hd).1,by have:=(hl d hd).2;omega⟩
  have e:aS (c::l)=aS l+256 ^ l.length*c:=by
   have:=Lr l (0*256+c)
   unfold aS
   rw[List.foldl_cons,this,Int.zero_mul,Int.zero_add,Int.mul_comm]
   unfold aS;omega
  have hq:(0:Int)<256 ^ l.length:=Int.pow_pos (by decide)
  rw[zN,aU,e,ki _ _ _ _ (Nat.le_refl _),p4 hl,Int.add_mul_ediv_left _ _ (Int.ne_of_gt hq),Int.ediv_eq_zero_of_lt hb.1 hb.2]
  congr 1
  omega
theorem RK {l:LI}(h:byteR l)(hl:l.length=2):aU (i16.wrap (aS l)) 2=l:=by
 have key:∃t,i16.wrap (aS l)=aS l+256 ^ 2*t:=⟨(i16.wrap (aS l) - aS l) / 65536,by simp[IntKind.wrap,IntKind.min,IntKind.max,IntKind.signed,IntKind.bits];omega⟩
 obtain ⟨t,e⟩:=key
 rw[e,ki _ _ _ _ (Nat.le_refl _)]
 have:=p4 h;rw[hl] at this;exact this
theorem RL {l:LI}(h:byteR l)(hl:l.length=4):aU (i32.wrap (aS l)) 4=l:=by
 have key:∃t,i32.wrap (aS l)=aS l+256 ^ 4*t:=⟨(i32.wrap (aS l) - aS l) / 4294967296,by simp[IntKind.wrap,IntKind.min,IntKind.max,IntKind.signed,IntKind.bits];omega⟩
 obtain ⟨t,e⟩:=key
 rw[e,ki _ _ _ _ (Nat.le_refl _)]
 have:=p4 h;rw[hl] at this;exact this
theorem RM {l:LI}(h:byteR l)(hl:l.length=8):aU (i64.wrap (aS l)) 8=l:=by
 have key:∃t,i64.wrap (aS l)=aS l+256 ^ 8*t:=⟨(i64.wrap (aS l) - aS l) / 18446744073709551616,by simp[IntKind.wrap,IntKind.min,IntKind.max,IntKind.signed,IntKind.bits];omega⟩
 obtain ⟨t,e⟩:=key
 rw[e,ki _ _ _ _ (Nat.le_refl _)]
 have:=p4 h;rw[hl] at this;exact this
theorem PP (b:LI)(p:Int):pc b p p=[]:=by
 unfold pc
 exact List.drop_eq_nil_of_le (by rw[List.length_take];omega)
theorem vF {blk:LI}(hb:bf blk)(f:Int):∀(n i:Nat) (p:Int) (out:List bq),(aD blk f n i p out).2.2=0→0≤p→p≤blk.length→
  ∃rs:List bq,(aD blk f n i p out).1=out++rs∧rs.length=n∧p≤(aD blk f n i p out).2.1∧(aD blk f n i p out).2.1≤blk.length∧
   (∀acc,bn f rs i acc=(acc++pc blk p (aD blk f n i p out).2.1,0))∧cp f rs i=true∧(i=0→0<n→aK rs=f)∧∀r∈rs,bC .i64 r.1
 |0,i,p,out,h,h0,h1=>⟨[],(List.append_nil out).symm,rfl,Int.le_refl p,h1,fun acc=>by
   show (acc,(0:Int))=(acc++pc blk p p,0)
   rw[PP,List.append_nil],rfl,fun _ h=>by omega,fun r h=>by cases h⟩
 |n+1,i,p,out,h,h0,h1=>by
  have e:aD blk f (n+1) i p out=if (an blk p).2.2≠0 then ([],0,(an blk p).2.2) else if (an blk p).1.2.1≠(i:Int) then ([],0,72) else if i=0∧(an blk p).1.1≠0∨aP (f+(an blk p).1.1)=false then ([],0,86)
    else aD blk f n (i+1) (an blk p).2.1 (out++[(f+(an blk p).1.1,(an blk p).1.2.2.1,(an blk p).1.2.2.2.1,(an blk p).1.2.2.2.2.1,())]):=rfl
  rw[e] at h ⊢
  by_cases c1:(an blk p).2.2=0
  rotate_left
  ·rw[if_pos c1] at h;exact absurd h c1
  rw[if_neg (az c1)] at h ⊢
  by_cases c2:(an blk p).1.2.1=(i:Int)
  rotate_left
  ·rw[if_pos c2] at h;cases h
  rw[if_neg (az c2)] at h ⊢
  by_cases c3:i=0∧(an blk p).1.1≠0∨aP (f+(an blk p).1.1)=false
  ·rw[if_pos c3] at h;cases h
  rw[if_neg c3] at h ⊢
  obtain ⟨k1,k2,k3,k4,k5,k6⟩:=FI hb c1
  obtain ⟨b1,b2⟩:=DP blk p
  obtain ⟨rs,r1,r2,r3,r4,r5,r6,r7,r8⟩:=vF hb f n (i+1) _ _ h (by omega) k3
  generalize an blk p=x at *
  obtain ⟨⟨d,o,K,V,hs,⟨⟩⟩,q,er⟩:=x
  simp only at k1 k2 k3 k4 k5 k6 b1 b2 r1 r3 r4 r5 c2 c3 h ⊢
  subst c2
  generalize aD blk f n (i+1) q (out++[(f+d,K,V,hs,())])=y at *
  have eR:cD f i (f+d,K,V,hs,())=(d,(i:Int),K,V,hs,()):=by
   unfold cD
   simp only
   rw[show f+d - f=d by omega]
  refine ⟨(f+d,K,V,hs,())::rs,by rw[r1];simp,by simp[r2],by omega,r4,fun acc=>?_,?_,fun hi _=>?_,fun r hr=>?_⟩
  ·have e2:bn f ((f+d,K,V,hs,())::rs) i acc=if aP (f+d - f)=false then ([],86) else if bh (cD f i (f+d,K,V,hs,()))≠0 then ([],bh (cD f i (f+d,K,V,hs,()))) else bn f rs (i+1) (acc++(ci (cD f i (f+d,K,V,hs,()))).1):=rfl
   rw[e2,eR,show f+d - f=d by omega,if_neg (by rw[fv.2 (jJ b1)];decide),if_neg (az k4),k5,r5]
   simp only
   rw[zK,jO k1 (by omega) r3]
  ·show (gj (cD f i (f+d,K,V,hs,()))&&cp f rs (i+1))=true
   rw[eR,k6,r6];rfl
  ·show f+d=f
   have:d=0:=Classical.byContradiction fun hd=>c3 (.inl ⟨hi,hd⟩)
   omega
  ·rcases List.mem_cons.1 hr with rfl | hr
   ·have hft:aP (f+d)=true:=by
     cases hh:aP (f+d) with
     |true=>rfl
     |false=>exact absurd (.inr hh) c3
    have:=fv.1 hft
    show bC .i64 (f+d)
    simp[bC,IntKind.min,IntKind.max,IntKind.signed,IntKind.bits];omega
   ·exact r8 r hr
theorem uF {b:LI}(h:bf b)(i:Nat):0≤b.getD i 0∧b.getD i 0≤255:=by
 rw[List.getD_eq_getElem?_getD]
 cases e:b[i]? with
 |none=>exact ⟨by decide,by decide⟩
 |some x=>exact h x (List.mem_of_getElem? e)
theorem xG {a b:LI}(ha:bf a)(hb:bf b):bf (a++b):=fun c hc=>by
 rcases List.mem_append.1 hc with h | h
 ·exact ha c h
 ·exact hb c h
theorem du:bf []:=fun c h=>by cases h
theorem p8 (d:Nat):∀(n:Nat) (out:LI),bf out→bf (cg d n out)
 |0,_,h=>h
 |n+1,out,h=>p8 d n _ (xG h fun c hc=>by
   have:=uF h (out.length - d)
   simp only[List.mem_singleton] at hc
   rw[hc];exact this)
theorem DM {b:LI}(hb:bf b):bf (aM b).1.1:=by
 unfold aM
 split
 ·split
  ·exact du
  ·exact fun c hc=>hb c (List.mem_of_mem_drop (List.mem_of_mem_take hc))
 ·split
  ·exact du
  ·split <;> exact du
theorem qa:∀(k:Nat) (b out:LI) (m:Int),bf b→bf out→bf (bk k b out m).1
 |0,_,_,_,_,h=>h
 |k+1,b,out,m,hb,h=>by
  unfold bk
  split
  ·exact h
  split
  ·exact du
  split
  ·exact du
  rename_i h3
  refine qa k _ _ _ (fun c hc=>hb c (List.mem_of_mem_drop hc)) ?_
  unfold aX at h3 ⊢
  split
  ·exact du
  split
  ·exact du
  exact p8 _ _ _ (xG h (DM hb))
theorem v8 {b:LI}(hb:bf b):bf (aY b).1:=by
 unfold aY
 repeat' split
 all_goals first | exact du | skip
 rw[dE]
 exact qa _ _ _ _ (fun c hc=>hb c (List.mem_of_mem_drop hc)) du
theorem wB {b:LI}(hb:bf b)(pk:Bool):bf (aN b pk).1:=by
 unfold aN
 split
 ·exact v8 fun c hc=>hb c (List.mem_of_mem_drop hc)
 split
 ·exact du
 exact fun c hc=>hb c (List.mem_of_mem_drop hc)
theorem FF (b:LI)(pk:Bool):(aN b pk).1.length≤32768:=by
 unfold aN
 split
 ·exact sn _
 split
 ·simp
 simp only
 omega
structure DecOk (b blk:LI) (rs:List bq):Prop where
 head:bc b true=0
 body:aN b (decide (b.getD 22 0=1))=(blk,0)
 rows:ey rs=(blk,0)
 len:(rs.length:Int)=ar b 57 4
 first:aK rs=ar b 27 8
 last:ch rs=ar b 35 8
 room:cp (aK rs) rs 0=true
 times:∀r∈rs,bC .i64 r.1
theorem IP {b:LI}(hb:bf b){rs:List bq}(h:fa b=(rs,0)):∃blk,DecOk b blk rs:=by
 unfold fa at h
 by_cases c1:bc b true=0
 rotate_left
 ·rw[if_pos c1] at h;exact absurd (congrArg Prod.snd h) c1
 rw[if_neg (az c1)] at h
 by_cases c2:(aN b (decide (b.getD 22 0=1))).2=0
 rotate_left
 ·rw[if_pos c2] at h;exact absurd (congrArg Prod.snd h) c2
 rw[if_neg (az c2)] at h
 have hby:=wB hb (decide (b.getD 22 0=1))
 have hle:=FF b (decide (b.getD 22 0=1))
 have hbk:aN b (decide (b.getD 22 0=1))=((aN b (decide (b.getD 22 0=1))).1,0):=Prod.ext rfl c2
 generalize (aN b (decide (b.getD 22 0=1))).1=blk at *
 obtain ⟨k1,_,_,_,_,_,_,_,_,k2,k3,_⟩:=gV c1
 unfold cK at h
 by_cases c3:(aD blk (ar b 27 8) (ar b 57 4).toNat 0 0 []).2.2=0
 rotate_left
 ·rw[if_pos c3] at h;exact absurd (congrArg Prod.snd h) c3
 rw[if_neg (az c3)] at h
 obtain ⟨rs',r1,r2,r3,r4,r5,r6,r7,r8⟩:=vF hby (ar b 27 8) _ 0 0 [] c3 (Int.le_refl 0) (by omega)
 rw[List.nil_append] at r1
 rw[r1] at h
 by_cases c4:(aD blk (ar b 27 8) (ar b 57 4).toNat 0 0 []).2.1<(blk.length:Int)
 ·rw[if_pos c4] at h;cases congrArg Prod.snd h
 rw[if_neg c4] at h
 have hq:(aD blk (ar b 27 8) (ar b 57 4).toNat 0 0 []).2.1=(blk.length:Int):=by omega
 rw[hq] at r5
 by_cases c5:ch rs'=ar b 35 8
 rotate_left
 ·rw[if_pos c5] at h;cases congrArg Prod.snd h
 rw[if_neg (az c5)] at h
 obtain rfl:rs'=rs:=congrArg Prod.fst h
 have hF:=r7 rfl (by omega)
 have hp:pc blk 0 (blk.length:Int)=blk:=by
  unfold pc
  rw[zG,List.take_length];rfl
 have h5:=r5 []
 rw[hp,List.nil_append] at h5
 refine ⟨blk,c1,hbk,?_,by omega,hF,c5,by rw[hF];exact r6,r8⟩
 unfold ey
 rw[hF,h5,if_neg (az rfl),if_neg (by simp only;omega)]
theorem uE {b:LI}(h:bf b):byteR b:=fun c hc=>⟨(h c hc).1,by have:=(h c hc).2;omega⟩
theorem sX {b:LI}(h:bf b){p:Nat}(hp:p+8≤b.length):aU (ar b p 8) 8=(b.drop p).take 8:=by
 unfold ar
 have h1:=dy h p 8
 rw[← Bd h1 (cE hp)]
 exact RM (uE h1) (cE hp)
theorem pr {b:LI}(h:bf b){p:Nat}(hp:p+4≤b.length):aU (ar b p 4) 4=(b.drop p).take 4:=by
 unfold ar
 have h1:=dy h p 4
 rw[← nm h1 (cE hp)]
 exact RL (uE h1) (cE hp)
theorem Ot {b:LI}(h:bf b){p:Nat}(hp:p+2≤b.length):aU (ar b p 2) 2=(b.drop p).take 2:=by
 unfold ar
 have h1:=dy h p 2
 rw[← tz h1 (cE hp)]
 exact RK (uE h1) (cE hp)
theorem qM (b:LI)(p n:Nat):(b.drop p).take n++b.drop (p+n)=b.drop p:=by
 rw[← List.drop_drop,List.take_append_drop]
structure BatR (x:cM):Prop where
 w1:bC .i64 x.1
 w2:bC .i32 x.2.1
 w3:bC .i64 x.2.2.1
 w4:bC .i16 x.2.2.2.1
 w5:bC .i32 x.2.2.2.2.1
 w6:∀r∈x.2.2.2.2.2.1,bC .i64 r.1
theorem BatR.of {x:cM}(hx:Ty.wf mS x):BatR x:=⟨hx.1,hx.2.1,hx.2.2.1,hx.2.2.2.1,hx.2.2.2.2.1,fun r hr=>(hx.2.2.2.2.2.1.2 r hr).1⟩
theorem It {b:LI}(h:bf b){p:Nat}(hp:p+8≤b.length):bC .i64 (ar b p 8):=by
 unfold ar
 rw[← Bd (dy h p 8) (cE hp)]
 exact bO _ _
theorem Is {b:LI}(h:bf b){p:Nat}(hp:p+4≤b.length):bC .i32 (ar b p 4):=by
 unfold ar
 rw[← nm (dy h p 4) (cE hp)]
 exact bO _ _
theorem Ql {b:LI}(h:bf b){p:Nat}(hp:p+2≤b.length):bC .i16 (ar b p 2):=by
 unfold ar
 rw[← tz (dy h p 2) (cE hp)]
 exact bO _ _
theorem EL {b:LI}(hb:bf b){x:cM}(h:ap b=(x,0)):∃blk,DecOk b blk x.2.2.2.2.2.1∧dq x=0∧rz x (b.getD 22 0) (b.drop 61)=b∧BatR x:=by
 unfold ap at h
 by_cases c1:(fa b).2=0
 rotate_left
 ·rw[if_pos c1] at h;exact absurd (congrArg Prod.snd h) c1
 rw[if_neg (az c1)] at h
 have hE:fa b=((fa b).1,0):=by rw[← c1]
 generalize (fa b).1=rs at *
 obtain rfl:=congrArg Prod.fst h
 obtain ⟨blk,D⟩:=IP hb hE
 refine ⟨blk,D,?_,?_,?_⟩
 ·obtain ⟨k1,_,_,_,_,k5,_,_,k8,k9,k10,_⟩:=gV D.head
  have hl:=D.len
  have e:dq (ar b 0 8,ar b 12 4,ar b 43 8,ar b 51 2,ar b 53 4,rs,())=if bg (ar b 0 8)=true then 80 else if aW (ar b 43 8) (ar b 51 2) (ar b 53 4)=true then 84 else if rs=[] then 85 else if 256<(rs.length:Int) then 9 else (ey rs).2:=rfl
  rw[e,if_neg (by rw[k5];decide),if_neg (by rw[k8];decide),if_neg (fun h=>by rw[h] at hl;simp at hl;omega),if_neg (by omega),D.rows]
 ·obtain ⟨k1,k2,k3,k4,k4',k5,k6,k7,k8,k9,k10,k11⟩:=gV D.head
  have hl:(rs.length:Int)=ar b 57 4:=D.len
  have hF:aK rs=ar b 27 8:=D.first
  have hL:ch rs=ar b 35 8:=D.last
  have hS:eU b=true:=by
   cases h:eU b with
   |true=>rfl
   |false=>exact absurd ⟨rfl,h⟩ k4'
  have hS:(b.drop 17).take 4=aU (cC 0 (b.drop 21)) 4:=by
   unfold eU at hS
   split at hS
   ·assumption
   ·cases hS
  have hM:ar b 8 4=49+((b.drop 61).length:Int):=by
   unfold aj at k2 k3
   split at k2
   ·cases k2
   rename_i m1
   rw[if_neg m1] at k3
   split at k2
   ·cases k2
   rename_i m2
   rw[if_neg m2] at k3
   split at k2
   ·cases k2
   rename_i m3
   rw[if_neg m3] at k3
   split at k2
   ·cases k2
   rename_i m4
   rw[if_neg m4] at k3
   split at k2
   ·cases k2
   rename_i m5
   rw[if_neg m5] at k3
   have k3:ar b 8 4+12=(b.length:Int):=k3
   rw[List.length_drop]
   omega
  have e22:=uF hb 22
  have h21:aU (b.getD 22 0) 2=(b.drop 21).take 2:=by
   rw[QL (by omega),k6]
   rcases (by omega:b.getD 22 0=0∨b.getD 22 0=1) with h | h <;> rw[h] <;> rfl
  have t57:aU (rs.length:Int) 4++b.drop 61=b.drop 57:=by rw[hl,pr hb (by omega),qM b 57 4]
  have t53:aU (ar b 53 4) 4++b.drop 57=b.drop 53:=by rw[pr hb (by omega),qM b 53 4]
  have t51:aU (ar b 51 2) 2++b.drop 53=b.drop 51:=by rw[Ot hb (by omega),qM b 51 2]
  have t43:aU (ar b 43 8) 8++b.drop 51=b.drop 43:=by rw[sX hb (by omega),qM b 43 8]
  have t35:aU (ch rs) 8++b.drop 43=b.drop 35:=by rw[hL,sX hb (by omega),qM b 35 8]
  have t27:aU (aK rs) 8++b.drop 35=b.drop 27:=by rw[hF,sX hb (by omega),qM b 27 8]
  have t23:aU ((rs.length:Int) - 1) 4++b.drop 27=b.drop 23:=by rw[hl,← k11,pr hb (by omega),qM b 23 4]
  have t21:aU (b.getD 22 0) 2++b.drop 23=b.drop 21:=by rw[h21,qM b 21 2]
  have t17:aU (cC 0 (b.drop 21)) 4++b.drop 21=b.drop 17:=by rw[← hS,qM b 17 4]
  have t16:[2]++b.drop 17=b.drop 16:=by rw[← k4,← N8 (by omega),qM b 16 1]
  have t12:aU (ar b 12 4) 4++b.drop 16=b.drop 12:=by rw[pr hb (by omega),qM b 12 4]
  have t8:aU (49+((b.drop 61).length:Int)) 4++b.drop 12=b.drop 8:=by rw[← hM,pr hb (by omega),qM b 8 4]
  have t0:aU (ar b 0 8) 8++b.drop 8=b:=by
   have:=sX hb (p:=0) (by omega)
   rw[this];exact qM b 0 8
  have hT:en (ar b 0 8,ar b 12 4,ar b 43 8,ar b 51 2,ar b 53 4,rs,()) (b.getD 22 0) (b.drop 61)=b.drop 21:=by
   show aU (b.getD 22 0) 2++(aU ((rs.length:Int) - 1) 4++(aU (aK rs) 8++(aU (ch rs) 8++(aU (ar b 43 8) 8++(aU (ar b 51 2) 2++(aU (ar b 53 4) 4++(aU (rs.length:Int) 4++b.drop 61)))))))=_
   rw[t57,t53,t51,t43,t35,t27,t23,t21]
  show aU (ar b 0 8) 8++(aU (49+((b.drop 61).length:Int)) 4++(aU (ar b 12 4) 4++([2]++(aU (cC 0 (en (ar b 0 8,ar b 12 4,ar b 43 8,ar b 51 2,ar b 53 4,rs,()) (b.getD 22 0) (b.drop 61))) 4++en (ar b 0 8,ar b 12 4,ar b 43 8,ar b 51 2,ar b 53 4,rs,()) (b.getD 22 0) (b.drop 61)))))=b
  rw[hT,t17,t16,t12,t8,t0]
 ·obtain ⟨k1,_⟩:=gV D.head
  exact ⟨It hb (by omega),Is hb (by omega),It hb (by omega),Ql hb (by omega),Is hb (by omega),D.times⟩
theorem qI {x:cM}(h:dq x=0):bg x.1=false∧aW x.2.2.1 x.2.2.2.1 x.2.2.2.2.1=false∧1≤x.2.2.2.2.2.1.length∧x.2.2.2.2.2.1.length≤256∧(ey x.2.2.2.2.2.1).2=0:=by
 unfold dq at h
 split at h
 ·cases h
 rename_i h1
 split at h
 ·cases h
 rename_i h2
 split at h
 ·cases h
 rename_i h3
 split at h
 ·cases h
 rename_i h4
 exact ⟨by simpa using h1,by simpa using h2,List.length_pos_iff.2 h3,by omega,h⟩
theorem KJ {rs:List bq}(h:(ey rs).2=0):(bn (aK rs) rs 0 []).2=0∧(ey rs).1=(bn (aK rs) rs 0 []).1∧(ey rs).1.length≤32768:=by
 unfold ey at h ⊢
 by_cases c1:(bn (aK rs) rs 0 []).2=0
 rotate_left
 ·rw[if_pos c1] at h;exact absurd h c1
 rw[if_neg (az c1)] at h ⊢
 by_cases c2:32768<((bn (aK rs) rs 0 []).1.length:Int)
 ·rw[if_pos c2] at h;cases h
 rw[if_neg c2] at h ⊢
 exact ⟨c1,rfl,by simp only;omega⟩
theorem KG (x:cM)(a:Int)(raw:LI):(rz x a raw).length=61+raw.length:=by
 unfold rz en
 simp only[zH,vR,List.length_singleton]
 omega
abbrev bX:Ty:=.prod (.int .i64) (.prod (.int .i64) (.prod (.int .i64) (.prod (.int .i64) (.prod (.int .i64) (.prod (.int .i64) (.prod (.int .i16) (.prod (.int .i32) .unit)))))))
abbrev bp:Type:=Int×Int×Int×Int×Int×Int×Int×Int×Unit
abbrev N6:Ty:=.sl 46 bX
abbrev St:Ty:=.prod N6 (.prod (.int .i64) (.prod (.int .i64) (.prod (.int .i64) .unit)))
abbrev RY:Type:=List bp×Int×Int×Int×Unit
abbrev Sc:Sh:=.dat bX true false
abbrev Sd:Sh:=.dat N6 false false
abbrev QN:Sh:=.dat N6 false true
abbrev Lb:Sh:=.dat St true false
abbrev GQ:Sh:=.dat (.sl 77 mS) false false
def Qj (x:cM)(p n:Int):bp:=(x.1,(x.2.2.2.2.2.1.length:Int),p,n,ch x.2.2.2.2.2.1,x.2.2.1,x.2.2.2.1,x.2.2.2.2.1,())
def fh (b:LI):Nat→Int→Int→List (bp×cM)×Int×Int×Int
 |0,p,q=>([],p,q,0)
 |k+1,p,q=>
  if (b.length:Int)≤p then ([],p,q,0)
  else if (aj b p).2≠0 then ([],p,q,(aj b p).2)
  else if (ap ((b.drop p.toNat).take (aj b p).1.toNat)).2≠0 then ([],p,q,(ap ((b.drop p.toNat).take (aj b p).1.toNat)).2)
  else if (ap ((b.drop p.toNat).take (aj b p).1.toNat)).1.1≠q then ([],p,q,190)
  else ((Qj (ap ((b.drop p.toNat).take (aj b p).1.toNat)).1 p (aj b p).1,(ap ((b.drop p.toNat).take (aj b p).1.toNat)).1) ::
    (fh b k (p+(aj b p).1) (q+((ap ((b.drop p.toNat).take (aj b p).1.toNat)).1.2.2.2.2.2.1.length:Int))).1,
   (fh b k (p+(aj b p).1) (q+((ap ((b.drop p.toNat).take (aj b p).1.toNat)).1.2.2.2.2.2.1.length:Int))).2)
def ax (b:LI)(base:Int):List (bp×cM)×Int×Int×Int:=fh b (b.length+1) 0 base
def aO (b:LI)(base:Int):RY:=((ax b base).1.map (·.1),(ax b base).2.1,(ax b base).2.2.1,(ax b base).2.2.2,())
def bM (time base:Int):List bq→Nat→Int×Int×Bool→Int×Int×Bool
 |[],_,f=>f
 |r::rs,i,f=>bM time base rs (i+1) (if f.2.2=false∧time≤r.1 then (base+i,r.1,true) else f)
def bL (time:Int)(xs:List (bp×cM))(f:Int×Int×Bool):Int×Int×Bool:=xs.foldl (fun f x=>bM time x.2.1 x.2.2.2.2.2.2.1 0 f) f
def rB (b:LI)(base time:Int):Int×Int×Bool:=bL time (ax b base).1 (0,0,false)
def aL (from_:Int)(es:List bp):Nat:=(es.takeWhile fun e=>decide (e.1≤from_)).length
def cJ (at_ most:Int):List bp→Int→Int
 |[],e=>e
 |x::xs,e=>if most<x.2.2.1+x.2.2.2.1 - at_ then e else cJ at_ most xs (x.2.2.1+x.2.2.2.1)
def fN:List bp→Bool
 |[]=>true
 |x::xs=>(match xs with
  |[]=>true
  |y::_=>decide (x.1≤y.1))&&fN xs
def p5 (x:cM):Bool:=decide (0≤x.1)&&(decide (x.1≤4611686018427387648)&&decide (x.2.2.2.2.2.1.length≤256))
def eV:bp:=(0,0,0,0,0,0,0,0,())
def cj (b:LI)(base from_ most:Int):LI×Int:=
 if from_<base∨(ax b base).2.2.1<from_ then ([],221)
 else if from_=(ax b base).2.2.1 then ([],0)
 else
  (let es:=(ax b base).1.map (·.1)
   let f:=es.getD (aL from_ es - 1) eV
   ((b.take (cJ f.2.2.1 most (es.drop (aL from_ es)) (f.2.2.1+f.2.2.2.1)).toNat).drop f.2.2.1.toNat,0))
def p9 (es:List bp):Bool:=es.all fun e=>decide (0≤e.2.2.1)&&(decide (e.2.2.1≤4294960000)&&(decide (0≤e.2.2.2.1)&&decide (e.2.2.2.1≤4294960000)))
def Tiles (len:Int):List bp→Int→Int→Int→Int→Prop
 |[],p,q,p',q'=>p=p'∧q=q'
 |e::es,p,q,p',q'=>(e.1=q∧e.2.2.1=p∧61≤e.2.2.2.1∧e.2.2.2.1≤36000∧p+e.2.2.2.1≤len∧1≤e.2.1∧e.2.1≤256∧0≤q∧q≤4611686018427387648)∧Tiles len es (p+e.2.2.2.1) (q+e.2.1) p' q'
theorem mY {b:LI}(hb:bf b)(p n:Nat):bf ((b.drop p).take n):=fun c hc=>hb c (List.mem_of_mem_drop (List.mem_of_mem_take hc))
theorem kr {p:LI}(hp:bf p)(h:(ap p).2=0):0≤(ap p).1.1∧(ap p).1.1≤4611686018427387648∧1≤(ap p).1.2.2.2.2.2.1.length∧(ap p).1.2.2.2.2.2.1.length≤256:=by
 have hx:ap p=((ap p).1,0):=Prod.ext rfl h
 obtain ⟨blk,D,h1,h2,hR⟩:=EL hp hx
 obtain ⟨g1,g2,g3,g4,g5⟩:=qI h1
 unfold bg at g1
 simp only[Bool.or_eq_false_iff,decide_eq_false_iff_not] at g1
 exact ⟨by omega,by omega,g3,g4⟩
theorem wl {b:LI}(hb:bf b):∀(k:Nat) (p q:Int),0≤p→p≤b.length→Tiles b.length ((fh b k p q).1.map (·.1)) p q (fh b k p q).2.1 (fh b k p q).2.2.1∧p≤(fh b k p q).2.1∧(fh b k p q).2.1≤b.length
 |0,p,q,h0,h1=>⟨⟨rfl,rfl⟩,Int.le_refl p,h1⟩
 |k+1,p,q,h0,h1=>by
  unfold fh
  split
  ·exact ⟨⟨rfl,rfl⟩,Int.le_refl p,h1⟩
  split
  ·exact ⟨⟨rfl,rfl⟩,Int.le_refl p,h1⟩
  rename_i c2
  split
  ·exact ⟨⟨rfl,rfl⟩,Int.le_refl p,h1⟩
  rename_i c3
  split
  ·exact ⟨⟨rfl,rfl⟩,Int.le_refl p,h1⟩
  rename_i c4
  have c2:(aj b p).2=0:=Classical.byContradiction c2
  have c3:=Classical.byContradiction c3
  have c4:=Classical.byContradiction c4
  have hm:=hY c2
  have hx:=kr (mY hb p.toNat (aj b p).1.toNat) c3
  obtain ⟨g1,g2,g3⟩:=wl hb k (p+(aj b p).1) (q+((ap ((b.drop p.toNat).take (aj b p).1.toNat)).1.2.2.2.2.2.1.length:Int)) (by omega) (by omega)
  rw[c4] at hx
  refine ⟨⟨⟨c4,rfl,hm.1,hm.2.1,hm.2.2.1,?_,?_,hx.1,hx.2.1⟩,g1⟩,Int.le_trans (b:=p+(aj b p).1) (by omega) g2,g3⟩
  ·show (1:Int)≤((ap ((b.drop p.toNat).take (aj b p).1.toNat)).1.2.2.2.2.2.1.length:Int);omega
  ·show ((ap ((b.drop p.toNat).take (aj b p).1.toNat)).1.2.2.2.2.2.1.length:Int)≤256;omega
theorem wm {b:LI}(hb:bf b)(base:Int):Tiles b.length ((ax b base).1.map (·.1)) 0 base (ax b base).2.1 (ax b base).2.2.1∧0≤(ax b base).2.1∧(ax b base).2.1≤b.length:=wl hb _ 0 base (Int.le_refl 0) (by omega)
theorem Tiles.ok {len:Int}(hl:len≤4294950000):∀{es:List bp} {p q p' q':Int},0≤p→Tiles len es p q p' q'→p9 es=true∧fN es=true∧q≤q'∧p≤p'∧(∀e∈es,q≤e.1∧e.1+e.2.1≤q'∧p≤e.2.2.1∧e.2.2.1+e.2.2.2.1≤len∧61≤e.2.2.2.1∧e.2.2.1+e.2.2.2.1≤p')∧(es=[]→q=q')
 |[],p,q,p',q',_,h=>⟨rfl,rfl,by rw[h.2];exact Int.le_refl _,by rw[h.1];exact Int.le_refl _,fun e he=>(by cases he),fun _=>h.2⟩
 |e::es,p,q,p',q',h0,⟨⟨e1,e2,e3,e4,e5,e6,e7,e8,e9⟩,h⟩=>by
  obtain ⟨g1,g2,g3,g4,g5,g6⟩:=Tiles.ok hl (by omega) h
  refine ⟨?_,?_,by omega,by omega,fun x hx=>?_,fun h=>by cases h⟩
  ·unfold p9
   rw[List.all_cons,zA]
   refine ⟨?_,g1⟩
   simp only[zA,zB]
   omega
  ·unfold fN
   rw[zA]
   refine ⟨?_,g2⟩
   cases es with
   |nil=>rfl
   |cons y ys=>
    have:=(g5 y (by simp)).1
    exact decide_eq_true (by omega)
  ·rcases List.mem_cons.1 hx with rfl | hx
   ·omega
   ·have:=g5 x hx;omega
theorem Tiles.len {len:Int}:∀{es:List bp} {p q p' q':Int},p≤len→Tiles len es p q p' q'→61*(es.length:Int)≤len - p
 |[],p,q,p',q',h,_=>by simp;omega
 |e::es,p,q,p',q',h,⟨⟨e1,e2,e3,e4,e5,e6,e7,e8,e9⟩,ht⟩=>by
  have:=Tiles.len (by omega) ht
  rw[zN]
  push_cast
  omega
theorem Bh:∀{es:List bp},fN es=true→∀(i j:Nat) (hi:i≤j) (hj:j<es.length),(es[i]'(by omega)).1≤(es[j]).1
 |[],_,i,j,_,hj=>by simp at hj
 |x::xs,h,i,j,hi,hj=>by
  unfold fN at h
  rw[zA] at h
  cases j with
  |zero=>
   have:i=0:=by omega
   subst this;exact Int.le_refl _
  |succ j=>
   cases i with
   |succ i=>exact Bh h.2 i j (by omega) (by simpa using hj)
   |zero=>
    cases xs with
    |nil=>simp at hj
    |cons y ys=>
     have h1:x.1≤y.1:=of_decide_eq_true h.1
     have h2:=Bh h.2 0 j (Nat.zero_le _) (by simpa using hj)
     exact Int.le_trans h1 h2
theorem tF (f:Int):∀es:List bp,aL f es≤es.length
 |[]=>Nat.le_refl 0
 |x::xs=>by
  have:=tF f xs
  unfold aL at this ⊢
  rw[List.takeWhile_cons]
  split
  ·rw[zN,zN];omega
  ·exact Nat.zero_le _
theorem Iy {f:Int}:∀{es:List bp} {i:Nat} (hi:i<aL f es),(es[i]'(Nat.lt_of_lt_of_le hi (tF f es))).1≤f
 |[],i,hi=>by simp[aL] at hi
 |x::xs,i,hi=>by
  have e:aL f (x::xs)=if x.1≤f then aL f xs+1 else 0:=by
   unfold aL
   rw[List.takeWhile_cons]
   by_cases c:x.1≤f
   ·rw[if_pos (decide_eq_true c),if_pos c];rfl
   ·rw[if_neg (by simpa using c),if_neg c];rfl
  rw[e] at hi
  by_cases c:x.1≤f
  ·rw[if_pos c] at hi
   cases i with
   |zero=>exact c
   |succ i=>exact Iy (es:=xs) (by omega)
  ·rw[if_neg c] at hi;omega
theorem Ix {f:Int}:∀{es:List bp},fN es=true→∀{i:Nat} (hi:i<es.length),aL f es≤i→f<(es[i]).1
 |[],_,i,hi,_=>by simp at hi
 |x::xs,hs,i,hi,h=>by
  have e:aL f (x::xs)=if x.1≤f then aL f xs+1 else 0:=by
   unfold aL
   rw[List.takeWhile_cons]
   by_cases c:x.1≤f
   ·rw[if_pos (decide_eq_true c),if_pos c];rfl
   ·rw[if_neg (by simpa using c),if_neg c];rfl
  rw[e] at h
  by_cases c:x.1≤f
  ·rw[if_pos c] at h
   cases i with
   |zero=>omega
   |succ i=>
    unfold fN at hs
    rw[zA] at hs
    exact Ix hs.2 (by simpa using hi) (by omega)
  ·have:=Bh hs 0 i (Nat.zero_le _) hi
   have h0:((x::xs)[0]).1=x.1:=rfl
   omega
theorem Tiles.drop {len:Int}:∀{es:List bp} {p q p' q':Int},Tiles len es p q p' q'→∀(i:Nat) (hi:i<es.length),Tiles len (es.drop (i+1)) ((es[i]).2.2.1+(es[i]).2.2.2.1) ((es[i]).1+(es[i]).2.1) p' q'
 |[],_,_,_,_,_,i,hi=>by simp at hi
 |e::es,p,q,p',q',⟨⟨e1,e2,_⟩,h⟩,0,_=>by
  show Tiles len es (e.2.2.1+e.2.2.2.1) (e.1+e.2.1) p' q'
  rw[e1,e2];exact h
 |e::es,p,q,p',q',⟨_,h⟩,i+1,hi=>h.drop i (by simpa using hi)
theorem GT {a m lo hi:Int}:∀(es:List bp) (e:Int),lo≤e→e≤hi→(∀x∈es,lo≤x.2.2.1+x.2.2.2.1∧x.2.2.1+x.2.2.2.1≤hi)→lo≤cJ a m es e∧cJ a m es e≤hi
 |[],e,h1,h2,_=>⟨h1,h2⟩
 |x::xs,e,h1,h2,h=>by
  unfold cJ
  split
  ·exact ⟨h1,h2⟩
  ·obtain ⟨h3,h4⟩:=h x (by simp)
   exact GT xs _ h3 h4 fun y hy=>h y (by simp[hy])
theorem Of {f:Int}{es:List bp}(h:0<es.length)(h0:(es[0]).1≤f):1≤aL f es:=by
 cases es with
 |nil=>simp at h
 |cons x xs=>
  have h0:x.1≤f:=h0
  unfold aL
  rw[List.takeWhile_cons,if_pos (decide_eq_true h0),zN]
  omega
theorem Qe {b:LI}(hb:bf b)(hl:b.length≤4294950000){base f:Int}(most:Int)(h1:base≤f)(h2:f<(ax b base).2.2.1){es:List bp}(hes:es=(ax b base).1.map (·.1)):∃u:Nat,aL f es=u+1∧∃hu:u<es.length,
  0≤(es[u]).2.2.1∧(es[u]).2.2.1≤(b.length:Int)∧(es[u]).2.2.1≤cJ (es[u]).2.2.1 most (es.drop (u+1)) ((es[u]).2.2.1+(es[u]).2.2.2.1)∧cJ (es[u]).2.2.1 most (es.drop (u+1)) ((es[u]).2.2.1+(es[u]).2.2.2.1)≤(b.length:Int)∧0≤(es[u]).2.2.2.1∧(es[u]).2.2.2.1≤36000:=by
 obtain ⟨ht,hp0,hp1⟩:=wm hb base
 rw[← hes] at ht
 obtain ⟨g1,g2,g3,g4,g5,g6⟩:=ht.ok (by omega) (Int.le_refl 0)
 have hne:0<es.length:=by
  rcases Nat.eq_zero_or_pos es.length with h | h
  ·have:=g6 (List.length_eq_zero_iff.1 h);omega
  ·exact h
 have h0:(es[0]).1=base:=by
  cases es with
  |nil=>simp at hne
  |cons x xs=>exact ht.1.1
 have hu1:=Of (f:=f) hne (by omega)
 have hu2:=tF f es
 obtain ⟨u,hu⟩:∃u,aL f es=u+1:=⟨_,(Nat.sub_add_cancel hu1).symm⟩
 have hlt:u<es.length:=by omega
 refine ⟨u,hu,hlt,?_⟩
 have hx:=g5 (es[u]) (List.getElem_mem hlt)
 have hxx:es[u].2.2.2.1≤36000:=by
  have key:∀{es:List bp} {p q p' q':Int},Tiles b.length es p q p' q'→∀(i:Nat) (hi:i<es.length),(es[i]).2.2.2.1≤36000:=by
   intro es
   induction es with
   |nil=>intro p q p' q' h i hi;simp at hi
   |cons e es ih=>
    intro p q p' q' h i hi
    cases i with
    |zero=>exact h.1.2.2.2.1
    |succ i=>exact ih h.2 i (by simpa using hi)
  exact key ht u hlt
 have hd:=ht.drop u hlt
 obtain ⟨_,_,_,_,k5,_⟩:=hd.ok (by omega) (by omega)
 have he:=GT (a:=(es[u]).2.2.1) (m:=most) (lo:=(es[u]).2.2.1) (hi:=(b.length:Int)) (es.drop (u+1)) ((es[u]).2.2.1+(es[u]).2.2.2.1) (by omega) (by omega) fun x hx'=>by
  have:=k5 x hx'
  omega
 exact ⟨by omega,by omega,he.1,he.2,by omega,hxx⟩
abbrev QF:List Sh:=[QN,dI,cO,dI]
abbrev Mj:List Sh:=[Sd,dI,cO,dI]
abbrev iA:Io:=⟨[Sc,Cm,.ptr 0 0],[QF],[],[],none⟩
def yU (d:iA.In):Tr iA.Res:=.ite (decide (d.2.1.1.length≤4294960000)) (.ret (.ret ((),((d.2.1.1++[d.1.1],d.2.1.2),())))) .no
abbrev B7:List (Nat×Hc):=[]
def LE:Hd:=bB B7
def C8:Lp:=bP []
def uk (a0 a1 a2 a3 a4 a5 a6 a7 a8 a9 a10 a11 a12:Int)(a13:List aR.den)(a14:List bX.den)(a15 a16 a17:Int):Option iA.Res:=bif decide (a14.length+1≤4294967296) then oR ((),(a14++[(a0,a1,a2,a3,a4,a5,a6,a7,())],a15,a16,a17,()),()) else none
theorem Jx (a0 a1 a2 a3 a4 a5 a6 a7 a8 a9 a10 a11 a12:Int)(a13:List aR.den)(a14:List bX.den)(a15 a16 a17:Int):Io.run tt LE dr C8 iA Tryz.f53 (((a0,a1,a2,a3,a4,a5,a6,a7,()),(a8,a9,a10,a11,a12,a13,()),(),()),(a14,a15,a16,a17,()),())=uk a0 a1 a2 a3 a4 a5 a6 a7 a8 a9 a10 a11 a12 a13 a14 a15 a16 a17:=by kernel_rfl
theorem Ms:HcOk prog 53 (ai iA yU):=by
 refine bQ (cs:=B7) HcsOk.nil (lp:=C8) (fn:=Tryz.f53) iA (.done (by kernel_rfl)) yU ?_
 rintro ⟨⟨⟨(a0:Int),(a1:Int),(a2:Int),(a3:Int),(a4:Int),(a5:Int),(a6:Int),(a7:Int),⟨⟩⟩,⟨(x1:Int),(x2:Int),(x3:Int),(x4:Int),(x5:Int),(rs:List bq),⟨⟩⟩,⟨⟩,⟨⟩⟩,⟨⟨(es:List bp),(l:Int),(n:Int),(w:Int),⟨⟩⟩,⟨⟩⟩⟩ out hw ho
 obtain ⟨hg,ho⟩:=Tr.guard ho
 have hg:es.length≤4294960000:=of_decide_eq_true hg
 cases ho
 refine (Jx a0 a1 a2 a3 a4 a5 a6 a7 x1 x2 x3 x4 x5 rs es l n w).trans ?_
 unfold uk
 exact aa (decide_eq_true (by show es.length+1≤4294967296;omega)) _ _
abbrev iC:Io:=⟨[dL,cO,.fnc 53 false [0]],[QF],[],[dI,cO,dI],none⟩
def yW (d:iC.In):Tr iC.Res:=
 .ite (decide (d.1.1.length≤4294950000)&&decide (d.2.1.1.length=0)) (.ret (.ret (((ax d.1.1 d.1.2.1).2.1,((ax d.1.1 d.1.2.1).2.2.1,((ax d.1.1 d.1.2.1).2.2.2,()))),(((ax d.1.1 d.1.2.1).1.map (·.1),d.2.1.2),())))) .no
abbrev B9:List (Nat×Hc):=[(67,ai gM tJ),(56,ai kA FW),(53,ai iA yU)]
def uZ:Hd:=bB B9
abbrev cv:Lo:=⟨⟨[.one (.hol (.sl 5 (Ty.int u8))),.any,.one (.fnp 53 false [0]),.any,.any,.any,.one hI,.one hI,.any,.one hI,.any,.one (.ptr 12 0),.one hI,.any,.any,.any,.any,.any,.any,.any,.any,.any,.any,.any,.any,.any,.any,.any,.any,.any,.any,.any,.any,.any,.any,.any,.any,.any,.any,.any,.any,.any,.any,.any,.any,.any,.any,.any,.any,.any,.any,.any,.any,.any,.any,.any,.any,.any,.one (.hol (.sl 91 aR)),.one hI,.one hI,.any,.any,.any,.any,.any,.any,.any,.any,.any,.any,.any,.any,.any,.any,.any,.any,.any,.any,.any,.any,.any,.any,.any,.any,.any,.any,.any,.any,.any,.any,.any,.any,.any,.any,.any,.any],[some [.onl 46 bX 2,hI,hI,hI],none,none,none,none,none,none,none,none,none,none,none,some [hI,hJ,hI,hK,hJ,.hol (.sl 91 aR)]]⟩,[(.exit 2,⟨[.one (.hol (.sl 5 (Ty.int u8))),.any,.one (.fnp 53 false [0]),.any,.any,.any,.one hI,.one hI,.any,.one hI,.any,.one (.ptr 12 0),.one hI,.any,.any,.any,.any,.any,.any,.any,.any,.any,.any,.any,.any,.any,.any,.any,.any,.any,.any,.any,.any,.any,.any,.any,.any,.any,.any,.any,.any,.any,.any,.any,.any,.any,.any,.any,.any,.any,.any,.any,.any,.any,.any,.any,.any,.any,.any,.any,.any,.any,.any,.any,.any,.any,.any,.any,.any,.any,.any,.any,.any,.any,.any,.any,.any,.any,.any,.any,.any,.any,.any,.any,.any,.any,.any,.any,.any,.any,.any,.any,.any,.any,.any,.any,.any],[some [.onl 46 bX 2,hI,hI,hI],none,none,none,none,none,none,none,none,none,none,none,some [hI,hJ,hI,hK,hJ,.hol (.sl 91 aR)]]⟩)]⟩
abbrev cI:Lo:=⟨⟨[.one (.hol (.sl 5 (Ty.int u8))),.any,.one (.fnp 53 false [0]),.any,.any,.any,.one hI,.one hI,.any,.any,.any,.any,.any,.any,.any,.any,.any,.any,.any,.any,.any,.any,.any,.any,.any,.any,.any,.any,.any,.any,.any,.any,.any,.any,.any,.any,.any,.any,.any,.any,.any,.any,.any,.any,.any,.any,.any,.any,.any,.any,.any,.any,.any,.any,.any,.any,.any,.any,.any,.any,.any,.any,.any,.any,.any,.any,.any,.any,.any,.any,.any,.any,.any,.any,.any,.any,.any,.any,.any,.any,.any,.any,.any,.any,.any,.any,.any,.any,.any,.any,.any,.any,.any,.any,.any,.any,.any],[some [.onl 46 bX 2,hI,hI,hI]]⟩,[(.ret,⟨(bv (bi (.one hI::.one hI::.one hI::ah (ah (ah (ah (ah (cN [])))))))),[some [.onl 46 bX 2,hI,hI,hI]]⟩),(.exit 0,⟨(bv (bi (.one hI::.one hI::.any::ah (ah (ah (ah (ah (cN [])))))))),[some [.onl 46 bX 2,hI,hI,hI]]⟩)]⟩
def ig (d:cv.st.den):Tr (ao cv.xs):=
 .ite (decide (d.1.2.2.2.2.2.2.1=(d.1.2.2.2.2.2.1.length:Int))&&(decide (d.1.2.2.2.2.2.2.2.1=0)&&decide (d.1.2.2.2.2.2.1.length≤256)))
  (.ret (.ret ((),((d.1.1,(d.1.2.1,(d.1.2.2.1,(d.1.2.2.2.1,(bu d.1.2.2.2.2.2.1 d.1.2.2.2.2.1,()))))),d.2)))) .no
def ee (W:List (bp×cM)×Int×Int×Int)(es:List bp)(l n w:Int):ao cI.xs:=
 if W.2.2.2=0 then .pan (.ret ((),((W.2.1,(W.2.2.1,())),((es++(W).1.map (·.1),(l,(n,(w,())))),())))) else .ret ((),((W.2.1,(W.2.2.1,(W.2.2.2,()))),((es++(W).1.map (·.1),(l,(n,(w,())))),())))
def jZ (d:cI.st.den):Tr (ao cI.xs):=
 .ite (decide (d.1.2.1=0)&&(decide (d.1.1.length≤4294950000)&&decide (d.2.1.1.length=0))) (.ite (decide ((ax d.1.1 d.1.2.2.1).2.2.2=0)) (.ret (.pan (.ret ((),(((ax d.1.1 d.1.2.2.1).2.1,((ax d.1.1 d.1.2.2.1).2.2.1,())),((d.2.1.1++(ax d.1.1 d.1.2.2.1).1.map (·.1),d.2.1.2),())))))) (.ret (.ret ((),(((ax d.1.1 d.1.2.2.1).2.1,((ax d.1.1 d.1.2.2.1).2.2.1,((ax d.1.1 d.1.2.2.1).2.2.2,()))),((d.2.1.1++(ax d.1.1 d.1.2.2.1).1.map (·.1),d.2.1.2),())))))) .no
def kc:Lp:=bP [(3,aA cI jZ),(14,aA cv ig)]
def nP {R:Type}(h34:LI)(h35 h36 h37 h38:Int)(h39:List aR.den)(h40 h41:Int)(h42:List bX.den)(h43 h44 h45 h46 h47 h48 h49 h50:Int)(h51:List aR.den)(next:LI→Int→Int→Int→Int→List aR.den→Int→Int→List bX.den→Int→Int→Int→Int→Int→Int→Int→Int→List aR.den→Option R)(out:ao cv.xs→Option R):Option R:=bif decide (h41<h40) then bif decide (0≤h41)&&decide (h41<(↑h39.length:Int)) then next (h34) (h35) (h36) (h37) (co h38 (h39.getD h41.toNat (0,(false,[],()),(false,[],()),[],())).1) (h39) (h40) (i64.wrap (h41+1)) (h42) (h43) (h44) (h45) (h46) (h47) (h48) (h49) (h50) (h51) else none else out (.ret ((),((h34,(h35,(h36,(h37,(h38,()))))),((h42,(h43,(h44,(h45,())))),((h46,(h47,(h48,(h49,(h50,(h51,())))))),())))))
def mq (n:Nat)(h34:LI)(h35 h36 h37 h38:Int)(h39:List aR.den)(h40 h41:Int)(h42:List bX.den)(h43 h44 h45 h46 h47 h48 h49 h50:Int)(h51:List aR.den):Option (ao cv.xs):=fH tt uZ dr kc 1 Tryz.f50 (Kg Tryz.f50 (bI Tryz.f50 0) 0) n (cv.st.mk' ((h34,(h35,(h36,(h37,(h38,(h39,(h40,(h41,())))))))),((h42,(h43,(h44,(h45,())))),((h46,(h47,(h48,(h49,(h50,(h51,())))))),())))) (bo cv.xs)
theorem DA (n:Nat)(h34:LI)(h35 h36 h37 h38:Int)(h39:List aR.den)(h40 h41:Int)(h42:List bX.den)(h43 h44 h45 h46 h47 h48 h49 h50:Int)(h51:List aR.den):mq (n+1) h34 h35 h36 h37 h38 h39 h40 h41 h42 h43 h44 h45 h46 h47 h48 h49 h50 h51=nP h34 h35 h36 h37 h38 h39 h40 h41 h42 h43 h44 h45 h46 h47 h48 h49 h50 h51 (mq n) some:=by kernel_rfl
def qq {R:Type}(h6:LI)(h7 h8:Int)(h9:List bX.den)(h10 h11 h12:Int)(next:LI→Int→Int→List bX.den→Int→Int→Int→Option R)(out:ao cI.xs→Option R):Option R:=bif decide (h7<(↑h6.length:Int)) then bif decide (h6.length≤4294960000) then bif (aj h6 h7).2 != 0 then out (.ret ((),((h7,(h8,((aj h6 h7).2,()))),((h9,(h10,(h11,(h12,())))),())))) else bif decide (0≤h7)&&(decide (h7≤i64.wrap (h7+(aj h6 h7).1))&&decide (i64.wrap (h7+(aj h6 h7).1)≤(↑h6.length:Int))) then bif decide ((List.drop h7.toNat (List.take (i64.wrap (h7+(aj h6 h7).1)).toNat h6)).length≤4294960000) then bif (ap (List.drop h7.toNat (List.take (i64.wrap (h7+(aj h6 h7).1)).toNat h6))).2 != 0 then out (.ret ((),((h7,(h8,((ap (List.drop h7.toNat (List.take (i64.wrap (h7+(aj h6 h7).1)).toNat h6))).2,()))),((h9,(h10,(h11,(h12,())))),())))) else bif (ap (List.drop h7.toNat (List.take (i64.wrap (h7+(aj h6 h7).1)).toNat h6))).1.1 != h8 then out (.ret ((),((h7,(h8,(190,()))),((h9,(h10,(h11,(h12,())))),())))) else bif decide (0≤0)&&decide (0<(↑(List.length (ap (List.drop h7.toNat (List.take (i64.wrap (h7+(aj h6 h7).1)).toNat h6))).1.2.2.2.2.2.1):Int)) then (ig ((h6,(h7,(h8,((aj h6 h7).1,((List.getD (ap (List.drop h7.toNat (List.take (i64.wrap (h7+(aj h6 h7).1)).toNat h6))).1.2.2.2.2.2.1 (Int.toNat 0) (0,(false,[],()),(false,[],()),[],())).1,((ap (List.drop h7.toNat (List.take (i64.wrap (h7+(aj h6 h7).1)).toNat h6))).1.2.2.2.2.2.1,((↑(List.length (ap (List.drop h7.toNat (List.take (i64.wrap (h7+(aj h6 h7).1)).toNat h6))).1.2.2.2.2.2.1):Int),(0,())))))))),((h9,(h10,(h11,(h12,())))),(((ap (List.drop h7.toNat (List.take (i64.wrap (h7+(aj h6 h7).1)).toNat h6))).1.1,((ap (List.drop h7.toNat (List.take (i64.wrap (h7+(aj h6 h7).1)).toNat h6))).1.2.1,((ap (List.drop h7.toNat (List.take (i64.wrap (h7+(aj h6 h7).1)).toNat h6))).1.2.2.1,((ap (List.drop h7.toNat (List.take (i64.wrap (h7+(aj h6 h7).1)).toNat h6))).1.2.2.2.1,((ap (List.drop h7.toNat (List.take (i64.wrap (h7+(aj h6 h7).1)).toNat h6))).1.2.2.2.2.1,((ap (List.drop h7.toNat (List.take (i64.wrap (h7+(aj h6 h7).1)).toNat h6))).1.2.2.2.2.2.1,())))))),())))).run fun y=>match y with | .ret ((),((x85,x86,x87,x88,x89,()),(x90,x91,x92,x93,()),(x94,x95,x96,x97,x98,x99,()),()))=>(bif decide (x90.length≤4294960000) then next (x85) (i64.wrap (x86+x88)) (i64.wrap (x87+(↑x99.length:Int))) (x90++[(x94,(↑x99.length:Int),x86,x88,x89,x96,x97,x98,())]) (x91) (x92) (x93) else none) else none else none else none else none else out (.pan (.ret ((),((h7,(h8,())),((h9,(h10,(h11,(h12,())))),())))))
def la (n:Nat)(h6:LI)(h7 h8:Int)(h9:List bX.den)(h10 h11 h12:Int):Option (ao cI.xs):=fH tt uZ dr kc 1 Tryz.f50 (bI Tryz.f50 0) n (cI.st.mk' ((h6,(h7,(h8,()))),((h9,(h10,(h11,(h12,())))),()))) (bo cI.xs)
theorem Ft (n:Nat)(h6:LI)(h7 h8:Int)(h9:List bX.den)(h10 h11 h12:Int):la (n+1) h6 h7 h8 h9 h10 h11 h12=qq h6 h7 h8 h9 h10 h11 h12 (la n) some:=by kernel_rfl
theorem vM (p q:Int)(es:List bp)(l n w:Int):ee ([],p,q,0) es l n w=.pan (.ret ((),((p,(q,())),((es,(l,(n,(w,())))),())))):=by
 unfold ee;rw[if_pos rfl];simp
theorem iP {w':Int}(h:w'≠0)(p q:Int)(es:List bp)(l n w:Int):ee ([],p,q,w') es l n w=.ret ((),((p,(q,(w',()))),((es,(l,(n,(w,())))),()))):=by
 unfold ee;rw[if_neg h];simp
theorem vL (e:bp)(x:cM)(W:List (bp×cM)×Int×Int×Int)(es:List bp)(l n w:Int):ee ((e,x)::W.1,W.2) es l n w=ee W (es++[e]) l n w:=by
 unfold ee;simp
theorem wv (b:LI)(p q m:Int)(rs:List bq)(hl:rs.length≤256)(es:List bp)(l n w x1 x2 x3 x4 x5:Int)(xs:List bq):∀(k i:Nat) (t:Int),rs.length<i+k→i≤rs.length→
  mq k b p q m t rs (rs.length:Int) i es l n w x1 x2 x3 x4 x5 xs=some (.ret ((),((b,(p,(q,(m,(bu (rs.drop i) t,()))))),((es,(l,(n,(w,())))),((x1,(x2,(x3,(x4,(x5,(xs,())))))),()))))):=by
 intro k
 induction k with
 |zero=>intro i t h;omega
 |succ k ih=>
  intro i t h1 h2
  rw[DA]
  unfold nP
  by_cases hi:i<rs.length
  rotate_left
  ·refine bF (decide_eq_false (by omega)) ?_
   rw[zI (by omega)]
   rfl
  refine bT (decide_eq_true (by omega)) ?_
  refine bT (by simpa using hi) ?_
  have e:List.getD rs (i:Int).toNat (0,(false,[],()),(false,[],()),[],())=rs[i]:=by rw[zG,aB hi]
  rw[e,zE hi,ae (n:=(i:Int)+1) (by omega) (by omega)]
  exact ih (i+1) _ (by omega) (by omega)
theorem Ao (b:LI)(hb:bf b)(hl:b.length≤4294950000):∀(k:Nat) (p q:Int) (es:List bp) (l n w:Int),0≤p→p≤b.length→(b.length:Int)<p+k→61*(es.length:Int)≤p→
  la k b p q es l n w=some (ee (fh b k p q) es l n w):=by
 intro k
 induction k with
 |zero=>intro p q es l n w h0 h1 h2;omega
 |succ k ih=>
  intro p q es l n w h0 h1 h2 h3
  rw[Ft]
  unfold qq fh
  by_cases c1:p<b.length
  rotate_left
  ·refine bF (decide_eq_false c1) ?_
   rw[if_pos (by omega),vM]
  refine bT (decide_eq_true c1) ?_
  refine bT (decide_eq_true (by omega)) ?_
  rw[if_neg (by omega:¬(b.length:Int)≤p)]
  by_cases c2:(aj b p).2=0
  rotate_left
  ·refine bT (by simpa using c2) ?_
   rw[if_pos c2,iP c2]
  refine bF (by rw[c2];rfl) ?_
  rw[if_neg (fun h=>h c2)]
  have hm:=hY c2
  have hx:=kr (mY hb p.toNat (aj b p).1.toNat)
  generalize (aj b p).1=m at *
  have hd:List.drop p.toNat (List.take (p+m).toNat b)=(b.drop p.toNat).take m.toNat:=by
   rw[List.drop_take,show (p+m).toNat - p.toNat=m.toNat by omega]
  rw[ae (n:=p+m) (by omega) (by omega),hd]
  refine bT (by simp only[zA,zB];omega) ?_
  refine bT (decide_eq_true (by rw[List.length_take,List.length_drop];omega)) ?_
  generalize ap ((b.drop p.toNat).take m.toNat)=D at *
  obtain ⟨⟨(x1:Int),(x2:Int),(x3:Int),(x4:Int),(x5:Int),(rs:List bq),⟨⟩⟩,(z:Int)⟩:=D
  by_cases c3:z=0
  rotate_left
  ·refine bT (by simpa using c3) ?_
   rw[if_pos c3,iP c3]
  refine bF (by simpa using c3) ?_
  rw[if_neg (fun h=>h c3)]
  obtain ⟨y1,y2,y3,y4⟩:=hx c3
  have y1:0≤x1:=y1
  have y2:x1≤4611686018427387648:=y2
  have y3:1≤rs.length:=y3
  have y4:rs.length≤256:=y4
  by_cases c4:x1=q
  rotate_left
  ·refine bT (by simpa using c4) ?_
   rw[if_pos c4,iP (show (190:Int)≠0 by decide)]
  refine bF (by simpa using c4) ?_
  rw[if_neg (fun h=>h c4)]
  refine bT (by simp only[zA,zB];exact ⟨by decide,by show 0<(rs.length:Int);omega⟩) ?_
  unfold ig
  refine bT (by simp only[zA,zB];exact ⟨trivial,trivial,y4⟩) ?_
  have eL:bu rs (List.getD rs (Int.toNat 0) (0,(false,[],()),(false,[],()),[],())).1=ch rs:=by
   cases rs with
   |nil=>simp at y3
   |cons r l=>
    show bu l (co r.1 r.1)=bu l r.1
    have:co r.1 r.1=r.1:=by unfold co;split <;> rfl
    rw[this]
  show (bif decide (es.length≤4294960000) then la k b (i64.wrap (p+m)) (i64.wrap (q+(rs.length:Int))) (es++[(x1,((rs.length:Int),(p,(m,(bu rs (List.getD rs (Int.toNat 0) (0,(false,[],()),(false,[],()),[],())).1,(x3,(x4,(x5,()))))))))]) l n w else none)=_
  refine bT (decide_eq_true (by omega)) ?_
  rw[eL,ae (n:=p+m) (by omega) (by omega),ae (n:=q+(rs.length:Int)) (by omega) (by omega)]
  refine (ih (p+m) (q+(rs.length:Int)) _ l n w (by omega) (by omega) (by omega) (by rw[zH,List.length_singleton];push_cast;omega)).trans ?_
  exact congrArg some (vL _ _ _ es l n w).symm
def um (a0:LI)(a1:Int)(a2:List bX.den)(a3 a4 a5:Int):Option iC.Res:=(jZ ((a0,(0,(a1,()))),((a2,(a3,(a4,(a5,())))),()))).run fun y=>match y with | .ret ((),((x113,x114,x115,()),(x116,x117,x118,x119,()),()))=>(oR ((x113,x114,x115,()),(x116,x117,x118,x119,()),())) | .pan (.ret ((),((x120,x121,()),(x122,x123,x124,x125,()),())))=>(oR ((x120,x121,0,()),(x122,x123,x124,x125,()),()))
theorem Jz (a0:LI)(a1:Int)(a2:List bX.den)(a3 a4 a5:Int):Io.run tt uZ dr kc iC Tryz.f50 ((a0,a1,(),()),(a2,a3,a4,a5,()),())=um a0 a1 a2 a3 a4 a5:=by kernel_rfl
theorem og:HcsOk prog B9:=.cons AT (.cons Mo (.cons Ms .nil))
theorem Mu:HcOk prog 50 (ai iC yW):=by
 refine bQ og (lp:=kc) (fn:=Tryz.f50) iC (.step (h0:=aA cI jZ) (by kernel_rfl) (fR og (lp:=kc) (fn:=Tryz.f50) (.step (h0:=aA cv ig) (by kernel_rfl) (fR og (lp:=kc) (fn:=Tryz.f50) (.done (by kernel_rfl)) cv ig ?_) (.done (by kernel_rfl))) cI jZ ?_) (.done (by kernel_rfl))) yW ?_
 ·rintro ⟨⟨(b:LI),(p:Int),(q:Int),(m:Int),(t:Int),(rs:List bq),(j:Int),(i:Int),⟨⟩⟩,⟨⟨(es:List bp),(l:Int),(n:Int),(w:Int),⟨⟩⟩,⟨(x1:Int),(x2:Int),(x3:Int),(x4:Int),(x5:Int),(xs:List bq),⟨⟩⟩,⟨⟩⟩⟩ y hw hy
  obtain ⟨hg,hy⟩:=Tr.guard hy
  simp only[zA,zB] at hg
  obtain ⟨h1,h2,h3⟩:=hg
  have h1:j=(rs.length:Int):=h1
  have h2:i=0:=h2
  have h3:rs.length≤256:=h3
  subst h1 h2
  refine ⟨rs.length+1,(wv b p q m rs h3 es l n w x1 x2 x3 x4 x5 xs (rs.length+1) 0 t (by omega) (Nat.zero_le _)).trans ?_⟩
  rw[← hy,List.drop_zero];rfl
 ·rintro ⟨⟨(b:LI),(p:Int),(q:Int),⟨⟩⟩,⟨⟨(es:List bp),(l:Int),(n:Int),(w:Int),⟨⟩⟩,⟨⟩⟩⟩ y hw hy
  obtain ⟨hg,hy⟩:=Tr.guard hy
  simp only[zA,zB] at hg
  obtain ⟨h1,h2,h3⟩:=hg
  have h3:es.length=0:=h3
  have h1:p=0:=h1
  have h2:b.length≤4294950000:=h2
  subst h1
  refine ⟨b.length+1,(Ao b (bytesOf hw.1.1) h2 (b.length+1) 0 q es l n w (by omega) (by omega) (by omega) (by omega)).trans ?_⟩
  unfold ee
  show some (if (ax b q).2.2.2=0 then _ else _)=_
  by_cases c:(ax b q).2.2.2=0
  ·rw[if_pos c]
   exact ((aa (decide_eq_true c) _ _).symm.trans hy)
  ·rw[if_neg c]
   exact ((af (decide_eq_false c) _ _).symm.trans hy)
 ·rintro ⟨⟨(b:LI),(q:Int),⟨⟩,⟨⟩⟩,⟨⟨(es:List bp),(l:Int),(n:Int),(w:Int),⟨⟩⟩,⟨⟩⟩⟩ out hw ho
  obtain ⟨hg,ho⟩:=Tr.guard ho
  rw[zA] at hg
  obtain ⟨h2,h3⟩:=hg
  have h2:b.length≤4294950000:=of_decide_eq_true h2
  have h3:es.length=0:=of_decide_eq_true h3
  have h3:es=[]:=zF h3
  subst h3
  have h2':b.length≤4294950000:=of_decide_eq_true h2
  clear h2
  cases ho
  refine (Jz b q [] l n w).trans ?_
  unfold um jZ
  refine bT (by simp only[zA,zB];exact ⟨trivial,h2',rfl⟩) ?_
  by_cases c:(ax b q).2.2.2=0
  ·refine bT (decide_eq_true c) ?_
   show _=oR (((ax b q).2.1,((ax b q).2.2.1,((ax b q).2.2.2,()))),(((ax b q).1.map (·.1),(l,(n,(w,())))),()))
   rw[c];rfl
  ·exact af (decide_eq_false c) _ _
abbrev jh:Io:=⟨[dL,cO],[],[],[Lb],none⟩
def yS (d:jh.In):Tr jh.Res:=.ite (decide (d.1.1.length≤4294950000)) (.ret (.ret ((aO d.1.1 d.1.2.1,()),()))) .no
abbrev Gi:List (Nat×Hc):=[(50,ai iC yW)]
def OJ:Hd:=bB Gi
def Ht:Lp:=bP []
def wY (a0:LI)(a1:Int):Option jh.Res:=bif decide (a0.length≤4294950000)&&decide (([]:List bp).length=0) then oR (((List.map (fun (x:bp×cM)=>x.1) (ax a0 a1).1,(ax a0 a1).2.1,(ax a0 a1).2.2.1,(ax a0 a1).2.2.2,()),()),()) else none
theorem M0 (a0:LI)(a1:Int):Io.run tt OJ dr Ht jh Tryz.f25 ((a0,a1,()),())=wY a0 a1:=by kernel_rfl
theorem HZ:HcOk prog 25 (ai jh yS):=by
 refine bQ (cs:=Gi) (.cons Mu .nil) (lp:=Ht) (fn:=Tryz.f25) jh (.done (by kernel_rfl)) yS ?_
 rintro ⟨⟨(b:LI),(base:Int),⟨⟩⟩,⟨⟩⟩ out hw ho
 obtain ⟨hg,ho⟩:=Tr.guard ho
 cases ho
 refine (M0 b base).trans ?_
 unfold wY
 exact aa (by rw[zA];exact ⟨hg,rfl⟩) _ _
abbrev iy:Io:=⟨[Sc,Cm,.ptr 0 0,.ptr 1 0,.ptr 2 0,.ptr 3 0],[[dB],[cO],[cO],[cO]],[],[],none⟩
def yP (d:iy.In):Tr iy.Res:=.ite (p5 d.1.2.1) (.ret (.ret ((),(((bM d.2.2.1.1 d.1.2.1.1 d.1.2.1.2.2.2.2.2.1 0 (d.2.2.2.1.1,d.2.2.2.2.1.1,d.2.1.1)).2.2,()),(d.2.2.1,(((bM d.2.2.1.1 d.1.2.1.1 d.1.2.1.2.2.2.2.2.1 0 (d.2.2.2.1.1,d.2.2.2.2.1.1,d.2.1.1)).1,()),(((bM d.2.2.1.1 d.1.2.1.1 d.1.2.1.2.2.2.2.2.1 0 (d.2.2.2.1.1,d.2.2.2.2.1.1,d.2.1.1)).2.1,()),()))))))) .no
abbrev uJ:List (Nat×Hc):=[]
def CC:Hd:=bB uJ
abbrev cZ:Lo:=⟨⟨(bi (.one (.ptr 0 0)::.one (.ptr 1 0)::.one (.ptr 2 0)::.one (.ptr 3 0)::.any::.one (.ptr 11 0)::.any::bi (.one (.hol (.sl 91 aR))::.one hI::.one hI::.any::ah (bi [])))),[some [hL],some [hI],some [hI],some [hI],none,none,none,none,none,none,none,some [hI,hJ,hI,hK,hJ,.hol (.sl 91 aR)]]⟩,[(.exit 0,⟨(.any::ah (ah ([]))),[some [hL],some [hI],some [hI],some [hI]]⟩)]⟩
def jW (d:cZ.st.den):Tr (ao cZ.xs):=
 .ite (decide (d.1.2.1=(d.1.1.length:Int))&&(decide (d.1.2.2.1=0)&&(decide (d.1.1.length≤256)&&(decide (0≤d.2.2.2.2.2.1.1)&&decide (d.2.2.2.2.2.1.1≤(4611686018427387648:Int))))))
  (.ret (.ret ((),((),(((bM d.2.2.1.1 d.2.2.2.2.2.1.1 d.1.1 0 (d.2.2.2.1.1,d.2.2.2.2.1.1,d.2.1.1)).2.2,()),(d.2.2.1,(((bM d.2.2.1.1 d.2.2.2.2.2.1.1 d.1.1 0 (d.2.2.2.1.1,d.2.2.2.2.1.1,d.2.1.1)).1,()),(((bM d.2.2.1.1 d.2.2.2.2.2.1.1 d.1.1 0 (d.2.2.2.1.1,d.2.2.2.2.1.1,d.2.1.1)).2.1,()),())))))))) .no
def pM:Lp:=bP [(3,aA cZ jW)]
def qn {R:Type}(h18:List aR.den)(h19 h20:Int)(h21:Bool)(h22 h23 h24 h25 h26 h27 h28 h29:Int)(h30:List aR.den)(next:List aR.den→Int→Int→Bool→Int→Int→Int→Int→Int→Int→Int→Int→List aR.den→Option R)(out:ao cZ.xs→Option R):Option R:=bif decide (h20<h19) then bif decide (0≤h20)&&decide (h20<(↑h18.length:Int)) then bif !h21 then bif decide (h22≤(h18.getD h20.toNat (0,(false,[],()),(false,[],()),[],())).1) then next (h18) (h19) (i64.wrap (h20+1)) (true) (h22) (i64.wrap (h25+h20)) ((h18.getD h20.toNat (0,(false,[],()),(false,[],()),[],())).1) (h25) (h26) (h27) (h28) (h29) (h30) else next (h18) (h19) (i64.wrap (h20+1)) (h21) (h22) (h23) (h24) (h25) (h26) (h27) (h28) (h29) (h30) else next (h18) (h19) (i64.wrap (h20+1)) (h21) (h22) (h23) (h24) (h25) (h26) (h27) (h28) (h29) (h30) else none else out (.ret ((),((),((h21,()),((h22,()),((h23,()),((h24,()),())))))))
def oF (n:Nat)(h18:List aR.den)(h19 h20:Int)(h21:Bool)(h22 h23 h24 h25 h26 h27 h28 h29:Int)(h30:List aR.den):Option (ao cZ.xs):=fH tt CC dr pM 4 Tryz.f51 (bI Tryz.f51 0) n (cZ.st.mk' ((h18,(h19,(h20,()))),((h21,()),((h22,()),((h23,()),((h24,()),((h25,(h26,(h27,(h28,(h29,(h30,())))))),()))))))) (bo cZ.xs)
theorem Fp (n:Nat)(h18:List aR.den)(h19 h20:Int)(h21:Bool)(h22 h23 h24 h25 h26 h27 h28 h29:Int)(h30:List aR.den):oF (n+1) h18 h19 h20 h21 h22 h23 h24 h25 h26 h27 h28 h29 h30=qn h18 h19 h20 h21 h22 h23 h24 h25 h26 h27 h28 h29 h30 (oF n) some:=by kernel_rfl
theorem Al (rs:List bq)(hl:rs.length≤256)(time base:Int)(hb0:0≤base)(hb1:base≤4611686018427387648)(x1 x2 x3 x4:Int)(xs:List bq):∀(k i:Nat) (fd:Bool) (of wh:Int),rs.length<i+k→i≤rs.length→
  oF k rs (rs.length:Int) i fd time of wh base x1 x2 x3 x4 xs=some (.ret ((),((),(((bM time base (rs.drop i) i (of,wh,fd)).2.2,()),((time,()),(((bM time base (rs.drop i) i (of,wh,fd)).1,()),(((bM time base (rs.drop i) i (of,wh,fd)).2.1,()),()))))))):=by
 intro k
 induction k with
 |zero=>intro i fd of wh h;omega
 |succ k ih=>
  intro i fd of wh h1 h2
  rw[Fp]
  unfold qn
  by_cases hi:i<rs.length
  rotate_left
  ·refine bF (decide_eq_false (by omega)) ?_
   rw[zI (by omega)]
   rfl
  refine bT (decide_eq_true (by omega)) ?_
  refine bT (by simpa using hi) ?_
  have e:List.getD rs (i:Int).toNat (0,(false,[],()),(false,[],()),[],())=rs[i]:=by rw[zG,aB hi]
  rw[e,zE hi,ae (n:=(i:Int)+1) (by omega) (by omega),ae (n:=base+(i:Int)) (by omega) (by omega)]
  have e2:bM time base (rs[i]::rs.drop (i+1)) i (of,wh,fd)=bM time base (rs.drop (i+1)) (i+1) (if fd=false∧time≤rs[i].1 then (base+i,rs[i].1,true) else (of,wh,fd)):=rfl
  rw[e2]
  cases fd with
  |true=>
   refine (af rfl _ _).trans ?_
   rw[if_neg (fun h=>by cases h.1)]
   exact ih (i+1) true of wh (by omega) (by omega)
  |false=>
   refine (aa rfl _ _).trans ?_
   by_cases c:time≤rs[i].1
   ·refine bT (decide_eq_true c) ?_
    rw[if_pos ⟨rfl,c⟩]
    exact ih (i+1) true _ _ (by omega) (by omega)
   ·refine bF (decide_eq_false c) ?_
    rw[if_neg (fun h=>c h.2)]
    exact ih (i+1) false of wh (by omega) (by omega)
def ui (a0 a1 a2 a3 a4 a5 a6 a7 a8 a9 a10 a11 a12:Int)(a13:List aR.den)(a14:Bool)(a15 a16 a17:Int):Option iy.Res:=(jW ((a13,((↑a13.length:Int),(0,()))),((a14,()),((a15,()),((a16,()),((a17,()),((a8,(a9,(a10,(a11,(a12,(a13,())))))),()))))))).run fun y=>match y with | .ret ((),((),(x74,()),(x75,()),(x76,()),(x77,()),()))=>(oR ((),(x74,()),(x75,()),(x76,()),(x77,()),()))
theorem Jv (a0 a1 a2 a3 a4 a5 a6 a7 a8 a9 a10 a11 a12:Int)(a13:List aR.den)(a14:Bool)(a15 a16 a17:Int):Io.run tt CC dr pM iy Tryz.f51 (((a0,a1,a2,a3,a4,a5,a6,a7,()),(a8,a9,a10,a11,a12,a13,()),(),(),(),(),()),(a14,()),(a15,()),(a16,()),(a17,()),())=ui a0 a1 a2 a3 a4 a5 a6 a7 a8 a9 a10 a11 a12 a13 a14 a15 a16 a17:=by kernel_rfl
theorem Mq:HcOk prog 51 (ai iy yP):=by
 refine bQ (cs:=uJ) HcsOk.nil (lp:=pM) (fn:=Tryz.f51) iy (.step (h0:=aA cZ jW) (by kernel_rfl) (fR (cs:=uJ) HcsOk.nil (lp:=pM) (fn:=Tryz.f51) (.done (by kernel_rfl)) cZ jW ?_) (.done (by kernel_rfl))) yP ?_
 ·rintro ⟨⟨(rs:List bq),(m:Int),(i:Int),⟨⟩⟩,⟨⟨(fd:Bool),⟨⟩⟩,⟨(time:Int),⟨⟩⟩,⟨(of:Int),⟨⟩⟩,⟨(wh:Int),⟨⟩⟩,⟨(base:Int),(x1:Int),(x2:Int),(x3:Int),(x4:Int),(xs:List bq),⟨⟩⟩,⟨⟩⟩⟩ y hw hy
  obtain ⟨hg,hy⟩:=Tr.guard hy
  simp only[zA,zB] at hg
  obtain ⟨h1,h2,h3,h4,h5⟩:=hg
  have h1:m=(rs.length:Int):=h1
  have h2:i=0:=h2
  have h3:rs.length≤256:=h3
  have h4:0≤base:=h4
  have h5:base≤4611686018427387648:=h5
  subst h1 h2
  refine ⟨rs.length+1,(Al rs h3 time base h4 h5 x1 x2 x3 x4 xs (rs.length+1) 0 fd of wh (by omega) (Nat.zero_le _)).trans ?_⟩
  rw[← hy,List.drop_zero];rfl
 ·rintro ⟨⟨⟨(a0:Int),(a1:Int),(a2:Int),(a3:Int),(a4:Int),(a5:Int),(a6:Int),(a7:Int),⟨⟩⟩,⟨(x1:Int),(x2:Int),(x3:Int),(x4:Int),(x5:Int),(rs:List bq),⟨⟩⟩,⟨⟩,⟨⟩,⟨⟩,⟨⟩,⟨⟩⟩,⟨⟨(fd:Bool),⟨⟩⟩,⟨(time:Int),⟨⟩⟩,⟨(of:Int),⟨⟩⟩,⟨(wh:Int),⟨⟩⟩,⟨⟩⟩⟩ out hw ho
  obtain ⟨hg,ho⟩:=Tr.guard ho
  have hg:(decide (0≤x1)&&(decide (x1≤4611686018427387648)&&decide (rs.length≤256)))=true:=hg
  simp only[zA,zB] at hg
  obtain ⟨h1,h2,h3⟩:=hg
  cases ho
  refine (Jv a0 a1 a2 a3 a4 a5 a6 a7 x1 x2 x3 x4 x5 rs fd time of wh).trans ?_
  unfold ui jW
  refine bT (by simp only[zA,zB];exact ⟨trivial,trivial,h3,h1,h2⟩) ?_
  rfl
abbrev iB:Io:=⟨[dL,cO,.fnc 51 false [0,1,2,3]],[[dB],[cO],[cO],[cO]],[],[dI,cO,dI],none⟩
def yV (d:iB.In):Tr iB.Res:=
 .ite (decide (d.1.1.length≤4294950000)) (.ret (.ret (((ax d.1.1 d.1.2.1).2.1,((ax d.1.1 d.1.2.1).2.2.1,((ax d.1.1 d.1.2.1).2.2.2,()))),
  (((bL d.2.2.1.1 (ax d.1.1 d.1.2.1).1 (d.2.2.2.1.1,d.2.2.2.2.1.1,d.2.1.1)).2.2,()),(d.2.2.1,(((bL d.2.2.1.1 (ax d.1.1 d.1.2.1).1 (d.2.2.2.1.1,d.2.2.2.2.1.1,d.2.1.1)).1,()),(((bL d.2.2.1.1 (ax d.1.1 d.1.2.1).1 (d.2.2.2.1.1,d.2.2.2.2.1.1,d.2.1.1)).2.1,()),()))))))) .no
abbrev B8:List (Nat×Hc):=[(67,ai gM tJ),(56,ai kA FW),(51,ai iy yP)]
def uY:Hd:=bB B8
abbrev ct:Lo:=⟨⟨[.one (.hol (.sl 5 (Ty.int u8))),.any,.one (.fnp 51 false [0,1,2,3]),.any,.any,.any,.one hI,.one hI,.any,.one hI,.any,.one (.ptr 15 0),.one hI,.any,.any,.any,.any,.any,.any,.any,.any,.any,.any,.any,.any,.any,.any,.any,.any,.any,.any,.any,.any,.any,.any,.any,.any,.any,.any,.any,.any,.any,.any,.any,.any,.any,.any,.any,.any,.any,.any,.any,.any,.any,.any,.any,.any,.any,.one (.hol (.sl 91 aR)),.one hI,.one hI,.any,.any,.any,.any,.any,.any,.any,.any,.any,.any,.any,.any,.any,.any,.any,.any,.any,.any,.any,.any,.any,.any,.any,.any,.any,.any,.any,.any,.any,.any,.any,.any,.any,.any,.any,.any],[some [hL],some [hI],some [hI],some [hI],none,none,none,none,none,none,none,none,none,none,none,some [hI,hJ,hI,hK,hJ,.hol (.sl 91 aR)]]⟩,[(.exit 2,⟨[.one (.hol (.sl 5 (Ty.int u8))),.any,.one (.fnp 51 false [0,1,2,3]),.any,.any,.any,.one hI,.one hI,.any,.one hI,.any,.one (.ptr 15 0),.one hI,.any,.any,.any,.any,.any,.any,.any,.any,.any,.any,.any,.any,.any,.any,.any,.any,.any,.any,.any,.any,.any,.any,.any,.any,.any,.any,.any,.any,.any,.any,.any,.any,.any,.any,.any,.any,.any,.any,.any,.any,.any,.any,.any,.any,.any,.any,.any,.any,.any,.any,.any,.any,.any,.any,.any,.any,.any,.any,.any,.any,.any,.any,.any,.any,.any,.any,.any,.any,.any,.any,.any,.any,.any,.any,.any,.any,.any,.any,.any,.any,.any,.any,.any,.any],[some [hL],some [hI],some [hI],some [hI],none,none,none,none,none,none,none,none,none,none,none,some [hI,hJ,hI,hK,hJ,.hol (.sl 91 aR)]]⟩)]⟩
abbrev cH:Lo:=⟨⟨[.one (.hol (.sl 5 (Ty.int u8))),.any,.one (.fnp 51 false [0,1,2,3]),.any,.any,.any,.one hI,.one hI,.any,.any,.any,.any,.any,.any,.any,.any,.any,.any,.any,.any,.any,.any,.any,.any,.any,.any,.any,.any,.any,.any,.any,.any,.any,.any,.any,.any,.any,.any,.any,.any,.any,.any,.any,.any,.any,.any,.any,.any,.any,.any,.any,.any,.any,.any,.any,.any,.any,.any,.any,.any,.any,.any,.any,.any,.any,.any,.any,.any,.any,.any,.any,.any,.any,.any,.any,.any,.any,.any,.any,.any,.any,.any,.any,.any,.any,.any,.any,.any,.any,.any,.any,.any,.any,.any,.any,.any,.any],[some [hL],some [hI],some [hI],some [hI]]⟩,[(.ret,⟨(bv (bi (.one hI::.one hI::.one hI::ah (ah (ah (ah (ah (cN [])))))))),[some [hL],some [hI],some [hI],some [hI]]⟩),(.exit 0,⟨(bv (bi (.one hI::.one hI::.any::ah (ah (ah (ah (ah (cN [])))))))),[some [hL],some [hI],some [hI],some [hI]]⟩)]⟩
def ie (d:ct.st.den):Tr (ao ct.xs):=
 .ite (decide (d.1.2.2.2.2.2.2.1=(d.1.2.2.2.2.2.1.length:Int))&&(decide (d.1.2.2.2.2.2.2.2.1=0)&&decide (d.1.2.2.2.2.2.1.length≤256)))
  (.ret (.ret ((),((d.1.1,(d.1.2.1,(d.1.2.2.1,(d.1.2.2.2.1,(bu d.1.2.2.2.2.2.1 d.1.2.2.2.2.1,()))))),d.2)))) .no
def d9 (W:List (bp×cM)×Int×Int×Int)(fd:Bool)(time of wh:Int):ao cH.xs:=
 if W.2.2.2=0 then .pan (.ret ((),((W.2.1,(W.2.2.1,())),(((bL time (W).1 (of,wh,fd)).2.2,()),((time,()),(((bL time (W).1 (of,wh,fd)).1,()),(((bL time (W).1 (of,wh,fd)).2.1,()),()))))))) else .ret ((),((W.2.1,(W.2.2.1,(W.2.2.2,()))),(((bL time (W).1 (of,wh,fd)).2.2,()),((time,()),(((bL time (W).1 (of,wh,fd)).1,()),(((bL time (W).1 (of,wh,fd)).2.1,()),()))))))
def jY (d:cH.st.den):Tr (ao cH.xs):=
 .ite (decide (d.1.2.1=0)&&decide (d.1.1.length≤4294950000)) (.ite (decide ((ax d.1.1 d.1.2.2.1).2.2.2=0)) (.ret (.pan (.ret ((),(((ax d.1.1 d.1.2.2.1).2.1,((ax d.1.1 d.1.2.2.1).2.2.1,())),(((bL d.2.2.1.1 (ax d.1.1 d.1.2.2.1).1 (d.2.2.2.1.1,d.2.2.2.2.1.1,d.2.1.1)).2.2,()),(d.2.2.1,(((bL d.2.2.1.1 (ax d.1.1 d.1.2.2.1).1 (d.2.2.2.1.1,d.2.2.2.2.1.1,d.2.1.1)).1,()),(((bL d.2.2.1.1 (ax d.1.1 d.1.2.2.1).1 (d.2.2.2.1.1,d.2.2.2.2.1.1,d.2.1.1)).2.1,()),()))))))))) (.ret (.ret ((),(((ax d.1.1 d.1.2.2.1).2.1,((ax d.1.1 d.1.2.2.1).2.2.1,((ax d.1.1 d.1.2.2.1).2.2.2,()))),(((bL d.2.2.1.1 (ax d.1.1 d.1.2.2.1).1 (d.2.2.2.1.1,d.2.2.2.2.1.1,d.2.1.1)).2.2,()),(d.2.2.1,(((bL d.2.2.1.1 (ax d.1.1 d.1.2.2.1).1 (d.2.2.2.1.1,d.2.2.2.2.1.1,d.2.1.1)).1,()),(((bL d.2.2.1.1 (ax d.1.1 d.1.2.2.1).1 (d.2.2.2.1.1,d.2.2.2.2.1.1,d.2.1.1)).2.1,()),()))))))))) .no
def ka:Lp:=bP [(3,aA cH jY),(14,aA ct ie)]
def nO {R:Type}(h34:LI)(h35 h36 h37 h38:Int)(h39:List aR.den)(h40 h41:Int)(h42:Bool)(h43 h44 h45 h46 h47 h48 h49 h50:Int)(h51:List aR.den)(next:LI→Int→Int→Int→Int→List aR.den→Int→Int→Bool→Int→Int→Int→Int→Int→Int→Int→Int→List aR.den→Option R)(out:ao ct.xs→Option R):Option R:=bif decide (h41<h40) then bif decide (0≤h41)&&decide (h41<(↑h39.length:Int)) then next (h34) (h35) (h36) (h37) (co h38 (h39.getD h41.toNat (0,(false,[],()),(false,[],()),[],())).1) (h39) (h40) (i64.wrap (h41+1)) (h42) (h43) (h44) (h45) (h46) (h47) (h48) (h49) (h50) (h51) else none else out (.ret ((),((h34,(h35,(h36,(h37,(h38,()))))),((h42,()),((h43,()),((h44,()),((h45,()),((h46,(h47,(h48,(h49,(h50,(h51,())))))),()))))))))
def mp (n:Nat)(h34:LI)(h35 h36 h37 h38:Int)(h39:List aR.den)(h40 h41:Int)(h42:Bool)(h43 h44 h45 h46 h47 h48 h49 h50:Int)(h51:List aR.den):Option (ao ct.xs):=fH tt uY dr ka 4 Tryz.f50 (Kg Tryz.f50 (bI Tryz.f50 0) 0) n (ct.st.mk' ((h34,(h35,(h36,(h37,(h38,(h39,(h40,(h41,())))))))),((h42,()),((h43,()),((h44,()),((h45,()),((h46,(h47,(h48,(h49,(h50,(h51,())))))),()))))))) (bo ct.xs)
theorem Dz (n:Nat)(h34:LI)(h35 h36 h37 h38:Int)(h39:List aR.den)(h40 h41:Int)(h42:Bool)(h43 h44 h45 h46 h47 h48 h49 h50:Int)(h51:List aR.den):mp (n+1) h34 h35 h36 h37 h38 h39 h40 h41 h42 h43 h44 h45 h46 h47 h48 h49 h50 h51=nO h34 h35 h36 h37 h38 h39 h40 h41 h42 h43 h44 h45 h46 h47 h48 h49 h50 h51 (mp n) some:=by kernel_rfl
def qp {R:Type}(h6:LI)(h7 h8:Int)(h9:Bool)(h10 h11 h12:Int)(next:LI→Int→Int→Bool→Int→Int→Int→Option R)(out:ao cH.xs→Option R):Option R:=bif decide (h7<(↑h6.length:Int)) then bif decide (h6.length≤4294960000) then bif (aj h6 h7).2 != 0 then out (.ret ((),((h7,(h8,((aj h6 h7).2,()))),((h9,()),((h10,()),((h11,()),((h12,()),()))))))) else bif decide (0≤h7)&&(decide (h7≤i64.wrap (h7+(aj h6 h7).1))&&decide (i64.wrap (h7+(aj h6 h7).1)≤(↑h6.length:Int))) then bif decide ((List.drop h7.toNat (List.take (i64.wrap (h7+(aj h6 h7).1)).toNat h6)).length≤4294960000) then bif (ap (List.drop h7.toNat (List.take (i64.wrap (h7+(aj h6 h7).1)).toNat h6))).2 != 0 then out (.ret ((),((h7,(h8,((ap (List.drop h7.toNat (List.take (i64.wrap (h7+(aj h6 h7).1)).toNat h6))).2,()))),((h9,()),((h10,()),((h11,()),((h12,()),()))))))) else bif (ap (List.drop h7.toNat (List.take (i64.wrap (h7+(aj h6 h7).1)).toNat h6))).1.1 != h8 then out (.ret ((),((h7,(h8,(190,()))),((h9,()),((h10,()),((h11,()),((h12,()),()))))))) else bif decide (0≤0)&&decide (0<(↑(List.length (ap (List.drop h7.toNat (List.take (i64.wrap (h7+(aj h6 h7).1)).toNat h6))).1.2.2.2.2.2.1):Int)) then (ie ((h6,(h7,(h8,((aj h6 h7).1,((List.getD (ap (List.drop h7.toNat (List.take (i64.wrap (h7+(aj h6 h7).1)).toNat h6))).1.2.2.2.2.2.1 (Int.toNat 0) (0,(false,[],()),(false,[],()),[],())).1,((ap (List.drop h7.toNat (List.take (i64.wrap (h7+(aj h6 h7).1)).toNat h6))).1.2.2.2.2.2.1,((↑(List.length (ap (List.drop h7.toNat (List.take (i64.wrap (h7+(aj h6 h7).1)).toNat h6))).1.2.2.2.2.2.1):Int),(0,())))))))),((h9,()),((h10,()),((h11,()),((h12,()),(((ap (List.drop h7.toNat (List.take (i64.wrap (h7+(aj h6 h7).1)).toNat h6))).1.1,((ap (List.drop h7.toNat (List.take (i64.wrap (h7+(aj h6 h7).1)).toNat h6))).1.2.1,((ap (List.drop h7.toNat (List.take (i64.wrap (h7+(aj h6 h7).1)).toNat h6))).1.2.2.1,((ap (List.drop h7.toNat (List.take (i64.wrap (h7+(aj h6 h7).1)).toNat h6))).1.2.2.2.1,((ap (List.drop h7.toNat (List.take (i64.wrap (h7+(aj h6 h7).1)).toNat h6))).1.2.2.2.2.1,((ap (List.drop h7.toNat (List.take (i64.wrap (h7+(aj h6 h7).1)).toNat h6))).1.2.2.2.2.2.1,())))))),()))))))).run fun y=>match y with | .ret ((),((x85,x86,x87,x88,x89,()),(x90,()),(x91,()),(x92,()),(x93,()),(x94,x95,x96,x97,x98,x99,()),()))=>(bif p5 (x94,x95,x96,x97,x98,x99,()) then next (x85) (i64.wrap (x86+x88)) (i64.wrap (x87+(↑x99.length:Int))) ((bM x91 x94 x99 0 (x92,x93,x90)).2.2) (x91) ((bM x91 x94 x99 0 (x92,x93,x90)).1) ((bM x91 x94 x99 0 (x92,x93,x90)).2.1) else none) else none else none else none else none else out (.pan (.ret ((),((h7,(h8,())),((h9,()),((h10,()),((h11,()),((h12,()),()))))))))
def kZ (n:Nat)(h6:LI)(h7 h8:Int)(h9:Bool)(h10 h11 h12:Int):Option (ao cH.xs):=fH tt uY dr ka 4 Tryz.f50 (bI Tryz.f50 0) n (cH.st.mk' ((h6,(h7,(h8,()))),((h9,()),((h10,()),((h11,()),((h12,()),())))))) (bo cH.xs)
theorem Fs (n:Nat)(h6:LI)(h7 h8:Int)(h9:Bool)(h10 h11 h12:Int):kZ (n+1) h6 h7 h8 h9 h10 h11 h12=qp h6 h7 h8 h9 h10 h11 h12 (kZ n) some:=by kernel_rfl
theorem vK (p q:Int)(fd:Bool)(time of wh:Int):d9 ([],p,q,0) fd time of wh=.pan (.ret ((),((p,(q,())),((fd,()),((time,()),((of,()),((wh,()),()))))))):=by
 unfold d9;rw[if_pos rfl];rfl
theorem iO {w':Int}(h:w'≠0)(p q:Int)(fd:Bool)(time of wh:Int):d9 ([],p,q,w') fd time of wh=.ret ((),((p,(q,(w',()))),((fd,()),((time,()),((of,()),((wh,()),())))))):=by
 unfold d9;rw[if_neg h];rfl
theorem vJ (e:bp)(x:cM)(W:List (bp×cM)×Int×Int×Int)(fd:Bool)(time of wh:Int):d9 ((e,x)::W.1,W.2) fd time of wh=d9 W (bM time x.1 x.2.2.2.2.2.1 0 (of,wh,fd)).2.2 time (bM time x.1 x.2.2.2.2.2.1 0 (of,wh,fd)).1 (bM time x.1 x.2.2.2.2.2.1 0 (of,wh,fd)).2.1:=by
 unfold d9;rfl
theorem wu (b:LI)(p q m:Int)(rs:List bq)(hl:rs.length≤256)(fd:Bool)(time of wh x1 x2 x3 x4 x5:Int)(xs:List bq):∀(k i:Nat) (t:Int),rs.length<i+k→i≤rs.length→
  mp k b p q m t rs (rs.length:Int) i fd time of wh x1 x2 x3 x4 x5 xs=some (.ret ((),((b,(p,(q,(m,(bu (rs.drop i) t,()))))),((fd,()),((time,()),((of,()),((wh,()),((x1,(x2,(x3,(x4,(x5,(xs,())))))),())))))))):=by
 intro k
 induction k with
 |zero=>intro i t h;omega
 |succ k ih=>
  intro i t h1 h2
  rw[Dz]
  unfold nO
  by_cases hi:i<rs.length
  rotate_left
  ·refine bF (decide_eq_false (by omega)) ?_
   rw[zI (by omega)]
   rfl
  refine bT (decide_eq_true (by omega)) ?_
  refine bT (by simpa using hi) ?_
  have e:List.getD rs (i:Int).toNat (0,(false,[],()),(false,[],()),[],())=rs[i]:=by rw[zG,aB hi]
  rw[e,zE hi,ae (n:=(i:Int)+1) (by omega) (by omega)]
  exact ih (i+1) _ (by omega) (by omega)
theorem An (b:LI)(hb:bf b)(hl:b.length≤4294950000):∀(k:Nat) (p q:Int) (fd:Bool) (time of wh:Int),0≤p→p≤b.length→(b.length:Int)<p+k→
  kZ k b p q fd time of wh=some (d9 (fh b k p q) fd time of wh):=by
 intro k
 induction k with
 |zero=>intro p q fd time of wh h0 h1 h2;omega
 |succ k ih=>
  intro p q fd time of wh h0 h1 h2
  rw[Fs]
  unfold qp fh
  by_cases c1:p<b.length
  rotate_left
  ·refine bF (decide_eq_false c1) ?_
   rw[if_pos (by omega),vK]
  refine bT (decide_eq_true c1) ?_
  refine bT (decide_eq_true (by omega)) ?_
  rw[if_neg (by omega:¬(b.length:Int)≤p)]
  by_cases c2:(aj b p).2=0
  rotate_left
  ·refine bT (by simpa using c2) ?_
   rw[if_pos c2,iO c2]
  refine bF (by rw[c2];rfl) ?_
  rw[if_neg (fun h=>h c2)]
  have hm:=hY c2
  have hx:=kr (mY hb p.toNat (aj b p).1.toNat)
  generalize (aj b p).1=m at *
  have hd:List.drop p.toNat (List.take (p+m).toNat b)=(b.drop p.toNat).take m.toNat:=by
   rw[List.drop_take,show (p+m).toNat - p.toNat=m.toNat by omega]
  rw[ae (n:=p+m) (by omega) (by omega),hd]
  refine bT (by simp only[zA,zB];omega) ?_
  refine bT (decide_eq_true (by rw[List.length_take,List.length_drop];omega)) ?_
  generalize ap ((b.drop p.toNat).take m.toNat)=D at *
  obtain ⟨⟨(x1:Int),(x2:Int),(x3:Int),(x4:Int),(x5:Int),(rs:List bq),⟨⟩⟩,(z:Int)⟩:=D
  by_cases c3:z=0
  rotate_left
  ·refine bT (by simpa using c3) ?_
   rw[if_pos c3,iO c3]
  refine bF (by simpa using c3) ?_
  rw[if_neg (fun h=>h c3)]
  obtain ⟨y1,y2,y3,y4⟩:=hx c3
  have y1:0≤x1:=y1
  have y2:x1≤4611686018427387648:=y2
  have y3:1≤rs.length:=y3
  have y4:rs.length≤256:=y4
  by_cases c4:x1=q
  rotate_left
  ·refine bT (by simpa using c4) ?_
   rw[if_pos c4,iO (show (190:Int)≠0 by decide)]
  refine bF (by simpa using c4) ?_
  rw[if_neg (fun h=>h c4)]
  refine bT (by simp only[zA,zB];exact ⟨by decide,by show 0<(rs.length:Int);omega⟩) ?_
  unfold ie
  refine bT (by simp only[zA,zB];exact ⟨trivial,trivial,y4⟩) ?_
  have eL:bu rs (List.getD rs (Int.toNat 0) (0,(false,[],()),(false,[],()),[],())).1=ch rs:=by
   cases rs with
   |nil=>simp at y3
   |cons r l=>
    show bu l (co r.1 r.1)=bu l r.1
    have:co r.1 r.1=r.1:=by unfold co;split <;> rfl
    rw[this]
  have hB:p5 (x1,(x2,(x3,(x4,(x5,(rs,()))))))=true:=by
   unfold p5
   simp only[zA,zB]
   exact ⟨y1,y2,y4⟩
  refine (aa hB _ _).trans ?_
  show kZ k b (i64.wrap (p+m)) (i64.wrap (q+(rs.length:Int))) (bM time x1 rs 0 (of,wh,fd)).2.2 time (bM time x1 rs 0 (of,wh,fd)).1 (bM time x1 rs 0 (of,wh,fd)).2.1=_
  rw[ae (n:=p+m) (by omega) (by omega),ae (n:=q+(rs.length:Int)) (by omega) (by omega)]
  refine (ih (p+m) (q+(rs.length:Int)) _ time _ _ (by omega) (by omega) (by omega)).trans ?_
  exact congrArg some (vJ _ (x1,(x2,(x3,(x4,(x5,(rs,())))))) _ fd time of wh).symm
def ul (a0:LI)(a1:Int)(a2:Bool)(a3 a4 a5:Int):Option iB.Res:=(jY ((a0,(0,(a1,()))),((a2,()),((a3,()),((a4,()),((a5,()),())))))).run fun y=>match y with | .ret ((),((x113,x114,x115,()),(x116,()),(x117,()),(x118,()),(x119,()),()))=>(oR ((x113,x114,x115,()),(x116,()),(x117,()),(x118,()),(x119,()),())) | .pan (.ret ((),((x120,x121,()),(x122,()),(x123,()),(x124,()),(x125,()),())))=>(oR ((x120,x121,0,()),(x122,()),(x123,()),(x124,()),(x125,()),()))
theorem Jy (a0:LI)(a1:Int)(a2:Bool)(a3 a4 a5:Int):Io.run tt uY dr ka iB Tryz.f50 ((a0,a1,(),()),(a2,()),(a3,()),(a4,()),(a5,()),())=ul a0 a1 a2 a3 a4 a5:=by kernel_rfl
theorem oe:HcsOk prog B8:=.cons AT (.cons Mo (.cons Mq .nil))
theorem Mt:HcOk prog 50 (ai iB yV):=by
 refine bQ oe (lp:=ka) (fn:=Tryz.f50) iB (.step (h0:=aA cH jY) (by kernel_rfl) (fR oe (lp:=ka) (fn:=Tryz.f50) (.step (h0:=aA ct ie) (by kernel_rfl) (fR oe (lp:=ka) (fn:=Tryz.f50) (.done (by kernel_rfl)) ct ie ?_) (.done (by kernel_rfl))) cH jY ?_) (.done (by kernel_rfl))) yV ?_
 ·rintro ⟨⟨(b:LI),(p:Int),(q:Int),(m:Int),(t:Int),(rs:List bq),(j:Int),(i:Int),⟨⟩⟩,⟨⟨(fd:Bool),⟨⟩⟩,⟨(time:Int),⟨⟩⟩,⟨(of:Int),⟨⟩⟩,⟨(wh:Int),⟨⟩⟩,⟨(x1:Int),(x2:Int),(x3:Int),(x4:Int),(x5:Int),(xs:List bq),⟨⟩⟩,⟨⟩⟩⟩ y hw hy
  obtain ⟨hg,hy⟩:=Tr.guard hy
  simp only[zA,zB] at hg
  obtain ⟨h1,h2,h3⟩:=hg
  have h1:j=(rs.length:Int):=h1
  have h2:i=0:=h2
  have h3:rs.length≤256:=h3
  subst h1 h2
  refine ⟨rs.length+1,(wu b p q m rs h3 fd time of wh x1 x2 x3 x4 x5 xs (rs.length+1) 0 t (by omega) (Nat.zero_le _)).trans ?_⟩
  rw[← hy,List.drop_zero];rfl
 ·rintro ⟨⟨(b:LI),(p:Int),(q:Int),⟨⟩⟩,⟨⟨(fd:Bool),⟨⟩⟩,⟨(time:Int),⟨⟩⟩,⟨(of:Int),⟨⟩⟩,⟨(wh:Int),⟨⟩⟩,⟨⟩⟩⟩ y hw hy
  obtain ⟨hg,hy⟩:=Tr.guard hy
  simp only[zA,zB] at hg
  obtain ⟨h1,h2⟩:=hg
  have h1:p=0:=h1
  have h2:b.length≤4294950000:=h2
  subst h1
  refine ⟨b.length+1,(An b (bytesOf hw.1.1) h2 (b.length+1) 0 q fd time of wh (by omega) (by omega) (by omega)).trans ?_⟩
  unfold d9
  show some (if (ax b q).2.2.2=0 then _ else _)=_
  by_cases c:(ax b q).2.2.2=0
  ·rw[if_pos c]
   exact ((aa (decide_eq_true c) _ _).symm.trans hy)
  ·rw[if_neg c]
   exact ((af (decide_eq_false c) _ _).symm.trans hy)
 ·rintro ⟨⟨(b:LI),(q:Int),⟨⟩,⟨⟩⟩,⟨⟨(fd:Bool),⟨⟩⟩,⟨(time:Int),⟨⟩⟩,⟨(of:Int),⟨⟩⟩,⟨(wh:Int),⟨⟩⟩,⟨⟩⟩⟩ out hw ho
  obtain ⟨hg,ho⟩:=Tr.guard ho
  have h2:b.length≤4294950000:=of_decide_eq_true hg
  cases ho
  refine (Jy b q fd time of wh).trans ?_
  unfold ul jY
  refine bT (by simp only[zA,zB];exact ⟨trivial,h2⟩) ?_
  by_cases c:(ax b q).2.2.2=0
  ·refine bT (decide_eq_true c) ?_
   show _=oR (((ax b q).2.1,((ax b q).2.2.1,((ax b q).2.2.2,()))),(((bL time (ax b q).1 (of,wh,fd)).2.2,()),((time,()),(((bL time (ax b q).1 (of,wh,fd)).1,()),(((bL time (ax b q).1 (of,wh,fd)).2.1,()),())))))
   rw[c];rfl
  ·exact af (decide_eq_false c) _ _
abbrev kE:Io:=⟨[dL,cO,cO],[],[],[cO,cO,dB],none⟩
def Ea (d:kE.In):Tr kE.Res:=.ite (decide (d.1.1.length≤4294950000)) (.ret (.ret (((rB d.1.1 d.1.2.1 d.1.2.2.1).1,((rB d.1.1 d.1.2.1 d.1.2.2.1).2.1,((rB d.1.1 d.1.2.1 d.1.2.2.1).2.2,()))),()))) .no
abbrev Gf:List (Nat×Hc):=[(50,ai iB yV)]
def OI:Hd:=bB Gf
def Hs:Lp:=bP []
def wW (a0:LI)(a1 a2:Int):Option kE.Res:=bif decide (a0.length≤4294950000) then oR (((bL a2 (ax a0 a1).1 (0,0,false)).1,(bL a2 (ax a0 a1).1 (0,0,false)).2.1,(bL a2 (ax a0 a1).1 (0,0,false)).2.2,()),()) else none
theorem MY (a0:LI)(a1 a2:Int):Io.run tt OI dr Hs kE Tryz.f18 ((a0,a1,a2,()),())=wW a0 a1 a2:=by kernel_rfl
theorem Pp:HcOk prog 18 (ai kE Ea):=by
 refine bQ (cs:=Gf) (.cons Mt .nil) (lp:=Hs) (fn:=Tryz.f18) kE (.done (by kernel_rfl)) Ea ?_
 rintro ⟨⟨(b:LI),(base:Int),(time:Int),⟨⟩⟩,⟨⟩⟩ out hw ho
 obtain ⟨hg,ho⟩:=Tr.guard ho
 cases ho
 refine (MY b base time).trans ?_
 unfold wW
 exact aa hg _ _
abbrev iz:Io:=⟨[dI,.ptr 0 0,.ptr 1 0],[Mj,[cO]],[],[dB],none⟩
def yR (d:iz.In):Tr iz.Res:=.ite (decide ((0:Int)≤d.1.1)&&decide (d.1.1<(d.2.1.1.length:Int))) (.ret (.ret ((decide (d.2.2.1.1<(d.2.1.1.getD d.1.1.toNat eV).1),()),d.2))) .no
abbrev B6:List (Nat×Hc):=[]
def LD:Hd:=bB B6
def C7:Lp:=bP []
def uj (a0:Int)(a1:List bX.den)(a2 a3 a4 a5:Int):Option iz.Res:=bif decide (0≤a0)&&decide (a0<(↑a1.length:Int)) then oR ((decide (a5<(a1.getD a0.toNat (0,0,0,0,0,0,0,0,())).1),()),(a1,a2,a3,a4,()),(a5,()),()) else none
theorem Jw (a0:Int)(a1:List bX.den)(a2 a3 a4 a5:Int):Io.run tt LD dr C7 iz Tryz.f46 ((a0,(),(),()),(a1,a2,a3,a4,()),(a5,()),())=uj a0 a1 a2 a3 a4 a5:=by kernel_rfl
theorem Mr:HcOk prog 46 (ai iz yR):=by
 refine bQ (cs:=B6) HcsOk.nil (lp:=C7) (fn:=Tryz.f46) iz (.done (by kernel_rfl)) yR ?_
 rintro ⟨⟨(i:Int),⟨⟩,⟨⟩,⟨⟩⟩,⟨⟨(es:List bp),(l:Int),(n:Int),(w:Int),⟨⟩⟩,⟨(f:Int),⟨⟩⟩,⟨⟩⟩⟩ out hw ho
 obtain ⟨hg,ho⟩:=Tr.guard ho
 cases ho
 refine (Jw i es l n w f).trans ?_
 unfold uj
 exact aa hg _ _
abbrev f5:Io:=⟨[dI,.fnc 46 false [0,1]],[Mj,[cO]],[],[dI],none⟩
def tL (d:f5.In):Tr f5.Res:=.ite (decide (d.1.1=(d.2.1.1.length:Int))&&(decide (d.2.1.1.length≤4294960000)&&fN d.2.1.1)) (.ret (.ret (((aL d.2.2.1.1 d.2.1.1:Int),()),d.2))) .no
abbrev xJ:List (Nat×Hc):=[(46,ai iz yR)]
def yh:Hd:=bB xJ
abbrev cr:Lo:=⟨⟨[.any,.one (.fnp 46 false [0,1]),.any,.any,.any,.one hI,.one hI,.any,.any,.any,.any,.any,.any,.any,.any,.any,.any,.any,.any,.any,.any,.any,.any,.any,.any,.any],[some [.hol (.sl 46 bX),hI,hI,hI],some [hI]]⟩,[(.exit 0,⟨(.any::bv (.one hI::ah (bv []))),[some [.hol (.sl 46 bX),hI,hI,hI],some [hI]]⟩)]⟩
def ic (d:cr.st.den):Tr (ao cr.xs):=
 .ite (decide (d.1.1=0)&&(decide (d.1.2.1=(d.2.1.1.length:Int))&&(decide (d.2.1.1.length≤4294960000)&&fN d.2.1.1))) (.ret (.ret ((),(((aL d.2.2.1.1 d.2.1.1:Int),()),d.2)))) .no
def nd:Lp:=bP [(3,aA cr ic)]
def nN {R:Type}(h6 h7:Int)(h8:List bX.den)(h9 h10 h11 h12:Int)(next:Int→Int→List bX.den→Int→Int→Int→Int→Option R)(out:ao cr.xs→Option R):Option R:=bif decide (h6<h7) then bif decide (0≤i64.wrap (fY u64 (u64.wrap (i64.wrap (h6+h7))) 1))&&decide (i64.wrap (fY u64 (u64.wrap (i64.wrap (h6+h7))) 1)<(↑h8.length:Int)) then bif !decide (h12<(h8.getD (i64.wrap (fY u64 (u64.wrap (i64.wrap (h6+h7))) 1)).toNat (0,0,0,0,0,0,0,0,())).1) then next (i64.wrap (i64.wrap (fY u64 (u64.wrap (i64.wrap (h6+h7))) 1)+1)) (h7) (h8) (h9) (h10) (h11) (h12) else next (h6) (i64.wrap (fY u64 (u64.wrap (i64.wrap (h6+h7))) 1)) (h8) (h9) (h10) (h11) (h12) else none else out (.ret ((),((h6,()),((h8,(h9,(h10,(h11,())))),((h12,()),())))))
def mo (n:Nat)(h6 h7:Int)(h8:List bX.den)(h9 h10 h11 h12:Int):Option (ao cr.xs):=fH tt yh dr nd 2 Tryz.f45 (bI Tryz.f45 0) n (cr.st.mk' ((h6,(h7,())),((h8,(h9,(h10,(h11,())))),((h12,()),())))) (bo cr.xs)
theorem Dy (n:Nat)(h6 h7:Int)(h8:List bX.den)(h9 h10 h11 h12:Int):mo (n+1) h6 h7 h8 h9 h10 h11 h12=nN h6 h7 h8 h9 h10 h11 h12 (mo n) some:=by kernel_rfl
theorem NE {x:Int}(h0:0≤x)(h1:x≤9223372036854775807):i64.wrap (fY u64 (u64.wrap (i64.wrap x)) 1)=x / 2:=by
 have e1:u64.wrap x=x:=bN (by simp[bC,IntKind.min,IntKind.max,IntKind.signed,IntKind.bits];omega)
 have e2:fY u64 x 1=u64.wrap (x.fdiv 2):=rfl
 rw[ae (n:=x) (by omega) h1,e1,e2,Int.fdiv_eq_ediv_of_nonneg _ (by decide)]
 have e3:u64.wrap (x / 2)=x / 2:=bN (by simp[bC,IntKind.min,IntKind.max,IntKind.signed,IntKind.bits];omega)
 rw[e3,ae (by omega) (by omega)]
theorem wt (es:List bp)(l n w f:Int)(hl:es.length≤4294960000)(hs:fN es=true):∀(k i j:Nat),j<i+k→i≤aL f es→aL f es≤j→j≤es.length→
  mo k i j es l n w f=some (.ret ((),(((aL f es:Int),()),((es,(l,(n,(w,())))),((f,()),()))))):=by
 intro k
 induction k with
 |zero=>intro i j h1 h2 h3 h4;omega
 |succ k ih=>
  intro i j h1 h2 h3 h4
  rw[Dy]
  unfold nN
  by_cases c:i<j
  rotate_left
  ·refine bF (decide_eq_false (by omega)) ?_
   rw[show i=aL f es by omega]
  refine bT (decide_eq_true (by omega)) ?_
  rw[NE (x:=(i:Int)+(j:Int)) (by omega) (by omega)]
  have hh:((i:Int)+(j:Int)) / 2=(((i+j) / 2:Nat):Int):=by omega
  rw[hh]
  have m1:i≤(i+j) / 2:=by omega
  have m2:(i+j) / 2<j:=by omega
  generalize (i+j) / 2=m at *
  have hm:m<es.length:=by omega
  refine bT (by simpa using hm) ?_
  rw[zG,aB hm,ae (n:=(m:Int)+1) (by omega) (by omega)]
  by_cases c2:f<es[m].1
  ·refine bF (by rw[decide_eq_true c2];rfl) ?_
   refine ih i m (by omega) h2 ?_ (by omega)
   rcases Nat.lt_or_ge m (aL f es) with h | h
   ·exact absurd (Iy h) (by omega)
   ·exact h
  ·refine bT (by rw[decide_eq_false c2];rfl) ?_
   refine ih (m+1) j (by omega) ?_ h3 h4
   rcases Nat.lt_or_ge m (aL f es) with h | h
   ·exact h
   ·exact absurd (Ix hs hm h) c2
def rM (a0:Int)(a1:List bX.den)(a2 a3 a4 a5:Int):Option f5.Res:=(ic ((0,(a0,())),((a1,(a2,(a3,(a4,())))),((a5,()),())))).run fun y=>match y with | .ret ((),((x33,()),(x34,x35,x36,x37,()),(x38,()),()))=>(oR ((x33,()),(x34,x35,x36,x37,()),(x38,()),()))
theorem E9 (a0:Int)(a1:List bX.den)(a2 a3 a4 a5:Int):Io.run tt yh dr nd f5 Tryz.f45 ((a0,(),()),(a1,a2,a3,a4,()),(a5,()),())=rM a0 a1 a2 a3 a4 a5:=by kernel_rfl
theorem sb:HcsOk prog xJ:=.cons Mr .nil
theorem Jd:HcOk prog 45 (ai f5 tL):=by
 refine bQ sb (lp:=nd) (fn:=Tryz.f45) f5 (.step (h0:=aA cr ic) (by kernel_rfl) (fR sb (lp:=nd) (fn:=Tryz.f45) (.done (by kernel_rfl)) cr ic ?_) (.done (by kernel_rfl))) tL ?_
 ·rintro ⟨⟨(i:Int),(j:Int),⟨⟩⟩,⟨⟨(es:List bp),(l:Int),(n:Int),(w:Int),⟨⟩⟩,⟨(f:Int),⟨⟩⟩,⟨⟩⟩⟩ y hw hy
  obtain ⟨hg,hy⟩:=Tr.guard hy
  simp only[zA,zB] at hg
  obtain ⟨h1,h2,h3,h4⟩:=hg
  have h1:i=((0:Nat):Int):=h1
  have h2:j=(es.length:Int):=h2
  have h3:es.length≤4294960000:=h3
  subst h1 h2
  refine ⟨es.length+1,(wt es l n w f h3 h4 (es.length+1) 0 es.length (by omega) (Nat.zero_le _) (tF f es) (Nat.le_refl _)).trans ?_⟩
  rw[← hy];rfl
 ·rintro ⟨⟨(m:Int),⟨⟩,⟨⟩⟩,⟨⟨(es:List bp),(l:Int),(n:Int),(w:Int),⟨⟩⟩,⟨(f:Int),⟨⟩⟩,⟨⟩⟩⟩ out hw ho
  obtain ⟨hg,ho⟩:=Tr.guard ho
  simp only[zA,zB] at hg
  obtain ⟨h1,h2,h3⟩:=hg
  cases ho
  refine (E9 m es l n w f).trans ?_
  unfold rM ic
  refine bT (by simp only[zA,zB];exact ⟨trivial,h1,h2,h3⟩) ?_
  rfl
abbrev jg:Io:=⟨[dL,cO,cO,dI],[],[],[dO,dI],none⟩
def yQ (d:jg.In):Tr jg.Res:=.ite (decide (d.1.1.length≤4294950000)) (.ret (.ret (((cj d.1.1 d.1.2.1 d.1.2.2.1 d.1.2.2.2.1).1,((cj d.1.1 d.1.2.1 d.1.2.2.1 d.1.2.2.2.1).2,())),()))) .no
abbrev Gg:List (Nat×Hc):=[(25,ai jh yS),(45,ai f5 tL),(47,ai eF pb)]
def G5:Hd:=bB Gg
abbrev da:Lo:=⟨⟨(.one (.hol (.sl 5 (Ty.int u8)))::bi (.one hI::cN (.one hI::.one hI::ah (ah (cN (bv (.one (.hol (.sl 46 bX))::.one hI::.one hI::.any::ah (bv (bi []))))))))),[]⟩,[(.exit 1,⟨(.one (.hol (.sl 5 (Ty.int u8)))::.any::cN (bi (.one hI::.one hI::ah (ah (ah (ah (bv (bi [])))))))),[]⟩)]⟩
def jX (d:da.st.den):Tr (ao da.xs):=
 .ite (decide (d.1.2.2.2.2.2.1=(d.1.2.2.2.2.1.length:Int))&&(decide (d.1.2.2.2.2.2.2.1=0)&&(decide ((0:Int)≤d.1.2.2.1)&&(decide (d.1.2.2.1≤(4294960000:Int))&&p9 d.1.2.2.2.2.1))))
  (.ret (.ret ((),((d.1.1,(d.1.2.2.1,(cJ d.1.2.2.1 d.1.2.1 d.1.2.2.2.2.1 d.1.2.2.2.1,()))),())))) .no
def tf:Lp:=bP [(11,aA da jX)]
def qo {R:Type}(h4:LI)(h5 h6 h7:Int)(h8:List bX.den)(h9 h10:Int)(next:LI→Int→Int→Int→List bX.den→Int→Int→Option R)(out:ao da.xs→Option R):Option R:=bif decide (h10<h9) then bif decide (0≤h10)&&decide (h10<(↑h8.length:Int)) then bif decide (h5<i64.wrap (i64.wrap ((h8.getD h10.toNat (0,0,0,0,0,0,0,0,())).2.2.1+(h8.getD h10.toNat (0,0,0,0,0,0,0,0,())).2.2.2.1) - h6)) then out (.ret ((),((h4,(h6,(h7,()))),()))) else next (h4) (h5) (h6) (i64.wrap ((h8.getD h10.toNat (0,0,0,0,0,0,0,0,())).2.2.1+(h8.getD h10.toNat (0,0,0,0,0,0,0,0,())).2.2.2.1)) (h8) (h9) (i64.wrap (h10+1)) else none else out (.ret ((),((h4,(h6,(h7,()))),())))
def oG (n:Nat)(h4:LI)(h5 h6 h7:Int)(h8:List bX.den)(h9 h10:Int):Option (ao da.xs):=fH tt G5 dr tf 0 Tryz.f15 (bI Tryz.f15 0) n (da.st.mk' ((h4,(h5,(h6,(h7,(h8,(h9,(h10,()))))))),())) (bo da.xs)
theorem Fq (n:Nat)(h4:LI)(h5 h6 h7:Int)(h8:List bX.den)(h9 h10:Int):oG (n+1) h4 h5 h6 h7 h8 h9 h10=qo h4 h5 h6 h7 h8 h9 h10 (oG n) some:=by kernel_rfl
theorem Am (b:LI)(most a:Int)(ha:0≤a)(ha2:a≤4294960000)(es:List bp)(hl:es.length≤maxLen)(hk:p9 es=true):∀(k i:Nat) (e:Int),es.length<i+k→i≤es.length→
  oG k b most a e es (es.length:Int) i=some (.ret ((),((b,(a,(cJ a most (es.drop i) e,()))),()))):=by
 intro k
 induction k with
 |zero=>intro i e h;omega
 |succ k ih=>
  intro i e h1 h2
  rw[Fq]
  unfold qo
  by_cases hi:i<es.length
  rotate_left
  ·refine bF (decide_eq_false (by omega)) ?_
   rw[zI (by omega)]
   rfl
  refine bT (decide_eq_true (by omega)) ?_
  refine bT (by simpa using hi) ?_
  have e1:List.getD es (i:Int).toNat (0,0,0,0,0,0,0,0,())=es[i]:=by rw[zG,aB hi]
  have hx:=List.all_eq_true.1 hk es[i] (List.getElem_mem hi)
  simp only[zA,zB] at hx
  obtain ⟨x1,x2,x3,x4⟩:=hx
  rw[e1,bb hi hl,ae (n:=es[i].2.2.1+es[i].2.2.2.1) (by omega) (by omega),ae (n:=es[i].2.2.1+es[i].2.2.2.1 - a) (by omega) (by omega),zE hi]
  have e2:cJ a most (es[i]::es.drop (i+1)) e=if most<es[i].2.2.1+es[i].2.2.2.1 - a then e else cJ a most (es.drop (i+1)) (es[i].2.2.1+es[i].2.2.2.1):=rfl
  rw[e2]
  by_cases c:most<es[i].2.2.1+es[i].2.2.2.1 - a
  ·refine bT (decide_eq_true c) ?_
   rw[if_pos c]
  ·refine bF (decide_eq_false c) ?_
   rw[if_neg c]
   exact ih (i+1) _ (by omega) (by omega)
def wX (a0:LI)(a1 a2 a3:Int):Option jg.Res:=bif decide (a0.length≤4294950000) then bif decide (a2<a1) then oR (([],221,()),()) else bif decide ((aO a0 a1).2.2.1<a2) then oR (([],221,()),()) else bif a2 == (aO a0 a1).2.2.1 then oR (([],0,()),()) else bif decide ((↑(List.length (aO a0 a1).1):Int)=(↑(List.length (aO a0 a1).1):Int))&&(decide (List.length (aO a0 a1).1≤4294960000)&&fN (aO a0 a1).1) then bif decide (0≤i64.wrap ((↑(aL a2 (aO a0 a1).1):Int) - 1))&&decide (i64.wrap ((↑(aL a2 (aO a0 a1).1):Int) - 1)<(↑(List.length (aO a0 a1).1):Int)) then bif decide (0≤i64.wrap ((↑(aL a2 (aO a0 a1).1):Int) - 1))&&decide (i64.wrap ((↑(aL a2 (aO a0 a1).1):Int) - 1)<(↑(List.length (aO a0 a1).1):Int)) then bif decide (0≤i64.wrap (i64.wrap ((↑(aL a2 (aO a0 a1).1):Int) - 1)+1))&&(decide (i64.wrap (i64.wrap ((↑(aL a2 (aO a0 a1).1):Int) - 1)+1)≤(↑(List.length (aO a0 a1).1):Int))&&decide ((↑(List.length (aO a0 a1).1):Int)≤(↑(List.length (aO a0 a1).1):Int))) then (jX ((a0,(a3,((List.getD (aO a0 a1).1 (i64.wrap ((↑(aL a2 (aO a0 a1).1):Int) - 1)).toNat (0,0,0,0,0,0,0,0,())).2.2.1,(i64.wrap ((List.getD (aO a0 a1).1 (i64.wrap ((↑(aL a2 (aO a0 a1).1):Int) - 1)).toNat (0,0,0,0,0,0,0,0,())).2.2.1+(List.getD (aO a0 a1).1 (i64.wrap ((↑(aL a2 (aO a0 a1).1):Int) - 1)).toNat (0,0,0,0,0,0,0,0,())).2.2.2.1),(List.drop (i64.wrap (i64.wrap ((↑(aL a2 (aO a0 a1).1):Int) - 1)+1)).toNat (List.take (↑(List.length (aO a0 a1).1):Int).toNat (aO a0 a1).1),((↑(List.drop (i64.wrap (i64.wrap ((↑(aL a2 (aO a0 a1).1):Int) - 1)+1)).toNat (List.take (↑(List.length (aO a0 a1).1):Int).toNat (aO a0 a1).1)).length:Int),(0,()))))))),())).run fun y=>match y with | .ret ((),((x24,x25,x26,()),()))=>(bif decide (0≤x25)&&(decide (x25≤x26)&&decide (x26≤(↑x24.length:Int))) then bif decide ((List.drop x25.toNat (List.take x26.toNat x24)).length≤4294967296) then oR ((List.drop x25.toNat (List.take x26.toNat x24),0,()),()) else none else none) else none else none else none else none else none
theorem MZ (a0:LI)(a1 a2 a3:Int):Io.run tt G5 dr tf jg Tryz.f15 ((a0,a1,a2,a3,()),())=wX a0 a1 a2 a3:=by kernel_rfl
theorem xZ:HcsOk prog Gg:=.cons HZ (.cons Jd (.cons vq .nil))
theorem HY:HcOk prog 15 (ai jg yQ):=by
 refine bQ xZ (lp:=tf) (fn:=Tryz.f15) jg (.step (h0:=aA da jX) (by kernel_rfl) (fR xZ (lp:=tf) (fn:=Tryz.f15) (.done (by kernel_rfl)) da jX ?_) (.done (by kernel_rfl))) yQ ?_
 ·rintro ⟨⟨(b:LI),(most:Int),(a:Int),(e:Int),(es:List bp),(m:Int),(i:Int),⟨⟩⟩,⟨⟩⟩ y hw hy
  obtain ⟨hg,hy⟩:=Tr.guard hy
  simp only[zA,zB] at hg
  obtain ⟨h1,h2,h3,h4,h5⟩:=hg
  have h1:m=(es.length:Int):=h1
  have h2:i=0:=h2
  subst h1 h2
  refine ⟨es.length+1,(Am b most a h3 h4 es hw.1.2.2.2.2.1.1 h5 (es.length+1) 0 e (by omega) (Nat.zero_le _)).trans ?_⟩
  rw[← hy,List.drop_zero];rfl
 ·rintro ⟨⟨(b:LI),(base:Int),(f:Int),(most:Int),⟨⟩⟩,⟨⟩⟩ out hw ho
  obtain ⟨hg,ho⟩:=Tr.guard ho
  have hg2:b.length≤4294950000:=of_decide_eq_true hg
  cases ho
  have hb:bf b:=bytesOf hw.1.1
  refine (MZ b base f most).trans ?_
  show _=oR (((cj b base f most).1,((cj b base f most).2,())),())
  unfold wX
  refine (aa hg _ _).trans ?_
  have hN:(aO b base).2.2.1=(ax b base).2.2.1:=rfl
  have hE:(aO b base).1=(ax b base).1.map (·.1):=rfl
  have eS:cj b base f most=if f<base∨(ax b base).2.2.1<f then ([],221) else if f=(ax b base).2.2.1 then ([],0) else ((b.take (cJ ((((ax b base).1.map (·.1)).getD (aL f ((ax b base).1.map (·.1)) - 1) eV).2.2.1) most (((ax b base).1.map (·.1)).drop (aL f ((ax b base).1.map (·.1)))) (((((ax b base).1.map (·.1)).getD (aL f ((ax b base).1.map (·.1)) - 1) eV).2.2.1)+((((ax b base).1.map (·.1)).getD (aL f ((ax b base).1.map (·.1)) - 1) eV).2.2.2.1))).toNat).drop ((((ax b base).1.map (·.1)).getD (aL f ((ax b base).1.map (·.1)) - 1) eV).2.2.1).toNat,0):=rfl
  rw[eS,hN,hE]
  by_cases c1:f<base
  ·refine bT (decide_eq_true c1) ?_
   rw[if_pos (.inl c1)]
  refine bF (decide_eq_false c1) ?_
  by_cases c2:(ax b base).2.2.1<f
  ·refine bT (decide_eq_true c2) ?_
   rw[if_pos (.inr c2)]
  refine bF (decide_eq_false c2) ?_
  rw[if_neg (by omega)]
  by_cases c3:f=(ax b base).2.2.1
  ·refine bT (by simpa using c3) ?_
   rw[if_pos c3]
  refine bF (by simpa using c3) ?_
  rw[if_neg c3]
  obtain ⟨ht,_,_⟩:=wm hb base
  obtain ⟨g1,g2,_,_,_,_⟩:=ht.ok (by omega) (Int.le_refl 0)
  have hlen:=ht.len (by omega)
  obtain ⟨u,k1,k2,k3,k4,k5,k6,k7,k8⟩:=Qe hb hg2 most (by omega) (show f<(ax b base).2.2.1 by omega) rfl
  have g3:p9 (((ax b base).1.map (·.1)).drop (u+1))=true:=List.all_eq_true.2 fun x hx=>List.all_eq_true.1 g1 x (List.mem_of_mem_drop hx)
  generalize (ax b base).1.map (·.1)=es at *
  rw[k1]
  have hz:List.getD es (u+1 - 1) eV=es[u]:=by rw[Nat.add_sub_cancel];exact aB k2
  rw[hz]
  refine bT (by simp only[zA,zB];exact ⟨trivial,by omega,g2⟩) ?_
  rw[ae (n:=((u+1:Nat):Int) - 1) (by omega) (by omega),show (((u+1:Nat):Int) - 1)=(u:Int) by omega,ae (n:=(u:Int)+1) (by omega) (by omega),show ((u:Int)+1).toNat=u+1 by omega,zG,zG,List.take_length,aB k2]
  refine bT (by simp only[zA,zB];omega) ?_
  refine bT (by simp only[zA,zB];omega) ?_
  refine bT (by simp only[zA,zB];omega) ?_
  rw[ae (n:=es[u].2.2.1+es[u].2.2.2.1) (by omega) (by omega)]
  unfold jX
  refine bT (by simp only[zA,zB];exact ⟨trivial,trivial,k3,(by show es[u].2.2.1≤(4294960000:Int);omega),g3⟩) ?_
  show (bif decide (0≤es[u].2.2.1)&&(decide (es[u].2.2.1≤cJ es[u].2.2.1 most (es.drop (u+1)) (es[u].2.2.1+es[u].2.2.2.1))&&decide (cJ es[u].2.2.1 most (es.drop (u+1)) (es[u].2.2.1+es[u].2.2.2.1)≤(b.length:Int))) then bif decide ((List.drop es[u].2.2.1.toNat (List.take (cJ es[u].2.2.1 most (es.drop (u+1)) (es[u].2.2.1+es[u].2.2.2.1)).toNat b)).length≤4294967296) then oR ((List.drop es[u].2.2.1.toNat (List.take (cJ es[u].2.2.1 most (es.drop (u+1)) (es[u].2.2.1+es[u].2.2.2.1)).toNat b),0,()),()) else none else none)=_
  refine bT (by simp only[zA,zB];omega) ?_
  exact aa (decide_eq_true (by rw[List.length_drop,List.length_take];omega)) _ _
abbrev jv:Io:=⟨[Cm],[],[],[dO,dI],none⟩
def zn (d:jv.In):Tr jv.Res:=.ite (cp (aK d.1.1.2.2.2.2.2.1) d.1.1.2.2.2.2.2.1 0&&decide (d.1.1.2.2.2.2.2.1.length≤256)) (.ret (.ret (((ey d.1.1.2.2.2.2.2.1).1,(ey d.1.1.2.2.2.2.2.1).2,()),()))) .no
abbrev GO:List (Nat×Hc):=[(116,ai gl zo),(119,ai kN El)]
def zX:Hd:=bB GO
abbrev dl:Lo:=⟨⟨(.any::.one (.ptr 1 0)::bi (.one (.onl 5 (Ty.int u8) 9)::.one hI::.any::bi (.one (.hol (.sl 5 (Ty.int u8)))::.any::.one hI::ah (ah (ah (ah (cN []))))))),[none,some [hI,hJ,hI,hK,hJ,.hol (.sl 91 aR)]]⟩,[(.exit 2,⟨(.any::.one (.ptr 1 0)::bi (.one (.onl 5 (Ty.int u8) 9)::.one hI::ah (ah (ah (ah (cN (bv (bi [])))))))),[none,some [hI,hJ,hI,hK,hJ,.hol (.sl 91 aR)]]⟩)]⟩
abbrev d7:Lo:=⟨⟨(.any::.one (.ptr 1 0)::bi (.one (.onl 5 (Ty.int u8) 9)::.one hI::ah (ah (ah (ah (cN (bv (bi [])))))))),[none,some [hI,hJ,hI,hK,hJ,.hol (.sl 91 aR)]]⟩,[(.ret,⟨(bi (.one (.onl 5 (Ty.int u8) 5)::.one hI::ah (ah (ah (ah (ah [])))))),[]⟩),(.exit 0,⟨(bv (.one (.onl 5 (Ty.int u8) 9)::.any::ah (ah (ah (ah (cN (bv (bi [])))))))),[]⟩)]⟩
def j9 (d:dl.st.den):Tr (ao dl.xs):=
 .ite (decide (d.1.2.2.2.1=0)&&decide (d.1.1.length+d.1.2.2.1.length≤4294967296)) (.ret (.ret ((),((d.1.1++d.1.2.2.1,(d.1.2.1,())),(d.2.1,()))))) .no
def l7 (d:d7.st.den):Tr (ao d7.xs):=
 .ite (decide (d.1.2.1=0)&&(decide (d.1.1.length=0)&&(decide (d.2.1.2.2.2.2.2.1.length≤256)&&cp (aK d.2.1.2.2.2.2.2.1) d.2.1.2.2.2.2.2.1 0)))
  (.ite (decide ((bn (aK d.2.1.2.2.2.2.2.1) d.2.1.2.2.2.2.2.1 0 []).2=0)) (.ret (.pan (.ret ((),(((bn (aK d.2.1.2.2.2.2.2.1) d.2.1.2.2.2.2.2.1 0 []).1,()),()))))) (.ret (.ret ((),(([],(bn (aK d.2.1.2.2.2.2.2.1) d.2.1.2.2.2.2.2.1 0 []).2,()),()))))) .no
def nh:Lp:=bP [(4,aA d7 l7),(14,aA dl j9)]
def qA {R:Type}(h18:LI)(h19:Int)(h20:LI)(h21 h22 h23 h24 h25 h26:Int)(h27:List aR.den)(next:LI→Int→LI→Int→Int→Int→Int→Int→Int→List aR.den→Option R)(out:ao dl.xs→Option R):Option R:=bif decide (h21<(↑h20.length:Int)) then bif decide (0≤h21)&&decide (h21<(↑h20.length:Int)) then bif decide (h18.length+1≤4294967296) then next (h18++[h20.getD h21.toNat 0]) (h19) (h20) (i64.wrap (h21+1)) (h22) (h23) (h24) (h25) (h26) (h27) else none else none else out (.ret ((),((h18,(h19,())),((h22,(h23,(h24,(h25,(h26,(h27,())))))),()))))
def oQ (n:Nat)(h18:LI)(h19:Int)(h20:LI)(h21 h22 h23 h24 h25 h26:Int)(h27:List aR.den):Option (ao dl.xs):=fH tt zX dr nh 0 Tryz.f83 (Kg Tryz.f83 (bI Tryz.f83 0) 0) n (dl.st.mk' ((h18,(h19,(h20,(h21,())))),((h22,(h23,(h24,(h25,(h26,(h27,())))))),()))) (bo dl.xs)
theorem FE (n:Nat)(h18:LI)(h19:Int)(h20:LI)(h21 h22 h23 h24 h25 h26:Int)(h27:List aR.den):oQ (n+1) h18 h19 h20 h21 h22 h23 h24 h25 h26 h27=qA h18 h19 h20 h21 h22 h23 h24 h25 h26 h27 (oQ n) some:=by kernel_rfl
def sJ {R:Type}(h6:LI)(h7 h8 h9 h10 h11 h12:Int)(h13:List aR.den)(next:LI→Int→Int→Int→Int→Int→Int→List aR.den→Option R)(out:ao d7.xs→Option R):Option R:=bif decide (h7<(↑h13.length:Int)) then bif decide (0≤h7)&&decide (h7<(↑h13.length:Int)) then bif decide (0≤0)&&decide (0<(↑h13.length:Int)) then bif !(bt (h13.getD h7.toNat (0,(false,[],()),(false,[],()),[],())).1 (h13.getD (Int.toNat 0) (0,(false,[],()),(false,[],()),[],())).1).2 then out (.ret ((),(([],(86,())),()))) else bif decide (0≤h7)&&decide (h7<(↑h13.length:Int)) then bif decide (0≤h7)&&decide (h7<(↑h13.length:Int)) then bif decide (0≤h7)&&decide (h7<(↑h13.length:Int)) then bif gj ((bt (h13.getD h7.toNat (0,(false,[],()),(false,[],()),[],())).1 (h13.getD (Int.toNat 0) (0,(false,[],()),(false,[],()),[],())).1).1,i32.wrap h7,(h13.getD h7.toNat (0,(false,[],()),(false,[],()),[],())).2) then bif (ci ((bt (h13.getD h7.toNat (0,(false,[],()),(false,[],()),[],())).1 (h13.getD (Int.toNat 0) (0,(false,[],()),(false,[],()),[],())).1).1,i32.wrap h7,(h13.getD h7.toNat (0,(false,[],()),(false,[],()),[],())).2)).2 != 0 then out (.ret ((),(([],((ci ((bt (h13.getD h7.toNat (0,(false,[],()),(false,[],()),[],())).1 (h13.getD (Int.toNat 0) (0,(false,[],()),(false,[],()),[],())).1).1,i32.wrap h7,(h13.getD h7.toNat (0,(false,[],()),(false,[],()),[],())).2)).2,())),()))) else (j9 ((h6,(h7,((ci ((bt (h13.getD h7.toNat (0,(false,[],()),(false,[],()),[],())).1 (h13.getD (Int.toNat 0) (0,(false,[],()),(false,[],()),[],())).1).1,i32.wrap h7,(h13.getD h7.toNat (0,(false,[],()),(false,[],()),[],())).2)).1,(0,())))),((h8,(h9,(h10,(h11,(h12,(h13,())))))),()))).run fun y=>match y with | .ret ((),((x46,x47,()),(x48,x49,x50,x51,x52,x53,()),()))=>(next (x46) (i64.wrap (x47+1)) (x48) (x49) (x50) (x51) (x52) (x53)) else none else none else none else none else none else none else out (.pan (.ret ((),((h6,()),()))))
def nb (n:Nat)(h6:LI)(h7 h8 h9 h10 h11 h12:Int)(h13:List aR.den):Option (ao d7.xs):=fH tt zX dr nh 0 Tryz.f83 (bI Tryz.f83 0) n (d7.st.mk' ((h6,(h7,())),((h8,(h9,(h10,(h11,(h12,(h13,())))))),()))) (bo d7.xs)
theorem J3 (n:Nat)(h6:LI)(h7 h8 h9 h10 h11 h12:Int)(h13:List aR.den):nb (n+1) h6 h7 h8 h9 h10 h11 h12 h13=sJ h6 h7 h8 h9 h10 h11 h12 h13 (nb n) some:=by kernel_rfl
theorem Az (P:LI)(hP:P.length≤4294967296)(i b1 b2 b3 b4 b5:Int)(rs:List bq):∀(k j:Nat) (out:LI),P.length<j+k→j≤P.length→out.length+(P.length - j)≤4294967296→
  oQ k out i P j b1 b2 b3 b4 b5 rs=some (.ret ((),((out++P.drop j,(i,())),((b1,(b2,(b3,(b4,(b5,(rs,())))))),())))):=by
 intro k
 induction k with
 |zero=>intro j out h;omega
 |succ k ih=>
  intro j out h1 h2 h3
  rw[FE]
  unfold qA
  by_cases hj:j<P.length
  ·refine bT (by simpa using hj) ?_
   refine bT (by simpa using hj) ?_
   refine bT (decide_eq_true (by omega)) ?_
   rw[ae (n:=(j:Int)+1) (by omega) (by omega)]
   have:=ih (j+1) (out++[P.getD (j:Int).toNat 0]) (by omega) (by omega) (by simp;omega)
   refine this.trans ?_
   rw[zG,aB hj,zK,zE hj]
   rfl
  ·refine bF (by simpa using hj) ?_
   rw[zI (by omega),List.append_nil]
theorem C2 (b1 b2 b3 b4 b5:Int)(rs:List bq){f:Int}(hf0:aK rs=f)(hl:rs.length≤256):∀(k i:Nat) (out:LI),rs.length<i+k→i≤rs.length→cp f (rs.drop i) i=true→out.length≤i*17000→
  nb k out i b1 b2 b3 b4 b5 rs=if (bn f (rs.drop i) i out).2=0 then some (.pan (.ret ((),(((bn f (rs.drop i) i out).1,()),())))) else some (.ret ((),(([],((bn f (rs.drop i) i out).2,())),()))):=by
 intro k
 induction k with
 |zero=>intro i out h;omega
 |succ k ih=>
  intro i out h1 h2 h3 h4
  rw[J3]
  unfold sJ
  by_cases hi:i<rs.length
  ·rw[zE hi] at h3 ⊢
   have e0:(rs.getD (Int.toNat 0) (0,(false,[],()),(false,[],()),[],())).1=f:=by
    rw[← hf0]
    cases rs with
    |nil=>simp at hi
    |cons r l=>rfl
   have e1:List.getD rs (i:Int).toNat (0,(false,[],()),(false,[],()),[],())=rs[i]:=by rw[zG,aB hi]
   rw[e0,e1]
   generalize rs[i]=r at *
   simp only[cp,zA] at h3
   obtain ⟨h5,h6⟩:=h3
   have q1:(decide ((0:Int)≤(i:Int))&&decide ((i:Int)<(rs.length:Int)))=true:=by simpa using hi
   refine bT (by simpa using hi) ?_
   refine (aa q1 _ _).trans ?_
   refine bT (by simp;omega) ?_
   have eL:bn f (r::rs.drop (i+1)) i out=if aP (r.1 - f)=false then ([],86) else if bh (cD f i r)≠0 then ([],bh (cD f i r)) else bn f (rs.drop (i+1)) (i+1) (out++(ci (cD f i r)).1):=rfl
   rw[eL]
   cases h7:aP (r.1 - f) with
   |false=>
    have eS:bt r.1 f=(0,false):=by unfold bt;rw[h7,if_neg (by decide)]
    rw[eS]
    refine (aa rfl _ _).trans ?_
    rw[if_pos rfl,if_neg (show (86:Int)≠0 by decide)]
   |true=>
    have eS:bt r.1 f=(r.1 - f,true):=by unfold bt;rw[h7,if_pos rfl]
    rw[eS]
    refine (af rfl _ _).trans ?_
    rw[if_neg (show ¬ true=false by decide)]
    refine (aa q1 _ _).trans ?_
    refine (aa q1 _ _).trans ?_
    refine (aa q1 _ _).trans ?_
    have eR:((r.1 - f,i32.wrap (i:Int),r.2):pl)=cD f i r:=by
     rw[bN (k:=.i32) (by simp[bC,IntKind.min,IntKind.max,IntKind.signed,IntKind.bits];omega)]
     rfl
    rw[eR]
    refine (aa h5 _ _).trans ?_
    by_cases h9:bh (cD f i r)=0
    ·obtain ⟨p1,p2⟩:=J8 h9
     refine bF (by simpa using p1) ?_
     rw[if_neg (az h9)]
     unfold j9
     refine bT (by simp only[zA,zB];exact ⟨trivial,show out.length+(ci (cD f i r)).1.length≤4294967296 by omega⟩) ?_
     show nb k (out++(ci (cD f i r)).1) (i64.wrap ((i:Int)+1)) b1 b2 b3 b4 b5 rs=_
     rw[ae (n:=(i:Int)+1) (by omega) (by omega)]
     exact ih (i+1) _ (by omega) (by omega) h6 (by simp;omega)
    ·refine bT (by rw[v5 h9];simpa using h9) ?_
     rw[if_pos h9,v5 h9]
     rw[if_neg h9]
  ·refine bF (by simp;omega) ?_
   rw[zI (by omega)]
   rfl
def xE (a0 a1 a2 a3 a4:Int)(a5:List aR.den):Option jv.Res:=(l7 (([],(0,())),((a0,(a1,(a2,(a3,(a4,(a5,())))))),()))).run fun y=>match y with | .ret ((),((x63,x64,()),()))=>(oR ((x63,x64,()),())) | .pan (.ret ((),((x65,()),())))=>(bif decide (32768<(↑x65.length:Int)) then oR (([],4,()),()) else oR ((x65,0,()),()))
theorem Nz (a0 a1 a2 a3 a4:Int)(a5:List aR.den):Io.run tt zX dr nh jv Tryz.f83 (((a0,a1,a2,a3,a4,a5,()),()),())=xE a0 a1 a2 a3 a4 a5:=by kernel_rfl
theorem qT:HcsOk prog GO:=.cons Ic (.cons PC .nil)
theorem Ib:HcOk prog 83 (ai jv zn):=by
 refine bQ qT (lp:=nh) (fn:=Tryz.f83) jv (.step (h0:=aA d7 l7) (by kernel_rfl) (fR qT (lp:=nh) (fn:=Tryz.f83) (.step (h0:=aA dl j9) (by kernel_rfl) (fR qT (lp:=nh) (fn:=Tryz.f83) (.done (by kernel_rfl)) dl j9 ?_) (.done (by kernel_rfl))) d7 l7 ?_) (.done (by kernel_rfl))) zn ?_
 ·rintro ⟨⟨(out:LI),(i:Int),(P:LI),(j:Int),⟨⟩⟩,⟨⟨(b1:Int),(b2:Int),(b3:Int),(b4:Int),(b5:Int),(rs:List bq),⟨⟩⟩,⟨⟩⟩⟩ y hw hy
  obtain ⟨hg,hy⟩:=Tr.guard hy
  simp only[zA,zB] at hg
  obtain ⟨h1,h2⟩:=hg
  have h1:j=0:=h1
  have h2:out.length+P.length≤4294967296:=h2
  subst h1
  refine ⟨P.length+1,(Az P (by omega) i b1 b2 b3 b4 b5 rs (P.length+1) 0 out (by omega) (by omega) (by omega)).trans ?_⟩
  rw[← hy];rfl
 ·rintro ⟨⟨(out:LI),(i:Int),⟨⟩⟩,⟨⟨(b1:Int),(b2:Int),(b3:Int),(b4:Int),(b5:Int),(rs:List bq),⟨⟩⟩,⟨⟩⟩⟩ y hw hy
  obtain ⟨hg,hy⟩:=Tr.guard hy
  simp only[zA,zB] at hg
  obtain ⟨h1,h3,h6,h7⟩:=hg
  have h1:i=0:=h1
  have h3:out=[]:=List.length_eq_zero_iff.1 h3
  have h6:rs.length≤256:=h6
  subst h1 h3
  refine ⟨rs.length+1,(C2 b1 b2 b3 b4 b5 rs rfl h6 (rs.length+1) 0 [] (by omega) (by omega) h7 (by simp)).trans ?_⟩
  rw[← hy]
  simp only[Tr.val_ite,zB,Tr.val_ret,List.drop_zero]
 ·rintro ⟨⟨⟨(b1:Int),(b2:Int),(b3:Int),(b4:Int),(b5:Int),(rs:List bq),⟨⟩⟩,⟨⟩⟩,⟨⟩⟩ out hw ho
  obtain ⟨hg,ho⟩:=Tr.guard ho
  simp only[zA,zB] at hg
  have hg1:cp (aK rs) rs 0=true:=hg.1
  have hg2:rs.length≤256:=hg.2
  cases ho
  refine (Nz b1 b2 b3 b4 b5 rs).trans ?_
  show _=oR (((ey rs).1,(ey rs).2,()),())
  unfold xE l7
  refine bT (by simp only[zA,zB];exact ⟨trivial,rfl,hg2,hg1⟩) ?_
  show (bif decide ((bn (aK rs) rs 0 []).2=0) then (bif decide (32768<((bn (aK rs) rs 0 []).1.length:Int)) then oR (([],4,()),()) else oR (((bn (aK rs) rs 0 []).1,0,()),())) else oR (([],(bn (aK rs) rs 0 []).2,()),()))=_
  unfold ey
  by_cases h5:(bn (aK rs) rs 0 []).2=0
  ·refine bT (decide_eq_true h5) ?_
   rw[if_neg (az h5)]
   by_cases h6:32768<((bn (aK rs) rs 0 []).1.length:Int)
   ·refine bT (decide_eq_true h6) ?_
    rw[if_pos h6]
   ·refine bF (decide_eq_false h6) ?_
    rw[if_neg h6]
  ·refine bF (decide_eq_false h5) ?_
   rw[if_pos h5]
abbrev oC:Io:=⟨[Cm],[],[],[dI],none⟩
def KA (d:oC.In):Tr oC.Res:=.ite (cp (aK d.1.1.2.2.2.2.2.1) d.1.1.2.2.2.2.2.1 0) (.ret (.ret ((dq d.1.1,()),()))) .no
abbrev K5:List (Nat×Hc):=[(82,ai gP zm),(83,ai jv zn)]
def Q2:Hd:=bB K5
def Md:Lp:=bP []
def BU (a0 a1 a2 a3 a4:Int)(a5:List aR.den):Option oC.Res:=bif decide (a0<0) then oR ((80,()),()) else bif decide (4611686018427387648<a0) then oR ((80,()),()) else bif !!aW a2 a3 a4 then oR ((84,()),()) else bif (↑a5.length:Int) == 0 then oR ((85,()),()) else bif decide (256<(↑a5.length:Int)) then oR ((9,()),()) else bif cp (aK a5) a5 0&&decide (a5.length≤256) then oR (((ey a5).2,()),()) else none
theorem Qa (a0 a1 a2 a3 a4:Int)(a5:List aR.den):Io.run tt Q2 dr Md oC Tryz.f63 (((a0,a1,a2,a3,a4,a5,()),()),())=BU a0 a1 a2 a3 a4 a5:=by kernel_rfl
theorem Rn:HcOk prog 63 (ai oC KA):=by
 refine bQ (cs:=K5) (.cons Ia (.cons Ib .nil)) (lp:=Md) (fn:=Tryz.f63) oC (.done (by kernel_rfl)) KA ?_
 rintro ⟨⟨⟨(b1:Int),(b2:Int),(b3:Int),(b4:Int),(b5:Int),(rs:List bq),⟨⟩⟩,⟨⟩⟩,⟨⟩⟩ out hw ho
 obtain ⟨hg,ho⟩:=Tr.guard ho
 have hg:cp (aK rs) rs 0=true:=hg
 cases ho
 refine (Qa b1 b2 b3 b4 b5 rs).trans ?_
 show _=oR ((dq (b1,b2,b3,b4,b5,rs,()),()),())
 have e:dq (b1,b2,b3,b4,b5,rs,())=if bg b1=true then 80 else if aW b3 b4 b5=true then 84 else if rs=[] then 85 else if 256<(rs.length:Int) then 9 else (ey rs).2:=rfl
 have hB:bg b1=(decide (b1<0) || decide (4611686018427387648<b1)):=rfl
 unfold BU
 by_cases h1:b1<0
 ·refine bT (decide_eq_true h1) ?_
  rw[e,if_pos (by rw[hB,decide_eq_true h1];rfl)]
 refine bF (decide_eq_false h1) ?_
 by_cases h2:4611686018427387648<b1
 ·refine bT (decide_eq_true h2) ?_
  rw[e,if_pos (by rw[hB,decide_eq_true h2,Bool.or_true])]
 refine bF (decide_eq_false h2) ?_
 rw[e,if_neg (by rw[hB,decide_eq_false h1,decide_eq_false h2];decide)]
 cases h3:aW b3 b4 b5 with
 |true=>
  refine (aa rfl _ _).trans ?_
  rw[if_pos rfl]
 |false=>
 refine (af rfl _ _).trans ?_
 rw[if_neg (by decide)]
 by_cases h4:rs=[]
 ·refine bT (by simp[h4]) ?_
  rw[if_pos h4]
 refine bF (by simp[h4]) ?_
 rw[if_neg h4]
 by_cases h5:256<(rs.length:Int)
 ·refine bT (decide_eq_true h5) ?_
  rw[if_pos h5]
 refine bF (decide_eq_false h5) ?_
 rw[if_neg h5]
 exact aa (by rw[zA];exact ⟨hg,decide_eq_true (show rs.length≤256 by omega)⟩) _ _
end
end Go.Proofs.YthpcdhgpplmneaaGreatDoor.Sym
namespace Go.Proofs.YthpcdhgpplmneaaGreatDoor.Sym
open Go
noncomputable section
abbrev QJ:Ty:=.sl 220 dH
abbrev QA:Sh:=.dat QJ false false
abbrev Lc:Sh:=.dat QJ false true
def b9:LI→LI→Nat→Nat
 |x::xs,y::ys,k+1=>if x=y then b9 xs ys k+1 else 0
 |_,_,_=>0
def fW (b:LI)(i:Nat)(depth:Int):Nat→Int→Int→Int→Int×Int
 |0,d,m,_=>(d,m)
 |q+1,d,m,s=>
  if (i:Int) - (q:Int)≤4096∧s<depth then
   (if 4≤b9 (b.drop q) (b.drop i) 131 then (if m<(b9 (b.drop q) (b.drop i) 131:Int) then fW b i depth q ((i:Int) - q) (b9 (b.drop q) (b.drop i) 131) (s+1) else fW b i depth q d m (s+1))
    else fW b i depth q d m s)
  else (d,m)
def aJ (b:LI)(i:Nat)(depth:Int):Int×Int:=fW b i depth i 0 0 0
def bd:Nat→LI→List gB
 |0,_=>[]
 |_+1,[]=>[]
 |k+1,c::l=>((c::l).take 128,0,0,())::bd k ((c::l).drop 128)
def bV (b:LI)(lo hi:Nat):List gB:=bd (hi - lo) ((b.take hi).drop lo)
def fg (b:LI)(depth:Int):Nat→Nat→Nat→List gB→List gB
 |0,lo,i,ts=>ts++bV b lo i
 |k+1,lo,i,ts=>
  if i<b.length then
   (if (aJ b i depth).2=0 then fg b depth k lo (i+1) ts
    else fg b depth k (i+(aJ b i depth).2.toNat) (i+(aJ b i depth).2.toNat) (ts++bV b lo i++[([],(aJ b i depth).1,(aJ b i depth).2,())]))
  else ts++bV b lo i
def bz (b:LI)(depth:Int):Nat→Nat→Nat→List gB→List gB×Nat×Nat
 |0,lo,i,ts=>(ts,lo,i)
 |k+1,lo,i,ts=>
  if i<b.length then
   (if (aJ b i depth).2=0 then bz b depth k lo (i+1) ts
    else bz b depth k (i+(aJ b i depth).2.toNat) (i+(aJ b i depth).2.toNat) (ts++bV b lo i++[([],(aJ b i depth).1,(aJ b i depth).2,())]))
  else (ts,lo,i)
def eD (b:LI):List gB:=fg b 8 (b.length+1) 0 0 []
def dG (t:gB):LI:=if t.2.2.1=0 then ((t.1.length:Int) - 1)::t.1 else [124+t.2.2.1,t.2.1 / 256,t.2.1 % 256]
def aI (ts:List gB):LI:=ts.flatMap dG
def gi (b:LI):LI×Int:=if 32768<(b.length:Int) then ([],4) else (aF (aC b.length)++aI (eD b),0)
def fO (b:LI):List gB×Int:=if 32768<(b.length:Int) then ([],4) else (eD b,0)
def mN (ts:List gB):Bool:=ts.all fun t=>kk t || fK t
def rJ (t:gB):Prop:=(t.2.1=0∧t.2.2.1=0∧1≤t.1.length∧t.1.length≤128)∨(t.1=[]∧1≤t.2.1∧t.2.1≤4096∧4≤t.2.2.1∧t.2.2.1≤131)
theorem vS:∀(xs ys:LI) (k:Nat),b9 xs ys k≤k∧b9 xs ys k≤xs.length∧b9 xs ys k≤ys.length
 |[],_,_=>by simp[b9]
 |_::_,[],_=>by simp[b9]
 |_::_,_::_,0=>by simp[b9]
 |x::xs,y::ys,k+1=>by
  unfold b9
  obtain ⟨h1,h2,h3⟩:=vS xs ys k
  split
  ·simp only[zN];omega
  ·simp
theorem DI:∀(xs ys:LI) (k j:Nat),j<b9 xs ys k→xs[j]?=ys[j]?
 |[],_,_,_,h=>by simp[b9] at h
 |_::_,[],_,_,h=>by simp[b9] at h
 |_::_,_::_,0,_,h=>by simp[b9] at h
 |x::xs,y::ys,k+1,j,h=>by
  unfold b9 at h
  split at h
  ·rename_i e
   cases j with
   |zero=>simp[e]
   |succ j=>simpa using DI xs ys k j (by omega)
  ·simp at h
theorem p6 {b:LI}{i:Nat}(hi:i<b.length){depth:Int}:∀(q:Nat) (d m s:Int),q≤i→(m=0∧d=0∨4≤m∧m≤131∧1≤d∧d≤4096∧d≤i∧i+m≤b.length∧∀j:Nat,(j:Int)<m→b[i - d.toNat+j]?=b[i+j]?)→
  ((fW b i depth q d m s).2=0∧(fW b i depth q d m s).1=0∨4≤(fW b i depth q d m s).2∧(fW b i depth q d m s).2≤131∧1≤(fW b i depth q d m s).1∧(fW b i depth q d m s).1≤4096∧(fW b i depth q d m s).1≤i∧i+(fW b i depth q d m s).2≤b.length∧
   ∀j:Nat,(j:Int)<(fW b i depth q d m s).2→b[i - (fW b i depth q d m s).1.toNat+j]?=b[i+j]?)
 |0,d,m,s,_,h=>h
 |q+1,d,m,s,hq,h=>by
  unfold fW
  obtain ⟨c1,c2,c3⟩:=vS (b.drop q) (b.drop i) 131
  split
  ·rename_i h1
   split
   ·rename_i h2
    split
    ·rename_i h3
     refine p6 hi q _ _ _ (by omega) (.inr ⟨by omega,by omega,by omega,by omega,by omega,?_,fun j hj=>?_⟩)
     ·rw[List.length_drop] at c3;omega
     ·have e:=DI (b.drop q) (b.drop i) 131 j (by omega)
      rw[List.getElem?_drop,List.getElem?_drop] at e
      rw[show i - ((i:Int) - (q:Int)).toNat=q by omega]
      exact e
    ·exact p6 hi q _ _ _ (by omega) h
   ·exact p6 hi q _ _ _ (by omega) h
  ·exact h
theorem hC {b:LI}{i:Nat}(hi:i<b.length)(depth:Int):(aJ b i depth).2=0∧(aJ b i depth).1=0∨4≤(aJ b i depth).2∧(aJ b i depth).2≤131∧1≤(aJ b i depth).1∧(aJ b i depth).1≤4096∧(aJ b i depth).1≤i∧i+(aJ b i depth).2≤b.length∧
   ∀j:Nat,(j:Int)<(aJ b i depth).2→b[i - (aJ b i depth).1.toNat+j]?=b[i+j]?:=
 p6 hi i 0 0 0 (Nat.le_refl i) (.inl ⟨rfl,rfl⟩)
theorem jA:∀(k:Nat) (l:LI),∀t∈bd k l,rJ t
 |0,_,t,h=>by cases h
 |_+1,[],t,h=>by cases h
 |k+1,c::l,t,h=>by
  unfold bd at h
  rcases List.mem_cons.1 h with rfl | h
  ·exact .inl ⟨rfl,rfl,by first | (simp;done) | (simp;omega),by first | (simp;done) | (simp;omega)⟩
  ·exact jA k _ t h
theorem rE (b:LI)(depth:Int):∀(k lo i:Nat) (ts:List gB),(∀t∈ts,rJ t)→∀t∈fg b depth k lo i ts,rJ t
 |0,lo,i,ts,h,t,ht=>by
  unfold fg at ht
  rcases List.mem_append.1 ht with h1 | h1
  ·exact h t h1
  ·exact jA _ _ t h1
 |k+1,lo,i,ts,h,t,ht=>by
  unfold fg at ht
  split at ht
  ·rename_i hi
   split at ht
   ·exact rE b depth k _ _ _ h t ht
   ·rename_i hn
    refine rE b depth k _ _ _ (fun t ht=>?_) t ht
    rcases List.mem_append.1 ht with h1 | h1
    ·rcases List.mem_append.1 h1 with h2 | h2
     ·exact h t h2
     ·exact jA _ _ t h2
    ·simp only[List.mem_singleton] at h1
     subst h1
     rcases hC hi depth with h3 | h3
     ·exact absurd h3.1 hn
     ·exact .inr ⟨rfl,h3.2.2.1,h3.2.2.2.1,h3.1,h3.2.1⟩
  ·rcases List.mem_append.1 ht with h1 | h1
   ·exact h t h1
   ·exact jA _ _ t h1
theorem nH:∀(k j:Nat) (l:LI),l.length≤k→l.length≤j→bd k l=bd j l
 |0,0,_,_,_=>rfl
 |0,_+1,[],_,_=>rfl
 |0,_+1,_::_,h,_=>by simp at h
 |_+1,0,[],_,_=>rfl
 |_+1,0,_::_,_,h=>by simp at h
 |_+1,_+1,[],_,_=>rfl
 |k+1,j+1,c::l,h1,h2=>by
  unfold bd
  rw[nH k j _ (by simp at h1 ⊢;omega) (by simp at h2 ⊢;omega)]
theorem DL {b:LI}{lo hi:Nat}(h1:lo<hi)(h2:hi≤b.length):bV b lo hi=(((b.take hi).drop lo).take 128,0,0,())::bV b (lo+(((b.take hi).drop lo).take 128).length) hi:=by
 have hl:((b.take hi).drop lo).length=hi - lo:=by rw[List.length_drop,List.length_take,Nat.min_eq_left h2]
 have hd:((b.take hi).drop lo).drop 128=(b.take hi).drop (lo+(((b.take hi).drop lo).take 128).length):=by
  rw[List.length_take,hl]
  by_cases h:128≤hi - lo
  ·rw[Nat.min_eq_left h,List.drop_drop]
  ·rw[Nat.min_eq_right (by omega),zI (by omega),zI (by rw[List.length_take];omega)]
 have hl2:((b.take hi).drop (lo+(((b.take hi).drop lo).take 128).length)).length=hi - (lo+(((b.take hi).drop lo).take 128).length):=by rw[List.length_drop,List.length_take,Nat.min_eq_left h2]
 unfold bV
 obtain ⟨k,hk⟩:∃k,hi - lo=k+1:=⟨hi - lo - 1,by omega⟩
 rw[hk]
 have e:∀l:LI,l≠[]→bd (k+1) l=(l.take 128,0,0,())::bd k (l.drop 128):=by
  intro l hne
  cases l with
  |nil=>exact absurd rfl hne
  |cons c l=>rfl
 rw[e _ (fun h=>by rw[h] at hl;simp at hl;omega),hd]
 congr 1
 refine nH _ _ _ ?_ (by rw[hl2];exact Nat.le_refl _)
 rw[hl2,List.length_take,hl]
 omega
theorem rF (b:LI)(depth:Int):∀(k lo i:Nat) (ts:List gB),fg b depth k lo i ts=(bz b depth k lo i ts).1++bV b (bz b depth k lo i ts).2.1 (bz b depth k lo i ts).2.2
 |0,_,_,_=>rfl
 |k+1,lo,i,ts=>by
  unfold fg bz
  split
  ·split
   ·exact rF b depth k _ _ _
   ·exact rF b depth k _ _ _
  ·rfl
theorem p7:∀(k:Nat) (l:LI),(bd k l).length≤l.length
 |0,l=>by simp[bd]
 |_+1,[]=>by simp[bd]
 |k+1,c::l=>by
  have:=p7 k ((c::l).drop 128)
  unfold bd
  simp only[zN,List.length_drop] at this ⊢
  omega
theorem vV {b:LI}{lo hi:Nat}(h1:lo≤hi)(h2:hi≤b.length):(bV b lo hi).length≤hi - lo:=by
 have:=p7 (hi - lo) ((b.take hi).drop lo)
 rw[List.length_drop,List.length_take,Nat.min_eq_left h2] at this
 exact this
theorem rG (b:LI)(depth:Int):∀(k lo i:Nat) (ts:List gB),lo≤i→i≤b.length→ts.length≤lo→
  (bz b depth k lo i ts).2.1≤(bz b depth k lo i ts).2.2∧(bz b depth k lo i ts).2.2≤b.length∧(bz b depth k lo i ts).1.length≤(bz b depth k lo i ts).2.1
 |0,_,_,_,h1,h2,h3=>⟨h1,h2,h3⟩
 |k+1,lo,i,ts,h1,h2,h3=>by
  unfold bz
  split
  ·rename_i hi
   split
   ·exact rG b depth k _ _ _ (by omega) (by omega) h3
   ·rename_i hn
    rcases hC hi depth with h4 | ⟨g1,g2,g3,g4,g5,g6,g7⟩
    ·exact absurd h4.1 hn
    refine rG b depth k _ _ _ (Nat.le_refl _) (by omega) ?_
    have:=vV h1 h2
    simp only[zH,List.length_singleton]
    omega
  ·exact ⟨h1,h2,h3⟩
def cR:List gB→LI→LI
 |[],out=>out
 |t::ts,out=>cR ts (cg t.2.1.toNat t.2.2.1.toNat (out++t.1))
theorem fb:∀(xs ys:List gB) (out:LI),cR (xs++ys) out=cR ys (cR xs out)
 |[],_,_=>rfl
 |x::xs,ys,out=>fb xs ys _
theorem mJ {b:LI}{d:Nat}(hd:1≤d):∀(n i:Nat),d≤i→i+n≤b.length→(∀j,j<n→b[i - d+j]?=b[i+j]?)→cg d n (b.take i)=b.take (i+n)
 |0,i,_,_,_=>rfl
 |n+1,i,h1,h2,h=>by
  unfold cg
  have hl:(b.take i).length=i:=by rw[List.length_take];omega
  have e:b.take i++[(b.take i).getD ((b.take i).length - d) 0]=b.take (i+1):=by
   have h0:=h 0 (by omega)
   rw[Nat.add_zero,Nat.add_zero] at h0
   rw[hl,List.getD_eq_getElem?_getD,List.getElem?_take,if_pos (by omega),h0,List.take_add_one,List.getElem?_eq_getElem (by omega)]
   rfl
  rw[e,mJ hd n (i+1) (by omega) (by omega) (fun j hj=>by
   have:=h (j+1) (by omega)
   rw[show i+1 - d+j=i - d+(j+1) by omega,show i+1+j=i+(j+1) by omega]
   exact this),show i+1+n=i+(n+1) by omega]
theorem nK:∀(k:Nat) (l out:LI),l.length≤k→cR (bd k l) out=out++l
 |0,[],out,_=>by simp[bd,cR]
 |0,_::_,_,h=>by simp at h
 |_+1,[],out,_=>by simp[bd,cR]
 |k+1,c::l,out,h=>by
  unfold bd cR
  show cR (bd k ((c::l).drop 128)) (out++(c::l).take 128)=_
  rw[nK k _ _ (by simp at h ⊢;omega),zK,List.take_append_drop]
theorem jB {b:LI}{lo hi:Nat}(h1:lo≤hi)(h2:hi≤b.length):cR (bV b lo hi) (b.take lo)=b.take hi:=by
 unfold bV
 rw[nK _ _ _ (by simp;omega)]
 have:b.take lo=(b.take hi).take lo:=by rw[List.take_take,Nat.min_eq_left h1]
 rw[this,List.take_append_drop]
theorem mL (b:LI)(depth:Int):∀(k lo i:Nat) (ts:List gB),b.length<i+k→lo≤i→i≤b.length→cR ts []=b.take lo→cR (fg b depth k lo i ts) []=b
 |0,lo,i,ts,h,h1,h2,h3=>by omega
 |k+1,lo,i,ts,h,h1,h2,h3=>by
  unfold fg
  split
  ·rename_i hi
   split
   ·exact mL b depth k _ _ _ (by omega) (by omega) (by omega) h3
   ·rename_i hn
    rcases hC hi depth with h4 | ⟨g1,g2,g3,g4,g5,g6,g7⟩
    ·exact absurd h4.1 hn
    refine mL b depth k _ _ _ (by omega) (Nat.le_refl _) (by omega) ?_
    rw[fb,fb,h3,jB h1 h2]
    show cg (aJ b i depth).1.toNat (aJ b i depth).2.toNat (b.take i++[])=_
    rw[List.append_nil]
    exact mJ (by omega) _ i (by omega) (by omega) fun j hj=>g7 j (by omega)
  ·rw[fb,h3,jB h1 h2,List.take_of_length_le (by omega)]
theorem sh (b:LI):cR (eD b) []=b:=mL b 8 _ 0 0 [] (by omega) (Nat.le_refl 0) (Nat.zero_le _) rfl
theorem vX:∀(ts:List gB) (out:LI),out.length≤(cR ts out).length
 |[],_=>Nat.le_refl _
 |t::ts,out=>by
  unfold cR
  have:=vX ts (cg t.2.1.toNat t.2.2.1.toNat (out++t.1))
  rw[lz,zH] at this
  omega
def o5:List gB→LI→Prop
 |[],_=>True
 |t::ts,out=>t.2.1≤out.length∧o5 ts (cg t.2.1.toNat t.2.2.1.toNat (out++t.1))
theorem jS:∀(xs ys:List gB) (out:LI),o5 xs out→o5 ys (cR xs out)→o5 (xs++ys) out
 |[],_,_,_,h=>h
 |x::xs,ys,out,h,h'=>⟨h.1,jS xs ys _ h.2 h'⟩
theorem gG:∀(k:Nat) (l out:LI),o5 (bd k l) out
 |0,_,_=>trivial
 |_+1,[],_=>trivial
 |k+1,c::l,out=>⟨by show (0:Int)≤_;omega,gG k _ _⟩
theorem nV (b:LI)(depth:Int):∀(k lo i:Nat) (ts:List gB),lo≤i→i≤b.length→cR ts []=b.take lo→o5 ts []→o5 (fg b depth k lo i ts) []
 |0,lo,i,ts,h1,h2,h3,h4=>jS _ _ _ h4 (gG _ _ _)
 |k+1,lo,i,ts,h1,h2,h3,h4=>by
  unfold fg
  split
  ·rename_i hi
   split
   ·exact nV b depth k _ _ _ (by omega) (by omega) h3 h4
   ·rename_i hn
    rcases hC hi depth with h5 | ⟨g1,g2,g3,g4,g5,g6,g7⟩
    ·exact absurd h5.1 hn
    refine nV b depth k _ _ _ (Nat.le_refl _) (by omega) ?_ ?_
    ·rw[fb,fb,h3,jB h1 h2]
     show cg (aJ b i depth).1.toNat (aJ b i depth).2.toNat (b.take i++[])=_
     rw[List.append_nil]
     exact mJ (by omega) _ i (by omega) (by omega) fun j hj=>g7 j (by omega)
    ·refine jS _ _ _ (jS _ _ _ h4 (gG _ _ _)) ⟨?_,trivial⟩
     rw[fb,h3,jB h1 h2,List.length_take]
     show (aJ b i depth).1≤_
     omega
  ·exact jS _ _ _ h4 (gG _ _ _)
theorem D2 (b:LI):o5 (eD b) []:=nV b 8 _ 0 0 [] (Nat.le_refl 0) (Nat.zero_le _) rfl trivial
theorem NW {t:gB}(h:rJ t)(rest:LI):aM (dG t++rest)=(t,((dG t).length:Int),0)∧2≤(dG t).length:=by
 obtain ⟨lit,d,n,⟨⟩⟩:=t
 rcases h with ⟨h1,h2,h3,h4⟩ | ⟨h1,h2,h3,h4,h5⟩
 ·have h1:d=0:=h1
  have h2:n=0:=h2
  have h3:1≤lit.length:=h3
  have h4:lit.length≤128:=h4
  subst h1 h2
  have e:dG (lit,0,0,())=((lit.length:Int) - 1)::lit:=rfl
  rw[e]
  refine ⟨?_,by simp;omega⟩
  unfold aM
  have e0:(((lit.length:Int) - 1)::lit++rest).getD 0 0=(lit.length:Int) - 1:=rfl
  rw[e0,if_pos (by omega),if_neg (by simp only[List.cons_append,zN,zH];omega)]
  have e1:((((lit.length:Int) - 1)::lit++rest).drop 1).take ((lit.length:Int) - 1+1).toNat=lit:=by
   show (lit++rest).take _=lit
   rw[show ((lit.length:Int) - 1+1).toNat=lit.length by omega,List.take_left]
  rw[e1,show (lit.length:Int) - 1+2=((((lit.length:Int) - 1)::lit).length:Int) by simp only[zN];omega]
 ·have h1:lit=[]:=h1
  have h2:1≤d:=h2
  have h3:d≤4096:=h3
  have h4:4≤n:=h4
  have h5:n≤131:=h5
  subst h1
  have e:dG ([],d,n,())=[124+n,d / 256,d % 256]:=by
   unfold dG
   rw[if_neg (show ¬ n=0 by omega)]
  rw[e]
  refine ⟨?_,by simp⟩
  unfold aM
  have e0:([124+n,d / 256,d % 256]++rest).getD 0 0=124+n:=rfl
  have e1:([124+n,d / 256,d % 256]++rest).getD 1 0=d / 256:=rfl
  have e2:([124+n,d / 256,d % 256]++rest).getD 2 0=d % 256:=rfl
  rw[e0,e1,e2,if_neg (by omega),if_neg (by simp;omega),if_neg (by omega),show d / 256*256+d % 256=d by omega,show 124+n - 124=n by omega]
  rfl
theorem NR {t:gB}(h:rJ t):fL t=false:=by
 obtain ⟨lit,d,n,⟨⟩⟩:=t
 have e:fL (lit,d,n,())=if iS (lit,d,n,())=true then decide (0<lit.length) || (decide (d<1) || (decide (4096<d) || (decide (n<4) || decide (131<n)))) else decide (lit.length<1) || decide (128<lit.length):=rfl
 have e2:iS (lit,d,n,())=if d≠0 then true else decide (n≠0):=rfl
 rcases h with ⟨h1,h2,h3,h4⟩ | ⟨h1,h2,h3,h4,h5⟩
 ·have h1:d=0:=h1
  have h2:n=0:=h2
  have h3:1≤lit.length:=h3
  have h4:lit.length≤128:=h4
  subst h1 h2
  rw[e,e2,if_neg (by decide),decide_eq_false (by omega),decide_eq_false (by omega)];rfl
 ·have h1:lit=[]:=h1
  have h2:1≤d:=h2
  have h3:d≤4096:=h3
  have h4:4≤n:=h4
  have h5:n≤131:=h5
  subst h1
  rw[e,e2,if_pos (show d≠0 by omega),if_pos rfl,decide_eq_false (by simp),decide_eq_false (by omega),decide_eq_false (by omega),decide_eq_false (by omega),decide_eq_false (by omega)];rfl
theorem yB (m:Int):∀(ts:List gB) (k:Nat) (out:LI),(∀t∈ts,rJ t)→o5 ts out→((cR ts out).length:Int)≤m→(aI ts).length<k→bk k (aI ts) out m=(cR ts out,0)
 |[],k,out,_,_,_,hk=>by
  cases k with
  |zero=>rfl
  |succ k=>
   unfold bk
   exact if_pos rfl
 |t::ts,k,out,hT,hB,hm,hk=>by
  obtain ⟨h1,h2⟩:=NW (hT t (by simp)) (aI ts)
  have e:aI (t::ts)=dG t++aI ts:=rfl
  rw[e] at hk ⊢
  rw[zH] at hk
  obtain ⟨k,rfl⟩:∃j,k=j+1:=⟨k - 1,by omega⟩
  unfold bk
  rw[if_neg (by
   intro h0
   have:=congrArg List.length h0
   rw[zH,List.length_nil] at this
   omega),h1]
  have hlen:=vX ts (cg t.2.1.toNat t.2.2.1.toNat (out++t.1))
  rw[lz,zH] at hlen
  have hm:((cR ts (cg t.2.1.toNat t.2.2.1.toNat (out++t.1))).length:Int)≤m:=hm
  have hn:0≤t.2.2.1:=by
   rcases hT t (by simp) with h | h
   ·rw[h.2.1];decide
   ·have:=h.2.2.2.1;omega
  have hc:aX out t m=(cg t.2.1.toNat t.2.2.1.toNat (out++t.1),0):=by
   unfold aX
   rw[NR (hT t (by simp)),if_neg (by
    rintro (h | h)
    ·cases h
    ·have:=hB.1;omega),if_neg (by omega)]
  simp only
  rw[hc,if_neg (by decide),if_neg (fun h=>h rfl),zG,List.drop_left]
  exact yB m ts k _ (fun t ht=>hT t (by simp[ht])) hB.2 hm (by omega)
theorem nl (xs ys:List gB):(aI (xs++ys)).length=(aI xs).length+(aI ys).length:=by simp[aI]
theorem lw:∀(k:Nat) (l:LI),(aI (bd k l)).length≤l.length+(l.length+127) / 128
 |0,l=>by simp[bd,aI]
 |_+1,[]=>by simp[bd,aI]
 |k+1,c::l=>by
  have ih:=lw k ((c::l).drop 128)
  have e:aI (bd (k+1) (c::l))=dG ((c::l).take 128,0,0,())++aI (bd k ((c::l).drop 128)):=rfl
  have e2:dG ((c::l).take 128,0,0,())=((((c::l).take 128).length:Int) - 1)::(c::l).take 128:=rfl
  rw[e,e2,zH,zN]
  rw[List.length_drop] at ih
  rw[List.length_take]
  have hpos:1≤(c::l).length:=by simp
  omega
theorem lx (b:LI)(depth:Int):∀(k lo i:Nat) (ts:List gB),lo≤i→i≤b.length→(aI ts).length≤lo+lo / 128→(aI (fg b depth k lo i ts)).length≤b.length+b.length / 128+1
 |0,lo,i,ts,h1,h2,h3=>by
  unfold fg
  rw[nl]
  have:=lw (i - lo) ((b.take i).drop lo)
  rw[List.length_drop,List.length_take,Nat.min_eq_left h2] at this
  unfold bV
  omega
 |k+1,lo,i,ts,h1,h2,h3=>by
  unfold fg
  have hc:=lw (i - lo) ((b.take i).drop lo)
  rw[List.length_drop,List.length_take,Nat.min_eq_left h2] at hc
  split
  ·rename_i hi
   split
   ·exact lx b depth k _ _ _ (by omega) (by omega) h3
   ·rename_i hn
    rcases hC hi depth with h4 | ⟨g1,g2,g3,g4,g5,g6,g7⟩
    ·exact absurd h4.1 hn
    refine lx b depth k _ _ _ (Nat.le_refl _) (by omega) ?_
    rw[nl,nl]
    have e:(aI [(([]:LI),(aJ b i depth).1,(aJ b i depth).2,())]).length=3:=by
     have:aI [(([]:LI),(aJ b i depth).1,(aJ b i depth).2,())]=dG ([],(aJ b i depth).1,(aJ b i depth).2,())++[]:=rfl
     rw[this]
     unfold dG
     rw[if_neg (show ¬(aJ b i depth).2=0 from hn)]
     rfl
    rw[e]
    unfold bV
    omega
  ·rw[nl]
   unfold bV
   omega
theorem Iw (b:LI):∀t∈eD b,rJ t:=rE b 8 _ 0 0 [] fun t h=>by cases h
theorem A4 {b:LI}(h:b.length≤32768):(gi b).2=0∧(gi b).1.length≤33040∧aY (gi b).1=(b,0):=by
 have e:gi b=(aF (aC b.length)++aI (eD b),0):=by unfold gi;rw[if_neg (by omega)]
 rw[e]
 refine ⟨rfl,?_,?_⟩
 ·have h1:=np (aC b.length)
  have h2:(aI (eD b)).length≤b.length+b.length / 128+1:=lx b 8 _ 0 0 [] (Nat.le_refl 0) (Nat.zero_le _) (by simp[aI])
  simp only[zH]
  omega
 ·have hH:Has (aF (aC (b.length:Int))++aI (eD b)) 0 (aF (aC (b.length:Int))):=⟨Int.le_refl 0,by omega,aI (eD b),rfl⟩
  have hg:=J5 (v:=(b.length:Int)) (by omega) (by omega) hH
  have hz:=Qt (v:=(b.length:Int))
  have hx:aq (aI (eD b)) (b.length:Int)=(b,0):=by
   rw[dE]
   have hb:ay (b.length:Int)=(b.length:Int):=by
    unfold ay qe co
    split <;> split <;> omega
   rw[hb]
   have:=yB (b.length:Int) (eD b) ((aI (eD b)).length+1) [] (Iw b) (D2 b) (by rw[sh];omega) (by omega)
   rw[this,sh]
  simp only
  unfold aY
  rw[hg]
  simp only
  rw[hz,if_neg (by decide),if_neg (by omega),if_neg (by omega),Int.zero_add,zG,List.drop_left,hx,if_neg (by simp),if_neg (by simp)]
end
end Go.Proofs.YthpcdhgpplmneaaGreatDoor.Sym
