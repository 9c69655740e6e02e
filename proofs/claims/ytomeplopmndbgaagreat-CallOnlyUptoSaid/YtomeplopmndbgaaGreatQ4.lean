/- cursor.Reader: NewReader, Left, number, I16, I32, I64, Skip, Take, End. -/
import Derived.Test.YtomeplopmndbgaaGreatQ3

namespace Go.Proofs.YtomeplopmndbgaaGreat.Sym
open Go
set_option linter.unusedSimpArgs false
set_option linter.unusedVariables false
noncomputable section
abbrev ML:List Sh:=[dL,dI]
abbrev N2:Sh:=.dat (.int .i64) false false
def bC (l:List Int):Int:=l.foldl (fun v c=>v*256+c) 0
def am (b:List Int)(p:Int)(n:Nat):Int×(Int×Int):=if (b.length:Int) - p<n then (0,(p,1)) else (bC ((b.drop p.toNat).take n),(p+n,0))
def bg (b:List Int)(p:Int):Bool:=decide (b.length≤4294960000)&&(decide (0≤p)&&decide (p≤(b.length:Int)))
def jg (b:List Int)(p n:Int):Int×Int:=if n<0 then (p,3) else if (b.length:Int) - p<n then (p,1) else (p+n,0)
def aG (b:List Int)(p n:Int):List Int×(Int×Int):=if n<0 then ([],(p,3)) else if (b.length:Int) - p<n then ([],(p,1)) else ((b.drop p.toNat).take n.toNat,(p+n,0))
def AO (b:List Int)(p:Int):Int:=if p<(b.length:Int) then 2 else 0
abbrev e8:Io:=⟨[.ptr 0 0],[ML],[],[dI],none⟩
def l9 (d:e8.In):Tr e8.Res:=.ret (.ret ((IntKind.i64.wrap ((d.2.1.1.length:Int) - d.2.1.2.1),()),((d.2.1.1,(d.2.1.2.1,())),())))
abbrev Eu:List (Nat×Hc):=[]
def OC:Hd:=bR Eu
def Fi:Lp:=bJ []
def GV (a0:List Int)(a1:Int):Option e8.Res:=some (Out.ret ((IntKind.i64.wrap ((↑a0.length:Int) - a1),()),(a0,a1,()),()))
theorem LX (a0:List Int)(a1:Int):Io.run tt OC dr Fi e8 Tryz.f64 (((),()),(a0,a1,()),())=GV a0 a1:=by kernel_rfl
theorem lK:HcOk prog 64 (af e8 l9):=by
 refine ao (n:=400) hm (cs:=Eu) HcsOk.nil (lp:=Fi) (fn:=Tryz.f64) (by kernel_rfl) (by kernel_rfl) (by kernel_rfl) e8 (.done (by kernel_rfl)) l9 ?_
 rintro ⟨⟨⟨⟩,⟨⟩⟩,⟨⟨(b:List Int),(p:Int),⟨⟩⟩,⟨⟩⟩⟩ out hw ho
 rw[← ho]
 exact LX b p
abbrev dQ:Io:=⟨[.ptr 0 0,dI],[ML],[],[WO,dI],none⟩
def jQ (d:dQ.In):Tr dQ.Res:=
 .ite (bg d.2.1.1 d.2.1.2.1&&(decide ((0:Int)≤d.1.2.1)&&decide (d.1.2.1≤(8:Int)))) (.ret (.ret (((am d.2.1.1 d.2.1.2.1 d.1.2.1.toNat).1,((am d.2.1.1 d.2.1.2.1 d.1.2.1.toNat).2.2,())),((d.2.1.1,((am d.2.1.1 d.2.1.2.1 d.1.2.1.toNat).2.1,())),())))) .no
abbrev p9:List (Nat×Hc):=[(64,af e8 l9)]
def wC:Hd:=bR p9
abbrev c0:Lo:=⟨⟨(.one (.ptr 0 0)::.one (.hol (.int IntKind.i64))::bQ (.one (.hol (.int IntKind.u64))::ag (bQ (.one (.hol (.sl 5 (Ty.int IntKind.u8)))::.one (.hol (.int IntKind.i64))::.one (.hol (.int IntKind.i64))::ag (bt []))))),[some [.hol (.sl 5 (Ty.int IntKind.u8)),.hol (.int IntKind.i64)]]⟩,[(.exit 0,⟨(.one (.ptr 0 0)::.one (.hol (.int IntKind.i64))::bQ (.one (.hol (.int IntKind.u64))::.any::ag (ag (dq [])))),[some [.hol (.sl 5 (Ty.int IntKind.u8)),.hol (.int IntKind.i64)]]⟩)]⟩
def iQ (d:c0.st.den):Tr (aJ c0.xs):=
 .ite (decide (d.1.2.1=0)&&(decide (d.1.2.2.2.2.1=0)&&(decide (d.1.2.2.2.1=(d.1.2.2.1.length:Int))&&decide (d.1.2.2.1.length≤8)))) (.ret (.ret ((),((d.1.1,(bC d.1.2.2.1,())),(d.2.1,()))))) .no
def m2:Lp:=bJ [(6,bv c0 iQ)]
def oH {R:Type}(h3 h4:Int)(h5:List Int)(h6 h7:Int)(h8:List Int)(h9:Int)(next:Int→Int→List Int→Int→Int→List Int→Int→Option R)(out:aJ c0.xs→Option R):Option R:=bif decide (h7<h6) then bif decide (0≤h7)&&decide (h7<(↑h5.length:Int)) then next (h3) (Tw IntKind.u64 (Kt IntKind.u64 h4 8) (IntKind.u64.wrap (h5.getD h7.toNat 0))) (h5) (h6) (IntKind.i64.wrap (h7+1)) (h8) (h9) else none else out (.ret ((),((h3,(h4,())),((h8,(h9,())),()))))
def m0 (n:Nat)(h3 h4:Int)(h5:List Int)(h6 h7:Int)(h8:List Int)(h9:Int):Option (aJ c0.xs):=lD tt wC dr m2 1 Tryz.f166 (gQ Tryz.f166 0) n (c0.st.mk' ((h3,(h4,(h5,(h6,(h7,()))))),((h8,(h9,())),()))) (dc c0.xs)
theorem CW (n:Nat)(h3 h4:Int)(h5:List Int)(h6 h7:Int)(h8:List Int)(h9:Int):m0 (n+1) h3 h4 h5 h6 h7 h8 h9=oH h3 h4 h5 h6 h7 h8 h9 (m0 n) some:=by kernel_rfl
theorem SL {v c:Int}(h0:0≤v)(h1:v<72057594037927936)(h2:0≤c)(h3:c≤255):Tw .u64 (Kt .u64 v 8) (IntKind.u64.wrap c)=v*256+c:=by
 have e1:Kt .u64 v 8=v*256:=by
  show IntKind.wrap .u64 (v*2 ^ 8)=_
  rw[show v*2 ^ 8=v*256 by omega]
  exact dP (k:=.u64) (by simp[cT,IntKind.min,IntKind.max,IntKind.signed,IntKind.bits];omega)
 have e0:IntKind.u64.wrap c=c:=dP (k:=.u64) (by simp[cT,IntKind.min,IntKind.max,IntKind.signed,IntKind.bits];omega)
 rw[e1,e0]
 obtain ⟨v,rfl⟩:=eM h0
 obtain ⟨c,rfl⟩:=eM h2
 have e4:=Nat.two_pow_add_eq_or_of_lt (show c<2 ^ 8 by omega) v
 show IntKind.wrap .u64 ((BitVec.ofInt 64 ((v:Int)*256) ||| BitVec.ofInt 64 (c:Int)).toNat:Int)=_
 have e2:(BitVec.ofInt 64 (c:Int)).toNat=c:=by rw[BitVec.toNat_ofInt];omega
 have e3:(BitVec.ofInt 64 ((v:Int)*256)).toNat=2 ^ 8*v:=by rw[BitVec.toNat_ofInt];omega
 rw[BitVec.toNat_or,e2,e3,← e4]
 refine (dP (k:=.u64) ?_).trans ?_
 ·simp[cT,IntKind.min,IntKind.max,IntKind.signed,IntKind.bits];omega
 ·omega
theorem C0 (l:List Int)(c:Int):bC (l++[c])=bC l*256+c:=by simp[bC]
theorem wz:∀(l:List Int) (v:Int),(∀c∈l,0≤c∧c≤255)→0≤v→0≤l.foldl (fun v c=>v*256+c) v∧l.foldl (fun v c=>v*256+c) v<(v+1)*256 ^ l.length
 |[],v,_,h0=>⟨h0,by simp;omega⟩
 |c::l,v,h,h0=>by
  obtain ⟨h3,h4⟩:=h c (by simp)
  obtain ⟨h1,h2⟩:=wz l (v*256+c) (fun d hd=>h d (by simp[hd])) (by omega)
  refine ⟨h1,Int.lt_of_lt_of_le h2 ?_⟩
  rw[List.length_cons,Int.pow_succ,Int.mul_comm (256 ^ l.length) 256,← Int.mul_assoc]
  exact Int.mul_le_mul_of_nonneg_right (by omega) (Int.le_of_lt (Int.pow_pos (by decide)))
theorem un (l:List Int)(h:∀c∈l,0≤c∧c≤255):0≤bC l∧bC l<256 ^ l.length:=by
 have:=wz l 0 h (Int.le_refl _)
 simpa [bC] using this
theorem Ch (n:Int)(l b:List Int)(p:Int)(hl:l.length≤8)(hr:∀c∈l,0≤c∧c≤255):∀(k i:Nat),l.length<i+k→i≤l.length→
  m0 k n (bC (l.take i)) l (l.length:Int) i b p=some (.ret ((),((n,(bC l,())),((b,(p,())),())))):=by
 intro k
 induction k with
 |zero=>intro i h;omega
 |succ k ih=>
  intro i h1 h2
  rw[CW]
  unfold oH
  by_cases hi:i<l.length
  ·have hc:=hr l[i] (List.getElem_mem hi)
   have hb:=un (l.take i) fun c hc=>hr c (List.mem_of_mem_take hc)
   have hlt:(256:Int) ^ (l.take i).length≤72057594037927936:=by
    rw[List.length_take,show min i l.length=i by omega]
    have hi7:i≤7:=by omega
    match i,hi7 with
    |0,_=>decide
    |1,_=>decide
    |2,_=>decide
    |3,_=>decide
    |4,_=>decide
    |5,_=>decide
    |6,_=>decide
    |7,_=>decide
   have e1:List.getD l (i:Int).toNat 0=l[i]:=by simp only[Int.toNat_natCast,bh hi]
   rw[aa (by simpa using hi),aa (by simpa using hi),e1,SL hb.1 (by omega) hc.1 hc.2,← C0,← List.take_succ_eq_append_getElem hi,bM hi (by rw[pe];omega),ih (i+1) (by omega) (by omega)]
  ·rw[ae (by simp;omega),List.take_of_length_le (by omega)]
def q6 (a0:Int)(a1:List Int)(a2:Int):Option dQ.Res:=bif decide (IntKind.i64.wrap ((↑a1.length:Int) - a2)<a0) then some (Out.ret ((0,1,()),(a1,a2,()),())) else bif decide (0≤a2)&&(decide (a2≤IntKind.i64.wrap (a2+a0))&&decide (IntKind.i64.wrap (a2+a0)≤(↑a1.length:Int))) then (iQ ((a0,(0,(List.drop a2.toNat (List.take (IntKind.i64.wrap (a2+a0)).toNat a1),((↑(List.drop a2.toNat (List.take (IntKind.i64.wrap (a2+a0)).toNat a1)).length:Int),(0,()))))),((a1,(a2,())),()))).run fun y=>match y with | .ret ((),((x21,x22,()),(x23,x24,()),()))=>(some (Out.ret ((x22,0,()),(x23,IntKind.i64.wrap (x24+x21),()),()))) else none
theorem FQ (a0:Int)(a1:List Int)(a2:Int):Io.run tt wC dr m2 dQ Tryz.f166 (((),a0,()),(a1,a2,()),())=q6 a0 a1 a2:=by kernel_rfl
theorem Nk {b:List Int}(h:Ty.wf bs b):∀c∈b,0≤c∧c≤255:=fun c hc=>by
 have:=h.2 c hc
 simpa [Ty.wf,cT,IntKind.min,IntKind.max,IntKind.signed,IntKind.bits] using this
theorem m5:HcOk prog 166 (af dQ jQ):=by
 refine ao (n:=400) hm (cs:=p9) (.cons lK .nil) (lp:=m2) (fn:=Tryz.f166) (by kernel_rfl) (by kernel_rfl) (by kernel_rfl) dQ (.step (h0:=bv c0 iQ) (by kernel_rfl) (aQ (n:=400) hm (cs:=p9) (.cons lK .nil) (lp:=m2) (fn:=Tryz.f166) (.done (by kernel_rfl)) c0 iQ ?_) (.done (by kernel_rfl))) jQ ?_
 ·rintro ⟨⟨(n:Int),(v:Int),(l:List Int),(m:Int),(i:Int),⟨⟩⟩,⟨⟨(b:List Int),(p:Int),⟨⟩⟩,⟨⟩⟩⟩ y hw hy
  obtain ⟨hg,hy⟩:=Tr.guard hy
  simp only[Bool.and_eq_true,decide_eq_true_eq] at hg
  obtain ⟨rfl,rfl,rfl,h4⟩:=hg
  refine ⟨l.length+1,(Ch n l b p h4 (Nk hw.1.2.2.1) _ 0 (by omega) (by omega)).trans ?_⟩
  rw[← hy];rfl
 ·rintro ⟨⟨⟨⟩,(n:Int),⟨⟩⟩,⟨⟨(b:List Int),(p:Int),⟨⟩⟩,⟨⟩⟩⟩ out hw ho
  obtain ⟨hg,ho⟩:=Tr.guard ho
  simp only[bg,Bool.and_eq_true,decide_eq_true_eq] at hg
  obtain ⟨⟨h1,h2,h3⟩,h4,h5⟩:=hg
  have h1:b.length≤4294960000:=h1
  have h2:(0:Int)≤p:=h2
  have h3:p≤(b.length:Int):=h3
  have h4:(0:Int)≤n:=h4
  have h5:n≤(8:Int):=h5
  cases ho
  refine (FQ n b p).trans ?_
  show _=some (Out.ret (((am b p n.toNat).1,((am b p n.toNat).2.2,())),((b,((am b p n.toNat).2.1,())),())))
  unfold q6
  rw[bx (n:=(b.length:Int) - p) (by omega) (by omega),bx (n:=p+n) (by omega) (by omega)]
  unfold am
  by_cases hl:(b.length:Int) - p<n
  ·rw[aa (by simpa using hl),if_pos (by omega)]
  ·have e0:List.drop p.toNat (List.take (p+n).toNat b)=(b.drop p.toNat).take n.toNat:=by rw[List.drop_take,show (p+n).toNat - p.toNat=n.toNat by omega]
   rw[ae (by simpa using hl),if_neg (by omega),aa (by simp;omega),e0]
   have hl8:((b.drop p.toNat).take n.toNat).length≤8:=by simp;omega
   have e1:iQ ((n,(0,((b.drop p.toNat).take n.toNat,((((b.drop p.toNat).take n.toNat).length:Int),(0,()))))),((b,(p,())),()))=.ite true (.ret (.ret ((),((n,(bC ((b.drop p.toNat).take n.toNat),())),((b,(p,())),()))))) .no:=
    congrArg (fun c=>Tr.ite c _ _) (show (decide ((0:Int)=0)&&(decide ((0:Int)=0)&&(decide ((((b.drop p.toNat).take n.toNat).length:Int)=(((b.drop p.toNat).take n.toNat).length:Int))&&decide (((b.drop p.toNat).take n.toNat).length≤8))))=true by simp;omega)
   rw[e1]
   simp only[Tr.run,cond_true]
   rw[bx (n:=p+n) (by omega) (by omega),show ((n.toNat:Nat):Int)=n by omega]
abbrev jy:Io:=⟨[.ptr 0 0],[ML],[],[N1,dI],none⟩
def vM (d:jy.In):Tr jy.Res:=
 .ite (bg d.2.1.1 d.2.1.2.1) (.ret (.ret ((IntKind.i16.wrap (am d.2.1.1 d.2.1.2.1 2).1,((am d.2.1.1 d.2.1.2.1 2).2.2,())),((d.2.1.1,((am d.2.1.1 d.2.1.2.1 2).2.1,())),())))) .no
abbrev Jo:List (Nat×Hc):=[(166,af dQ jQ)]
def R4:Hd:=bR Jo
def J1:Lp:=bJ []
def zO (a0:List Int)(a1:Int):Option jy.Res:=bif bg a0 a1&&(decide (0≤2)&&decide (2≤8)) then some (Out.ret ((IntKind.i16.wrap (am a0 a1 (Int.toNat 2)).1,(am a0 a1 (Int.toNat 2)).2.2,()),(a0,(am a0 a1 (Int.toNat 2)).2.1,()),())) else none
theorem Ql (a0:List Int)(a1:Int):Io.run tt R4 dr J1 jy Tryz.f136 (((),()),(a0,a1,()),())=zO a0 a1:=by kernel_rfl
theorem CJ:HcOk prog 136 (af jy vM):=by
 refine ao (n:=400) hm (cs:=Jo) (.cons m5 .nil) (lp:=J1) (fn:=Tryz.f136) (by kernel_rfl) (by kernel_rfl) (by kernel_rfl) jy (.done (by kernel_rfl)) vM ?_
 rintro ⟨⟨⟨⟩,⟨⟩⟩,⟨⟨(b:List Int),(p:Int),⟨⟩⟩,⟨⟩⟩⟩ out hw ho
 obtain ⟨hg,ho⟩:=Tr.guard ho
 have hg:bg b p=true:=hg
 cases ho
 refine (Ql b p).trans ?_
 unfold zO
 rw[aa (by simp[hg])]
 rfl
abbrev jz:Io:=⟨[.ptr 0 0],[ML],[],[KO,dI],none⟩
def vN (d:jz.In):Tr jz.Res:=
 .ite (bg d.2.1.1 d.2.1.2.1) (.ret (.ret ((IntKind.i32.wrap (am d.2.1.1 d.2.1.2.1 4).1,((am d.2.1.1 d.2.1.2.1 4).2.2,())),((d.2.1.1,((am d.2.1.1 d.2.1.2.1 4).2.1,())),())))) .no
abbrev Jp:List (Nat×Hc):=[(166,af dQ jQ)]
def R5:Hd:=bR Jp
def J2:Lp:=bJ []
def zP (a0:List Int)(a1:Int):Option jz.Res:=bif bg a0 a1&&(decide (0≤4)&&decide (4≤8)) then some (Out.ret ((IntKind.i32.wrap (am a0 a1 (Int.toNat 4)).1,(am a0 a1 (Int.toNat 4)).2.2,()),(a0,(am a0 a1 (Int.toNat 4)).2.1,()),())) else none
theorem Qm (a0:List Int)(a1:Int):Io.run tt R5 dr J2 jz Tryz.f74 (((),()),(a0,a1,()),())=zP a0 a1:=by kernel_rfl
theorem CK:HcOk prog 74 (af jz vN):=by
 refine ao (n:=400) hm (cs:=Jp) (.cons m5 .nil) (lp:=J2) (fn:=Tryz.f74) (by kernel_rfl) (by kernel_rfl) (by kernel_rfl) jz (.done (by kernel_rfl)) vN ?_
 rintro ⟨⟨⟨⟩,⟨⟩⟩,⟨⟨(b:List Int),(p:Int),⟨⟩⟩,⟨⟩⟩⟩ out hw ho
 obtain ⟨hg,ho⟩:=Tr.guard ho
 have hg:bg b p=true:=hg
 cases ho
 refine (Qm b p).trans ?_
 unfold zP
 rw[aa (by simp[hg])]
 rfl
abbrev mT:Io:=⟨[.ptr 0 0],[ML],[],[N2,dI],none⟩
def GO (d:mT.In):Tr mT.Res:=
 .ite (bg d.2.1.1 d.2.1.2.1) (.ret (.ret ((IntKind.i64.wrap (am d.2.1.1 d.2.1.2.1 8).1,((am d.2.1.1 d.2.1.2.1 8).2.2,())),((d.2.1.1,((am d.2.1.1 d.2.1.2.1 8).2.1,())),())))) .no
abbrev Jq:List (Nat×Hc):=[(166,af dQ jQ)]
def R6:Hd:=bR Jq
def J3:Lp:=bJ []
def zQ (a0:List Int)(a1:Int):Option mT.Res:=bif bg a0 a1&&(decide (0≤8)&&decide (8≤8)) then some (Out.ret ((IntKind.i64.wrap (am a0 a1 (Int.toNat 8)).1,(am a0 a1 (Int.toNat 8)).2.2,()),(a0,(am a0 a1 (Int.toNat 8)).2.1,()),())) else none
theorem Qn (a0:List Int)(a1:Int):Io.run tt R6 dr J3 mT Tryz.f207 (((),()),(a0,a1,()),())=zQ a0 a1:=by kernel_rfl
theorem SI:HcOk prog 207 (af mT GO):=by
 refine ao (n:=400) hm (cs:=Jq) (.cons m5 .nil) (lp:=J3) (fn:=Tryz.f207) (by kernel_rfl) (by kernel_rfl) (by kernel_rfl) mT (.done (by kernel_rfl)) GO ?_
 rintro ⟨⟨⟨⟩,⟨⟩⟩,⟨⟨(b:List Int),(p:Int),⟨⟩⟩,⟨⟩⟩⟩ out hw ho
 obtain ⟨hg,ho⟩:=Tr.guard ho
 have hg:bg b p=true:=hg
 cases ho
 refine (Qn b p).trans ?_
 unfold zQ
 rw[aa (by simp[hg])]
 rfl
abbrev kd:Io:=⟨[.ptr 0 0,dI],[ML],[],[dI],none⟩
def BJ (d:kd.In):Tr kd.Res:=
 .ite (bg d.2.1.1 d.2.1.2.1) (.ret (.ret (((jg d.2.1.1 d.2.1.2.1 d.1.2.1).2,()),((d.2.1.1,((jg d.2.1.1 d.2.1.2.1 d.1.2.1).1,())),())))) .no
abbrev Ev:List (Nat×Hc):=[(64,af e8 l9)]
def OD:Hd:=bR Ev
def Fj:Lp:=bJ []
def wj (a0:Int)(a1:List Int)(a2:Int):Option kd.Res:=bif decide (a0<0) then some (Out.ret ((3,()),(a1,a2,()),())) else bif decide (IntKind.i64.wrap ((↑a1.length:Int) - a2)<a0) then some (Out.ret ((1,()),(a1,a2,()),())) else some (Out.ret ((0,()),(a1,IntKind.i64.wrap (a2+a0),()),()))
theorem LY (a0:Int)(a1:List Int)(a2:Int):Io.run tt OD dr Fj kd Tryz.f138 (((),a0,()),(a1,a2,()),())=wj a0 a1 a2:=by kernel_rfl
theorem PJ:HcOk prog 138 (af kd BJ):=by
 refine ao (n:=400) hm (cs:=Ev) (.cons lK .nil) (lp:=Fj) (fn:=Tryz.f138) (by kernel_rfl) (by kernel_rfl) (by kernel_rfl) kd (.done (by kernel_rfl)) BJ ?_
 rintro ⟨⟨⟨⟩,(n:Int),⟨⟩⟩,⟨⟨(b:List Int),(p:Int),⟨⟩⟩,⟨⟩⟩⟩ out hw ho
 obtain ⟨hg,ho⟩:=Tr.guard ho
 simp only[bg,Bool.and_eq_true,decide_eq_true_eq] at hg
 obtain ⟨h1,h2,h3⟩:=hg
 have h1:b.length≤4294960000:=h1
 have h2:(0:Int)≤p:=h2
 have h3:p≤(b.length:Int):=h3
 cases ho
 refine (LY n b p).trans ?_
 unfold wj jg
 rw[bx (n:=(b.length:Int) - p) (by omega) (by omega)]
 by_cases h4:n<0
 ·rw[aa (by simpa using h4),if_pos h4]
 ·rw[ae (by simpa using h4),if_neg h4]
  by_cases h5:(b.length:Int) - p<n
  ·rw[aa (by simpa using h5),if_pos h5]
  ·rw[ae (by simpa using h5),if_neg h5,bx (n:=p+n) (by omega) (by omega)]
abbrev e9:Io:=⟨[.ptr 0 0,dI],[ML],[],[dO,dI],none⟩
def ma (d:e9.In):Tr e9.Res:=
 .ite (bg d.2.1.1 d.2.1.2.1) (.ret (.ret (((aG d.2.1.1 d.2.1.2.1 d.1.2.1).1,((aG d.2.1.1 d.2.1.2.1 d.1.2.1).2.2,())),((d.2.1.1,((aG d.2.1.1 d.2.1.2.1 d.1.2.1).2.1,())),())))) .no
abbrev Ew:List (Nat×Hc):=[(138,af kd BJ),(118,af fO qQ)]
def OE:Hd:=bR Ew
def Fk:Lp:=bJ []
def wk (a0:Int)(a1:List Int)(a2:Int):Option e9.Res:=bif bg a1 a2 then bif (jg a1 a2 a0).2 != 0 then some (Out.ret (([],(jg a1 a2 a0).2,()),(a1,(jg a1 a2 a0).1,()),())) else bif decide (0≤a2)&&(decide (a2≤(jg a1 a2 a0).1)&&decide ((jg a1 a2 a0).1≤(↑a1.length:Int))) then bif decide ((List.drop a2.toNat (List.take (jg a1 a2 a0).1.toNat a1)).length≤4294967296) then some (Out.ret ((List.drop a2.toNat (List.take (jg a1 a2 a0).1.toNat a1),0,()),(a1,(jg a1 a2 a0).1,()),())) else none else none else none
theorem LZ (a0:Int)(a1:List Int)(a2:Int):Io.run tt OE dr Fk e9 Tryz.f63 (((),a0,()),(a1,a2,()),())=wk a0 a1 a2:=by kernel_rfl
theorem n7:HcOk prog 63 (af e9 ma):=by
 refine ao (n:=400) hm (cs:=Ew) (.cons PJ (.cons xo .nil)) (lp:=Fk) (fn:=Tryz.f63) (by kernel_rfl) (by kernel_rfl) (by kernel_rfl) e9 (.done (by kernel_rfl)) ma ?_
 rintro ⟨⟨⟨⟩,(n:Int),⟨⟩⟩,⟨⟨(b:List Int),(p:Int),⟨⟩⟩,⟨⟩⟩⟩ out hw ho
 obtain ⟨hg,ho⟩:=Tr.guard ho
 have hg0:bg b p=true:=hg
 simp only[bg,Bool.and_eq_true,decide_eq_true_eq] at hg
 obtain ⟨h1,h2,h3⟩:=hg
 have h1:b.length≤4294960000:=h1
 have h2:(0:Int)≤p:=h2
 have h3:p≤(b.length:Int):=h3
 cases ho
 refine (LZ n b p).trans ?_
 unfold wk aG jg
 rw[aa hg0]
 by_cases h4:n<0
 ·simp[h4]
 ·by_cases h5:(b.length:Int) - p<n
  ·simp[h4,h5]
  ·have e0:List.drop p.toNat (List.take (p+n).toNat b)=(b.drop p.toNat).take n.toNat:=by rw[List.drop_take,show (p+n).toNat - p.toNat=n.toNat by omega]
   simp only[h4,h5,if_false,e0,bne_self_eq_false,cond_false]
   rw[aa (by simp;omega),aa (by simp;omega)]
abbrev kM:Io:=⟨[.ptr 0 0],[ML],[],[dI],none⟩
def BI (d:kM.In):Tr kM.Res:=.ret (.ret ((AO d.2.1.1 d.2.1.2.1,()),(d.2.1,())))
abbrev Jn:List (Nat×Hc):=[]
def RZ:Hd:=bR Jn
def J0:Lp:=bJ []
def zN (a0:List Int)(a1:Int):Option kM.Res:=bif decide (a1<(↑a0.length:Int)) then some (Out.ret ((2,()),(a0,a1,()),())) else some (Out.ret ((0,()),(a0,a1,()),()))
theorem Qk (a0:List Int)(a1:Int):Io.run tt RZ dr J0 kM Tryz.f203 (((),()),(a0,a1,()),())=zN a0 a1:=by kernel_rfl
theorem Ke:HcOk prog 203 (af kM BI):=by
 refine ao (n:=400) hm (cs:=Jn) HcsOk.nil (lp:=J0) (fn:=Tryz.f203) (by kernel_rfl) (by kernel_rfl) (by kernel_rfl) kM (.done (by kernel_rfl)) BI ?_
 rintro ⟨⟨⟨⟩,⟨⟩⟩,⟨⟨(b:List Int),(p:Int),⟨⟩⟩,⟨⟩⟩⟩ out hw ho
 cases ho
 refine (Qk b p).trans ?_
 unfold zN AO
 by_cases h:p<(b.length:Int)
 ·rw[aa (by simpa using h),if_pos h]
 ·rw[ae (by simpa using h),if_neg h]
abbrev gy:Io:=⟨[dL],[],[ML],[.ptr 0 0],none⟩
def p5 (d:gy.In):Tr gy.Res:=.ite (decide (d.1.1.length≤4294967296)) (.ret (.ret (((),()),((d.1.1,(0,())),())))) .no
abbrev Jr:List (Nat×Hc):=[(118,af fO qQ)]
def R7:Hd:=bR Jr
def J4:Lp:=bJ []
def Kz (a0:List Int):Option gy.Res:=bif decide (a0.length≤4294967296) then some (Out.ret (((),()),(a0,0,()),())) else none
theorem Qo (a0:List Int):Io.run tt R7 dr J4 gy Tryz.f61 ((a0,()),())=Kz a0:=by kernel_rfl
theorem rL:HcOk prog 61 (af gy p5):=by
 refine ao (n:=400) hm (cs:=Jr) (.cons xo .nil) (lp:=J4) (fn:=Tryz.f61) (by kernel_rfl) (by kernel_rfl) (by kernel_rfl) gy (.done (by kernel_rfl)) p5 ?_
 rintro ⟨⟨(b:List Int),⟨⟩⟩,⟨⟩⟩ out hw ho
 obtain ⟨hg,ho⟩:=Tr.guard ho
 cases ho
 exact (Qo b).trans (aa hg _ _)
def km (v n:Int):Bool:=if 8≤n then true else if -(2 ^ (8*n - 1).toNat)≤v∧v<2 ^ (8*n - 1).toNat then true else false
abbrev Ab:Lo:=⟨⟨(.one (.hol (.int IntKind.i64))::.one (.hol (.int IntKind.i64))::.any::bt (.one (.hol (.int IntKind.i64))::.one (.hol (.int IntKind.i64))::ag (bQ []))),[]⟩,[(.exit 0,⟨(.one (.hol (.int IntKind.i64))::bQ (.one (.hol (.int IntKind.i64))::.any::ag (bQ []))),[]⟩)]⟩
def Wu (d:Ab.st.den):Tr (aJ Ab.xs):=
 .ite (decide (d.1.2.2.1=1)&&(decide (d.1.2.2.2.1=0)&&(decide ((1:Int)≤d.1.2.1)&&decide (d.1.2.1≤(7:Int))))) (.ret (.ret ((),((d.1.1,((2:Int) ^ (8*d.1.2.1 - 1).toNat,())),())))) .no
abbrev t5:Lo:=⟨⟨(.one (.hol (.int IntKind.i64))::.one (.hol (.int IntKind.i64))::.any::bt (.one (.onl 5 (Ty.int IntKind.u8) 11)::.one (.hol (.int IntKind.i64))::.any::ag (ag (bQ (bt []))))),[]⟩,[(.exit 0,⟨(.any::.one (.hol (.int IntKind.i64))::.any::bt (.one (.onl 5 (Ty.int IntKind.u8) 11)::ag (ag (dq [])))),[]⟩)]⟩
abbrev rA:Lo:=⟨⟨(.any::bQ (.one (.onl 5 (Ty.int IntKind.u8) 11)::bt (.one (.onl 5 (Ty.int IntKind.u8) 17)::.one (.hol (.int IntKind.i64))::ag (ag (bQ []))))),[]⟩,[(.exit 2,⟨(dq (.one (.onl 5 (Ty.int IntKind.u8) 17)::.any::ag (ag (bQ [])))),[]⟩)]⟩
def Uq (v:Int):Nat→List Int
 |0=>[]
 |n+1=>v % 256::Uq (v / 256) n
def UI (d:t5.st.den):Tr (aJ t5.xs):=
 .ite (decide (d.1.2.2.1.length=0)&&(decide (d.1.2.2.2.1=0)&&(decide ((0:Int)≤d.1.2.1)&&decide (d.1.2.1≤(8:Int))))) (.ret (.ret ((),((d.1.2.1,(Uq d.1.1 d.1.2.1.toNat,())),())))) .no
def TU (d:rA.st.den):Tr (aJ rA.xs):=
 .ite (decide (d.1.2.1.length=0)&&(decide (d.1.2.2.1=(d.1.1.length:Int) - 1)&&decide (d.1.1.length≤8))) (.ret (.ret ((),((d.1.1.reverse,()),())))) .no
def Xh (l:List Int):Int:=match l with
 |[]=>0
 |c::l=>l.foldl (fun v c=>v*256+c) (if 128≤c then c - 256 else c)
abbrev t6:Lo:=⟨⟨(.one (.hol (.sl 5 (Ty.int IntKind.u8)))::.one (.hol (.int IntKind.i64))::.one (.hol (.int IntKind.i64))::.any::bQ (.one (.hol (.int IntKind.i64))::.one (.hol (.int IntKind.i64))::ag (ag (dq (bt []))))),[]⟩,[(.exit 0,⟨(dq (.one (.hol (.int IntKind.i64))::.any::ag (ag (dq (bt []))))),[]⟩)]⟩
def UJ (d:t6.st.den):Tr (aJ t6.xs):=
 .ite (decide (d.1.2.2.2.1=0)&&(decide (d.1.2.2.2.2.1=0)&&((decide ((0:Int)≤d.1.2.1)&&decide (d.1.2.1+d.1.2.2.1≤(d.1.1.length:Int)))&&(decide ((0:Int)≤d.1.2.2.1)&&decide (d.1.2.2.1≤(8:Int)))))) (.ret (.ret ((),((Xh ((d.1.1.drop d.1.2.1.toNat).take d.1.2.2.1.toNat),()),())))) .no
abbrev Xi:Ty:=.prod (.int .i64) (.prod (.int .i64) (.prod .bool (.prod bs .unit)))
abbrev az:Ty:=.tree Xi 91
abbrev np:Sh:=.dat az true false
abbrev Q5:Ty:=.sl 91 az
abbrev Nd:Type:=Tre Xi.den
abbrev mU:Io:=⟨[dI,N2],[],[],[np],none⟩
def Dt (d:mU.In):Tr mU.Res:=.ret (.ret ((.mk (d.1.1,(d.1.2.1,(false,(([]:List Int),())))) [],()),()))
abbrev NT:List (Nat×Hc):=[]
def Vn:Hd:=bR NT
def Pf:Lp:=bJ []
def Nh (a0 a1:Int):Option mU.Res:=some (Out.ret ((Tre.mk (a0,a1,false,[],()) [],()),()))
theorem Th (a0 a1:Int):Io.run tt Vn dr Pf mU Tryz.f181 ((a0,a1,()),())=Nh a0 a1:=by kernel_rfl
theorem m6:HcOk prog 181 (af mU Dt):=by
 refine ao (n:=400) hm (cs:=NT) HcsOk.nil (lp:=Pf) (fn:=Tryz.f181) (by kernel_rfl) (by kernel_rfl) (by kernel_rfl) mU (.done (by kernel_rfl)) Dt ?_
 rintro ⟨⟨(k:Int),(n:Int),⟨⟩⟩,⟨⟩⟩ out hw ho
 cases ho
 exact Th k n
abbrev mW:Io:=⟨[.dat Q5 false false],[],[],[np],none⟩
def Du (d:mW.In):Tr mW.Res:=.ret (.ret ((.mk (10,(0,(false,(([]:List Int),())))) d.1.1,()),()))
abbrev NU:List (Nat×Hc):=[]
def Vo:Hd:=bR NU
def Pg:Lp:=bJ []
def Ni (a0:List az.den):Option mW.Res:=some (Out.ret ((Tre.mk (10,0,false,[],()) a0,()),()))
theorem Ti (a0:List az.den):Io.run tt Vo dr Pg mW Tryz.f180 ((a0,()),())=Ni a0:=by kernel_rfl
theorem m7:HcOk prog 180 (af mW Du):=by
 refine ao (n:=400) hm (cs:=NU) HcsOk.nil (lp:=Pg) (fn:=Tryz.f180) (by kernel_rfl) (by kernel_rfl) (by kernel_rfl) mW (.done (by kernel_rfl)) Du ?_
 rintro ⟨⟨l,⟨⟩⟩,⟨⟩⟩ out hw ho
 cases ho
 exact Ti l
def cJ (n:Nd)(i:Int):Nd:=if 0≤i∧i<(n.kids.length:Int) then n.kids.getD i.toNat (.mk (0,(0,(false,([],())))) []) else .mk (0,(0,(false,([],())))) []
abbrev pD:List (List Sh):=[[.ptr 1 0,dI,dI,dB],[dO,dI]]
abbrev aV:Type:=Int×(Bool×List Int)
abbrev XA:Type:=jX pD
abbrev dX (d:XA):aV:=(d.1.2.2.1,(d.1.2.2.2.1,d.2.1.1))
abbrev cb (v:Int)(s:aV):XA:=(((),(v,(s.1,(s.2.1,())))),((s.2.2,(130048,())),()))
abbrev dW (d:XA):Bool:=decide (d.2.1.2.1=130048)&&decide (d.2.1.1.length≤130048)
def bA (e:Int)(s:aV):aV:=if s.1=0 then (e,s.2) else s
def ab (v:Int)(n:Nat)(s:aV):aV:=if 130048 - (s.2.2.length:Int)<n then (s.1,(true,s.2.2)) else (s.1,(s.2.1,s.2.2++aE v n))
def iw (p:List Int)(s:aV):aV:=if 130048 - (s.2.2.length:Int)<p.length then (s.1,(true,s.2.2)) else (s.1,(s.2.1,s.2.2++p))
def bn (t:List Int)(s:aV):aV:=if (cM t).2=false then bA 6 s else if 255<(t.length:Int) then bA 4 s else iw t (ab t.length 2 s)
def ap (v:Int)(z:Bool)(lo hi:Int)(s:aV):aV:=if z=false∧(v<lo∨hi<v) then bA 7 s else s
abbrev cW:Ty:=.prod .bool (.prod .str .unit)
abbrev ww:Sh:=.dat cW true false
abbrev ni:Ty:=.prod .bool (.prod bs .unit)
abbrev Hi:Sh:=.dat ni true false
theorem bo {v e:Int}{f:Bool}{b:List Int}{m:Int}(h:dW (((),(v,(e,(f,())))),((b,(m,())),()))=true):m=130048∧b.length≤130048:=by
 simpa [dW] using h
theorem TL {b:List Int}(x:Int)(n:Nat)(h:b.length≤130048):(ay b 130048 x n).2.length≤130048:=by
 unfold ay
 split
 ·exact h
 ·simp only[List.length_append,di];omega
theorem Ms (x:Int)(n:Nat)(v e:Int)(f:Bool)(b:List Int):
  cb v (ab x n (e,f,b))=(((),(v,(e,((f || decide ((ay b 130048 x n).1≠0)),())))),(((ay b 130048 x n).2,(130048,())),())):=by
 unfold ab ay cb
 by_cases h:130048 - (b.length:Int)<n
 ·simp[h]
 ·simp[h]
theorem Gl {b:List Int}(h:b.length≤130048):bc b 130048=true:=by
 simp[bc];omega
theorem av {s:aV}(x:Int)(n:Nat)(h:s.2.2.length≤130048):(ab x n s).2.2.length≤130048:=by
 unfold ab
 split
 ·exact h
 ·simp only[List.length_append,di];omega
theorem Mo {b:List Int}(p:List Int)(h:b.length≤130048):(bb b 130048 [p]).2.length≤130048:=by
 unfold bb
 split
 ·exact h
 ·simp only[aN,kq,List.length_append,List.length_nil] at *;omega
theorem Il (p:List Int)(v e:Int)(f:Bool)(b:List Int):
  cb v (iw p (e,f,b))=(((),(v,(e,((f || decide ((bb b 130048 [p]).1≠0)),())))),(((bb b 130048 [p]).2,(130048,())),())):=by
 unfold iw bb cb
 by_cases h:130048 - (b.length:Int)<p.length
 ·simp[h,aN]
 ·simp[h,aN,kq]
abbrev b9:Io:=⟨[.ptr 0 0,dI],pD,[],[],none⟩
def d4 (d:b9.In):Tr b9.Res:=.ite (dW d.2) (.ret (.ret ((),cb d.2.1.2.1 (bA d.1.2.1 (dX d.2))))) .no
abbrev Jh:List (Nat×Hc):=[]
def RT:Hd:=bR Jh
def JT:Lp:=bJ []
def zD (a0 a1 a2:Int)(a3:Bool)(a4:List Int)(a5:Int):Option b9.Res:=bif a2 == 0 then some (Out.ret ((),((),a1,a0,a3,()),(a4,a5,()),())) else some (Out.ret ((),((),a1,a2,a3,()),(a4,a5,()),()))
theorem P9 (a0 a1 a2:Int)(a3:Bool)(a4:List Int)(a5:Int):Io.run tt RT dr JT b9 Tryz.f194 (((),a0,()),((),a1,a2,a3,()),(a4,a5,()),())=zD a0 a1 a2 a3 a4 a5:=by kernel_rfl
theorem c7:HcOk prog 194 (af b9 d4):=by
 refine ao (n:=400) hm (cs:=Jh) HcsOk.nil (lp:=JT) (fn:=Tryz.f194) (by kernel_rfl) (by kernel_rfl) (by kernel_rfl) b9 (.done (by kernel_rfl)) d4 ?_
 rintro ⟨⟨⟨⟩,(x:Int),⟨⟩⟩,⟨⟨⟨⟩,(v:Int),(e:Int),(f:Bool),⟨⟩⟩,⟨(b:List Int),(m:Int),⟨⟩⟩,⟨⟩⟩⟩ out hw ho
 obtain ⟨hg,ho⟩:=Tr.guard ho
 obtain ⟨rfl,hb⟩:=bo hg
 cases ho
 refine (P9 x v e f b 130048).trans ?_
 unfold zD bA dX cb
 by_cases h:e=0
 ·rw[aa (by simpa using h),if_pos h]
 ·rw[ae (by simpa using h),if_neg h]
abbrev eI:Io:=⟨[.ptr 0 0,dI],pD,[],[],none⟩
def kC (d:eI.In):Tr eI.Res:=.ite (dW d.2) (.ret (.ret ((),cb d.2.1.2.1 (d.2.1.2.2.1,(d.2.1.2.2.2.1 || decide (d.1.2.1≠0),d.2.2.1.1))))) .no
abbrev Em:List (Nat×Hc):=[]
def Ou:Hd:=bR Em
def Fa:Lp:=bJ []
def wb (a0 a1 a2:Int)(a3:Bool)(a4:List Int)(a5:Int):Option eI.Res:=bif a3 then some (Out.ret ((),((),a1,a2,true,()),(a4,a5,()),())) else some (Out.ret ((),((),a1,a2,a0 != 0,()),(a4,a5,()),()))
theorem LQ (a0 a1 a2:Int)(a3:Bool)(a4:List Int)(a5:Int):Io.run tt Ou dr Fa eI Tryz.f195 (((),a0,()),((),a1,a2,a3,()),(a4,a5,()),())=wb a0 a1 a2 a3 a4 a5:=by kernel_rfl
theorem lJ:HcOk prog 195 (af eI kC):=by
 refine ao (n:=400) hm (cs:=Em) HcsOk.nil (lp:=Fa) (fn:=Tryz.f195) (by kernel_rfl) (by kernel_rfl) (by kernel_rfl) eI (.done (by kernel_rfl)) kC ?_
 rintro ⟨⟨⟨⟩,(x:Int),⟨⟩⟩,⟨⟨⟨⟩,(v:Int),(e:Int),(f:Bool),⟨⟩⟩,⟨(b:List Int),(m:Int),⟨⟩⟩,⟨⟩⟩⟩ out hw ho
 obtain ⟨hg,ho⟩:=Tr.guard ho
 obtain ⟨rfl,hb⟩:=bo hg
 cases ho
 refine (LQ x v e f b 130048).trans ?_
 unfold wb
 cases f
 ·show some _=_
  have:(x != 0)=decide (x≠0):=by rw[Bool.eq_iff_iff];simp
  rw[this];rfl
 ·rfl
abbrev d5:Io:=⟨[.ptr 0 0,dB,dI,dI],pD,[],[],none⟩
def jk (d:d5.In):Tr d5.Res:=.ite (dW d.2) (.ret (.ret ((),cb d.2.1.2.1 (ap d.2.1.2.1 d.1.2.1 d.1.2.2.1 d.1.2.2.2.1 (dX d.2))))) .no
abbrev El:List (Nat×Hc):=[(194,af b9 d4)]
def Ot:Hd:=bR El
def E9:Lp:=bJ []
def wa (a0:Bool)(a1 a2 a3 a4:Int)(a5:Bool)(a6:List Int)(a7:Int):Option d5.Res:=bif !a0 then bif decide (a3<a1) then bif decide (a7=130048)&&decide (a6.length≤130048) then some (Out.ret ((),((),a3,(bA 7 (a4,a5,a6)).1,(bA 7 (a4,a5,a6)).2.1,()),((bA 7 (a4,a5,a6)).2.2,130048,()),())) else none else bif decide (a2<a3) then bif decide (a7=130048)&&decide (a6.length≤130048) then some (Out.ret ((),((),a3,(bA 7 (a4,a5,a6)).1,(bA 7 (a4,a5,a6)).2.1,()),((bA 7 (a4,a5,a6)).2.2,130048,()),())) else none else some (Out.ret ((),((),a3,a4,a5,()),(a6,a7,()),())) else some (Out.ret ((),((),a3,a4,a5,()),(a6,a7,()),()))
theorem LO (a0:Bool)(a1 a2 a3 a4:Int)(a5:Bool)(a6:List Int)(a7:Int):Io.run tt Ot dr E9 d5 Tryz.f94 (((),a0,a1,a2,()),((),a3,a4,a5,()),(a6,a7,()),())=wa a0 a1 a2 a3 a4 a5 a6 a7:=by kernel_rfl
theorem cH:HcOk prog 94 (af d5 jk):=by
 refine ao (n:=400) hm (cs:=El) (.cons c7 .nil) (lp:=E9) (fn:=Tryz.f94) (by kernel_rfl) (by kernel_rfl) (by kernel_rfl) d5 (.done (by kernel_rfl)) jk ?_
 rintro ⟨⟨⟨⟩,(z:Bool),(lo:Int),(hi:Int),⟨⟩⟩,⟨⟨⟨⟩,(v:Int),(e:Int),(f:Bool),⟨⟩⟩,⟨(b:List Int),(m:Int),⟨⟩⟩,⟨⟩⟩⟩ out hw ho
 obtain ⟨hg,ho⟩:=Tr.guard ho
 obtain ⟨rfl,hb⟩:=bo hg
 cases ho
 refine (LO z lo hi v e f b 130048).trans ?_
 unfold wa
 have g:(decide ((130048:Int)=130048)&&decide (b.length≤130048))=true:=by simpa using hb
 show _=some (Out.ret ((),cb v (ap v z lo hi (e,f,b))))
 unfold ap
 cases z
 ·by_cases h1:v<lo
  ·rw[aa (by rfl),aa (by simpa using h1),aa g,if_pos ⟨rfl,.inl h1⟩]
  ·rw[aa (by rfl),ae (by simpa using h1)]
   by_cases h2:hi<v
   ·rw[aa (by simpa using h2),aa g,if_pos ⟨rfl,.inr h2⟩]
   ·rw[ae (by simpa using h2),if_neg (by simp;omega)]
 ·rw[ae (by rfl),if_neg (by simp)]
abbrev e7:Io:=⟨[.ptr 0 0,dI,dI],pD,[],[dB],none⟩
def ly (d:e7.In):Tr e7.Res:=.ite (dW d.2) (.ret (.ret ((decide (d.1.2.1≤d.2.1.2.1)&&decide (d.2.1.2.1≤d.1.2.2.1),()),cb d.2.1.2.1 (dX d.2)))) .no
abbrev NG:List (Nat×Hc):=[]
def Ve:Hd:=bR NG
def O6:Lp:=bJ []
def DR (a0 a1 a2 a3:Int)(a4:Bool)(a5:List Int)(a6:Int):Option e7.Res:=bif decide (a0≤a2) then some (Out.ret ((decide (a2≤a1),()),((),a2,a3,a4,()),(a5,a6,()),())) else some (Out.ret ((false,()),((),a2,a3,a4,()),(a5,a6,()),()))
theorem S6 (a0 a1 a2 a3:Int)(a4:Bool)(a5:List Int)(a6:Int):Io.run tt Ve dr O6 e7 Tryz.f95 (((),a0,a1,()),((),a2,a3,a4,()),(a5,a6,()),())=DR a0 a1 a2 a3 a4 a5 a6:=by kernel_rfl
theorem dR:HcOk prog 95 (af e7 ly):=by
 refine ao (n:=400) hm (cs:=NG) HcsOk.nil (lp:=O6) (fn:=Tryz.f95) (by kernel_rfl) (by kernel_rfl) (by kernel_rfl) e7 (.done (by kernel_rfl)) ly ?_
 rintro ⟨⟨⟨⟩,(lo:Int),(hi:Int),⟨⟩⟩,⟨⟨⟨⟩,(v:Int),(e:Int),(f:Bool),⟨⟩⟩,⟨(b:List Int),(m:Int),⟨⟩⟩,⟨⟩⟩⟩ out hw ho
 obtain ⟨hg,ho⟩:=Tr.guard ho
 obtain ⟨rfl,hb⟩:=bo hg
 cases ho
 refine (S6 lo hi v e f b 130048).trans ?_
 unfold DR
 show _=some (Out.ret ((decide (lo≤v)&&decide (v≤hi),()),cb v (e,f,b)))
 by_cases h:lo≤v
 ·rw[aa (by simpa using h),decide_eq_true h];rfl
 ·rw[ae (by simpa using h),decide_eq_false h];rfl
theorem B2 (n:Nat)(x:Int){a1 a2:Int}{a3:Bool}{a4:List Int}(h:a4.length≤130048):
  (bif bc a4 130048 then bif decide ((130048:Int)=130048)&&decide ((ay a4 130048 x n).2.length≤130048) then some (Out.ret ((),((),a1,a2,a3 || decide ((ay a4 130048 x n).1≠0),()),((ay a4 130048 x n).2,130048,()),())) else none else (none:Option b9.Res))
   = some (Out.ret ((),cb a1 (ab x n (a2,a3,a4)))):=by
 rw[aa (Gl h),aa (by simpa using TL x n h),Ms]
theorem N5 (p:List Int){a1 a2:Int}{a3:Bool}{a4:List Int}(h:a4.length≤130048)(hp:p.length≤4294960000):
  (bif bc a4 130048&&decide (aN [p]≤4294960000) then bif decide ((130048:Int)=130048)&&decide ((bb a4 130048 [p]).2.length≤130048) then some (Out.ret ((),((),a1,a2,a3 || decide ((bb a4 130048 [p]).1≠0),()),((bb a4 130048 [p]).2,130048,()),())) else none else (none:Option b9.Res))
   = some (Out.ret ((),cb a1 (iw p (a2,a3,a4)))):=by
 rw[aa (by rw[Gl h,Bool.true_and];exact decide_eq_true (show p.length+0≤4294960000 by omega)),aa (by simpa using Mo p h),Il]
abbrev i9:Io:=⟨[.ptr 0 0,N1],pD,[],[],none⟩
def tF (d:i9.In):Tr i9.Res:=.ite (dW d.2) (.ret (.ret ((),cb d.2.1.2.1 (ab d.1.2.1 2 (dX d.2))))) .no
abbrev NH:List (Nat×Hc):=[(47,af nY IR),(195,af eI kC)]
def Vf:Hd:=bR NH
def O7:Lp:=bJ []
def Nb (a0 a1 a2:Int)(a3:Bool)(a4:List Int)(a5:Int):Option i9.Res:=bif bc a4 a5 then bif decide (a5=130048)&&decide ((ay a4 a5 a0 2).2.length≤130048) then some (Out.ret ((),((),a1,a2,a3 || decide ((ay a4 a5 a0 2).1≠0),()),((ay a4 a5 a0 2).2,130048,()),())) else none else none
theorem S7 (a0 a1 a2:Int)(a3:Bool)(a4:List Int)(a5:Int):Io.run tt Vf dr O7 i9 Tryz.f97 (((),a0,()),((),a1,a2,a3,()),(a4,a5,()),())=Nb a0 a1 a2 a3 a4 a5:=by kernel_rfl
theorem sX:HcOk prog 97 (af i9 tF):=by
 refine ao (n:=400) hm (cs:=NH) (.cons PM (.cons lJ .nil)) (lp:=O7) (fn:=Tryz.f97) (by kernel_rfl) (by kernel_rfl) (by kernel_rfl) i9 (.done (by kernel_rfl)) tF ?_
 rintro ⟨⟨⟨⟩,(x:Int),⟨⟩⟩,⟨⟨⟨⟩,(v:Int),(e:Int),(f:Bool),⟨⟩⟩,⟨(b:List Int),(m:Int),⟨⟩⟩,⟨⟩⟩⟩ out hw ho
 obtain ⟨hg,ho⟩:=Tr.guard ho
 obtain ⟨rfl,hb⟩:=bo hg
 cases ho
 refine (S7 x v e f b 130048).trans ?_
 exact B2 2 x hb
abbrev cc:Io:=⟨[.ptr 0 0,KO],pD,[],[],none⟩
def dV (d:cc.In):Tr cc.Res:=.ite (dW d.2) (.ret (.ret ((),cb d.2.1.2.1 (ab d.1.2.1 4 (dX d.2))))) .no
abbrev NI:List (Nat×Hc):=[(48,af lc zc),(195,af eI kC)]
def Vg:Hd:=bR NI
def O8:Lp:=bJ []
def Nc (a0 a1 a2:Int)(a3:Bool)(a4:List Int)(a5:Int):Option cc.Res:=bif bc a4 a5 then bif decide (a5=130048)&&decide ((ay a4 a5 a0 4).2.length≤130048) then some (Out.ret ((),((),a1,a2,a3 || decide ((ay a4 a5 a0 4).1≠0),()),((ay a4 a5 a0 4).2,130048,()),())) else none else none
theorem S8 (a0 a1 a2:Int)(a3:Bool)(a4:List Int)(a5:Int):Io.run tt Vg dr O8 cc Tryz.f98 (((),a0,()),((),a1,a2,a3,()),(a4,a5,()),())=Nc a0 a1 a2 a3 a4 a5:=by kernel_rfl
theorem bN:HcOk prog 98 (af cc dV):=by
 refine ao (n:=400) hm (cs:=NI) (.cons CL (.cons lJ .nil)) (lp:=O8) (fn:=Tryz.f98) (by kernel_rfl) (by kernel_rfl) (by kernel_rfl) cc (.done (by kernel_rfl)) dV ?_
 rintro ⟨⟨⟨⟩,(x:Int),⟨⟩⟩,⟨⟨⟨⟩,(v:Int),(e:Int),(f:Bool),⟨⟩⟩,⟨(b:List Int),(m:Int),⟨⟩⟩,⟨⟩⟩⟩ out hw ho
 obtain ⟨hg,ho⟩:=Tr.guard ho
 obtain ⟨rfl,hb⟩:=bo hg
 cases ho
 refine (S8 x v e f b 130048).trans ?_
 exact B2 4 x hb
abbrev ja:Io:=⟨[.ptr 0 0,N2],pD,[],[],none⟩
def tG (d:ja.In):Tr ja.Res:=.ite (dW d.2) (.ret (.ret ((),cb d.2.1.2.1 (ab d.1.2.1 8 (dX d.2))))) .no
abbrev NJ:List (Nat×Hc):=[(197,af qo M3),(195,af eI kC)]
def Vh:Hd:=bR NJ
def O9:Lp:=bJ []
def Nf (a0 a1 a2:Int)(a3:Bool)(a4:List Int)(a5:Int):Option ja.Res:=bif bc a4 a5 then bif decide (a5=130048)&&decide ((ay a4 a5 a0 8).2.length≤130048) then some (Out.ret ((),((),a1,a2,a3 || decide ((ay a4 a5 a0 8).1≠0),()),((ay a4 a5 a0 8).2,130048,()),())) else none else none
theorem S9 (a0 a1 a2:Int)(a3:Bool)(a4:List Int)(a5:Int):Io.run tt Vh dr O9 ja Tryz.f111 (((),a0,()),((),a1,a2,a3,()),(a4,a5,()),())=Nf a0 a1 a2 a3 a4 a5:=by kernel_rfl
theorem qr:HcOk prog 111 (af ja tG):=by
 refine ao (n:=400) hm (cs:=NJ) (.cons VE (.cons lJ .nil)) (lp:=O9) (fn:=Tryz.f111) (by kernel_rfl) (by kernel_rfl) (by kernel_rfl) ja (.done (by kernel_rfl)) tG ?_
 rintro ⟨⟨⟨⟩,(x:Int),⟨⟩⟩,⟨⟨⟨⟩,(v:Int),(e:Int),(f:Bool),⟨⟩⟩,⟨(b:List Int),(m:Int),⟨⟩⟩,⟨⟩⟩⟩ out hw ho
 obtain ⟨hg,ho⟩:=Tr.guard ho
 obtain ⟨rfl,hb⟩:=bo hg
 cases ho
 refine (S9 x v e f b 130048).trans ?_
 exact B2 8 x hb
abbrev hY:Io:=⟨[.ptr 0 0,.dat .str false false],pD,[],[],none⟩
def qP (d:hY.In):Tr hY.Res:=.ite (dW d.2) (.ret (.ret ((),cb d.2.1.2.1 (bn d.1.2.1 (dX d.2))))) .no
abbrev NM:List (Nat×Hc):=[(92,af lb za),(194,af b9 d4),(97,af i9 tF),(49,af kg vR),(195,af eI kC)]
def Vj:Hd:=bR NM
def Pb:Lp:=bJ []
def DT (a0:List Int)(a1 a2:Int)(a3:Bool)(a4:List Int)(a5:Int):Option hY.Res:=bif !(cM a0).2 then bif decide (a5=130048)&&decide (a4.length≤130048) then some (Out.ret ((),((),a1,(bA 6 (a2,a3,a4)).1,(bA 6 (a2,a3,a4)).2.1,()),((bA 6 (a2,a3,a4)).2.2,130048,()),())) else none else bif decide (255<(↑a0.length:Int)) then bif decide (a5=130048)&&decide (a4.length≤130048) then some (Out.ret ((),((),a1,(bA 4 (a2,a3,a4)).1,(bA 4 (a2,a3,a4)).2.1,()),((bA 4 (a2,a3,a4)).2.2,130048,()),())) else none else bif decide (a5=130048)&&decide (a4.length≤130048) then bif bc (ab (IntKind.i16.wrap (↑a0.length:Int)) 2 (a2,a3,a4)).2.2 130048&&decide (aN [a0]≤4294960000) then bif decide (130048=130048)&&decide ((bb (ab (IntKind.i16.wrap (↑a0.length:Int)) 2 (a2,a3,a4)).2.2 130048 [a0]).2.length≤130048) then some (Out.ret ((),((),a1,(ab (IntKind.i16.wrap (↑a0.length:Int)) 2 (a2,a3,a4)).1,(ab (IntKind.i16.wrap (↑a0.length:Int)) 2 (a2,a3,a4)).2.1 || decide ((bb (ab (IntKind.i16.wrap (↑a0.length:Int)) 2 (a2,a3,a4)).2.2 130048 [a0]).1≠0),()),((bb (ab (IntKind.i16.wrap (↑a0.length:Int)) 2 (a2,a3,a4)).2.2 130048 [a0]).2,130048,()),())) else none else none else none
theorem Tb (a0:List Int)(a1 a2:Int)(a3:Bool)(a4:List Int)(a5:Int):Io.run tt Vj dr Pb hY Tryz.f101 (((),a0,()),((),a1,a2,a3,()),(a4,a5,()),())=DT a0 a1 a2 a3 a4 a5:=by kernel_rfl
theorem qs:HcOk prog 101 (af hY qP):=by
 refine ao (n:=400) hm (cs:=NM) (.cons CI (.cons c7 (.cons sX (.cons xr (.cons lJ .nil))))) (lp:=Pb) (fn:=Tryz.f101) (by kernel_rfl) (by kernel_rfl) (by kernel_rfl) hY (.done (by kernel_rfl)) qP ?_
 rintro ⟨⟨⟨⟩,(t:List Int),⟨⟩⟩,⟨⟨⟨⟩,(v:Int),(e:Int),(f:Bool),⟨⟩⟩,⟨(b:List Int),(m:Int),⟨⟩⟩,⟨⟩⟩⟩ out hw ho
 obtain ⟨hg,ho⟩:=Tr.guard ho
 obtain ⟨rfl,hb⟩:=bo hg
 cases ho
 refine (Tb t v e f b 130048).trans ?_
 unfold DT
 have g:∀c:List Int,c.length≤130048→(decide ((130048:Int)=130048)&&decide (c.length≤130048))=true:=fun c h=>by simpa using h
 show _=some (Out.ret ((),cb v (bn t (e,f,b))))
 unfold bn
 cases hu:(cM t).2
 ·rw[aa (by rfl),aa (g b hb),if_pos rfl]
 ·rw[ae (by rfl),if_neg (by simp)]
  by_cases h1:(255:Int)<(t.length:Int)
  ·rw[aa (by simpa using h1),aa (g b hb),if_pos h1]
  ·rw[ae (by simpa using h1),if_neg h1,aa (g b hb),show IntKind.i16.wrap (t.length:Int)=t.length from dP (by simp[cT,IntKind.min,IntKind.max,IntKind.signed,IntKind.bits];omega)]
   exact N5 t (av (s:=(e,f,b)) _ 2 hb) (by omega)
abbrev mG:Io:=⟨[.ptr 0 0,ww],pD,[],[],none⟩
def cR (n:Bool×(List Int×Unit))(s:aV):aV:=if n.1=true∧n.2.1≠[] then bA 70 s else if n.1=true then ab (-1) 2 s else bn n.2.1 s
def GJ (d:mG.In):Tr mG.Res:=.ite (dW d.2) (.ret (.ret ((),cb d.2.1.2.1 (cR d.1.2.1 (dX d.2))))) .no
abbrev Ji:List (Nat×Hc):=[(194,af b9 d4),(97,af i9 tF),(101,af hY qP)]
def RU:Hd:=bR Ji
def JU:Lp:=bJ []
def zE (a0:Bool)(a1:List Int)(a2 a3:Int)(a4:Bool)(a5:List Int)(a6:Int):Option mG.Res:=bif a0 then bif !decide (a1=List.map (fun (c:UInt8)=>(↑c.toNat:Int)) []) then bif decide (a6=130048)&&decide (a5.length≤130048) then some (Out.ret ((),((),a2,(bA 70 (a3,a4,a5)).1,(bA 70 (a3,a4,a5)).2.1,()),((bA 70 (a3,a4,a5)).2.2,130048,()),())) else none else bif a0 then bif decide (a6=130048)&&decide (a5.length≤130048) then some (Out.ret ((),((),a2,(ab (-1) 2 (a3,a4,a5)).1,(ab (-1) 2 (a3,a4,a5)).2.1,()),((ab (-1) 2 (a3,a4,a5)).2.2,130048,()),())) else none else bif decide (a6=130048)&&decide (a5.length≤130048) then some (Out.ret ((),((),a2,(bn a1 (a3,a4,a5)).1,(bn a1 (a3,a4,a5)).2.1,()),((bn a1 (a3,a4,a5)).2.2,130048,()),())) else none else bif a0 then bif decide (a6=130048)&&decide (a5.length≤130048) then some (Out.ret ((),((),a2,(ab (-1) 2 (a3,a4,a5)).1,(ab (-1) 2 (a3,a4,a5)).2.1,()),((ab (-1) 2 (a3,a4,a5)).2.2,130048,()),())) else none else bif decide (a6=130048)&&decide (a5.length≤130048) then some (Out.ret ((),((),a2,(bn a1 (a3,a4,a5)).1,(bn a1 (a3,a4,a5)).2.1,()),((bn a1 (a3,a4,a5)).2.2,130048,()),())) else none
theorem Qa (a0:Bool)(a1:List Int)(a2 a3:Int)(a4:Bool)(a5:List Int)(a6:Int):Io.run tt RU dr JU mG Tryz.f96 (((),(a0,a1,()),()),((),a2,a3,a4,()),(a5,a6,()),())=zE a0 a1 a2 a3 a4 a5 a6:=by kernel_rfl
theorem Sw:HcOk prog 96 (af mG GJ):=by
 refine ao (n:=400) hm (cs:=Ji) (.cons c7 (.cons sX (.cons qs .nil))) (lp:=JU) (fn:=Tryz.f96) (by kernel_rfl) (by kernel_rfl) (by kernel_rfl) mG (.done (by kernel_rfl)) GJ ?_
 rintro ⟨⟨⟨⟩,⟨(z:Bool),(t:List Int),⟨⟩⟩,⟨⟩⟩,⟨⟨⟨⟩,(v:Int),(e:Int),(f:Bool),⟨⟩⟩,⟨(b:List Int),(m:Int),⟨⟩⟩,⟨⟩⟩⟩ out hw ho
 obtain ⟨hg,ho⟩:=Tr.guard ho
 obtain ⟨rfl,hb⟩:=bo hg
 cases ho
 refine (Qa z t v e f b 130048).trans ?_
 unfold zE
 have g:(decide ((130048:Int)=130048)&&decide (b.length≤130048))=true:=by simpa using hb
 show _=some (Out.ret ((),cb v (cR (z,(t,())) (e,f,b))))
 unfold cR
 rw[g]
 simp only[List.map_nil,cond_true]
 cases z
 ·rw[ae (by rfl),ae (by rfl),if_neg (by simp),if_neg (by simp)]
 ·by_cases h:t=[]
  ·rw[aa (by rfl),ae (by simpa using h),aa (by rfl),if_neg (by simp[h]),if_pos rfl]
  ·rw[aa (by rfl),aa (by simpa using h),if_pos ⟨rfl,h⟩]
abbrev kL:Io:=⟨[.ptr 0 0,Hi],pD,[],[],none⟩
def bP (n:Bool×(List Int×Unit))(s:aV):aV:=if n.1=true∧0<n.2.1.length then bA 70 s else if n.1=true then ab (-1) 4 s else iw n.2.1 (ab (IntKind.i32.wrap n.2.1.length) 4 s)
def BA (d:kL.In):Tr kL.Res:=.ite (dW d.2&&decide (d.1.2.1.2.1.length≤2147483647)) (.ret (.ret ((),cb d.2.1.2.1 (bP d.1.2.1 (dX d.2))))) .no
abbrev Jf:List (Nat×Hc):=[(194,af b9 d4),(98,af cc dV),(49,af kg vR),(195,af eI kC)]
def RR:Hd:=bR Jf
def JR:Lp:=bJ []
def zB (a0:Bool)(a1:List Int)(a2 a3:Int)(a4:Bool)(a5:List Int)(a6:Int):Option kL.Res:=bif a0 then bif decide (0<(↑a1.length:Int)) then bif decide (a6=130048)&&decide (a5.length≤130048) then some (Out.ret ((),((),a2,(bA 70 (a3,a4,a5)).1,(bA 70 (a3,a4,a5)).2.1,()),((bA 70 (a3,a4,a5)).2.2,130048,()),())) else none else bif a0 then bif decide (a6=130048)&&decide (a5.length≤130048) then some (Out.ret ((),((),a2,(ab (-1) 4 (a3,a4,a5)).1,(ab (-1) 4 (a3,a4,a5)).2.1,()),((ab (-1) 4 (a3,a4,a5)).2.2,130048,()),())) else none else bif decide (a6=130048)&&decide (a5.length≤130048) then bif bc (ab (IntKind.i32.wrap (↑a1.length:Int)) 4 (a3,a4,a5)).2.2 130048&&decide (aN [a1]≤4294960000) then bif decide (130048=130048)&&decide ((bb (ab (IntKind.i32.wrap (↑a1.length:Int)) 4 (a3,a4,a5)).2.2 130048 [a1]).2.length≤130048) then some (Out.ret ((),((),a2,(ab (IntKind.i32.wrap (↑a1.length:Int)) 4 (a3,a4,a5)).1,(ab (IntKind.i32.wrap (↑a1.length:Int)) 4 (a3,a4,a5)).2.1 || decide ((bb (ab (IntKind.i32.wrap (↑a1.length:Int)) 4 (a3,a4,a5)).2.2 130048 [a1]).1≠0),()),((bb (ab (IntKind.i32.wrap (↑a1.length:Int)) 4 (a3,a4,a5)).2.2 130048 [a1]).2,130048,()),())) else none else none else none else bif a0 then bif decide (a6=130048)&&decide (a5.length≤130048) then some (Out.ret ((),((),a2,(ab (-1) 4 (a3,a4,a5)).1,(ab (-1) 4 (a3,a4,a5)).2.1,()),((ab (-1) 4 (a3,a4,a5)).2.2,130048,()),())) else none else bif decide (a6=130048)&&decide (a5.length≤130048) then bif bc (ab (IntKind.i32.wrap (↑a1.length:Int)) 4 (a3,a4,a5)).2.2 130048&&decide (aN [a1]≤4294960000) then bif decide (130048=130048)&&decide ((bb (ab (IntKind.i32.wrap (↑a1.length:Int)) 4 (a3,a4,a5)).2.2 130048 [a1]).2.length≤130048) then some (Out.ret ((),((),a2,(ab (IntKind.i32.wrap (↑a1.length:Int)) 4 (a3,a4,a5)).1,(ab (IntKind.i32.wrap (↑a1.length:Int)) 4 (a3,a4,a5)).2.1 || decide ((bb (ab (IntKind.i32.wrap (↑a1.length:Int)) 4 (a3,a4,a5)).2.2 130048 [a1]).1≠0),()),((bb (ab (IntKind.i32.wrap (↑a1.length:Int)) 4 (a3,a4,a5)).2.2 130048 [a1]).2,130048,()),())) else none else none else none
theorem P7 (a0:Bool)(a1:List Int)(a2 a3:Int)(a4:Bool)(a5:List Int)(a6:Int):Io.run tt RR dr JR kL Tryz.f104 (((),(a0,a1,()),()),((),a2,a3,a4,()),(a5,a6,()),())=zB a0 a1 a2 a3 a4 a5 a6:=by kernel_rfl
theorem Kd:HcOk prog 104 (af kL BA):=by
 refine ao (n:=400) hm (cs:=Jf) (.cons c7 (.cons bN (.cons xr (.cons lJ .nil)))) (lp:=JR) (fn:=Tryz.f104) (by kernel_rfl) (by kernel_rfl) (by kernel_rfl) kL (.done (by kernel_rfl)) BA ?_
 rintro ⟨⟨⟨⟩,⟨(z:Bool),(t:List Int),⟨⟩⟩,⟨⟩⟩,⟨⟨⟨⟩,(v:Int),(e:Int),(f:Bool),⟨⟩⟩,⟨(b:List Int),(m:Int),⟨⟩⟩,⟨⟩⟩⟩ out hw ho
 obtain ⟨hg,ho⟩:=Tr.guard ho
 obtain ⟨hg,ht⟩:=Bool.and_eq_true_iff.1 hg
 have ht:t.length≤2147483647:=of_decide_eq_true ht
 obtain ⟨rfl,hb⟩:=bo hg
 cases ho
 refine (P7 z t v e f b 130048).trans ?_
 unfold zB
 have g:(decide ((130048:Int)=130048)&&decide (b.length≤130048))=true:=by simpa using hb
 show _=some (Out.ret ((),cb v (bP (z,(t,())) (e,f,b))))
 unfold bP
 rw[g]
 simp only[cond_true]
 cases z
 ·simp only[cond_false,Bool.false_eq_true,false_and,if_false]
  exact N5 t (av (s:=(e,f,b)) _ 4 hb) (by omega)
 ·by_cases h:0<t.length
  ·rw[aa (by rfl),aa (by simpa using h),if_pos ⟨rfl,h⟩]
  ·rw[aa (by rfl),ae (by simpa using h),if_neg (fun c=>h c.2),if_pos rfl]
   rfl
abbrev jb:Io:=⟨[dI],[],pD,[.ptr 0 0],none⟩
def aH (v:Int):Int:=if v<0∨3<v then 8 else 0
def tH (d:jb.In):Tr jb.Res:=.ret (.ret (((),()),cb d.1.1 (aH d.1.1,(false,([]:List Int)))))
abbrev NK:List (Nat×Hc):=[(46,af ld zd),(194,af b9 d4)]
def Vi:Hd:=bR NK
def Pa:Lp:=bJ []
def DS (a0:Int):Option jb.Res:=bif decide (a0<0) then some (Out.ret (((),()),((),a0,8,false,()),([],130048,()),())) else bif decide (3<a0) then some (Out.ret (((),()),((),a0,8,false,()),([],130048,()),())) else some (Out.ret (((),()),((),a0,0,false,()),([],ai (ah 130048 0) 1048576,()),()))
theorem Ta (a0:Int):Io.run tt Vi dr Pa jb Tryz.f93 ((a0,()),())=DS a0:=by kernel_rfl
theorem fL:HcOk prog 93 (af jb tH):=by
 refine ao (n:=400) hm (cs:=NK) (.cons CM (.cons c7 .nil)) (lp:=Pa) (fn:=Tryz.f93) (by kernel_rfl) (by kernel_rfl) (by kernel_rfl) jb (.done (by kernel_rfl)) tH ?_
 rintro ⟨⟨(v:Int),⟨⟩⟩,⟨⟩⟩ out hw ho
 cases ho
 refine (Ta v).trans ?_
 unfold DS
 have e:ai (ah 130048 0) 1048576=130048:=by decide
 show _=some (Out.ret (((),()),cb v (if v<0∨3<v then 8 else 0,(false,([]:List Int)))))
 by_cases h1:v<0
 ·rw[aa (by simpa using h1),if_pos (.inl h1)]
 ·rw[ae (by simpa using h1)]
  by_cases h2:3<v
  ·rw[aa (by simpa using h2),if_pos (.inr h2)]
  ·rw[ae (by simpa using h2),if_neg (by omega),e]
abbrev fW:Io:=⟨[.ptr 0 0],pD,[],[dO,dI],none⟩
def aM (s:aV):Int:=if s.1=0 then (if s.2.1=true then 4 else 0) else s.1
def bj (s:aV):List Int:=if aM s=0 then s.2.2 else []
def nF (d:fW.In):Tr fW.Res:=.ite (dW d.2) (.ret (.ret ((bj (dX d.2),(aM (dX d.2),())),cb d.2.1.2.1 (aM (dX d.2),(d.2.1.2.2.2.1,d.2.2.1.1))))) .no
abbrev Jg:List (Nat×Hc):=[(50,af fP oM)]
def RS:Hd:=bR Jg
def JS:Lp:=bJ []
def zC (a0 a1:Int)(a2:Bool)(a3:List Int)(a4:Int):Option fW.Res:=bif a1 == 0 then bif a2 then some (Out.ret (([],4,()),((),a0,4,a2,()),(a3,a4,()),())) else bif a1 != 0 then some (Out.ret (([],a1,()),((),a0,a1,a2,()),(a3,a4,()),())) else bif decide (a3.length≤4294967296) then some (Out.ret ((a3,0,()),((),a0,a1,a2,()),(a3,a4,()),())) else none else bif a1 != 0 then some (Out.ret (([],a1,()),((),a0,a1,a2,()),(a3,a4,()),())) else bif decide (a3.length≤4294967296) then some (Out.ret ((a3,0,()),((),a0,a1,a2,()),(a3,a4,()),())) else none
theorem P8 (a0 a1:Int)(a2:Bool)(a3:List Int)(a4:Int):Io.run tt RS dr JS fW Tryz.f105 (((),()),((),a0,a1,a2,()),(a3,a4,()),())=zC a0 a1 a2 a3 a4:=by kernel_rfl
theorem d2:HcOk prog 105 (af fW nF):=by
 refine ao (n:=400) hm (cs:=Jg) (.cons rM .nil) (lp:=JS) (fn:=Tryz.f105) (by kernel_rfl) (by kernel_rfl) (by kernel_rfl) fW (.done (by kernel_rfl)) nF ?_
 rintro ⟨⟨⟨⟩,⟨⟩⟩,⟨⟨⟨⟩,(v:Int),(e:Int),(f:Bool),⟨⟩⟩,⟨(b:List Int),(m:Int),⟨⟩⟩,⟨⟩⟩⟩ out hw ho
 obtain ⟨hg,ho⟩:=Tr.guard ho
 obtain ⟨rfl,hb⟩:=bo hg
 cases ho
 refine (P8 v e f b 130048).trans ?_
 unfold zC
 unfold bj
 show _=some (Out.ret (((if aM (e,f,b)=0 then b else []:List Int),(aM (e,f,b),())),cb v (aM (e,f,b),(f,b))))
 have g:decide (b.length≤4294967296)=true:=by simp;omega
 unfold aM
 rw[g]
 simp only[cond_true]
 by_cases h:e=0
 ·subst h
  cases f
  ·rw[aa (by rfl),ae (by rfl),ae (by rfl)];rfl
  ·rw[aa (by rfl),aa (by rfl)];rfl
 ·rw[ae (by simpa using h),aa (by simpa using h),if_neg h,if_neg h]
abbrev lH:List (List Sh):=[[.ptr 1 0,dI,dI],[dL,dI]]
abbrev uj:List (List Sh):=[[.nil,dI,dI]]
abbrev W5:List (List Sh):=[[.ptr 1 0,dI,dI],[dL,dI],[.ptr 0 0],[dI]]
abbrev W6:List (List Sh):=[[.ptr 2 0],[dI],[.ptr 3 0,dI,dI],[dL,dI]]
abbrev aC:Type:=Int×Int
abbrev cx (d:jX lH):aC:=(d.1.2.2.1,d.2.1.2.1)
abbrev cB (v:Int)(b:List Int)(s:aC):jX lH:=(((),(v,(s.1,()))),((b,(s.2,())),()))
def an (b:List Int)(p:Int):Bool:=decide (b.length≤130048)&&(decide (0≤p)&&decide (p≤(b.length:Int)))
abbrev lB (d:jX lH):Bool:=an d.2.1.1 d.2.1.2.1
def ac (k:IntKind)(n:Nat)(b:List Int)(s:aC):Int×aC:=if s.1=0 then (k.wrap (am b s.2 n).1,((am b s.2 n).2.2,(am b s.2 n).2.1)) else (0,s)
def bz (b:List Int)(n:Int)(s:aC):List Int×aC:=if s.1=0 then (if n<0 then ([],(5,s.2)) else ((aG b s.2 n).1,((aG b s.2 n).2.2,(aG b s.2 n).2.1))) else ([],s)
def d3 (n:Int)(s:aC):aC:=if 255<n then (4,s.2) else s
def bU (b:List Int)(n:Int)(s:aC):List Int×aC:=if (cM (bz b n (d3 n s)).1).2=true then bz b n (d3 n s) else ([],(6,(bz b n (d3 n s)).2.2))
theorem oy {b:List Int}{p:Int}(h:an b p=true):bg b p=true:=by
 simp only[an,bg,Bool.and_eq_true,decide_eq_true_eq] at h ⊢
 exact ⟨by omega,h.2⟩
theorem Tz {b:List Int}{p:Int}(n:Nat)(h:an b p=true):an b (am b p n).2.1=true:=by
 unfold am
 split
 ·exact h
 ·simp only[an,Bool.and_eq_true,decide_eq_true_eq] at h ⊢
  exact ⟨h.1,by omega,by omega⟩
theorem Iq {b:List Int}{p:Int}(n:Int)(h:an b p=true):an b (aG b p n).2.1=true:=by
 unfold aG
 split
 ·exact h
 ·split
  ·exact h
  ·simp only[an,Bool.and_eq_true,decide_eq_true_eq] at h ⊢
   exact ⟨h.1,by omega,by omega⟩
theorem aL {b:List Int}{s:aC}(k:IntKind)(n:Nat)(h:an b s.2=true):an b (ac k n b s).2.2=true:=by
 unfold ac
 split
 ·exact Tz n h
 ·exact h
theorem Ga (b:List Int)(n:Nat)(s:aC):IntKind.i64.wrap (ac .i16 n b s).1=(ac .i16 n b s).1:=by
 unfold ac
 split
 ·have h:=cD .i16 (am b s.2 n).1
  simp only[cT,IntKind.min,IntKind.max,IntKind.signed,IntKind.bits] at h
  exact bx (by simp at h;omega) (by simp at h;omega)
 ·rfl
theorem QK (b:List Int)(n:Nat)(s:aC):IntKind.i64.wrap (ac .i32 n b s).1=(ac .i32 n b s).1:=by
 unfold ac
 split
 ·have h:=cD .i32 (am b s.2 n).1
  simp only[cT,IntKind.min,IntKind.max,IntKind.signed,IntKind.bits] at h
  exact bx (by simp at h;omega) (by simp at h;omega)
 ·rfl
theorem qB {b:List Int}{s:aC}(n:Int)(h:an b s.2=true):an b (bz b n s).2.2=true:=by
 unfold bz
 split
 ·split
  ·exact h
  ·exact Iq n h
 ·exact h
theorem xN {b:List Int}{s:aC}(n:Int)(h:an b s.2=true):an b (d3 n s).2=true:=by
 unfold d3
 split <;> exact h
theorem Ie {b:List Int}{s:aC}(n:Int)(h:an b s.2=true):an b (bU b n s).2.2=true:=by
 unfold bU
 split
 ·exact qB n (xN n h)
 ·exact qB n (xN n h)
abbrev qg:Io:=⟨[.ptr 0 0,.fnc 136 true [1]],lH,[],[N1],none⟩
def MR (d:qg.In):Tr qg.Res:=.ite (lB d.2) (.ret (.ret ((IntKind.i16.wrap (am d.2.2.1.1 d.2.2.1.2.1 2).1,()),cB d.2.1.2.1 d.2.2.1.1 ((am d.2.2.1.1 d.2.2.1.2.1 2).2.2,(am d.2.2.1.1 d.2.2.1.2.1 2).2.1)))) .no
abbrev NA:List (Nat×Hc):=[(136,af jy vM)]
def U9:Hd:=bR NA
def O1:Lp:=bJ []
def DM (a0 a1:Int)(a2:List Int)(a3:Int):Option qg.Res:=bif bg a2 a3 then some (Out.ret ((IntKind.i16.wrap (am a2 a3 2).1,()),((),a0,(am a2 a3 2).2.2,()),(a2,(am a2 a3 2).2.1,()),())) else none
theorem SZ (a0 a1:Int)(a2:List Int)(a3:Int):Io.run tt U9 dr O1 qg Tryz.f200 (((),(),()),((),a0,a1,()),(a2,a3,()),())=DM a0 a1 a2 a3:=by kernel_rfl
theorem Vx:HcOk prog 200 (af qg MR):=by
 refine ao (n:=400) hm (cs:=NA) (.cons CJ .nil) (lp:=O1) (fn:=Tryz.f200) (by kernel_rfl) (by kernel_rfl) (by kernel_rfl) qg (.done (by kernel_rfl)) MR ?_
 rintro ⟨⟨⟨⟩,⟨⟩,⟨⟩⟩,⟨⟨⟩,(v:Int),(e:Int),⟨⟩⟩,⟨(b:List Int),(p:Int),⟨⟩⟩,⟨⟩⟩ out hw ho
 obtain ⟨hg,ho⟩:=Tr.guard ho
 have hg:an b p=true:=hg
 cases ho
 refine (SZ v e b p).trans ?_
 unfold DM
 exact aa (oy hg) _ _
abbrev qh:Io:=⟨[.ptr 0 0,.fnc 74 true [1]],lH,[],[KO],none⟩
def MS (d:qh.In):Tr qh.Res:=.ite (lB d.2) (.ret (.ret ((IntKind.i32.wrap (am d.2.2.1.1 d.2.2.1.2.1 4).1,()),cB d.2.1.2.1 d.2.2.1.1 ((am d.2.2.1.1 d.2.2.1.2.1 4).2.2,(am d.2.2.1.1 d.2.2.1.2.1 4).2.1)))) .no
abbrev NB:List (Nat×Hc):=[(74,af jz vN)]
def Va:Hd:=bR NB
def O2:Lp:=bJ []
def DN (a0 a1:Int)(a2:List Int)(a3:Int):Option qh.Res:=bif bg a2 a3 then some (Out.ret ((IntKind.i32.wrap (am a2 a3 4).1,()),((),a0,(am a2 a3 4).2.2,()),(a2,(am a2 a3 4).2.1,()),())) else none
theorem S2 (a0 a1:Int)(a2:List Int)(a3:Int):Io.run tt Va dr O2 qh Tryz.f201 (((),(),()),((),a0,a1,()),(a2,a3,()),())=DN a0 a1 a2 a3:=by kernel_rfl
theorem Vy:HcOk prog 201 (af qh MS):=by
 refine ao (n:=400) hm (cs:=NB) (.cons CK .nil) (lp:=O2) (fn:=Tryz.f201) (by kernel_rfl) (by kernel_rfl) (by kernel_rfl) qh (.done (by kernel_rfl)) MS ?_
 rintro ⟨⟨⟨⟩,⟨⟩,⟨⟩⟩,⟨⟨⟩,(v:Int),(e:Int),⟨⟩⟩,⟨(b:List Int),(p:Int),⟨⟩⟩,⟨⟩⟩ out hw ho
 obtain ⟨hg,ho⟩:=Tr.guard ho
 have hg:an b p=true:=hg
 cases ho
 refine (S2 v e b p).trans ?_
 unfold DN
 exact aa (oy hg) _ _
abbrev qi:Io:=⟨[.ptr 0 0,.fnc 207 true [1]],lH,[],[N2],none⟩
def MT (d:qi.In):Tr qi.Res:=.ite (lB d.2) (.ret (.ret ((IntKind.i64.wrap (am d.2.2.1.1 d.2.2.1.2.1 8).1,()),cB d.2.1.2.1 d.2.2.1.1 ((am d.2.2.1.1 d.2.2.1.2.1 8).2.2,(am d.2.2.1.1 d.2.2.1.2.1 8).2.1)))) .no
abbrev NC:List (Nat×Hc):=[(207,af mT GO)]
def Vb:Hd:=bR NC
def O3:Lp:=bJ []
def DO (a0 a1:Int)(a2:List Int)(a3:Int):Option qi.Res:=bif bg a2 a3 then some (Out.ret ((IntKind.i64.wrap (am a2 a3 8).1,()),((),a0,(am a2 a3 8).2.2,()),(a2,(am a2 a3 8).2.1,()),())) else none
theorem S3 (a0 a1:Int)(a2:List Int)(a3:Int):Io.run tt Vb dr O3 qi Tryz.f206 (((),(),()),((),a0,a1,()),(a2,a3,()),())=DO a0 a1 a2 a3:=by kernel_rfl
theorem Vz:HcOk prog 206 (af qi MT):=by
 refine ao (n:=400) hm (cs:=NC) (.cons SI .nil) (lp:=O3) (fn:=Tryz.f206) (by kernel_rfl) (by kernel_rfl) (by kernel_rfl) qi (.done (by kernel_rfl)) MT ?_
 rintro ⟨⟨⟨⟩,⟨⟩,⟨⟩⟩,⟨⟨⟩,(v:Int),(e:Int),⟨⟩⟩,⟨(b:List Int),(p:Int),⟨⟩⟩,⟨⟩⟩ out hw ho
 obtain ⟨hg,ho⟩:=Tr.guard ho
 have hg:an b p=true:=hg
 cases ho
 refine (S3 v e b p).trans ?_
 unfold DO
 exact aa (oy hg) _ _
abbrev wH:Io:=⟨[.ptr 0 0,.ptr 1 0],W6,[],[dO,dI],none⟩
def UG (d:wH.In):Tr wH.Res:=.ite (an d.2.2.2.2.1.1 d.2.2.2.2.1.2.1) (.ret (.ret (((aG d.2.2.2.2.1.1 d.2.2.2.2.1.2.1 d.2.2.1.1).1,((aG d.2.2.2.2.1.1 d.2.2.2.2.1.2.1 d.2.2.1.1).2.2,())),(((),()),(d.2.2.1,(d.2.2.2.1,((d.2.2.2.2.1.1,((aG d.2.2.2.2.1.1 d.2.2.2.2.1.2.1 d.2.2.1.1).2.1,())),()))))))) .no
abbrev T5:List (Nat×Hc):=[(63,af e9 ma)]
def W0:Hd:=bR T5
def Ui:Lp:=bJ []
def IX (a0 a1 a2:Int)(a3:List Int)(a4:Int):Option wH.Res:=bif bg a3 a4 then some (Out.ret (((aG a3 a4 a0).1,(aG a3 a4 a0).2.2,()),((),()),(a0,()),((),a1,a2,()),(a3,(aG a3 a4 a0).2.1,()),())) else none
theorem VL (a0 a1 a2:Int)(a3:List Int)(a4:Int):Io.run tt W0 dr Ui wH Tryz.f214 (((),(),()),((),()),(a0,()),((),a1,a2,()),(a3,a4,()),())=IX a0 a1 a2 a3 a4:=by kernel_rfl
theorem Xa:HcOk prog 214 (af wH UG):=by
 refine ao (n:=400) hm (cs:=T5) (.cons n7 .nil) (lp:=Ui) (fn:=Tryz.f214) (by kernel_rfl) (by kernel_rfl) (by kernel_rfl) wH (.done (by kernel_rfl)) UG ?_
 rintro ⟨⟨⟨⟩,⟨⟩,⟨⟩⟩,⟨⟨⟩,⟨⟩⟩,⟨(n:Int),⟨⟩⟩,⟨⟨⟩,(v:Int),(e:Int),⟨⟩⟩,⟨(b:List Int),(p:Int),⟨⟩⟩,⟨⟩⟩ out hw ho
 obtain ⟨hg,ho⟩:=Tr.guard ho
 have hg:an b p=true:=hg
 cases ho
 refine (VL n v e b p).trans ?_
 unfold IX
 exact aa (oy hg) _ _
abbrev wF:Io:=⟨[.ptr 0 0,.fnc 214 false [2,3]],W5,[],[dO],none⟩
def UE (d:wF.In):Tr wF.Res:=.ite (an d.2.2.1.1 d.2.2.1.2.1) (.ret (.ret (((aG d.2.2.1.1 d.2.2.1.2.1 d.2.2.2.2.1.1).1,()),(((),(d.2.1.2.1,((aG d.2.2.1.1 d.2.2.1.2.1 d.2.2.2.2.1.1).2.2,()))),((d.2.2.1.1,((aG d.2.2.1.1 d.2.2.1.2.1 d.2.2.2.2.1.1).2.1,())),(((),()),(d.2.2.2.2.1,()))))))) .no
abbrev T4:List (Nat×Hc):=[(214,af wH UG)]
def WZ:Hd:=bR T4
def Uh:Lp:=bJ []
def IV (a0 a1:Int)(a2:List Int)(a3 a4:Int):Option wF.Res:=bif an a2 a3 then some (Out.ret (((aG a2 a3 a4).1,()),((),a0,(aG a2 a3 a4).2.2,()),(a2,(aG a2 a3 a4).2.1,()),((),()),(a4,()),())) else none
theorem VJ (a0 a1:Int)(a2:List Int)(a3 a4:Int):Io.run tt WZ dr Uh wF Tryz.f213 (((),(),()),((),a0,a1,()),(a2,a3,()),((),()),(a4,()),())=IV a0 a1 a2 a3 a4:=by kernel_rfl
theorem W8:HcOk prog 213 (af wF UE):=by
 refine ao (n:=400) hm (cs:=T4) (.cons Xa .nil) (lp:=Uh) (fn:=Tryz.f213) (by kernel_rfl) (by kernel_rfl) (by kernel_rfl) wF (.done (by kernel_rfl)) UE ?_
 rintro ⟨⟨⟨⟩,⟨⟩,⟨⟩⟩,⟨⟨⟩,(v:Int),(e:Int),⟨⟩⟩,⟨(b:List Int),(p:Int),⟨⟩⟩,⟨⟨⟩,⟨⟩⟩,⟨(n:Int),⟨⟩⟩,⟨⟩⟩ out hw ho
 obtain ⟨hg,ho⟩:=Tr.guard ho
 have hg:an b p=true:=hg
 cases ho
 refine (VJ v e b p n).trans ?_
 unfold IV
 exact aa hg _ _
abbrev k7:Io:=⟨[.ptr 0 0],lH,[],[N1],none⟩
def yV (d:k7.In):Tr k7.Res:=.ite (lB d.2) (.ret (.ret (((ac .i16 2 d.2.2.1.1 (cx d.2)).1,()),cB d.2.1.2.1 d.2.2.1.1 (ac .i16 2 d.2.2.1.1 (cx d.2)).2))) .no
abbrev Nw:List (Nat×Hc):=[(200,af qg MR)]
def U5:Hd:=bR Nw
def OX:Lp:=bJ []
def DI (a0 a1:Int)(a2:List Int)(a3:Int):Option k7.Res:=bif a1 != 0 then some (Out.ret ((0,()),((),a0,a1,()),(a2,a3,()),())) else bif an a2 a3 then some (Out.ret ((IntKind.i16.wrap (am a2 a3 2).1,()),((),a0,(am a2 a3 2).2.2,()),(a2,(am a2 a3 2).2.1,()),())) else none
theorem SU (a0 a1:Int)(a2:List Int)(a3:Int):Io.run tt U5 dr OX k7 Tryz.f142 (((),()),((),a0,a1,()),(a2,a3,()),())=DI a0 a1 a2 a3:=by kernel_rfl
theorem CA:HcOk prog 142 (af k7 yV):=by
 refine ao (n:=400) hm (cs:=Nw) (.cons Vx .nil) (lp:=OX) (fn:=Tryz.f142) (by kernel_rfl) (by kernel_rfl) (by kernel_rfl) k7 (.done (by kernel_rfl)) yV ?_
 rintro ⟨⟨⟨⟩,⟨⟩⟩,⟨⟨⟩,(v:Int),(e:Int),⟨⟩⟩,⟨(b:List Int),(p:Int),⟨⟩⟩,⟨⟩⟩ out hw ho
 obtain ⟨hg,ho⟩:=Tr.guard ho
 have hg:an b p=true:=hg
 cases ho
 refine (SU v e b p).trans ?_
 unfold DI
 show _=some (Out.ret (((ac .i16 2 b (e,p)).1,()),cB v b (ac .i16 2 b (e,p)).2))
 unfold ac
 by_cases h:e=0
 ·rw[if_pos h]
  refine (ae (by simpa using h) _ _).trans ?_
  exact aa hg _ _
 ·rw[if_neg h]
  exact aa (by simpa using h) _ _
abbrev cC:Io:=⟨[.ptr 0 0],lH,[],[KO],none⟩
def eT (d:cC.In):Tr cC.Res:=.ite (lB d.2) (.ret (.ret (((ac .i32 4 d.2.2.1.1 (cx d.2)).1,()),cB d.2.1.2.1 d.2.2.1.1 (ac .i32 4 d.2.2.1.1 (cx d.2)).2))) .no
abbrev Nx:List (Nat×Hc):=[(201,af qh MS)]
def U6:Hd:=bR Nx
def OY:Lp:=bJ []
def DJ (a0 a1:Int)(a2:List Int)(a3:Int):Option cC.Res:=bif a1 != 0 then some (Out.ret ((0,()),((),a0,a1,()),(a2,a3,()),())) else bif an a2 a3 then some (Out.ret ((IntKind.i32.wrap (am a2 a3 4).1,()),((),a0,(am a2 a3 4).2.2,()),(a2,(am a2 a3 4).2.1,()),())) else none
theorem SW (a0 a1:Int)(a2:List Int)(a3:Int):Io.run tt U6 dr OY cC Tryz.f143 (((),()),((),a0,a1,()),(a2,a3,()),())=DJ a0 a1 a2 a3:=by kernel_rfl
theorem dg:HcOk prog 143 (af cC eT):=by
 refine ao (n:=400) hm (cs:=Nx) (.cons Vy .nil) (lp:=OY) (fn:=Tryz.f143) (by kernel_rfl) (by kernel_rfl) (by kernel_rfl) cC (.done (by kernel_rfl)) eT ?_
 rintro ⟨⟨⟨⟩,⟨⟩⟩,⟨⟨⟩,(v:Int),(e:Int),⟨⟩⟩,⟨(b:List Int),(p:Int),⟨⟩⟩,⟨⟩⟩ out hw ho
 obtain ⟨hg,ho⟩:=Tr.guard ho
 have hg:an b p=true:=hg
 cases ho
 refine (SW v e b p).trans ?_
 unfold DJ
 show _=some (Out.ret (((ac .i32 4 b (e,p)).1,()),cB v b (ac .i32 4 b (e,p)).2))
 unfold ac
 by_cases h:e=0
 ·rw[if_pos h]
  refine (ae (by simpa using h) _ _).trans ?_
  exact aa hg _ _
 ·rw[if_neg h]
  exact aa (by simpa using h) _ _
abbrev k8:Io:=⟨[.ptr 0 0],lH,[],[N2],none⟩
def yW (d:k8.In):Tr k8.Res:=.ite (lB d.2) (.ret (.ret (((ac .i64 8 d.2.2.1.1 (cx d.2)).1,()),cB d.2.1.2.1 d.2.2.1.1 (ac .i64 8 d.2.2.1.1 (cx d.2)).2))) .no
abbrev Ny:List (Nat×Hc):=[(206,af qi MT)]
def U7:Hd:=bR Ny
def OZ:Lp:=bJ []
def DK (a0 a1:Int)(a2:List Int)(a3:Int):Option k8.Res:=bif a1 != 0 then some (Out.ret ((0,()),((),a0,a1,()),(a2,a3,()),())) else bif an a2 a3 then some (Out.ret ((IntKind.i64.wrap (am a2 a3 8).1,()),((),a0,(am a2 a3 8).2.2,()),(a2,(am a2 a3 8).2.1,()),())) else none
theorem SX (a0 a1:Int)(a2:List Int)(a3:Int):Io.run tt U7 dr OZ k8 Tryz.f156 (((),()),((),a0,a1,()),(a2,a3,()),())=DK a0 a1 a2 a3:=by kernel_rfl
theorem xm:HcOk prog 156 (af k8 yW):=by
 refine ao (n:=400) hm (cs:=Ny) (.cons Vz .nil) (lp:=OZ) (fn:=Tryz.f156) (by kernel_rfl) (by kernel_rfl) (by kernel_rfl) k8 (.done (by kernel_rfl)) yW ?_
 rintro ⟨⟨⟨⟩,⟨⟩⟩,⟨⟨⟩,(v:Int),(e:Int),⟨⟩⟩,⟨(b:List Int),(p:Int),⟨⟩⟩,⟨⟩⟩ out hw ho
 obtain ⟨hg,ho⟩:=Tr.guard ho
 have hg:an b p=true:=hg
 cases ho
 refine (SX v e b p).trans ?_
 unfold DK
 show _=some (Out.ret (((ac .i64 8 b (e,p)).1,()),cB v b (ac .i64 8 b (e,p)).2))
 unfold ac
 by_cases h:e=0
 ·rw[if_pos h]
  refine (ae (by simpa using h) _ _).trans ?_
  exact aa hg _ _
 ·rw[if_neg h]
  exact aa (by simpa using h) _ _
abbrev ju:Io:=⟨[.ptr 0 0,dI],lH,[],[dO],none⟩
def vw (d:ju.In):Tr ju.Res:=.ite (lB d.2) (.ret (.ret (((bz d.2.2.1.1 d.1.2.1 (cx d.2)).1,()),cB d.2.1.2.1 d.2.2.1.1 (bz d.2.2.1.1 d.1.2.1 (cx d.2)).2))) .no
abbrev Jd:List (Nat×Hc):=[(213,af wF UE)]
def RP:Hd:=bR Jd
def JP:Lp:=bJ []
def zy (a0 a1 a2:Int)(a3:List Int)(a4:Int):Option ju.Res:=bif a2 == 0 then bif decide (a0<0) then some (Out.ret (([],()),((),a1,5,()),(a3,a4,()),())) else bif a2 != 0 then some (Out.ret (([],()),((),a1,a2,()),(a3,a4,()),())) else bif an a3 a4 then some (Out.ret (((aG a3 a4 a0).1,()),((),a1,(aG a3 a4 a0).2.2,()),(a3,(aG a3 a4 a0).2.1,()),())) else none else bif a2 != 0 then some (Out.ret (([],()),((),a1,a2,()),(a3,a4,()),())) else bif an a3 a4 then some (Out.ret (((aG a3 a4 a0).1,()),((),a1,(aG a3 a4 a0).2.2,()),(a3,(aG a3 a4 a0).2.1,()),())) else none
theorem P5 (a0 a1 a2:Int)(a3:List Int)(a4:Int):Io.run tt RP dr JP ju Tryz.f202 (((),a0,()),((),a1,a2,()),(a3,a4,()),())=zy a0 a1 a2 a3 a4:=by kernel_rfl
theorem CE:HcOk prog 202 (af ju vw):=by
 refine ao (n:=400) hm (cs:=Jd) (.cons W8 .nil) (lp:=JP) (fn:=Tryz.f202) (by kernel_rfl) (by kernel_rfl) (by kernel_rfl) ju (.done (by kernel_rfl)) vw ?_
 rintro ⟨⟨⟨⟩,(n:Int),⟨⟩⟩,⟨⟨⟩,(v:Int),(e:Int),⟨⟩⟩,⟨(b:List Int),(p:Int),⟨⟩⟩,⟨⟩⟩ out hw ho
 obtain ⟨hg,ho⟩:=Tr.guard ho
 have hg:an b p=true:=hg
 cases ho
 refine (P5 n v e b p).trans ?_
 unfold zy
 show _=some (Out.ret (((bz b n (e,p)).1,()),cB v b (bz b n (e,p)).2))
 unfold bz
 by_cases h:e=0
 ·rw[if_pos h]
  refine (aa (by simpa using h) _ _).trans ?_
  by_cases h2:n<0
  ·rw[if_pos h2]
   exact aa (by simpa using h2) _ _
  ·rw[if_neg h2]
   refine (ae (by simpa using h2) _ _).trans ?_
   refine (ae (by simpa using h) _ _).trans ?_
   exact aa hg _ _
 ·rw[if_neg h]
  refine (ae (by simpa using h) _ _).trans ?_
  exact aa (by simpa using h) _ _
abbrev jt:Io:=⟨[.ptr 0 0],uj,[],[N1],none⟩
def vv (d:jt.In):Tr jt.Res:=.ite (decide (d.2.1.2.2.1≠0)) (.ret (.ret ((0,()),d.2))) .no
abbrev I9:List (Nat×Hc):=[]
def RL:Hd:=bR I9
def JK:Lp:=bJ []
def zu (a0 a1:Int):Option jt.Res:=bif a1 != 0 then some (Out.ret ((0,()),((),a0,a1,()),())) else none
theorem P1 (a0 a1:Int):Io.run tt RL dr JK jt Tryz.f142 (((),()),((),a0,a1,()),())=zu a0 a1:=by kernel_rfl
theorem CB:HcOk prog 142 (af jt vv):=by
 refine ao (n:=400) hm (cs:=I9) HcsOk.nil (lp:=JK) (fn:=Tryz.f142) (by kernel_rfl) (by kernel_rfl) (by kernel_rfl) jt (.done (by kernel_rfl)) vv ?_
 rintro ⟨⟨⟨⟩,⟨⟩⟩,⟨⟨⟩,(v:Int),(e:Int),⟨⟩⟩,⟨⟩⟩ out hw ho
 obtain ⟨hg,ho⟩:=Tr.guard ho
 have hg:e≠0:=of_decide_eq_true hg
 cases ho
 refine (P1 v e).trans ?_
 unfold zu
 exact aa (by simpa using hg) _ _
abbrev er:Io:=⟨[.ptr 0 0],uj,[],[KO],none⟩
def jY (d:er.In):Tr er.Res:=.ite (decide (d.2.1.2.2.1≠0)) (.ret (.ret ((0,()),d.2))) .no
abbrev Ja:List (Nat×Hc):=[]
def RM:Hd:=bR Ja
def JL:Lp:=bJ []
def zv (a0 a1:Int):Option er.Res:=bif a1 != 0 then some (Out.ret ((0,()),((),a0,a1,()),())) else none
theorem P2 (a0 a1:Int):Io.run tt RM dr JL er Tryz.f143 (((),()),((),a0,a1,()),())=zv a0 a1:=by kernel_rfl
theorem jF:HcOk prog 143 (af er jY):=by
 refine ao (n:=400) hm (cs:=Ja) HcsOk.nil (lp:=JL) (fn:=Tryz.f143) (by kernel_rfl) (by kernel_rfl) (by kernel_rfl) er (.done (by kernel_rfl)) jY ?_
 rintro ⟨⟨⟨⟩,⟨⟩⟩,⟨⟨⟩,(v:Int),(e:Int),⟨⟩⟩,⟨⟩⟩ out hw ho
 obtain ⟨hg,ho⟩:=Tr.guard ho
 have hg:e≠0:=of_decide_eq_true hg
 cases ho
 refine (P2 v e).trans ?_
 unfold zv
 exact aa (by simpa using hg) _ _
abbrev gv:Io:=⟨[.ptr 0 0,dI],uj,[],[dO],none⟩
def qO (d:gv.In):Tr gv.Res:=.ite (decide (d.2.1.2.2.1≠0)) (.ret (.ret ((([]:List Int),()),d.2))) .no
abbrev Ed:List (Nat×Hc):=[]
def Om:Hd:=bR Ed
def E4:Lp:=bJ []
def v5 (a0 a1 a2:Int):Option gv.Res:=bif a2 == 0 then bif decide (a0<0) then some (Out.ret (([],()),((),a1,5,()),())) else bif a2 != 0 then some (Out.ret (([],()),((),a1,a2,()),())) else none else bif a2 != 0 then some (Out.ret (([],()),((),a1,a2,()),())) else none
theorem LJ (a0 a1 a2:Int):Io.run tt Om dr E4 gv Tryz.f202 (((),a0,()),((),a1,a2,()),())=v5 a0 a1 a2:=by kernel_rfl
theorem xn:HcOk prog 202 (af gv qO):=by
 refine ao (n:=400) hm (cs:=Ed) HcsOk.nil (lp:=E4) (fn:=Tryz.f202) (by kernel_rfl) (by kernel_rfl) (by kernel_rfl) gv (.done (by kernel_rfl)) qO ?_
 rintro ⟨⟨⟨⟩,(n:Int),⟨⟩⟩,⟨⟨⟩,(v:Int),(e:Int),⟨⟩⟩,⟨⟩⟩ out hw ho
 obtain ⟨hg,ho⟩:=Tr.guard ho
 have hg:e≠0:=of_decide_eq_true hg
 cases ho
 refine (LJ n v e).trans ?_
 unfold v5
 refine (ae (by simpa using hg) _ _).trans ?_
 exact aa (by simpa using hg) _ _
abbrev kH:Io:=⟨[.ptr 0 0,dI],lH,[],[.dat .str false false],none⟩
def Bx (d:kH.In):Tr kH.Res:=.ite (lB d.2) (.ret (.ret (((bU d.2.2.1.1 d.1.2.1 (cx d.2)).1,()),cB d.2.1.2.1 d.2.2.1.1 (bU d.2.2.1.1 d.1.2.1 (cx d.2)).2))) .no
abbrev Je:List (Nat×Hc):=[(202,eR de (af gv qO) (af ju vw)),(92,af lb za)]
def RQ:Hd:=bR Je
def JQ:Lp:=bJ []
def zA (a0 a1 a2:Int)(a3:List Int)(a4:Int):Option kH.Res:=bif decide (255<a0) then bif an a3 a4 then some (Out.ret (([],()),((),a1,4,()),(a3,a4,()),())) else none else bif an a3 a4 then bif !(cM (bz a3 a0 (a2,a4)).1).2 then some (Out.ret ((List.map (fun (c:UInt8)=>(↑c.toNat:Int)) [],()),((),a1,6,()),(a3,(bz a3 a0 (a2,a4)).2.2,()),())) else some (Out.ret (((bz a3 a0 (a2,a4)).1,()),((),a1,(bz a3 a0 (a2,a4)).2.1,()),(a3,(bz a3 a0 (a2,a4)).2.2,()),())) else none
theorem P6 (a0 a1 a2:Int)(a3:List Int)(a4:Int):Io.run tt RQ dr JQ kH Tryz.f199 (((),a0,()),((),a1,a2,()),(a3,a4,()),())=zA a0 a1 a2 a3 a4:=by kernel_rfl
theorem Kc:HcOk prog 199 (af kH Bx):=by
 refine ao (n:=400) hm (cs:=Je) (.cons (aZ xn CE) (.cons CI .nil)) (lp:=JQ) (fn:=Tryz.f199) (by kernel_rfl) (by kernel_rfl) (by kernel_rfl) kH (.done (by kernel_rfl)) Bx ?_
 rintro ⟨⟨⟨⟩,(n:Int),⟨⟩⟩,⟨⟨⟩,(v:Int),(e:Int),⟨⟩⟩,⟨(b:List Int),(p:Int),⟨⟩⟩,⟨⟩⟩ out hw ho
 obtain ⟨hg,ho⟩:=Tr.guard ho
 have hg:an b p=true:=hg
 cases ho
 refine (P6 n v e b p).trans ?_
 unfold zA
 show _=some (Out.ret (((bU b n (e,p)).1,()),cB v b (bU b n (e,p)).2))
 unfold bU d3
 by_cases h:255<n
 ·rw[if_pos h]
  refine (aa (by simpa using h) _ _).trans ?_
  refine (aa hg _ _).trans ?_
  have e1:bz b n (4,p)=([],(4,p)):=rfl
  rw[e1,if_pos (by rfl)]
 ·rw[if_neg h]
  refine (ae (by simpa using h) _ _).trans ?_
  refine (aa hg _ _).trans ?_
  cases hu:(cM (bz b n (e,p)).1).2
  ·rw[if_neg (by simp)]
   rfl
  ·rw[if_pos rfl]
   rfl
abbrev iV:Io:=⟨[.ptr 0 0,dI],uj,[],[.dat .str false false],none⟩
def uS (d:iV.In):Tr iV.Res:=.ite (decide (d.2.1.2.2.1≠0)&&decide (d.1.2.1≤255)) (.ret (.ret ((([]:List Int),()),d.2))) .no
abbrev Ee:List (Nat×Hc):=[(202,eR de (af gv qO) (af ju vw)),(92,af lb za)]
def On:Hd:=bR Ee
def E5:Lp:=bJ []
def v6 (a0 a1 a2:Int):Option iV.Res:=bif decide (255<a0) then some (Out.ret (([],()),((),a1,4,()),())) else bif decide (a2≠0) then some (Out.ret (([],()),((),a1,a2,()),())) else none
theorem LK (a0 a1 a2:Int):Io.run tt On dr E5 iV Tryz.f199 (((),a0,()),((),a1,a2,()),())=v6 a0 a1 a2:=by kernel_rfl
theorem Fv:HcOk prog 199 (af iV uS):=by
 refine ao (n:=400) hm (cs:=Ee) (.cons (aZ xn CE) (.cons CI .nil)) (lp:=E5) (fn:=Tryz.f199) (by kernel_rfl) (by kernel_rfl) (by kernel_rfl) iV (.done (by kernel_rfl)) uS ?_
 rintro ⟨⟨⟨⟩,(n:Int),⟨⟩⟩,⟨⟨⟩,(v:Int),(e:Int),⟨⟩⟩,⟨⟩⟩ out hw ho
 obtain ⟨hg,ho⟩:=Tr.guard ho
 obtain ⟨hg,h2⟩:=Bool.and_eq_true_iff.1 hg
 have hg:e≠0:=of_decide_eq_true hg
 have h2:n≤255:=of_decide_eq_true h2
 cases ho
 refine (LK n v e).trans ?_
 unfold v6
 refine (ae (by simp;omega) _ _).trans ?_
 exact aa (by simpa using hg) _ _
def bf (b:List Int)(s:aC):List Int×aC:=bU b (ac .i16 2 b s).1 (ac .i16 2 b s).2
abbrev la:Io:=⟨[.ptr 0 0],lH,[],[.dat .str false false],none⟩
def yY (d:la.In):Tr la.Res:=.ite (lB d.2) (.ret (.ret (((bf d.2.2.1.1 (cx d.2)).1,()),cB d.2.1.2.1 d.2.2.1.1 (bf d.2.2.1.1 (cx d.2)).2))) .no
abbrev NF:List (Nat×Hc):=[(142,eR de (af jt vv) (af k7 yV)),(199,eR de (af iV uS) (af kH Bx))]
def Vd:Hd:=bR NF
def O5:Lp:=bJ []
def DQ (a0 a1:Int)(a2:List Int)(a3:Int):Option la.Res:=bif an a2 a3 then bif an a2 (ac IntKind.i16 2 a2 (a1,a3)).2.2 then some (Out.ret (((bU a2 (IntKind.i64.wrap (ac IntKind.i16 2 a2 (a1,a3)).1) (ac IntKind.i16 2 a2 (a1,a3)).2).1,()),((),a0,(bU a2 (IntKind.i64.wrap (ac IntKind.i16 2 a2 (a1,a3)).1) (ac IntKind.i16 2 a2 (a1,a3)).2).2.1,()),(a2,(bU a2 (IntKind.i64.wrap (ac IntKind.i16 2 a2 (a1,a3)).1) (ac IntKind.i16 2 a2 (a1,a3)).2).2.2,()),())) else none else none
theorem S5 (a0 a1:Int)(a2:List Int)(a3:Int):Io.run tt Vd dr O5 la Tryz.f146 (((),()),((),a0,a1,()),(a2,a3,()),())=DQ a0 a1 a2 a3:=by kernel_rfl
theorem CD:HcOk prog 146 (af la yY):=by
 refine ao (n:=400) hm (cs:=NF) (.cons (aZ CB CA) (.cons (aZ Fv Kc) .nil)) (lp:=O5) (fn:=Tryz.f146) (by kernel_rfl) (by kernel_rfl) (by kernel_rfl) la (.done (by kernel_rfl)) yY ?_
 rintro ⟨⟨⟨⟩,⟨⟩⟩,⟨⟨⟩,(v:Int),(e:Int),⟨⟩⟩,⟨(b:List Int),(p:Int),⟨⟩⟩,⟨⟩⟩ out hw ho
 obtain ⟨hg,ho⟩:=Tr.guard ho
 have hg:an b p=true:=hg
 cases ho
 refine (S5 v e b p).trans ?_
 unfold DQ
 show _=some (Out.ret (((bf b (e,p)).1,()),cB v b (bf b (e,p)).2))
 rw[Ga]
 refine (aa hg _ _).trans ?_
 exact aa (aL .i16 2 (s:=(e,p)) hg) _ _
def ch (b:List Int)(s:aC):cW.den×aC:=if (ac .i16 2 b s).1 = -1 then ((true,(([]:List Int),())),(ac .i16 2 b s).2) else ((false,((bf b s).1,())),(bf b s).2)
abbrev mC:Io:=⟨[.ptr 0 0],lH,[],[ww],none⟩
def GI (d:mC.In):Tr mC.Res:=.ite (lB d.2) (.ret (.ret (((ch d.2.2.1.1 (cx d.2)).1,()),cB d.2.1.2.1 d.2.2.1.1 (ch d.2.2.1.1 (cx d.2)).2))) .no
abbrev Jb:List (Nat×Hc):=[(142,eR de (af jt vv) (af k7 yV)),(199,eR de (af iV uS) (af kH Bx))]
def RN:Hd:=bR Jb
def JM:Lp:=bJ []
def zw (a0 a1:Int)(a2:List Int)(a3:Int):Option mC.Res:=bif an a2 a3 then bif (ac IntKind.i16 2 a2 (a1,a3)).1 == -1 then some (Out.ret (((true,List.map (fun (c:UInt8)=>(↑c.toNat:Int)) [],()),()),((),a0,(ac IntKind.i16 2 a2 (a1,a3)).2.1,()),(a2,(ac IntKind.i16 2 a2 (a1,a3)).2.2,()),())) else bif an a2 (ac IntKind.i16 2 a2 (a1,a3)).2.2 then some (Out.ret (((false,(bU a2 (IntKind.i64.wrap (ac IntKind.i16 2 a2 (a1,a3)).1) (ac IntKind.i16 2 a2 (a1,a3)).2).1,()),()),((),a0,(bU a2 (IntKind.i64.wrap (ac IntKind.i16 2 a2 (a1,a3)).1) (ac IntKind.i16 2 a2 (a1,a3)).2).2.1,()),(a2,(bU a2 (IntKind.i64.wrap (ac IntKind.i16 2 a2 (a1,a3)).1) (ac IntKind.i16 2 a2 (a1,a3)).2).2.2,()),())) else none else none
theorem P3 (a0 a1:Int)(a2:List Int)(a3:Int):Io.run tt RN dr JM mC Tryz.f141 (((),()),((),a0,a1,()),(a2,a3,()),())=zw a0 a1 a2 a3:=by kernel_rfl
theorem Sv:HcOk prog 141 (af mC GI):=by
 refine ao (n:=400) hm (cs:=Jb) (.cons (aZ CB CA) (.cons (aZ Fv Kc) .nil)) (lp:=JM) (fn:=Tryz.f141) (by kernel_rfl) (by kernel_rfl) (by kernel_rfl) mC (.done (by kernel_rfl)) GI ?_
 rintro ⟨⟨⟨⟩,⟨⟩⟩,⟨⟨⟩,(v:Int),(e:Int),⟨⟩⟩,⟨(b:List Int),(p:Int),⟨⟩⟩,⟨⟩⟩ out hw ho
 obtain ⟨hg,ho⟩:=Tr.guard ho
 have hg:an b p=true:=hg
 cases ho
 refine (P3 v e b p).trans ?_
 unfold zw
 show _=some (Out.ret (((ch b (e,p)).1,()),cB v b (ch b (e,p)).2))
 rw[Ga]
 refine (aa hg _ _).trans ?_
 unfold ch bf
 by_cases h:(ac .i16 2 b (e,p)).1 = -1
 ·rw[if_pos h]
  exact aa (by simpa using h) _ _
 ·rw[if_neg h]
  refine (ae (by simpa using h) _ _).trans ?_
  exact aa (aL .i16 2 (s:=(e,p)) hg) _ _
def cP (b:List Int)(s:aC):ni.den×aC:=if (ac .i32 4 b s).1 = -1 then ((true,(([]:List Int),())),(ac .i32 4 b s).2) else ((false,((bz b (ac .i32 4 b s).1 (ac .i32 4 b s).2).1,())),(bz b (ac .i32 4 b s).1 (ac .i32 4 b s).2).2)
abbrev mB:Io:=⟨[.ptr 0 0],lH,[],[Hi],none⟩
def GH (d:mB.In):Tr mB.Res:=.ite (lB d.2) (.ret (.ret (((cP d.2.2.1.1 (cx d.2)).1,()),cB d.2.1.2.1 d.2.2.1.1 (cP d.2.2.1.1 (cx d.2)).2))) .no
abbrev I6:List (Nat×Hc):=[(143,eR de (af er jY) (af cC eT)),(202,eR de (af gv qO) (af ju vw))]
def RI:Hd:=bR I6
def JH:Lp:=bJ []
def zq (a0 a1:Int)(a2:List Int)(a3:Int):Option mB.Res:=bif an a2 a3 then bif (ac IntKind.i32 4 a2 (a1,a3)).1 == -1 then some (Out.ret (((true,[],()),()),((),a0,(ac IntKind.i32 4 a2 (a1,a3)).2.1,()),(a2,(ac IntKind.i32 4 a2 (a1,a3)).2.2,()),())) else bif an a2 (ac IntKind.i32 4 a2 (a1,a3)).2.2 then some (Out.ret (((false,(bz a2 (IntKind.i64.wrap (ac IntKind.i32 4 a2 (a1,a3)).1) (ac IntKind.i32 4 a2 (a1,a3)).2).1,()),()),((),a0,(bz a2 (IntKind.i64.wrap (ac IntKind.i32 4 a2 (a1,a3)).1) (ac IntKind.i32 4 a2 (a1,a3)).2).2.1,()),(a2,(bz a2 (IntKind.i64.wrap (ac IntKind.i32 4 a2 (a1,a3)).1) (ac IntKind.i32 4 a2 (a1,a3)).2).2.2,()),())) else none else none
theorem PY (a0 a1:Int)(a2:List Int)(a3:Int):Io.run tt RI dr JH mB Tryz.f149 (((),()),((),a0,a1,()),(a2,a3,()),())=zq a0 a1 a2 a3:=by kernel_rfl
theorem Su:HcOk prog 149 (af mB GH):=by
 refine ao (n:=400) hm (cs:=I6) (.cons (aZ jF dg) (.cons (aZ xn CE) .nil)) (lp:=JH) (fn:=Tryz.f149) (by kernel_rfl) (by kernel_rfl) (by kernel_rfl) mB (.done (by kernel_rfl)) GH ?_
 rintro ⟨⟨⟨⟩,⟨⟩⟩,⟨⟨⟩,(v:Int),(e:Int),⟨⟩⟩,⟨(b:List Int),(p:Int),⟨⟩⟩,⟨⟩⟩ out hw ho
 obtain ⟨hg,ho⟩:=Tr.guard ho
 have hg:an b p=true:=hg
 cases ho
 refine (PY v e b p).trans ?_
 unfold zq
 show _=some (Out.ret (((cP b (e,p)).1,()),cB v b (cP b (e,p)).2))
 rw[QK]
 refine (aa hg _ _).trans ?_
 unfold cP
 by_cases h:(ac .i32 4 b (e,p)).1 = -1
 ·rw[if_pos h]
  exact aa (by simpa using h) _ _
 ·rw[if_neg h]
  refine (ae (by simpa using h) _ _).trans ?_
  exact aa (aL .i32 4 (s:=(e,p)) hg) _ _
def aS (v lo hi e:Int):Bool:=if e=0∧lo≤v∧v≤hi then true else false
abbrev gY:Io:=⟨[.ptr 0 0,dI,dI],lH,[],[dB],none⟩
def qN (d:gY.In):Tr gY.Res:=.ret (.ret ((aS d.2.1.2.1 d.1.2.1 d.1.2.2.1 d.2.1.2.2.1,()),d.2))
abbrev Nv:List (Nat×Hc):=[]
def U4:Hd:=bR Nv
def OV:Lp:=bJ []
def DH (a0 a1 a2 a3:Int)(a4:List Int)(a5:Int):Option gY.Res:=bif a3 == 0 then bif decide (a0≤a2) then some (Out.ret ((decide (a2≤a1),()),((),a2,a3,()),(a4,a5,()),())) else some (Out.ret ((false,()),((),a2,a3,()),(a4,a5,()),())) else some (Out.ret ((false,()),((),a2,a3,()),(a4,a5,()),()))
theorem ST (a0 a1 a2 a3:Int)(a4:List Int)(a5:Int):Io.run tt U4 dr OV gY Tryz.f140 (((),a0,a1,()),((),a2,a3,()),(a4,a5,()),())=DH a0 a1 a2 a3 a4 a5:=by kernel_rfl
theorem qq:HcOk prog 140 (af gY qN):=by
 refine ao (n:=400) hm (cs:=Nv) HcsOk.nil (lp:=OV) (fn:=Tryz.f140) (by kernel_rfl) (by kernel_rfl) (by kernel_rfl) gY (.done (by kernel_rfl)) qN ?_
 rintro ⟨⟨⟨⟩,(lo:Int),(hi:Int),⟨⟩⟩,⟨⟨⟩,(v:Int),(e:Int),⟨⟩⟩,⟨(b:List Int),(p:Int),⟨⟩⟩,⟨⟩⟩ out hw ho
 cases ho
 refine (ST lo hi v e b p).trans ?_
 unfold DH
 show _=some (Out.ret ((aS v lo hi e,()),cB v b (e,p)))
 have hs:aS v lo hi e=((e == 0)&&(decide (lo≤v)&&decide (v≤hi))):=by
  unfold aS
  by_cases h:e=0∧lo≤v∧v≤hi
  ·rw[if_pos h];simp[h]
  ·rw[if_neg h]
   rw[eq_comm,Bool.eq_false_iff]
   intro h'
   simp only[Bool.and_eq_true,beq_iff_eq,decide_eq_true_eq] at h'
   exact h h'
 rw[hs]
 cases e == 0
 ·rfl
 ·cases decide (lo≤v) <;> rfl
abbrev iI:Io:=⟨[.ptr 0 0,dI,dI],uj,[],[dB],none⟩
def si (d:iI.In):Tr iI.Res:=.ite (decide (d.2.1.2.2.1≠0)) (.ret (.ret ((false,()),d.2))) .no
abbrev I8:List (Nat×Hc):=[]
def RK:Hd:=bR I8
def JJ:Lp:=bJ []
def zt (a0 a1 a2 a3:Int):Option iI.Res:=bif a3 == 0 then bif decide (a0≤a2) then some (Out.ret ((decide (a2≤a1),()),((),a2,a3,()),())) else some (Out.ret ((false,()),((),a2,a3,()),())) else some (Out.ret ((false,()),((),a2,a3,()),()))
theorem P0 (a0 a1 a2 a3:Int):Io.run tt RK dr JJ iI Tryz.f140 (((),a0,a1,()),((),a2,a3,()),())=zt a0 a1 a2 a3:=by kernel_rfl
theorem vj:HcOk prog 140 (af iI si):=by
 refine ao (n:=400) hm (cs:=I8) HcsOk.nil (lp:=JJ) (fn:=Tryz.f140) (by kernel_rfl) (by kernel_rfl) (by kernel_rfl) iI (.done (by kernel_rfl)) si ?_
 rintro ⟨⟨⟨⟩,(lo:Int),(hi:Int),⟨⟩⟩,⟨⟨⟩,(v:Int),(e:Int),⟨⟩⟩,⟨⟩⟩ out hw ho
 obtain ⟨hg,ho⟩:=Tr.guard ho
 have hg:e≠0:=of_decide_eq_true hg
 cases ho
 refine (P0 lo hi v e).trans ?_
 unfold zt
 exact ae (by simpa using hg) _ _
def aK (b:List Int)(s:aC):Int:=if s.1=0 then AO b s.2 else s.1
abbrev k6:Io:=⟨[.ptr 0 0],lH,[],[dI],none⟩
def yU (d:k6.In):Tr k6.Res:=.ret (.ret ((aK d.2.2.1.1 (cx d.2),()),(((),(d.2.1.2.1,(aK d.2.2.1.1 (cx d.2),()))),d.2.2)))
abbrev Nu:List (Nat×Hc):=[(203,af kM BI)]
def U3:Hd:=bR Nu
def OU:Lp:=bJ []
def DG (a0 a1:Int)(a2:List Int)(a3:Int):Option k6.Res:=bif a1 == 0 then some (Out.ret ((AO a2 a3,()),((),a0,AO a2 a3,()),(a2,a3,()),())) else some (Out.ret ((a1,()),((),a0,a1,()),(a2,a3,()),()))
theorem SS (a0 a1:Int)(a2:List Int)(a3:Int):Io.run tt U3 dr OU k6 Tryz.f150 (((),()),((),a0,a1,()),(a2,a3,()),())=DG a0 a1 a2 a3:=by kernel_rfl
theorem Cz:HcOk prog 150 (af k6 yU):=by
 refine ao (n:=400) hm (cs:=Nu) (.cons Ke .nil) (lp:=OU) (fn:=Tryz.f150) (by kernel_rfl) (by kernel_rfl) (by kernel_rfl) k6 (.done (by kernel_rfl)) yU ?_
 rintro ⟨⟨⟨⟩,⟨⟩⟩,⟨⟨⟩,(v:Int),(e:Int),⟨⟩⟩,⟨(b:List Int),(p:Int),⟨⟩⟩,⟨⟩⟩ out hw ho
 cases ho
 refine (SS v e b p).trans ?_
 unfold DG
 show _=some (Out.ret ((aK b (e,p),()),cB v b (aK b (e,p),p)))
 unfold aK
 by_cases h:e=0
 ·rw[if_pos h]
  exact aa (by simpa using h) _ _
 ·rw[if_neg h]
  exact ae (by simpa using h) _ _
abbrev iH:Io:=⟨[.ptr 0 0],uj,[],[dI],none⟩
def sh (d:iH.In):Tr iH.Res:=.ite (decide (d.2.1.2.2.1≠0)) (.ret (.ret ((d.2.1.2.2.1,()),d.2))) .no
abbrev I7:List (Nat×Hc):=[(203,af kM BI)]
def RJ:Hd:=bR I7
def JI:Lp:=bJ []
def zr (a0 a1:Int):Option iH.Res:=bif a1 == 0 then none else some (Out.ret ((a1,()),((),a0,a1,()),()))
theorem PZ (a0 a1:Int):Io.run tt RJ dr JI iH Tryz.f150 (((),()),((),a0,a1,()),())=zr a0 a1:=by kernel_rfl
theorem vi:HcOk prog 150 (af iH sh):=by
 refine ao (n:=400) hm (cs:=I7) (.cons Ke .nil) (lp:=JI) (fn:=Tryz.f150) (by kernel_rfl) (by kernel_rfl) (by kernel_rfl) iH (.done (by kernel_rfl)) sh ?_
 rintro ⟨⟨⟨⟩,⟨⟩⟩,⟨⟨⟩,(v:Int),(e:Int),⟨⟩⟩,⟨⟩⟩ out hw ho
 obtain ⟨hg,ho⟩:=Tr.guard ho
 have hg:e≠0:=of_decide_eq_true hg
 cases ho
 refine (PZ v e).trans ?_
 unfold zr
 exact ae (by simpa using hg) _ _
abbrev k9:Io:=⟨[dI,dL],[],lH,[.ptr 0 0],none⟩
def yX (d:k9.In):Tr k9.Res:=.ite (decide (0≤d.1.1)&&(decide (d.1.1≤3)&&decide ((d.1.2.1.length:Int)≤130048))) (.ret (.ret (((),()),cB d.1.1 d.1.2.1 (0,0)))) .no
abbrev ND:List (Nat×Hc):=[(61,af gy p5)]
def Vc:Hd:=bR ND
def O4:Lp:=bJ []
def DP (a0:Int)(a1:List Int):Option k9.Res:=bif decide (a0<0) then none else bif decide (3<a0) then none else bif decide (130048<(↑a1.length:Int)) then none else bif decide (a1.length≤4294967296) then some (Out.ret (((),()),((),a0,0,()),(a1,0,()),())) else none
theorem S4 (a0:Int)(a1:List Int):Io.run tt Vc dr O4 k9 Tryz.f139 ((a0,a1,()),())=DP a0 a1:=by kernel_rfl
theorem CC:HcOk prog 139 (af k9 yX):=by
 refine ao (n:=400) hm (cs:=ND) (.cons rL .nil) (lp:=O4) (fn:=Tryz.f139) (by kernel_rfl) (by kernel_rfl) (by kernel_rfl) k9 (.done (by kernel_rfl)) yX ?_
 rintro ⟨⟨(v:Int),(b:List Int),⟨⟩⟩,⟨⟩⟩ out hw ho
 obtain ⟨hg,ho⟩:=Tr.guard ho
 simp only[Bool.and_eq_true,decide_eq_true_eq] at hg
 obtain ⟨h1,h2,h3⟩:=hg
 have h1:(0:Int)≤v:=h1
 have h2:v≤(3:Int):=h2
 have h3:(b.length:Int)≤130048:=h3
 cases ho
 refine (S4 v b).trans ?_
 unfold DP
 refine (ae (by simp;omega) _ _).trans ?_
 refine (ae (by simp;omega) _ _).trans ?_
 refine (ae (by simp;omega) _ _).trans ?_
 exact aa (by simp;omega) _ _
def bB (v:Int):Int:=if v<0∨3<v then 8 else 4
abbrev iJ:Io:=⟨[dI,dL],[],uj,[.ptr 0 0],none⟩
def nE (d:iJ.In):Tr iJ.Res:=.ite (decide (0≤d.1.1)&&(decide (d.1.1≤3)&&decide ((d.1.2.1.length:Int)≤130048))) .no (.ret (.ret (((),()),(((),(d.1.1,(bB d.1.1,()))),()))))
abbrev Jc:List (Nat×Hc):=[(61,af gy p5)]
def RO:Hd:=bR Jc
def JN:Lp:=bJ []
def zx (a0:Int)(a1:List Int):Option iJ.Res:=bif decide (a0<0) then some (Out.ret (((),()),((),a0,8,()),())) else bif decide (3<a0) then some (Out.ret (((),()),((),a0,8,()),())) else bif decide (130048<(↑a1.length:Int)) then some (Out.ret (((),()),((),a0,4,()),())) else bif decide (a1.length≤4294967296) then none else none
theorem P4 (a0:Int)(a1:List Int):Io.run tt RO dr JN iJ Tryz.f139 ((a0,a1,()),())=zx a0 a1:=by kernel_rfl
theorem vm:HcOk prog 139 (af iJ nE):=by
 refine ao (n:=400) hm (cs:=Jc) (.cons rL .nil) (lp:=JN) (fn:=Tryz.f139) (by kernel_rfl) (by kernel_rfl) (by kernel_rfl) iJ (.done (by kernel_rfl)) nE ?_
 rintro ⟨⟨(v:Int),(b:List Int),⟨⟩⟩,⟨⟩⟩ out hw ho
 have hg:(decide (0≤v)&&(decide (v≤3)&&decide ((b.length:Int)≤130048)))=false:=by
  cases hc:(decide (0≤v)&&(decide (v≤3)&&decide ((b.length:Int)≤130048)))
  ·rfl
  ·have e1:nE ((v,(b,())),())=.ite true .no (.ret (.ret (((),()),(((),(v,(bB v,()))),())))):=congrArg (fun c=>Tr.ite c _ _) hc
   rw[e1] at ho
   cases ho
 have e1:nE ((v,(b,())),())=.ite false .no (.ret (.ret (((),()),(((),(v,(bB v,()))),())))):=congrArg (fun c=>Tr.ite c _ _) hg
 rw[e1] at ho
 cases ho
 refine (P4 v b).trans ?_
 unfold zx bB
 simp only[Bool.and_eq_false_iff,decide_eq_false_iff_not] at hg
 by_cases h1:v<0
 ·rw[if_pos (.inl h1)]
  exact aa (by simpa using h1) _ _
 ·refine (ae (by simpa using h1) _ _).trans ?_
  by_cases h2:3<v
  ·rw[if_pos (.inr h2)]
   exact aa (by simpa using h2) _ _
  ·rw[if_neg (by omega)]
   refine (ae (by simpa using h2) _ _).trans ?_
   exact aa (by simp;omega) _ _
abbrev lI:List (List Sh):=[[.ptr 1 0],[.ptr 2 0,dI,dI,dB],[dO,dI]]
abbrev jh:List (List Sh):=[[.ptr 1 0,dI,dI,dB],[dO,dI],[.ptr 0 0]]
abbrev dw (v:Int)(s:aV):jX lI:=(((),()),cb v s)
abbrev d0 (v:Int)(s:aV):jX jh:=(((),(v,(s.1,(s.2.1,())))),((s.2.2,(130048,())),(((),()),())))
abbrev gu (d:jX jh):aV:=(d.1.2.2.1,(d.1.2.2.2.1,d.2.1.1))
abbrev gt (d:jX jh):Bool:=decide (d.2.1.2.1=130048)&&decide (d.2.1.1.length≤130048)
def bk {α:Type}(one:α→aV→aV)(xs:List α)(s:aV):aV:=if 16<(xs.length:Int) then bA 9 s else xs.foldl (fun s x=>one x s) (ab xs.length 4 s)
abbrev cX:Ty:=.prod (.int .i32) (.prod ni .unit)
def iO (p:cX.den)(s:aV):aV:=bP p.2.1 (ab p.1 4 s)
def xB (p:cX.den):Bool:=decide (p.2.1.2.1.length≤2147483647)
abbrev oP (v:Int)(s:aV):(Int×(Int×(Bool×Unit)))×((List Int×(Int×Unit))×(Unit×Unit)):=((v,(s.1,(s.2.1,()))),((s.2.2,(130048,())),((),())))
theorem tl {s:aV}(p:List Int)(h:s.2.2.length≤130048):(iw p s).2.2.length≤130048:=by
 unfold iw
 split
 ·exact h
 ·simp only[List.length_append];omega
theorem jW {s:aV}(e:Int)(h:s.2.2.length≤130048):(bA e s).2.2.length≤130048:=by
 unfold bA;split <;> exact h
theorem iq {s:aV}(n:Bool×(List Int×Unit))(h:s.2.2.length≤130048):(bP n s).2.2.length≤130048:=by
 unfold bP
 split
 ·exact jW _ h
 ·split
  ·exact av _ _ h
  ·exact tl _ (av _ _ h)
theorem dd {s:aV}(t:List Int)(h:s.2.2.length≤130048):(bn t s).2.2.length≤130048:=by
 unfold bn
 split
 ·exact jW _ h
 ·split
  ·exact jW _ h
  ·exact tl _ (av _ _ h)
theorem xY {s:aV}(p:cX.den)(h:s.2.2.length≤130048):(iO p s).2.2.length≤130048:=iq _ (av _ _ h)
theorem eH {α:Type}{one:α→aV→aV}(h1:∀x s,s.2.2.length≤130048→(one x s).2.2.length≤130048):∀(xs:List α) (s:aV),s.2.2.length≤130048→(xs.foldl (fun s x=>one x s) s).2.2.length≤130048
 |[],_,h=>h
 |x::xs,s,h=>eH h1 xs (one x s) (h1 x s h)
theorem bF {α:Type}{one:α→aV→aV}(h1:∀x s,s.2.2.length≤130048→(one x s).2.2.length≤130048)(xs:List α){s:aV}(h:s.2.2.length≤130048):(bk one xs s).2.2.length≤130048:=by
 unfold bk
 split
 ·exact jW _ h
 ·exact eH h1 xs _ (av _ _ h)
def pr (xs:List cX.den):Bool:=xs.all xB
abbrev mQ:Io:=⟨[.dat cX true false,.ptr 0 0],lI,[],[],none⟩
def GL (d:mQ.In):Tr mQ.Res:=.ite (dW d.2.2&&xB d.1.1) (.ret (.ret ((),dw d.2.2.1.2.1 (iO d.1.1 (dX d.2.2))))) .no
abbrev Jk:List (Nat×Hc):=[(98,af cc dV),(104,af kL BA)]
def RW:Hd:=bR Jk
def JX:Lp:=bJ []
def zK (a0:Int)(a1:Bool)(a2:List Int)(a3 a4:Int)(a5:Bool)(a6:List Int)(a7:Int):Option mQ.Res:=bif decide (a7=130048)&&decide (a6.length≤130048) then bif decide (130048=130048)&&decide ((ab a0 4 (a4,a5,a6)).2.2.length≤130048)&&decide (a2.length≤2147483647) then some (Out.ret ((),((),()),((),a3,(bP (a1,a2,()) (ab a0 4 (a4,a5,a6))).1,(bP (a1,a2,()) (ab a0 4 (a4,a5,a6))).2.1,()),((bP (a1,a2,()) (ab a0 4 (a4,a5,a6))).2.2,130048,()),())) else none else none
theorem Qg (a0:Int)(a1:Bool)(a2:List Int)(a3 a4:Int)(a5:Bool)(a6:List Int)(a7:Int):Io.run tt RW dr JX mQ Tryz.f103 (((a0,(a1,a2,()),()),(),()),((),()),((),a3,a4,a5,()),(a6,a7,()),())=zK a0 a1 a2 a3 a4 a5 a6 a7:=by kernel_rfl
theorem SD:HcOk prog 103 (af mQ GL):=by
 refine ao (n:=400) hm (cs:=Jk) (.cons bN (.cons Kd .nil)) (lp:=JX) (fn:=Tryz.f103) (by kernel_rfl) (by kernel_rfl) (by kernel_rfl) mQ (.done (by kernel_rfl)) GL ?_
 rintro ⟨⟨⟨(x:Int),⟨(z:Bool),(t:List Int),⟨⟩⟩,⟨⟩⟩,⟨⟩,⟨⟩⟩,⟨⟨⟩,⟨⟩⟩,⟨⟨⟩,(v:Int),(e:Int),(f:Bool),⟨⟩⟩,⟨(b:List Int),(m:Int),⟨⟩⟩,⟨⟩⟩ out hw ho
 obtain ⟨hg,ho⟩:=Tr.guard ho
 obtain ⟨hg,h5⟩:=Bool.and_eq_true_iff.1 hg
 obtain ⟨rfl,hb⟩:=bo (v:=v) (e:=e) (f:=f) hg
 have h5:decide (t.length≤2147483647)=true:=h5
 cases ho
 refine (Qg x z t v e f b 130048).trans ?_
 unfold zK
 refine (aa (by simpa using hb) _ _).trans ?_
 refine (aa (by rw[h5];simpa using av (s:=(e,f,b)) x 4 hb) _ _).trans ?_
 rfl
abbrev fU (st cf:Nat)(T:Ty):Io:=⟨[.ptr 0 0,.dat (.sl st T) false false,.fnc cf false [2]],jh,[],[],none⟩
def IG (st cf:Nat)(T:Ty)(gx:T.den→Bool)(sps:Int→List T.den→aV→aV)(d:(fU st cf T).In):Tr (fU st cf T).Res:=.ite (gt d.2&&d.1.2.1.all gx) (.ret (.ret ((),d0 d.2.1.2.1 (sps d.2.1.2.1 d.1.2.1 (gu d.2))))) .no
abbrev bi (st cf:Nat)(T:Ty):Lo:=⟨⟨[.any,.any,.one (.fnp cf false [2]),.any,.any,.any,.any,.any,.any,.any,.any,.any,.any,.any,.any,.any,.any,.any,.one (.hol (.sl st T)),.one (.hol (.int IntKind.i64)),.one (.hol (.int IntKind.i64)),.any,.any,.any,.any,.any,.any,.any],[some [.ptr 1 0,.hol (.int IntKind.i64),.hol (.int IntKind.i64),.hol .bool],some [.onl 5 (Ty.int IntKind.u8) 514,.hol (.int IntKind.i64)],some [.ptr 0 0]]⟩,[(.exit 0,⟨(ag (dq (bQ []))),[some [.ptr 1 0,.hol (.int IntKind.i64),.hol (.int IntKind.i64),.hol .bool],some [.onl 5 (Ty.int IntKind.u8) 514,.hol (.int IntKind.i64)],some [.ptr 0 0]]⟩)]⟩
def eF (st cf:Nat)(T:Ty)(gx:T.den→Bool)(one:Int→T.den→aV→aV)(d:(bi st cf T).st.den):Tr (aJ (bi st cf T).xs):=
 .ite (decide (d.1.2.2.1=0)&&(decide (d.1.2.1=(d.1.1.length:Int))&&(decide (d.2.2.1.2.1=130048)&&(decide (d.2.2.1.1.length≤130048)&&d.1.1.all gx)))) (.ret (.ret ((),((),oP d.2.1.1 (d.1.1.foldl (fun s x=>one d.2.1.1 x s) (d.2.1.2.1,(d.2.1.2.2.1,d.2.2.1.1))))))) .no
def qI (st cf:Nat)(T:Ty)(gx:T.den→Bool)(one:Int→T.den→aV→aV){R:Type}(h6:List T.den)(h7 h8 h9 h10:Int)(h11:Bool)(h12:List Int)(h13:Int)(next:List T.den→Int→Int→Int→Int→Bool→List Int→Int→Option R)(out:aJ (bi st cf T).xs→Option R):Option R:=bif decide (h8<h7) then bif decide (0≤h8)&&decide (h8<(h6.length:Int)) then bif decide (h13=130048)&&decide (h12.length≤130048)&&gx (h6.getD h8.toNat T.zero) then next (h6) (h7) (IntKind.i64.wrap (h8+1)) (h9) ((one h9 (h6.getD h8.toNat T.zero) (h10,h11,h12)).1) ((one h9 (h6.getD h8.toNat T.zero) (h10,h11,h12)).2.1) ((one h9 (h6.getD h8.toNat T.zero) (h10,h11,h12)).2.2) (130048) else none else none else out (.ret ((),((),((h9,(h10,(h11,()))),((h12,(h13,())),((),()))))))
theorem Hr {st cf:Nat}{T:Ty}{gx:T.den→Bool}{one:Int→T.den→aV→aV}(hle:∀v x s,s.2.2.length≤130048→(one v x s).2.2.length≤130048)
  (it:Nat→List T.den→Int→Int→Int→Int→Bool→List Int→Int→Option (aJ (bi st cf T).xs)) (hit:∀n h6 h7 h8 h9 h10 h11 h12 h13,it (n+1) h6 h7 h8 h9 h10 h11 h12 h13=qI st cf T gx one h6 h7 h8 h9 h10 h11 h12 h13 (it n) some)
  {xs:List T.den} (v:Int) (hl:xs.length≤maxLen) (hok:∀x∈xs,gx x=true):∀(k i:Nat) (s:aV),xs.length<i+k→i≤xs.length→s.2.2.length≤130048→
  it k xs (xs.length:Int) i v s.1 s.2.1 s.2.2 130048=some (.ret ((),((),oP v ((xs.drop i).foldl (fun s x=>one v x s) s)))):=by
 intro k
 induction k with
 |zero=>intro i s h;omega
 |succ k ih=>
  intro i s h1 h2 h3
  rw[hit]
  unfold qI
  by_cases hi:i<xs.length
  ·refine (aa (decide_eq_true (show (i:Int)<(xs.length:Int) by omega)) _ _).trans ?_
   refine (aa (by simpa using hi) _ _).trans ?_
   simp only[Int.toNat_natCast,bh hi,bM hi hl]
   have g:(decide ((130048:Int)=130048)&&decide (s.2.2.length≤130048)&&gx xs[i])=true:=by
    rw[hok _ (List.getElem_mem hi)];simpa using h3
   refine (aa g _ _).trans ?_
   rw[List.drop_eq_getElem_cons hi]
   exact ih (i+1) (one v xs[i] s) (by omega) (by omega) (hle v _ s h3)
  ·refine (ae (by simp;omega) _ _).trans ?_
   rw[List.drop_of_length_le (by omega)]
   rfl
def vV (st cf:Nat)(T:Ty)(gx:T.den→Bool)(one:Int→T.den→aV→aV)(a0:List T.den)(a1 a2:Int)(a3:Bool)(a4:List Int)(a5:Int):Option (fU st cf T).Res:=bif decide (16<(a0.length:Int)) then bif decide (a5=130048)&&decide (a4.length≤130048) then some (Out.ret ((),((),a1,(bA 9 (a2,a3,a4)).1,(bA 9 (a2,a3,a4)).2.1,()),((bA 9 (a2,a3,a4)).2.2,130048,()),((),()),())) else none else bif decide (a5=130048)&&decide (a4.length≤130048) then (eF st cf T gx one ((a0,((a0.length:Int),(0,()))),((a1,((ab (IntKind.i32.wrap (a0.length:Int)) 4 (a2,a3,a4)).1,((ab (IntKind.i32.wrap (a0.length:Int)) 4 (a2,a3,a4)).2.1,()))),(((ab (IntKind.i32.wrap (a0.length:Int)) 4 (a2,a3,a4)).2.2,(130048,())),((),()))))).run fun y=>match y with | .ret ((),((),(x27,x28,x29,()),(x30,x31,()),(),()))=>(some (Out.ret ((),((),x27,x28,x29,()),(x30,x31,()),((),()),()))) else none
theorem ry {st cf f:Nat}{T:Ty}{gx:T.den→Bool}{sps:Int→List T.den→aV→aV}{one:Int→T.den→aV→aV}(hs:∀v xs s,sps v xs s=bk (one v) xs s)(hle:∀v x s,s.2.2.length≤130048→(one v x s).2.2.length≤130048)
  {cs:List (Nat×Hc)} (hcs:HcsOk prog cs) {fn:Func} (hf:prog.funcs[f]?=some fn) (hname:(fn.name == "runtime.NumGoroutine")=false) (hbody:fn.body.isNone=false)
  (hlp:bJ [(5,bv (bi st cf T) (eF st cf T gx one))] (dn ((gT fn).getD 0 iX).2.1)=some (bv (bi st cf T) (eF st cf T gx one))) (h1:Nat.ble (MD fn ((gT fn).getD 0 iX)).length 0=true) (h2:Nat.ble (gT fn).length (0+1)=true)
  (hit:∀(n:Nat) (h6:List T.den) (h7 h8 h9 h10:Int) (h11:Bool) (h12:List Int) (h13:Int),lD tt (bR cs) dr (bJ [(5,bv (bi st cf T) (eF st cf T gx one))]) 3 fn ((gT fn).getD 0 iX) (n+1) ((bi st cf T).st.mk' ((h6,(h7,(h8,()))),((h9,(h10,(h11,()))),((h12,(h13,())),((),()))))) (dc (bi st cf T).xs)=
   qI st cf T gx one h6 h7 h8 h9 h10 h11 h12 h13 (fun h6 h7 h8 h9 h10 h11 h12 h13=>lD tt (bR cs) dr (bJ [(5,bv (bi st cf T) (eF st cf T gx one))]) 3 fn ((gT fn).getD 0 iX) n ((bi st cf T).st.mk' ((h6,(h7,(h8,()))),((h9,(h10,(h11,()))),((h12,(h13,())),((),()))))) (dc (bi st cf T).xs)) some)
  (hrun:∀(a0:List T.den) (a1 a2:Int) (a3:Bool) (a4:List Int) (a5:Int),Io.run tt (bR cs) dr (bJ [(5,bv (bi st cf T) (eF st cf T gx one))]) (fU st cf T) fn (((),a0,(),()),((),a1,a2,a3,()),(a4,a5,()),((),()),())=vV st cf T gx one a0 a1 a2 a3 a4 a5):
  HcOk prog f (af (fU st cf T) (IG st cf T gx sps)):=by
 refine ao (n:=400) hm (cs:=cs) hcs (lp:=bJ [(5,bv (bi st cf T) (eF st cf T gx one))]) (fn:=fn) hf hname hbody (fU st cf T) (.step (h0:=bv (bi st cf T) (eF st cf T gx one)) hlp (aQ (n:=400) hm (cs:=cs) hcs (lp:=bJ [(5,bv (bi st cf T) (eF st cf T gx one))]) (fn:=fn) (.done h1) (bi st cf T) (eF st cf T gx one) ?_) (.done h2)) (IG st cf T gx sps) ?_
 ·rintro ⟨⟨(xs:List T.den),(n:Int),(i:Int),⟨⟩⟩,⟨⟨(v:Int),(e:Int),(f:Bool),⟨⟩⟩,⟨(b:List Int),(m:Int),⟨⟩⟩,⟨⟨⟩,⟨⟩⟩⟩⟩ y hw hy
  obtain ⟨hg,hy⟩:=Tr.guard hy
  simp only[Bool.and_eq_true,decide_eq_true_eq] at hg
  obtain ⟨rfl,rfl,rfl,h4,h5⟩:=hg
  have h5:∀x∈xs,gx x=true:=List.all_eq_true.1 h5
  have h4:b.length≤130048:=h4
  have hl:xs.length≤maxLen:=hw.1.1.1
  refine ⟨xs.length+1,(Hr (st:=st) (cf:=cf) (gx:=gx) hle (fun n h6 h7 h8 h9 h10 h11 h12 h13=>lD tt (bR cs) dr (bJ [(5,bv (bi st cf T) (eF st cf T gx one))]) 3 fn ((gT fn).getD 0 iX) n ((bi st cf T).st.mk' ((h6,(h7,(h8,()))),((h9,(h10,(h11,()))),((h12,(h13,())),((),()))))) (dc (bi st cf T).xs)) hit v hl h5 (xs.length+1) 0 (e,(f,b)) (by omega) (by omega) h4).trans ?_⟩
  rw[← hy];rfl
 ·rintro ⟨⟨⟨⟩,(xs:List T.den),⟨⟩,⟨⟩⟩,⟨⟨⟩,(v:Int),(e:Int),(f:Bool),⟨⟩⟩,⟨(b:List Int),(m:Int),⟨⟩⟩,⟨⟨⟩,⟨⟩⟩,⟨⟩⟩ out hw ho
  obtain ⟨hg,ho⟩:=Tr.guard ho
  obtain ⟨hg,h5⟩:=Bool.and_eq_true_iff.1 hg
  have h5:xs.all gx=true:=h5
  obtain ⟨rfl,hb⟩:=bo (v:=v) (e:=e) (f:=f) hg
  cases ho
  refine (hrun xs v e f b 130048).trans ?_
  unfold vV
  have g:(decide ((130048:Int)=130048)&&decide (b.length≤130048))=true:=by simpa using hb
  show _=some (Out.ret ((),d0 v (sps v xs (e,f,b))))
  rw[hs]
  unfold bk
  by_cases h:16<(xs.length:Int)
  ·rw[if_pos h]
   refine (aa (decide_eq_true h) _ _).trans ?_
   exact aa g _ _
  ·rw[if_neg h]
   refine (ae (decide_eq_false h) _ _).trans ?_
   refine (aa g _ _).trans ?_
   have hw32:IntKind.i32.wrap (xs.length:Int)=xs.length:=dP (by simp[cT,IntKind.min,IntKind.max,IntKind.signed,IntKind.bits];omega)
   rw[hw32]
   have c1:(decide ((0:Int)=0)&&(decide ((xs.length:Int)=(xs.length:Int))&&(decide ((130048:Int)=130048)&&(decide ((ab xs.length 4 (e,f,b)).2.2.length≤130048)&&xs.all gx))))=true:=by
    rw[h5];simpa using av (s:=(e,f,b)) _ 4 hb
   have e1:eF st cf T gx one ((xs,((xs.length:Int),(0,()))),((v,((ab xs.length 4 (e,f,b)).1,((ab xs.length 4 (e,f,b)).2.1,()))),(((ab xs.length 4 (e,f,b)).2.2,(130048,())),((),()))))=
     .ite true (.ret (.ret ((),((),oP v (xs.foldl (fun s x=>one v x s) (ab xs.length 4 (e,f,b))))))) .no:=congrArg (fun c=>Tr.ite c _ _) c1
   rw[e1]
   rfl
abbrev rq:Io:=⟨[.ptr 0 0,.dat (.sl 178 cX) false false,.fnc 103 false [2]],jh,[],[],none⟩
def IM (d:rq.In):Tr rq.Res:=.ite (gt d.2&&pr d.1.2.1) (.ret (.ret ((),d0 d.2.1.2.1 (bk iO d.1.2.1 (gu d.2))))) .no
abbrev NO:List (Nat×Hc):=[(194,af b9 d4),(98,af cc dV),(103,af mQ GL)]
theorem PG:HcOk prog 102 (af rq IM):=
 ry (gx:=xB) (one:=fun _=>iO) (sps:=fun _=>bk iO) (fun _ _ _=>rfl) (fun v _ _ h3=>xY _ h3) (cs:=NO) (.cons c7 (.cons bN (.cons SD .nil))) (fn:=Tryz.f102) (by kernel_rfl) (by kernel_rfl) (by kernel_rfl) (by kernel_rfl) (by kernel_rfl) (by kernel_rfl) (by intros;kernel_rfl) (by intros;kernel_rfl)
abbrev aB:Ty:=.prod .str (.prod (.sl 178 cX) .unit)
def dG (t:aB.den)(s:aV):aV:=bk iO t.2.1 (bn t.1 s)
def pB (t:aB.den):Bool:=pr t.2.1
def ci (xs:List aB.den):Bool:=xs.all pB
abbrev ka:Io:=⟨[.dat aB true false,.ptr 0 0],lI,[],[],none⟩
def BG (d:ka.In):Tr ka.Res:=.ite (dW d.2.2&&pB d.1.1) (.ret (.ret ((),dw d.2.2.1.2.1 (dG d.1.1 (dX d.2.2))))) .no
abbrev Es:List (Nat×Hc):=[(101,af hY qP),(102,af rq IM)]
def OA:Hd:=bR Es
def Fg:Lp:=bJ []
def wh (a0:List Int)(a1:List cX.den)(a2 a3:Int)(a4:Bool)(a5:List Int)(a6:Int):Option ka.Res:=bif decide (a6=130048)&&decide (a5.length≤130048) then bif decide (130048=130048)&&decide ((bn a0 (a3,a4,a5)).2.2.length≤130048)&&pr a1 then some (Out.ret ((),((),()),((),a2,(bk iO a1 (bn a0 (a3,a4,a5))).1,(bk iO a1 (bn a0 (a3,a4,a5))).2.1,()),((bk iO a1 (bn a0 (a3,a4,a5))).2.2,130048,()),())) else none else none
theorem LV (a0:List Int)(a1:List cX.den)(a2 a3:Int)(a4:Bool)(a5:List Int)(a6:Int):Io.run tt OA dr Fg ka Tryz.f100 (((a0,a1,()),(),()),((),()),((),a2,a3,a4,()),(a5,a6,()),())=wh a0 a1 a2 a3 a4 a5 a6:=by kernel_rfl
theorem PH:HcOk prog 100 (af ka BG):=by
 refine ao (n:=400) hm (cs:=Es) (.cons qs (.cons PG .nil)) (lp:=Fg) (fn:=Tryz.f100) (by kernel_rfl) (by kernel_rfl) (by kernel_rfl) ka (.done (by kernel_rfl)) BG ?_
 rintro ⟨⟨⟨(t:List Int),(ps:List cX.den),⟨⟩⟩,⟨⟩,⟨⟩⟩,⟨⟨⟩,⟨⟩⟩,⟨⟨⟩,(v:Int),(e:Int),(f:Bool),⟨⟩⟩,⟨(b:List Int),(m:Int),⟨⟩⟩,⟨⟩⟩ out hw ho
 obtain ⟨hg,ho⟩:=Tr.guard ho
 obtain ⟨hg,h5⟩:=Bool.and_eq_true_iff.1 hg
 obtain ⟨rfl,hb⟩:=bo (v:=v) (e:=e) (f:=f) hg
 have h5:pr ps=true:=h5
 cases ho
 refine (LV t ps v e f b 130048).trans ?_
 unfold wh
 refine (aa (by simpa using hb) _ _).trans ?_
 refine (aa (by rw[h5];simpa using dd (s:=(e,f,b)) t hb) _ _).trans ?_
 rfl
theorem oA {s:aV}(t:aB.den)(h:s.2.2.length≤130048):(dG t s).2.2.length≤130048:=bF (fun x s=>xY x) _ (dd _ h)
theorem ba {s:aV}(v:Int)(z:Bool)(lo hi:Int)(h:s.2.2.length≤130048):(ap v z lo hi s).2.2.length≤130048:=by
 unfold ap
 split
 ·exact jW _ h
 ·exact h
theorem Ij {s:aV}(n:Bool×(List Int×Unit))(h:s.2.2.length≤130048):(cR n s).2.2.length≤130048:=by
 unfold cR
 split
 ·exact jW _ h
 ·split
  ·exact av _ _ h
  ·exact dd _ h
abbrev oY:Io:=⟨[.ptr 0 0,.dat (.sl 172 aB) false false,.fnc 100 false [2]],jh,[],[],none⟩
def Dq (d:oY.In):Tr oY.Res:=.ite (gt d.2&&ci d.1.2.1) (.ret (.ret ((),d0 d.2.1.2.1 (bk dG d.1.2.1 (gu d.2))))) .no
abbrev KM:List (Nat×Hc):=[(194,af b9 d4),(98,af cc dV),(100,af ka BG)]
theorem Lv:HcOk prog 99 (af oY Dq):=
 ry (gx:=pB) (one:=fun _=>dG) (sps:=fun _=>bk dG) (fun _ _ _=>rfl) (fun v _ _ h3=>oA _ h3) (cs:=KM) (.cons c7 (.cons bN (.cons PH .nil))) (fn:=Tryz.f99) (by kernel_rfl) (by kernel_rfl) (by kernel_rfl) (by kernel_rfl) (by kernel_rfl) (by kernel_rfl) (by intros;kernel_rfl) (by intros;kernel_rfl)
abbrev iD:Ty:=.prod cW (.prod (.int .i16) (.prod (.int .i32) (.prod (.sl 172 aB) .unit)))
def ng (v:Int)(n:cW.den)(s:aV):aV:=if v=3 then cR n s else s
def nd (v:Int)(m:iD.den):aV:=
 bk dG m.2.2.2.1 (ab m.2.2.1 4 (ab m.2.1 2 (ng v m.1 (ap v (m.1.1 == false&&decide (m.1.2.1=[])) 3 3 (aH v,(false,([]:List Int)))))))
abbrev qk:Io:=⟨[dI,.dat iD true false],[],[],[dO,dI],none⟩
def TV (d:qk.In):Tr qk.Res:=.ite (ci d.1.2.1.2.2.2.1) (.ret (.ret ((bj (nd d.1.1 d.1.2.1),(aM (nd d.1.1 d.1.2.1),())),()))) .no
abbrev NP:List (Nat×Hc):=[(93,af jb tH),(94,af d5 jk),(95,af e7 ly),(96,af mG GJ),(97,af i9 tF),(98,af cc dV),(99,af oY Dq),(105,af fW nF)]
def Vl:Hd:=bR NP
def Pd:Lp:=bJ []
def DV (a0:Int)(a1:Bool)(a2:List Int)(a3 a4:Int)(a5:List aB.den):Option qk.Res:=bif decide (130048=130048)&&decide ((ap a0 (a1 == false&&(decide (a2=List.map (fun (c:UInt8)=>(↑c.toNat:Int)) [])&&true)) 3 3 (aH a0,false,[])).2.2.length≤130048) then bif decide (3≤a0)&&decide (a0≤3) then bif decide (130048=130048)&&decide ((ap a0 (a1 == false&&(decide (a2=List.map (fun (c:UInt8)=>(↑c.toNat:Int)) [])&&true)) 3 3 (aH a0,false,[])).2.2.length≤130048) then bif decide (130048=130048)&&decide ((cR (a1,a2,()) (ap a0 (a1 == false&&(decide (a2=List.map (fun (c:UInt8)=>(↑c.toNat:Int)) [])&&true)) 3 3 (aH a0,false,[]))).2.2.length≤130048) then bif decide (130048=130048)&&decide ((ab a3 2 (cR (a1,a2,()) (ap a0 (a1 == false&&(decide (a2=List.map (fun (c:UInt8)=>(↑c.toNat:Int)) [])&&true)) 3 3 (aH a0,false,[])))).2.2.length≤130048) then bif decide (130048=130048)&&decide ((ab a4 4 (ab a3 2 (cR (a1,a2,()) (ap a0 (a1 == false&&(decide (a2=List.map (fun (c:UInt8)=>(↑c.toNat:Int)) [])&&true)) 3 3 (aH a0,false,[]))))).2.2.length≤130048)&&ci a5 then bif decide (130048=130048)&&decide ((bk dG a5 (ab a4 4 (ab a3 2 (cR (a1,a2,()) (ap a0 (a1 == false&&(decide (a2=List.map (fun (c:UInt8)=>(↑c.toNat:Int)) [])&&true)) 3 3 (aH a0,false,[])))))).2.2.length≤130048) then some (Out.ret ((bj (bk dG a5 (ab a4 4 (ab a3 2 (cR (a1,a2,()) (ap a0 (a1 == false&&(decide (a2=List.map (fun (c:UInt8)=>(↑c.toNat:Int)) [])&&true)) 3 3 (aH a0,false,[])))))),aM (bk dG a5 (ab a4 4 (ab a3 2 (cR (a1,a2,()) (ap a0 (a1 == false&&(decide (a2=List.map (fun (c:UInt8)=>(↑c.toNat:Int)) [])&&true)) 3 3 (aH a0,false,[])))))),()),())) else none else none else none else none else none else bif decide (130048=130048)&&decide ((ap a0 (a1 == false&&(decide (a2=List.map (fun (c:UInt8)=>(↑c.toNat:Int)) [])&&true)) 3 3 (aH a0,false,[])).2.2.length≤130048) then bif decide (130048=130048)&&decide ((ab a3 2 (ap a0 (a1 == false&&(decide (a2=List.map (fun (c:UInt8)=>(↑c.toNat:Int)) [])&&true)) 3 3 (aH a0,false,[]))).2.2.length≤130048) then bif decide (130048=130048)&&decide ((ab a4 4 (ab a3 2 (ap a0 (a1 == false&&(decide (a2=List.map (fun (c:UInt8)=>(↑c.toNat:Int)) [])&&true)) 3 3 (aH a0,false,[])))).2.2.length≤130048)&&ci a5 then bif decide (130048=130048)&&decide ((bk dG a5 (ab a4 4 (ab a3 2 (ap a0 (a1 == false&&(decide (a2=List.map (fun (c:UInt8)=>(↑c.toNat:Int)) [])&&true)) 3 3 (aH a0,false,[]))))).2.2.length≤130048) then some (Out.ret ((bj (bk dG a5 (ab a4 4 (ab a3 2 (ap a0 (a1 == false&&(decide (a2=List.map (fun (c:UInt8)=>(↑c.toNat:Int)) [])&&true)) 3 3 (aH a0,false,[]))))),aM (bk dG a5 (ab a4 4 (ab a3 2 (ap a0 (a1 == false&&(decide (a2=List.map (fun (c:UInt8)=>(↑c.toNat:Int)) [])&&true)) 3 3 (aH a0,false,[]))))),()),())) else none else none else none else none else none
theorem Te (a0:Int)(a1:Bool)(a2:List Int)(a3 a4:Int)(a5:List aB.den):Io.run tt Vl dr Pd qk Tryz.f43 ((a0,((a1,a2,()),a3,a4,a5,()),()),())=DV a0 a1 a2 a3 a4 a5:=by kernel_rfl
theorem VA:HcOk prog 43 (af qk TV):=by
 refine ao (n:=400) hm (cs:=NP) (.cons fL (.cons cH (.cons dR (.cons Sw (.cons sX (.cons bN (.cons Lv (.cons d2 .nil)))))))) (lp:=Pd) (fn:=Tryz.f43) (by kernel_rfl) (by kernel_rfl) (by kernel_rfl) qk (.done (by kernel_rfl)) TV ?_
 rintro ⟨⟨(v:Int),⟨⟨(z:Bool),(t:List Int),⟨⟩⟩,(a:Int),(w:Int),(ts:List aB.den),⟨⟩⟩,⟨⟩⟩,⟨⟩⟩ out hw ho
 obtain ⟨h5,ho⟩:=Tr.guard ho
 have h5:ci ts=true:=h5
 cases ho
 refine (Te v z t a w ts).trans ?_
 unfold DV
 have hg:∀s:aV,s.2.2.length≤130048→(decide ((130048:Int)=130048)&&decide (s.2.2.length≤130048))=true:=fun s h=>by simpa using h
 have l0:∀z,(ap v z 3 3 (aH v,(false,([]:List Int)))).2.2.length≤130048:=fun z=>ba _ _ _ _ (by simp)
 refine (aa (hg _ (l0 _)) _ _).trans ?_
 by_cases hv:v=3
 ·refine (aa (by simp;omega) _ _).trans ?_
  refine (aa (hg _ (l0 _)) _ _).trans ?_
  have l1:=Ij (z,(t,())) (l0 (z == false&&(decide (t=List.map (fun (c:UInt8)=>(c.toNat:Int)) [])&&true)))
  refine (aa (hg _ l1) _ _).trans ?_
  refine (aa (hg _ (av _ _ l1)) _ _).trans ?_
  have l2:=av w 4 (av a 2 l1)
  refine (aa (by rw[h5,Bool.and_true];exact hg _ l2) _ _).trans ?_
  refine (aa (hg _ (bF (fun x s=>oA x) _ l2)) _ _).trans ?_
  simp only[nd,ng,if_pos hv,List.map_nil,Bool.and_true]
 ·refine (ae (by simp;omega) _ _).trans ?_
  have l1:=l0 (z == false&&(decide (t=List.map (fun (c:UInt8)=>(c.toNat:Int)) [])&&true))
  refine (aa (hg _ l1) _ _).trans ?_
  refine (aa (hg _ (av _ _ l1)) _ _).trans ?_
  have l2:=av w 4 (av a 2 l1)
  refine (aa (by rw[h5,Bool.and_true];exact hg _ l2) _ _).trans ?_
  refine (aa (hg _ (bF (fun x s=>oA x) _ l2)) _ _).trans ?_
  simp only[nd,ng,if_neg hv,List.map_nil,Bool.and_true]
abbrev rJ:List (List Sh):=[[.ptr 1 0],[.ptr 2 0,dI,dI],[dL,dI]]
abbrev n6:List (List Sh):=[[.ptr 1 0,dI,dI],[dL,dI],[.ptr 0 0]]
abbrev xk:List (List Sh):=[[.nil,dI,dI],[.ptr 0 0]]
abbrev dZ (v:Int)(b:List Int)(s:aC):jX rJ:=(((),()),cB v b s)
abbrev iF (v:Int)(b:List Int)(s:aC):jX n6:=(((),(v,(s.1,()))),((b,(s.2,())),(((),()),())))
abbrev eQ (d:jX n6):aC:=(d.1.2.2.1,d.2.1.2.1)
def cS {α:Type}(one:aC→α×aC):Nat→aC→List α×aC
 |0,s=>([],s)
 |k+1,s=>if s.1=0 then ((one s).1::(cS one k (one s).2).1,(cS one k (one s).2).2) else ([],s)
def kr (n:Int)(s:aC):aC:=if s.1=0 then (if n<0 then (5,s.2) else if 16<n then (9,s.2) else s) else s
def eB {α:Type}(one:aC→α×aC)(b:List Int)(s:aC):List α×aC:=cS one (ac .i32 4 b s).1.toNat (kr (ac .i32 4 b s).1 (ac .i32 4 b s).2)
abbrev BZ (v:Int)(b:List Int)(s:aC):(Int×(Int×Unit))×((List Int×(Int×Unit))×(Unit×Unit)):=((v,(s.1,())),((b,(s.2,())),((),())))
theorem QP {b:List Int}{s:aC}(n:Int)(h:an b s.2=true):an b (kr n s).2=true:=by
 unfold kr
 split
 ·split
  ·exact h
  ·split <;> exact h
 ·exact h
theorem Gg {α:Type}{one:aC→α×aC}{b:List Int}(h1:∀s,an b s.2=true→an b (one s).2.2=true):∀(k:Nat) (s:aC),an b s.2=true→an b (cS one k s).2.2=true
 |0,s,h=>h
 |k+1,s,h=>by
  rw[cS]
  split
  ·exact Gg h1 k _ (h1 s h)
  ·exact h
theorem gq {α:Type}{one:aC→α×aC}{b:List Int}{s:aC}(h1:∀s,an b s.2=true→an b (one s).2.2=true)(h:an b s.2=true):an b (eB one b s).2.2=true:=
 Gg h1 _ _ (QP _ (aL _ _ h))
theorem Ib {b:List Int}{s:aC}(h:an b s.2=true):an b (cP b s).2.2=true:=by
 unfold cP
 split
 ·exact aL _ _ h
 ·exact qB _ (aL _ _ h)
theorem fz {b:List Int}{s:aC}(h:an b s.2=true):an b (bf b s).2.2=true:=Ie _ (aL _ _ h)
theorem Ic {b:List Int}{s:aC}(h:an b s.2=true):an b (ch b s).2.2=true:=by
 unfold ch
 split
 ·exact aL _ _ h
 ·exact fz h
@[irreducible] noncomputable def fy (b:List Int)(s:aC):cX.den×aC:=(((ac .i32 4 b s).1,((cP b (ac .i32 4 b s).2).1,())),(cP b (ac .i32 4 b s).2).2)
theorem xO {b:List Int}{s:aC}(h:an b s.2=true):an b (fy b s).2.2=true:=by
 unfold fy
 exact Ib (aL _ _ h)
abbrev mX:Io:=⟨[.ptr 0 0],rJ,[],[.dat cX true false],none⟩
def GP (d:mX.In):Tr mX.Res:=.ite (an d.2.2.2.1.1 d.2.2.2.1.2.1) (.ret (.ret (((fy d.2.2.2.1.1 (cx d.2.2)).1,()),dZ d.2.2.1.2.1 d.2.2.2.1.1 (fy d.2.2.2.1.1 (cx d.2.2)).2))) .no
abbrev Ju:List (Nat×Hc):=[(143,af cC eT),(149,af mB GH)]
def Sa:Hd:=bR Ju
def J7:Lp:=bJ []
def zR (a0 a1:Int)(a2:List Int)(a3:Int):Option mX.Res:=bif an a2 a3 then bif an a2 (ac IntKind.i32 4 a2 (a1,a3)).2.2 then some (Out.ret ((((ac IntKind.i32 4 a2 (a1,a3)).1,((cP a2 (ac IntKind.i32 4 a2 (a1,a3)).2).1.1,(cP a2 (ac IntKind.i32 4 a2 (a1,a3)).2).1.2.1,()),()),()),((),()),((),a0,(cP a2 (ac IntKind.i32 4 a2 (a1,a3)).2).2.1,()),(a2,(cP a2 (ac IntKind.i32 4 a2 (a1,a3)).2).2.2,()),())) else none else none
theorem Qr (a0 a1:Int)(a2:List Int)(a3:Int):Io.run tt Sa dr J7 mX Tryz.f148 (((),()),((),()),((),a0,a1,()),(a2,a3,()),())=zR a0 a1 a2 a3:=by kernel_rfl
theorem SJ:HcOk prog 148 (af mX GP):=by
 refine ao (n:=400) hm (cs:=Ju) (.cons dg (.cons Su .nil)) (lp:=J7) (fn:=Tryz.f148) (by kernel_rfl) (by kernel_rfl) (by kernel_rfl) mX (.done (by kernel_rfl)) GP ?_
 rintro ⟨⟨⟨⟩,⟨⟩⟩,⟨⟨⟩,⟨⟩⟩,⟨⟨⟩,(v:Int),(e:Int),⟨⟩⟩,⟨(b:List Int),(p:Int),⟨⟩⟩,⟨⟩⟩ out hw ho
 obtain ⟨hg,ho⟩:=Tr.guard ho
 have hg:an b p=true:=hg
 cases ho
 refine (Qr v e b p).trans ?_
 unfold zR
 show _=some (Out.ret (((fy b (e,p)).1,()),dZ v b (fy b (e,p)).2))
 unfold fy
 refine (aa hg _ _).trans ?_
 exact aa (aL .i32 4 (s:=(e,p)) hg) _ _
abbrev sJ (st cf:Nat)(T:Ty):Io:=⟨[.ptr 0 0,.fnc cf false [2]],n6,[],[.dat (.sl st T) false false],none⟩
def TR (st cf:Nat)(T:Ty)(sps:Int→List Int→aC→List T.den×aC)(d:(sJ st cf T).In):Tr (sJ st cf T).Res:=.ite (an d.2.2.1.1 d.2.2.1.2.1) (.ret (.ret (((sps d.2.1.2.1 d.2.2.1.1 (eQ d.2)).1,()),iF d.2.1.2.1 d.2.2.1.1 (sps d.2.1.2.1 d.2.2.1.1 (eQ d.2)).2))) .no
abbrev d7 (st cf:Nat)(T:Ty):Lo:=⟨⟨[.one (.ptr 0 0),.one (.fnp cf false [2]),.any,.any,.any,.one (.hol (.int IntKind.i32)),.one (.onl st T 19),.one (.hol (.int IntKind.i32)),.any,.any,.any,.any,.any,.any,.any,.any,.any,.any,.any,.any,.any,.any,.any,.any,.any,.any,.any,.any,.any,.any,.any,.any,.any,.any,.any,.any,.any,.any,.any,.any,.any,.any,.any,.any,.any,.any],[some [.ptr 1 0,.hol (.int IntKind.i64),.hol (.int IntKind.i64)],some [.hol (.sl 5 (Ty.int IntKind.u8)),.hol (.int IntKind.i64)],some [.ptr 0 0]]⟩,[(.exit 1,⟨(bQ (bt (.one (.onl st T 19)::.any::ag (ag (bQ (bt [])))))),[some [.ptr 1 0,.hol (.int IntKind.i64),.hol (.int IntKind.i64)],some [.hol (.sl 5 (Ty.int IntKind.u8)),.hol (.int IntKind.i64)],some [.ptr 0 0]]⟩)]⟩
def cY (st cf:Nat)(T:Ty)(one:Int→List Int→aC→T.den×aC)(d:(d7 st cf T).st.den):Tr (aJ (d7 st cf T).xs):=
 .ite (decide (d.1.2.2.1=0)&&(decide (d.1.2.1.length=0)&&(an d.2.2.1.1 d.2.2.1.2.1&&(decide (d.1.1≤(16:Int)) || decide (d.2.1.2.1≠0))))) (.ret (.ret ((),(((cS (one d.2.1.1 d.2.2.1.1) d.1.1.toNat (d.2.1.2.1,d.2.2.1.2.1)).1,()),BZ d.2.1.1 d.2.2.1.1 (cS (one d.2.1.1 d.2.2.1.1) d.1.1.toNat (d.2.1.2.1,d.2.2.1.2.1)).2)))) .no
def yt (st cf:Nat)(T:Ty)(one:Int→List Int→aC→T.den×aC){R:Type}(h4:Int)(h5:List T.den)(h6 h7 h8:Int)(h9:List Int)(h10:Int)(next:Int→List T.den→Int→Int→Int→List Int→Int→Option R)(out:aJ (d7 st cf T).xs→Option R):Option R:=bif decide (h6<h4) then bif h8 == 0 then bif an h9 h10 then bif decide (h5.length+1≤4294967296) then next (h4) (h5++[(one h7 h9 (h8,h10)).1]) (IntKind.i32.wrap (h6+1)) (h7) ((one h7 h9 (h8,h10)).2.1) (h9) ((one h7 h9 (h8,h10)).2.2) else none else none else out (.ret ((),((h5,()),((h7,(h8,())),((h9,(h10,())),((),())))))) else out (.ret ((),((h5,()),((h7,(h8,())),((h9,(h10,())),((),()))))))
theorem OO {st cf:Nat}{T:Ty}{one:Int→List Int→aC→T.den×aC}(hok:∀v b s,an b s.2=true→an b (one v b s).2.2=true)
  (it:Nat→Int→List T.den→Int→Int→Int→List Int→Int→Option (aJ (d7 st cf T).xs)) (hit:∀n h4 h5 h6 h7 h8 h9 h10,it (n+1) h4 h5 h6 h7 h8 h9 h10=yt st cf T one h4 h5 h6 h7 h8 h9 h10 (it n) some) (n v:Int) (b:List Int):∀(k j:Nat) (xs:List T.den) (s:aC),n.toNat<j+k→j≤n.toNat→xs.length=j→an b s.2=true→(s.1=0→n≤16)→
  it k n xs j v s.1 b s.2=some (.ret ((),((xs++(cS (one v b) (n.toNat - j) s).1,()),BZ v b (cS (one v b) (n.toNat - j) s).2))):=by
 intro k
 induction k with
 |zero=>intro j xs s h;omega
 |succ k ih=>
  intro j xs s h1 h2 h3 h4 h5
  rw[hit]
  unfold yt
  by_cases hj:(j:Int)<n
  ·refine (aa (by simpa using hj) _ _).trans ?_
   obtain ⟨m,hm⟩:∃m,n.toNat - j=m+1:=⟨n.toNat - j - 1,by omega⟩
   rw[hm]
   by_cases he:s.1=0
   ·refine (aa (by simpa using he) _ _).trans ?_
    have hn:=h5 he
    refine (aa h4 _ _).trans ?_
    refine (aa (decide_eq_true (show xs.length+1≤4294967296 by omega)) _ _).trans ?_
    have hw:IntKind.i32.wrap ((j:Int)+1)=((j+1:Nat):Int):=dP (by simp[cT,IntKind.min,IntKind.max,IntKind.signed,IntKind.bits];omega)
    rw[hw]
    refine (ih (j+1) (xs++[(one v b s).1]) (one v b s).2 (by omega) (by omega) (by simp[h3]) (hok v b s h4) (fun _=>hn)).trans ?_
    rw[show n.toNat - (j+1)=m by omega,cS,if_pos he]
    simp
   ·refine (ae (by simpa using he) _ _).trans ?_
    rw[cS,if_neg he]
    simp
  ·refine (ae (by simpa using hj) _ _).trans ?_
   rw[show n.toNat - j=0 by omega,cS]
   simp
def DB (st cf:Nat)(T:Ty)(one:Int→List Int→aC→T.den×aC)(a0 a1:Int)(a2:List Int)(a3:Int):Option (sJ st cf T).Res:=bif an a2 a3 then bif (ac IntKind.i32 4 a2 (a1,a3)).2.1 != 0 then (cY st cf T one (((ac IntKind.i32 4 a2 (a1,a3)).1,([],(0,()))),((a0,((ac IntKind.i32 4 a2 (a1,a3)).2.1,())),((a2,((ac IntKind.i32 4 a2 (a1,a3)).2.2,())),((),()))))).run fun y=>match y with | .ret ((),((x28,()),(x29,x30,()),(x31,x32,()),(),()))=>(some (Out.ret ((x28,()),((),x29,x30,()),(x31,x32,()),((),()),()))) else bif decide ((ac IntKind.i32 4 a2 (a1,a3)).1<0) then (cY st cf T one (((ac IntKind.i32 4 a2 (a1,a3)).1,([],(0,()))),((a0,(5,())),((a2,((ac IntKind.i32 4 a2 (a1,a3)).2.2,())),((),()))))).run fun y=>match y with | .ret ((),((x40,()),(x41,x42,()),(x43,x44,()),(),()))=>(some (Out.ret ((x40,()),((),x41,x42,()),(x43,x44,()),((),()),()))) else bif decide (16<(ac IntKind.i32 4 a2 (a1,a3)).1) then (cY st cf T one (((ac IntKind.i32 4 a2 (a1,a3)).1,([],(0,()))),((a0,(9,())),((a2,((ac IntKind.i32 4 a2 (a1,a3)).2.2,())),((),()))))).run fun y=>match y with | .ret ((),((x52,()),(x53,x54,()),(x55,x56,()),(),()))=>(some (Out.ret ((x52,()),((),x53,x54,()),(x55,x56,()),((),()),()))) else (cY st cf T one (((ac IntKind.i32 4 a2 (a1,a3)).1,([],(0,()))),((a0,((ac IntKind.i32 4 a2 (a1,a3)).2.1,())),((a2,((ac IntKind.i32 4 a2 (a1,a3)).2.2,())),((),()))))).run fun y=>match y with | .ret ((),((x64,()),(x65,x66,()),(x67,x68,()),(),()))=>(some (Out.ret ((x64,()),((),x65,x66,()),(x67,x68,()),((),()),()))) else none
theorem n4 {st cf f:Nat}{T:Ty}{sps:Int→List Int→aC→List T.den×aC}{one:Int→List Int→aC→T.den×aC}(hs:∀v b s,sps v b s=eB (one v b) b s)(hok:∀v b s,an b s.2=true→an b (one v b s).2.2=true)
  {cs:List (Nat×Hc)} (hcs:HcsOk prog cs) {fn:Func} (hf:prog.funcs[f]?=some fn) (hname:(fn.name == "runtime.NumGoroutine")=false) (hbody:fn.body.isNone=false)
  (hlp:bJ [(10,bv (d7 st cf T) (cY st cf T one))] (dn ((gT fn).getD 0 iX).2.1)=some (bv (d7 st cf T) (cY st cf T one))) (h1:Nat.ble (MD fn ((gT fn).getD 0 iX)).length 0=true) (h2:Nat.ble (gT fn).length (0+1)=true)
  (hit:∀(n:Nat) (h4:Int) (h5:List T.den) (h6 h7 h8:Int) (h9:List Int) (h10:Int),lD tt (bR cs) dr (bJ [(10,bv (d7 st cf T) (cY st cf T one))]) 3 fn ((gT fn).getD 0 iX) (n+1) ((d7 st cf T).st.mk' ((h4,(h5,(h6,()))),((h7,(h8,())),((h9,(h10,())),((),()))))) (dc (d7 st cf T).xs)=
   yt st cf T one h4 h5 h6 h7 h8 h9 h10 (fun h4 h5 h6 h7 h8 h9 h10=>lD tt (bR cs) dr (bJ [(10,bv (d7 st cf T) (cY st cf T one))]) 3 fn ((gT fn).getD 0 iX) n ((d7 st cf T).st.mk' ((h4,(h5,(h6,()))),((h7,(h8,())),((h9,(h10,())),((),()))))) (dc (d7 st cf T).xs)) some)
  (hrun:∀(a0 a1:Int) (a2:List Int) (a3:Int),Io.run tt (bR cs) dr (bJ [(10,bv (d7 st cf T) (cY st cf T one))]) (sJ st cf T) fn (((),(),()),((),a0,a1,()),(a2,a3,()),((),()),())=DB st cf T one a0 a1 a2 a3):
  HcOk prog f (af (sJ st cf T) (TR st cf T sps)):=by
 refine ao (n:=400) hm (cs:=cs) hcs (lp:=bJ [(10,bv (d7 st cf T) (cY st cf T one))]) (fn:=fn) hf hname hbody (sJ st cf T) (.step (h0:=bv (d7 st cf T) (cY st cf T one)) hlp (aQ (n:=400) hm (cs:=cs) hcs (lp:=bJ [(10,bv (d7 st cf T) (cY st cf T one))]) (fn:=fn) (.done h1) (d7 st cf T) (cY st cf T one) ?_) (.done h2)) (TR st cf T sps) ?_
 ·rintro ⟨⟨(n:Int),(xs:List T.den),(i:Int),⟨⟩⟩,⟨⟨(v:Int),(e:Int),⟨⟩⟩,⟨(b:List Int),(p:Int),⟨⟩⟩,⟨⟨⟩,⟨⟩⟩⟩⟩ y hw hy
  obtain ⟨hg,hy⟩:=Tr.guard hy
  simp only[Bool.and_eq_true,decide_eq_true_eq,Bool.or_eq_true] at hg
  obtain ⟨h1,h2,h3,h4⟩:=hg
  have h1:i=0:=h1
  have h2:xs=[]:=List.eq_nil_of_length_eq_zero h2
  have h3:an b p=true:=h3
  have h4:n≤16∨e≠0:=h4
  subst h1
  subst h2
  refine ⟨n.toNat+1,(OO (st:=st) (cf:=cf) hok (fun n h4 h5 h6 h7 h8 h9 h10=>lD tt (bR cs) dr (bJ [(10,bv (d7 st cf T) (cY st cf T one))]) 3 fn ((gT fn).getD 0 iX) n ((d7 st cf T).st.mk' ((h4,(h5,(h6,()))),((h7,(h8,())),((h9,(h10,())),((),()))))) (dc (d7 st cf T).xs)) hit n v b (n.toNat+1) 0 [] (e,p) (by omega) (by omega) rfl h3 (fun he=>h4.resolve_right (fun h=>h he))).trans ?_⟩
  rw[← hy];rfl
 ·rintro ⟨⟨⟨⟩,⟨⟩,⟨⟩⟩,⟨⟨⟩,(v:Int),(e:Int),⟨⟩⟩,⟨(b:List Int),(p:Int),⟨⟩⟩,⟨⟨⟩,⟨⟩⟩,⟨⟩⟩ out hw ho
  obtain ⟨hg,ho⟩:=Tr.guard ho
  have hg:an b p=true:=hg
  cases ho
  refine (hrun v e b p).trans ?_
  unfold DB
  show _=some (Out.ret (((sps v b (e,p)).1,()),iF v b (sps v b (e,p)).2))
  rw[hs]
  unfold eB
  refine (aa hg _ _).trans ?_
  have hr:an b (ac .i32 4 b (e,p)).2.2=true:=aL .i32 4 (s:=(e,p)) hg
  generalize ac .i32 4 b (e,p)=r at hr ⊢
  obtain ⟨n,e1,q⟩:=r
  have hr:an b q=true:=hr
  have key:∀e':Int,(e'=0→n≤16)→cY st cf T one ((n,([],(0,()))),((v,(e',())),((b,(q,())),((),()))))=.ite true (.ret (.ret ((),(((cS (one v b) n.toNat (e',q)).1,()),BZ v b (cS (one v b) n.toNat (e',q)).2)))) .no:=by
   intro e' he
   refine congrArg (fun c=>Tr.ite c _ _) ?_
   show (decide ((0:Int)=0)&&(decide (([]:List T.den).length=0)&&(an b q&&(decide (n≤16) || decide (e'≠0)))))=true
   rw[hr]
   by_cases h:e'=0
   ·simp[he h]
   ·simp[h]
  unfold kr
  show (bif e1 != 0 then _ else _)=_
  by_cases h1:e1=0
  ·refine (ae (by simpa using h1) _ _).trans ?_
   show (bif decide (n<0) then _ else _)=_
   rw[if_pos h1]
   by_cases h2:n<0
   ·refine (aa (by simpa using h2) _ _).trans ?_
    show (cY st cf T one ((n,([],(0,()))),((v,(5,())),((b,(q,())),((),()))))).run _=_
    rw[key 5 (by omega),if_pos h2]
    rfl
   ·refine (ae (by simpa using h2) _ _).trans ?_
    show (bif decide (16<n) then _ else _)=_
    rw[if_neg h2]
    by_cases h3:16<n
    ·refine (aa (by simpa using h3) _ _).trans ?_
     show (cY st cf T one ((n,([],(0,()))),((v,(9,())),((b,(q,())),((),()))))).run _=_
     rw[key 9 (by omega),if_pos h3]
     rfl
    ·refine (ae (by simpa using h3) _ _).trans ?_
     show (cY st cf T one ((n,([],(0,()))),((v,(e1,())),((b,(q,())),((),()))))).run _=_
     rw[key e1 (by omega),if_neg h3]
     rfl
  ·refine (aa (by simpa using h1) _ _).trans ?_
   show (cY st cf T one ((n,([],(0,()))),((v,(e1,())),((b,(q,())),((),()))))).run _=_
   rw[key e1 (fun h=>absurd h h1),if_neg h1]
   rfl
@[irreducible] noncomputable def d9 (b:List Int)(s:aC):List cX.den×aC:=eB (fy b) b s
theorem F8 {b:List Int}{s:aC}(h:an b s.2=true):an b (d9 b s).2.2=true:=by
 unfold d9
 exact gq (fun s h=>xO h) h
abbrev ru:Io:=⟨[.ptr 0 0,.fnc 148 false [2]],n6,[],[.dat (.sl 178 cX) false false],none⟩
def IQ (d:ru.In):Tr ru.Res:=.ite (an d.2.2.1.1 d.2.2.1.2.1) (.ret (.ret (((d9 d.2.2.1.1 (eQ d.2)).1,()),iF d.2.1.2.1 d.2.2.1.1 (d9 d.2.2.1.1 (eQ d.2)).2))) .no
abbrev NV:List (Nat×Hc):=[(143,af cC eT),(148,af mX GP)]
theorem PK:HcOk prog 147 (af ru IQ):=
 n4 (one:=fun _ b=>fy b) (sps:=fun _=>d9) (fun _ _ _=>by unfold d9;rfl) (fun _ _ _ h4=>xO h4) (cs:=NV) (.cons dg (.cons SJ .nil)) (fn:=Tryz.f147) (by kernel_rfl) (by kernel_rfl) (by kernel_rfl) (by kernel_rfl) (by kernel_rfl) (by kernel_rfl) (by intros;kernel_rfl) (by intros;kernel_rfl)
@[irreducible] noncomputable def eb (b:List Int)(s:aC):aB.den×aC:=(((bf b s).1,((d9 b (bf b s).2).1,())),(d9 b (bf b s).2).2)
theorem F9 {b:List Int}{s:aC}(h:an b s.2=true):an b (eb b s).2.2=true:=by
 unfold eb
 exact F8 (fz h)
abbrev kf:Io:=⟨[.ptr 0 0],rJ,[],[.dat aB true false],none⟩
def BL (d:kf.In):Tr kf.Res:=.ite (an d.2.2.2.1.1 d.2.2.2.1.2.1) (.ret (.ret (((eb d.2.2.2.1.1 (cx d.2.2)).1,()),dZ d.2.2.1.2.1 d.2.2.2.1.1 (eb d.2.2.2.1.1 (cx d.2.2)).2))) .no
abbrev Ez:List (Nat×Hc):=[(146,af la yY),(147,af ru IQ)]
def OG:Hd:=bR Ez
def Fm:Lp:=bJ []
def wn (a0 a1:Int)(a2:List Int)(a3:Int):Option kf.Res:=bif an a2 a3 then bif an a2 (bf a2 (a1,a3)).2.2 then some (Out.ret ((((bf a2 (a1,a3)).1,(d9 a2 (bf a2 (a1,a3)).2).1,()),()),((),()),((),a0,(d9 a2 (bf a2 (a1,a3)).2).2.1,()),(a2,(d9 a2 (bf a2 (a1,a3)).2).2.2,()),())) else none else none
theorem L2 (a0 a1:Int)(a2:List Int)(a3:Int):Io.run tt OG dr Fm kf Tryz.f145 (((),()),((),()),((),a0,a1,()),(a2,a3,()),())=wn a0 a1 a2 a3:=by kernel_rfl
theorem PL:HcOk prog 145 (af kf BL):=by
 refine ao (n:=400) hm (cs:=Ez) (.cons CD (.cons PK .nil)) (lp:=Fm) (fn:=Tryz.f145) (by kernel_rfl) (by kernel_rfl) (by kernel_rfl) kf (.done (by kernel_rfl)) BL ?_
 rintro ⟨⟨⟨⟩,⟨⟩⟩,⟨⟨⟩,⟨⟩⟩,⟨⟨⟩,(v:Int),(e:Int),⟨⟩⟩,⟨(b:List Int),(p:Int),⟨⟩⟩,⟨⟩⟩ out hw ho
 obtain ⟨hg,ho⟩:=Tr.guard ho
 have hg:an b p=true:=hg
 cases ho
 refine (L2 v e b p).trans ?_
 unfold wn
 show _=some (Out.ret (((eb b (e,p)).1,()),dZ v b (eb b (e,p)).2))
 unfold eb
 refine (aa hg _ _).trans ?_
 exact aa (fz (s:=(e,p)) hg) _ _
@[irreducible] noncomputable def bK (b:List Int)(s:aC):List aB.den×aC:=eB (eb b) b s
abbrev oZ:Io:=⟨[.ptr 0 0,.fnc 145 false [2]],n6,[],[.dat (.sl 172 aB) false false],none⟩
def Dw (d:oZ.In):Tr oZ.Res:=.ite (an d.2.2.1.1 d.2.2.1.2.1) (.ret (.ret (((bK d.2.2.1.1 (eQ d.2)).1,()),iF d.2.1.2.1 d.2.2.1.1 (bK d.2.2.1.1 (eQ d.2)).2))) .no
abbrev KN:List (Nat×Hc):=[(143,af cC eT),(145,af kf BL)]
theorem LA:HcOk prog 144 (af oZ Dw):=
 n4 (one:=fun _ b=>eb b) (sps:=fun _=>bK) (fun _ _ _=>by unfold bK;rfl) (fun _ _ _ h4=>F9 h4) (cs:=KN) (.cons dg (.cons PL .nil)) (fn:=Tryz.f144) (by kernel_rfl) (by kernel_rfl) (by kernel_rfl) (by kernel_rfl) (by kernel_rfl) (by kernel_rfl) (by intros;kernel_rfl) (by intros;kernel_rfl)
abbrev oT (st cf:Nat)(T:Ty):Io:=⟨[.ptr 0 0,.fnc cf false [1]],xk,[],[.dat (.sl st T) false false],none⟩
def MP (st cf:Nat)(T:Ty)(d:(oT st cf T).In):Tr (oT st cf T).Res:=.ite (decide (d.2.1.2.2.1≠0)) (.ret (.ret ((([]:List T.den),()),d.2))) .no
abbrev d1 (st cf:Nat)(T:Ty):Lo:=⟨⟨[.one (.ptr 0 0),.one (.fnp cf false [1]),.any,.any,.any,.one (.hol (.int IntKind.i32)),.one (.onl st T 17),.one (.hol (.int IntKind.i32)),.any,.any,.any,.any,.any,.any,.any,.any,.any,.any,.any,.any,.any,.any,.any,.any,.any,.any,.any,.any,.any,.any,.any,.any,.any,.any,.any,.any,.any,.any,.any,.any,.any,.any,.any,.any,.any,.any],[some [.nilp,.hol (.int IntKind.i64),.hol (.int IntKind.i64)],some [.ptr 0 0]]⟩,[(.exit 1,⟨(bQ (bt (.one (.onl st T 17)::.any::ag (ag (bQ (bt [])))))),[some [.nilp,.hol (.int IntKind.i64),.hol (.int IntKind.i64)],some [.ptr 0 0]]⟩)]⟩
def eG (st cf:Nat)(T:Ty)(d:(d1 st cf T).st.den):Tr (aJ (d1 st cf T).xs):=
 .ite (decide (d.2.1.2.1≠0)) (.ret (.ret ((),((d.1.2.1,()),d.2)))) .no
def Bm (st cf:Nat)(T:Ty){R:Type}(h2:Int)(h3:List T.den)(h4 h5 h6:Int)(next:Int→List T.den→Int→Int→Int→Option R)(out:aJ (d1 st cf T).xs→Option R):Option R:=bif decide (h4<h2) then bif h6 == 0 then none else out (.ret ((),((h3,()),((h5,(h6,())),((),()))))) else out (.ret ((),((h3,()),((h5,(h6,())),((),())))))
def zj (st cf:Nat)(T:Ty)(a0 a1:Int):Option (oT st cf T).Res:=bif decide (a1≠0) then bif a1 != 0 then (eG st cf T ((0,([],(0,()))),((a0,(a1,())),((),())))).run fun y=>match y with | .ret ((),((x13,()),(x14,x15,()),(),()))=>(some (Out.ret ((x13,()),((),x14,x15,()),((),()),()))) else (eG st cf T ((0,([],(0,()))),((a0,(a1,())),((),())))).run fun y=>match y with | .ret ((),((x21,()),(x22,x23,()),(),()))=>(some (Out.ret ((x21,()),((),x22,x23,()),((),()),()))) else none
theorem vf {st cf f:Nat}{T:Ty}
  {cs:List (Nat×Hc)} (hcs:HcsOk prog cs) {fn:Func} (hf:prog.funcs[f]?=some fn) (hname:(fn.name == "runtime.NumGoroutine")=false) (hbody:fn.body.isNone=false)
  (hlp:bJ [(10,bv (d1 st cf T) (eG st cf T))] (dn ((gT fn).getD 0 iX).2.1)=some (bv (d1 st cf T) (eG st cf T))) (h1:Nat.ble (MD fn ((gT fn).getD 0 iX)).length 0=true) (h2:Nat.ble (gT fn).length (0+1)=true)
  (hit:∀(n:Nat) (h2:Int) (h3:List T.den) (h4 h5 h6:Int),lD tt (bR cs) dr (bJ [(10,bv (d1 st cf T) (eG st cf T))]) 2 fn ((gT fn).getD 0 iX) (n+1) ((d1 st cf T).st.mk' ((h2,(h3,(h4,()))),((h5,(h6,())),((),())))) (dc (d1 st cf T).xs)=
   Bm st cf T h2 h3 h4 h5 h6 (fun h2 h3 h4 h5 h6=>lD tt (bR cs) dr (bJ [(10,bv (d1 st cf T) (eG st cf T))]) 2 fn ((gT fn).getD 0 iX) n ((d1 st cf T).st.mk' ((h2,(h3,(h4,()))),((h5,(h6,())),((),())))) (dc (d1 st cf T).xs)) some)
  (hrun:∀(a0 a1:Int),Io.run tt (bR cs) dr (bJ [(10,bv (d1 st cf T) (eG st cf T))]) (oT st cf T) fn (((),(),()),((),a0,a1,()),((),()),())=zj st cf T a0 a1):
  HcOk prog f (af (oT st cf T) (MP st cf T)):=by
 refine ao (n:=400) hm (cs:=cs) hcs (lp:=bJ [(10,bv (d1 st cf T) (eG st cf T))]) (fn:=fn) hf hname hbody (oT st cf T) (.step (h0:=bv (d1 st cf T) (eG st cf T)) hlp (aQ (n:=400) hm (cs:=cs) hcs (lp:=bJ [(10,bv (d1 st cf T) (eG st cf T))]) (fn:=fn) (.done h1) (d1 st cf T) (eG st cf T) ?_) (.done h2)) (MP st cf T) ?_
 ·rintro ⟨⟨(n:Int),(xs:List T.den),(i:Int),⟨⟩⟩,⟨⟨(v:Int),(e:Int),⟨⟩⟩,⟨⟨⟩,⟨⟩⟩⟩⟩ y hw hy
  obtain ⟨hg,hy⟩:=Tr.guard hy
  have hg:e≠0:=of_decide_eq_true hg
  refine ⟨1,(hit 0 n xs i v e).trans ?_⟩
  unfold Bm
  rw[← hy]
  by_cases h:i<n
  ·refine (aa (by simpa using h) _ _).trans ?_
   exact ae (by simpa using hg) _ _
  ·exact ae (by simpa using h) _ _
 ·rintro ⟨⟨⟨⟩,⟨⟩,⟨⟩⟩,⟨⟨⟩,(v:Int),(e:Int),⟨⟩⟩,⟨⟨⟩,⟨⟩⟩,⟨⟩⟩ out hw ho
  obtain ⟨hg,ho⟩:=Tr.guard ho
  have hg:e≠0:=of_decide_eq_true hg
  cases ho
  refine (hrun v e).trans ?_
  unfold zj
  have e1:eG st cf T ((0,([],(0,()))),((v,(e,())),((),())))=.ite true (.ret (.ret ((),((([]:List T.den),()),((v,(e,())),((),())))))) .no:=congrArg (fun c=>Tr.ite c _ _) (decide_eq_true hg)
  refine (aa (by simpa using hg) _ _).trans ?_
  refine (aa (by simpa using hg) _ _).trans ?_
  rw[e1]
  rfl
abbrev mY:Io:=⟨[.ptr 0 0,.fnc 145 false [1]],xk,[],[.dat (.sl 172 aB) false false],none⟩
def zb (d:mY.In):Tr mY.Res:=.ite (decide (d.2.1.2.2.1≠0)) (.ret (.ret ((([]:List aB.den),()),d.2))) .no
abbrev Hg:List (Nat×Hc):=[(143,eR de (af er jY) (af cC eT))]
theorem HF:HcOk prog 144 (af mY zb):=
 vf (cs:=Hg) (.cons (aZ jF dg) .nil) (fn:=Tryz.f144) (by kernel_rfl) (by kernel_rfl) (by kernel_rfl) (by kernel_rfl) (by kernel_rfl) (by kernel_rfl) (by intros;kernel_rfl) (by intros;kernel_rfl)
def Cu (args:List V)(A:AS):Bool:=match args with
 |[.one (.int _ v),.one (.lst _ _ xs _)]=>!(decide (0≤v)&&(decide (v≤3)&&decide ((xs.length:Int)≤130048)))
 |_=>false
def QY:iD.den:=((false,(([]:List Int),())),(0,(0,(([]:List aB.den),()))))
def cn (v:Int)(b:List Int)(s:aC):cW.den×aC:=if s.1=0∧3≤v∧v≤3 then ch b s else ((false,(([]:List Int),())),s)
def pm (v:Int)(b:List Int):iD.den×aC:=
 (((cn v b (0,0)).1,((ac .i16 2 b (cn v b (0,0)).2).1,((ac .i32 4 b (ac .i16 2 b (cn v b (0,0)).2).2).1,((bK b (ac .i32 4 b (ac .i16 2 b (cn v b (0,0)).2).2).2).1,())))),(bK b (ac .i32 4 b (ac .i16 2 b (cn v b (0,0)).2).2).2).2)
def cl (v:Int)(b:List Int):iD.den×Int:=if 0≤v∧v≤3∧(b.length:Int)≤130048 then (if aK b (pm v b).2=0 then ((pm v b).1,0) else (QY,aK b (pm v b).2)) else (QY,bB v)
abbrev qn:Io:=⟨[dI,dL],[],[],[.dat iD true false,dI],none⟩
def M2 (d:qn.In):Tr qn.Res:=.ret (.ret (((cl d.1.1 d.1.2.1).1,((cl d.1.1 d.1.2.1).2,())),()))
abbrev NW:List (Nat×Hc):=[(139,eR Cu (af iJ nE) (af k9 yX)),(140,eR de (af iI si) (af gY qN)),(141,af mC GI),(142,eR de (af jt vv) (af k7 yV)),(143,eR de (af er jY) (af cC eT)),(144,eR de (af mY zb) (af oZ Dw)),(150,eR de (af iH sh) (af k6 yU))]
def Vp:Hd:=bR NW
def Ph:Lp:=bJ []
def DZ (a0:Int)(a1:List Int):Option qn.Res:=bif !(decide (0≤a0)&&(decide (a0≤3)&&decide ((↑a1.length:Int)≤130048))) then bif decide (0≤a0)&&(decide (a0≤3)&&decide ((↑a1.length:Int)≤130048)) then none else bif decide (bB a0≠0) then bif decide (bB a0≠0) then bif decide (bB a0≠0) then bif decide (bB a0≠0) then bif decide (bB a0≠0) then bif bB a0 != 0 then some (Out.ret ((((false,List.map (fun (c:UInt8)=>(↑c.toNat:Int)) [],()),0,0,[],()),bB a0,()),())) else some (Out.ret ((((false,List.map (fun (c:UInt8)=>(↑c.toNat:Int)) [],()),0,0,[],()),0,()),())) else none else none else none else none else none else bif decide (0≤a0)&&(decide (a0≤3)&&decide ((↑a1.length:Int)≤130048)) then bif aS a0 3 3 0 then bif an a1 0 then bif an a1 (ch a1 (0,0)).2.2 then bif an a1 (ac IntKind.i16 2 a1 (ch a1 (0,0)).2).2.2 then bif an a1 (ac IntKind.i32 4 a1 (ac IntKind.i16 2 a1 (ch a1 (0,0)).2).2).2.2 then bif aK a1 (bK a1 (ac IntKind.i32 4 a1 (ac IntKind.i16 2 a1 (ch a1 (0,0)).2).2).2).2 != 0 then some (Out.ret ((((false,List.map (fun (c:UInt8)=>(↑c.toNat:Int)) [],()),0,0,[],()),aK a1 (bK a1 (ac IntKind.i32 4 a1 (ac IntKind.i16 2 a1 (ch a1 (0,0)).2).2).2).2,()),())) else some (Out.ret (((((ch a1 (0,0)).1.1,(ch a1 (0,0)).1.2.1,()),(ac IntKind.i16 2 a1 (ch a1 (0,0)).2).1,(ac IntKind.i32 4 a1 (ac IntKind.i16 2 a1 (ch a1 (0,0)).2).2).1,(bK a1 (ac IntKind.i32 4 a1 (ac IntKind.i16 2 a1 (ch a1 (0,0)).2).2).2).1,()),0,()),())) else none else none else none else none else bif an a1 0 then bif an a1 (am a1 0 2).2.1 then bif an a1 (ac IntKind.i32 4 a1 ((am a1 0 2).2.2,(am a1 0 2).2.1)).2.2 then bif aK a1 (bK a1 (ac IntKind.i32 4 a1 ((am a1 0 2).2.2,(am a1 0 2).2.1)).2).2 != 0 then some (Out.ret ((((false,List.map (fun (c:UInt8)=>(↑c.toNat:Int)) [],()),0,0,[],()),aK a1 (bK a1 (ac IntKind.i32 4 a1 ((am a1 0 2).2.2,(am a1 0 2).2.1)).2).2,()),())) else some (Out.ret ((((false,List.map (fun (c:UInt8)=>(↑c.toNat:Int)) [],()),IntKind.i16.wrap (am a1 0 2).1,(ac IntKind.i32 4 a1 ((am a1 0 2).2.2,(am a1 0 2).2.1)).1,(bK a1 (ac IntKind.i32 4 a1 ((am a1 0 2).2.2,(am a1 0 2).2.1)).2).1,()),0,()),())) else none else none else none else none
theorem Tj (a0:Int)(a1:List Int):Io.run tt Vp dr Ph qn Tryz.f65 ((a0,a1,()),())=DZ a0 a1:=by kernel_rfl
theorem VD:HcOk prog 65 (af qn M2):=by
 refine ao (n:=400) hm (cs:=NW) (.cons (aZ vm CC) (.cons (aZ vj qq) (.cons Sv (.cons (aZ CB CA) (.cons (aZ jF dg) (.cons (aZ HF LA) (.cons (aZ vi Cz) .nil))))))) (lp:=Ph) (fn:=Tryz.f65) (by kernel_rfl) (by kernel_rfl) (by kernel_rfl) qn (.done (by kernel_rfl)) M2 ?_
 rintro ⟨⟨(v:Int),(b:List Int),⟨⟩⟩,⟨⟩⟩ out hw ho
 cases ho
 refine (Tj v b).trans ?_
 unfold DZ
 show _=some (Out.ret (((cl v b).1,((cl v b).2,())),()))
 by_cases h:0≤v∧v≤3∧(b.length:Int)≤130048
 ·have hc:(decide (0≤v)&&(decide (v≤3)&&decide ((b.length:Int)≤130048)))=true:=by simpa using h
  refine (ae (by rw[hc];rfl) _ _).trans ?_
  refine (aa hc _ _).trans ?_
  have hg:an b 0=true:=by simp[an];omega
  unfold cl pm
  rw[if_pos h]
  by_cases h3:v=3
  ·have ht:cn v b (0,0)=ch b (0,0):=by unfold cn;rw[if_pos ⟨rfl,by omega,by omega⟩]
   rw[ht]
   have g1:=Ic (s:=(0,0)) hg
   have g2:=aL .i16 2 g1
   have g3:=aL .i32 4 g2
   refine (aa (by unfold aS;rw[if_pos ⟨rfl,by omega,by omega⟩]) _ _).trans ?_
   refine (aa hg _ _).trans ?_
   refine (aa g1 _ _).trans ?_
   refine (aa g2 _ _).trans ?_
   refine (aa g3 _ _).trans ?_
   by_cases hE:aK b (bK b (ac .i32 4 b (ac .i16 2 b (ch b (0,0)).2).2).2).2=0
   ·rw[if_pos hE]
    exact ae (by simpa using hE) _ _
   ·rw[if_neg hE]
    exact aa (by simpa using hE) _ _
  ·have ht:cn v b (0,0)=((false,(([]:List Int),())),(0,0)):=by unfold cn;rw[if_neg (by omega)]
   have h16:ac .i16 2 b (0,0)=(IntKind.i16.wrap (am b 0 2).1,((am b 0 2).2.2,(am b 0 2).2.1)):=if_pos rfl
   rw[ht]
   show _=some (Out.ret (((if aK b (bK b (ac .i32 4 b (ac .i16 2 b (0,0)).2).2).2=0 then _ else _:iD.den×Int).1,_),()))
   have g2:=aL .i16 2 (s:=(0,0)) hg
   have g3:=aL .i32 4 g2
   rw[h16] at g2 g3 ⊢
   refine (ae (by unfold aS;rw[if_neg (by omega)]) _ _).trans ?_
   refine (aa hg _ _).trans ?_
   refine (aa g2 _ _).trans ?_
   refine (aa g3 _ _).trans ?_
   by_cases hE:aK b (bK b (ac .i32 4 b ((am b 0 2).2.2,(am b 0 2).2.1)).2).2=0
   ·rw[if_pos hE]
    exact ae (by simpa using hE) _ _
   ·rw[if_neg hE]
    exact aa (by simpa using hE) _ _
 ·have hc:(decide (0≤v)&&(decide (v≤3)&&decide ((b.length:Int)≤130048)))=false:=by
   rw[Bool.eq_false_iff]
   intro h'
   simp only[Bool.and_eq_true,decide_eq_true_eq] at h'
   exact h h'
  have hn:bB v≠0:=by unfold bB;split <;> decide
  unfold cl
  rw[if_neg h]
  refine (aa (by rw[hc];rfl) _ _).trans ?_
  refine (ae hc _ _).trans ?_
  refine (aa (decide_eq_true hn) _ _).trans ?_
  refine (aa (decide_eq_true hn) _ _).trans ?_
  refine (aa (decide_eq_true hn) _ _).trans ?_
  refine (aa (decide_eq_true hn) _ _).trans ?_
  refine (aa (decide_eq_true hn) _ _).trans ?_
  exact aa (by simpa using hn) _ _
abbrev XS:Ty:=.prod .str (.prod (.int .i64) (.prod (.int .i64) (.prod (.int .i64) .unit)))
abbrev yA:Ty:=.tree XS 160
abbrev Fd:Type:=Tre XS.den
abbrev US:Sh:=.dat Q5 false false
abbrev jB:Io:=⟨[dS],[],[],[np],none⟩
def vQ (d:jB.In):Tr jB.Res:=.ret (.ret ((.mk (5,(0,(false,(d.1.1,())))) [],()),()))
abbrev Jt:List (Nat×Hc):=[]
def R9:Hd:=bR Jt
def J6:Lp:=bJ []
def KB (a0:List Int):Option jB.Res:=some (Out.ret ((Tre.mk (5,0,false,a0,()) [],()),()))
theorem Qq (a0:List Int):Io.run tt R9 dr J6 jB Tryz.f183 ((a0,()),())=KB a0:=by kernel_rfl
theorem jH:HcOk prog 183 (af jB vQ):=by
 refine ao (n:=400) hm (cs:=Jt) HcsOk.nil (lp:=J6) (fn:=Tryz.f183) (by kernel_rfl) (by kernel_rfl) (by kernel_rfl) jB (.done (by kernel_rfl)) vQ ?_
 rintro ⟨⟨(s:List Int),⟨⟩⟩,⟨⟩⟩ out hw ho
 cases ho
 exact Qq s
abbrev ke:Io:=⟨[ww],[],[],[np],none⟩
def BK (d:ke.In):Tr ke.Res:=.ret (.ret ((.mk (6,(0,(d.1.1.1,(d.1.1.2.1,())))) [],()),()))
abbrev Ey:List (Nat×Hc):=[]
def OF:Hd:=bR Ey
def Fl:Lp:=bJ []
def GW (a0:Bool)(a1:List Int):Option ke.Res:=some (Out.ret ((Tre.mk (6,0,a0,a1,()) [],()),()))
theorem L1 (a0:Bool)(a1:List Int):Io.run tt OF dr Fl ke Tryz.f185 (((a0,a1,()),()),())=GW a0 a1:=by kernel_rfl
theorem xq:HcOk prog 185 (af ke BK):=by
 refine ao (n:=400) hm (cs:=Ey) HcsOk.nil (lp:=Fl) (fn:=Tryz.f185) (by kernel_rfl) (by kernel_rfl) (by kernel_rfl) ke (.done (by kernel_rfl)) BK ?_
 rintro ⟨⟨⟨(z:Bool),(s:List Int),⟨⟩⟩,⟨⟩⟩,⟨⟩⟩ out hw ho
 cases ho
 exact L1 z s
abbrev ik:Io:=⟨[Hi],[],[],[np],none⟩
def vO (d:ik.In):Tr ik.Res:=.ret (.ret ((.mk (8,(0,(d.1.1.1,(d.1.1.2.1,())))) [],()),()))
abbrev z3:List (Nat×Hc):=[]
def K2:Hd:=bR z3
def Az:Lp:=bJ []
def DY (a0:Bool)(a1:List Int):Option ik.Res:=some (Out.ret ((Tre.mk (8,0,a0,a1,()) [],()),()))
theorem HZ (a0:Bool)(a1:List Int):Io.run tt K2 dr Az ik Tryz.f182 (((a0,a1,()),()),())=DY a0 a1:=by kernel_rfl
theorem s4:HcOk prog 182 (af ik vO):=by
 refine ao (n:=400) hm (cs:=z3) HcsOk.nil (lp:=Az) (fn:=Tryz.f182) (by kernel_rfl) (by kernel_rfl) (by kernel_rfl) ik (.done (by kernel_rfl)) vO ?_
 rintro ⟨⟨⟨(z:Bool),(s:List Int),⟨⟩⟩,⟨⟩⟩,⟨⟩⟩ out hw ho
 cases ho
 exact HZ z s
abbrev jA:Io:=⟨[US],[],[],[np],none⟩
def vP (d:jA.In):Tr jA.Res:=.ret (.ret ((.mk (9,(0,(false,(([]:List Int),())))) d.1.1,()),()))
abbrev Js:List (Nat×Hc):=[]
def R8:Hd:=bR Js
def J5:Lp:=bJ []
def KA (a0:List az.den):Option jA.Res:=some (Out.ret ((Tre.mk (9,0,false,[],()) a0,()),()))
theorem Qp (a0:List az.den):Io.run tt R8 dr J5 jA Tryz.f184 ((a0,()),())=KA a0:=by kernel_rfl
theorem jG:HcOk prog 184 (af jA vP):=by
 refine ao (n:=400) hm (cs:=Js) HcsOk.nil (lp:=J5) (fn:=Tryz.f184) (by kernel_rfl) (by kernel_rfl) (by kernel_rfl) jA (.done (by kernel_rfl)) vP ?_
 rintro ⟨⟨l,⟨⟩⟩,⟨⟩⟩ out hw ho
 cases ho
 exact Qp l
def dJ (n:Nd):Bool:=if n.lab.2.1=0 then (if n.lab.2.2.1=false then (if n.lab.2.2.2.1.length=0 then (if n.kids.length=0 then true else false) else false) else false) else false
def nx (f:Fd)(v:Int):Bool:=if f.lab.2.2.1≤v∧v≤f.lab.2.2.2.1 then true else false
def AY (k:Int):Int:=if k=1 then 1 else if k=2∨k=5∨k=6 then 2 else if k=4 then 8 else 4
def kV (k:Int)(n:Nd):Bool:=
 if n.lab.1≠k then false else if 4<k∧n.lab.2.1≠0 then false else if (k<5∨8<k)∧0<n.lab.2.2.2.1.length then false else if k≠6∧k≠8∧n.lab.2.2.1=true then false else if 8<k∨n.kids.length=0 then true else false
def li (l:List Fd)(v:Int):List Fd:=l.filter fun f=>nx f v
abbrev Ac:Lo:=⟨⟨(.one (.hol (.sl 160 ((Ty.str.prod ((Ty.int IntKind.i64).prod ((Ty.int IntKind.i64).prod ((Ty.int IntKind.i64).prod Ty.unit)))).tree 160)))::.one (.hol (.int IntKind.i64))::.any::bt (.one (.onl 160 ((Ty.str.prod ((Ty.int IntKind.i64).prod ((Ty.int IntKind.i64).prod ((Ty.int IntKind.i64).prod Ty.unit)))).tree 160) 11)::.one (.hol (.int IntKind.i64))::.any::ag (bQ []))),[]⟩,[(.exit 0,⟨(.any::bQ (.one (.onl 160 ((Ty.str.prod ((Ty.int IntKind.i64).prod ((Ty.int IntKind.i64).prod ((Ty.int IntKind.i64).prod Ty.unit)))).tree 160) 11)::ag (bQ (bt [])))),[]⟩)]⟩
def Wv (d:Ac.st.den):Tr (aJ Ac.xs):=
 .ite (decide (d.1.2.2.1.length=0)&&(decide (d.1.2.2.2.1=0)&&decide (d.1.1.length≤4294967296))) (.ret (.ret ((),((li d.1.1 d.1.2.1,()),())))) .no
end
end Go.Proofs.YtomeplopmndbgaaGreat.Sym
namespace Go.Proofs.YtomeplopmndbgaaGreat.Sym
open Go
set_option linter.unusedSimpArgs false
set_option linter.unusedVariables false
structure FuT where
 n:Nat
@[irreducible] noncomputable def du [i:Inhabited FuT]:Nat:=i.default.n
mutual
def Tre.wt {α:Type}(f:α→Nat):Tre α→Nat
 |.mk l ks=>1+f l+Tre.wts f ks
def Tre.wts {α:Type}(f:α→Nat):List (Tre α)→Nat
 |[]=>0
 |k::ks=>k.wt f+Tre.wts f ks
end
theorem Tre.wts_mem {α:Type}{f:α→Nat}{k:Tre α}:∀{l:List (Tre α)},k∈l→k.wt f≤Tre.wts f l
 |k'::ks,h=>by
  simp only[Tre.wts]
  rcases List.mem_cons.1 h with rfl | h
  ·omega
  ·have:=Tre.wts_mem (f:=f) h;omega
theorem Tre.wt_eq {α:Type}(f:α→Nat)(t:Tre α):t.wt f=1+f t.lab+Tre.wts f t.kids:=by cases t;rfl
noncomputable section
@[irreducible] noncomputable def r8 (n:Nd):Nat:=n.wt fun l=>l.2.2.2.1.length
@[irreducible] noncomputable def cO (l:List Nd):Nat:=Tre.wts (fun l=>l.2.2.2.1.length) l
theorem Da (n:Nd):r8 n=1+n.lab.2.2.2.1.length+cO n.kids:=by unfold r8 cO;exact Tre.wt_eq _ n
theorem Gm {k:Nd}{l:List Nd}(h:k∈l):r8 k≤cO l:=by unfold r8 cO;exact Tre.wts_mem h
open Classical in
def dF (a b:Nd):Bool:=if a=b then true else false
open Classical in
def qD (a b:List Nd):Bool:=if a=b then true else false
theorem jV {a b:Nd}:dF a b=true↔a=b:=by unfold dF;split <;> simp_all
theorem na {a b:List Nd}:qD a b=true↔a=b:=by unfold qD;split <;> simp_all
theorem FuT.val (n:Nat):@du ⟨⟨n⟩⟩=n:=by unfold du;rfl
theorem HcOk.none {f:Nat}{fn:Func}(hf:prog.funcs[f]?=some fn)(hname:(fn.name == "runtime.NumGoroutine")=false) (hbody:fn.body.isNone=false) (io:Io) (Fn:io.In→Tr io.Res) (hn:∀d out,(Fn d).val≠some out):HcOk prog f (af io Fn):=
 sL (jP prog 400) hf hname io Fn (fun d out _ h=>absurd h (hn d out)) hbody
theorem Tr.val_run {α R:Type}:∀{t:Tr α} {K:α→Option R} {a:α},t.val=some a→t.run K=K a
 |.ret a,K,b,h=>by simp only[Tr.val,Tr.run,Option.some.injEq] at h;subst h;rfl
 |.no,K,b,h=>by cases h
 |.ite c t e,K,b,h=>by
  cases c with
  |true=>exact Tr.val_run (t:=t) h
  |false=>exact Tr.val_run (t:=e) h
theorem HcOk.lim {f:Nat}{io:Io}{Fs:Nat→io.In→Tr io.Res}{Fn:io.In→Tr io.Res}(h:∀n,HcOk prog f (af io (Fs n)))(hF:∀d,∃n,∀out,(Fn d).val=some out→(Fs n d).val=some out):HcOk prog f (af io Fn):=by
 intro R args id A K r F G ts cst w vals hid hc Rl hv
 unfold af at hc
 cases h1:ug io.args args (List.replicate io.obs.length Option.none) with
 |none=>rw[h1] at hc;cases hc
 |some p=>
  obtain ⟨a,β1⟩:=p
  rw[h1] at hc
  simp only at hc
  cases h2:K8 A.ob io.obs 0 β1 with
  |none=>rw[h2] at hc;cases hc
  |some q=>
   obtain ⟨o,β⟩:=q
   rw[h2] at hc
   simp only at hc
   obtain ⟨n,hn⟩:=hF (a,o)
   refine h n R args id A K r F G ts cst w vals hid ?_ Rl hv
   unfold af
   rw[h1]
   simp only[h2]
   revert hc
   cases bZ ((jc (dY 0) io.args args 0++lM A.ob β (mj io.obs.length 0) io.obs 0).map (·.2))&&(bZ ((jc (dY 0) io.args args 0++lM A.ob β (mj io.obs.length 0) io.obs 0).map (·.1))&&io.ok) with
   |false=>intro hc;cases hc
   |true=>
    intro hc
    obtain ⟨out,ho,hk⟩:=Tr.run_val hc
    exact (Tr.val_run (hn out ho)).trans hk
theorem QW (n:Nd):1≤r8 n:=by rw[Da];omega
theorem QM {a b c d:Int}{z z':Bool}{x y:List Int}{l m:List Nd}:dF (.mk (a,(c,(z,(x,())))) l) (.mk (b,(d,(z',(y,())))) m)=true↔a=b∧c=d∧z=z'∧x=y∧l=m:=by
 rw[jV]
 constructor
 ·intro h
  injection h with h1 h2
  injection h1 with h3 h4
  injection h4 with h5 h6
  injection h6 with h7 h8
  injection h8 with h9 h10
  exact ⟨h3,h5,h7,h9,h2⟩
 ·rintro ⟨rfl,rfl,rfl,rfl,rfl⟩;rfl
abbrev d6:Io:=⟨[np,np],[],[],[dB],none⟩
def nO (n:Nat)(d:d6.In):Tr d6.Res:=.ite (decide (r8 d.1.1<n)) (.ret (.ret ((dF d.1.1 d.1.2.1,()),()))) .no
def IP (d:d6.In):Tr d6.Res:=.ret (.ret ((dF d.1.1 d.1.2.1,()),()))
section
variable [Inhabited FuT]
abbrev wv:List (Nat×Hc):=[(28,af mw Dl),(51,af d6 (nO du))]
def EI:Hd:=bR wv
abbrev ew:Lo:=⟨⟨(bt (.one (.ptr 2 0)::.one (.ptr 3 0)::.any::.one (.hol (.int IntKind.i64))::.any::ag (ag (ag (bQ (bt [])))))),[none,none,some [.hol (.int IntKind.i64),.hol (.int IntKind.i64),.hol .bool,.hol (.sl 5 (Ty.int IntKind.u8)),.hol (.sl 91 az)],some [.hol (.int IntKind.i64),.hol (.int IntKind.i64),.hol .bool,.hol (.sl 5 (Ty.int IntKind.u8)),.hol (.sl 91 az)]]⟩,[(.ret,⟨(bQ (.one (.hol .bool)::ag (ag (ag (dq []))))),[]⟩),(.exit 0,⟨(.any::ag (ag (ag (dq (bQ []))))),[]⟩)]⟩
def lz (d:ew.st.den):Tr (aJ ew.xs):=
 .ite (decide (d.1.1=0)&&(decide (d.2.1.2.2.2.2.1.length=d.2.2.1.2.2.2.2.1.length)&&decide (cO d.2.1.2.2.2.2.1<du))) (.ite (qD d.2.1.2.2.2.2.1 d.2.2.1.2.2.2.2.1) (.ret (.pan (.ret ((),((),()))))) (.ret (.ret ((),((false,()),()))))) .no
def rE:Lp:=bJ [(5,bv ew lz)]
def sd {R:Type}(h2 h3 h4:Int)(h5:Bool)(h6:List Int)(h7:List (Nd))(h8 h9:Int)(h10:Bool)(h11:List Int)(h12:List (Nd))(next:Int→Int→Int→Bool→List Int→List (Nd)→Int→Int→Bool→List Int→List (Nd)→Option R)(out:aJ ew.xs→Option R):Option R:=bif decide (h2<(↑h7.length:Int)) then bif decide (0≤h2)&&decide (h2<(↑h7.length:Int)) then bif decide (0≤h2)&&decide (h2<(↑h12.length:Int)) then bif decide (r8 (Tre.mk (h7.getD h2.toNat (Tre.mk (0,0,false,[],()) [])).1 (h7.getD h2.toNat (Tre.mk (0,0,false,[],()) [])).2)<du) then bif !dF (Tre.mk (h7.getD h2.toNat (Tre.mk (0,0,false,[],()) [])).1 (h7.getD h2.toNat (Tre.mk (0,0,false,[],()) [])).2) (Tre.mk (h12.getD h2.toNat (Tre.mk (0,0,false,[],()) [])).1 (h12.getD h2.toNat (Tre.mk (0,0,false,[],()) [])).2) then out (.ret ((),((false,()),()))) else next (IntKind.i64.wrap (h2+1)) (h3) (h4) (h5) (h6) (h7) (h8) (h9) (h10) (h11) (h12) else none else none else none else out (.pan (.ret ((),((),()))))
def qp (n:Nat)(h2 h3 h4:Int)(h5:Bool)(h6:List Int)(h7:List (Nd))(h8 h9:Int)(h10:Bool)(h11:List Int)(h12:List (Nd)):Option (aJ ew.xs):=lD tt EI dr rE 0 Tryz.f51 (gQ Tryz.f51 0) n (ew.st.mk' ((h2,()),((h3,(h4,(h5,(h6,(h7,()))))),((h8,(h9,(h10,(h11,(h12,()))))),())))) (dc ew.xs)
theorem H4 (n:Nat)(h2 h3 h4:Int)(h5:Bool)(h6:List Int)(h7:List (Nd))(h8 h9:Int)(h10:Bool)(h11:List Int)(h12:List (Nd)):qp (n+1) h2 h3 h4 h5 h6 h7 h8 h9 h10 h11 h12=sd h2 h3 h4 h5 h6 h7 h8 h9 h10 h11 h12 (qp n) some:=by kernel_rfl
theorem Hu {l m:List Nd}(hlm:l.length=m.length)(hl:l.length≤maxLen)(hw:cO l<du)(a b c d:Int)(z z':Bool)(x y:List Int):∀(k j:Nat),l.length<j+k→j≤l.length→l.take j=m.take j→
  qp k j a b z x l c d z' y m=if qD l m=true then some (.pan (.ret ((),((),())))) else some (.ret ((),((false,()),()))):=by
 intro k
 induction k with
 |zero=>intro j h1 h2;omega
 |succ k ih=>
  intro j h1 h2 h3
  rw[H4]
  unfold sd
  by_cases hj:j<l.length
  ·have hj':j<m.length:=by omega
   refine (aa (decide_eq_true (show (j:Int)<(l.length:Int) by omega)) _ _).trans ?_
   refine (aa (by simp;omega) _ _).trans ?_
   refine (aa (by simp;omega) _ _).trans ?_
   rw[bM hj hl]
   have hmem:=Gm (List.getElem_mem hj)
   have ht:l.take (j+1)=m.take (j+1)↔l[j]=m[j]:=by
    rw[List.take_succ_eq_append_getElem hj,List.take_succ_eq_append_getElem hj',h3]
    exact ⟨fun h=>by have:=(List.append_inj' h rfl).2;injection this,fun h=>by rw[h]⟩
   have hne:l[j]≠m[j]→l≠m:=fun h e=>h (by subst e;rfl)
   have ih':=ih (j+1) (by omega) (by omega)
   simp only[Int.toNat_natCast,bh hj,bh hj']
   generalize l[j]=u at hmem ht hne ⊢
   generalize m[j]=v at ht hne ⊢
   obtain ⟨ul,uk⟩:=u
   obtain ⟨vl,vk⟩:=v
   refine (aa (decide_eq_true (show r8 (Tre.mk ul uk)<du by omega)) _ _).trans ?_
   by_cases he:dF (Tre.mk ul uk) (Tre.mk vl vk)=true
   ·refine (ae (show (!dF (Tre.mk ul uk) (Tre.mk vl vk))=false by rw[he];rfl) _ _).trans ?_
    exact ih' (ht.2 (jV.1 he))
   ·refine (aa (show (!dF (Tre.mk ul uk) (Tre.mk vl vk))=true by simpa using he) _ _).trans ?_
    rw[if_neg (fun h=>hne (fun e=>he (jV.2 e)) (na.1 h))]
  ·refine (ae (decide_eq_false (show ¬(j:Int)<(l.length:Int) by omega)) _ _).trans ?_
   rw[List.take_of_length_le (by omega),List.take_of_length_le (by omega)] at h3
   rw[if_pos (na.2 h3)]
def wl (a0 a1:Nd):Option d6.Res:=bif a0.1.1 != a1.1.1 then some (Out.ret ((false,()),())) else bif a0.1.2.1 != a1.1.2.1 then some (Out.ret ((false,()),())) else bif !a0.1.2.2.1 == a1.1.2.2.1 then some (Out.ret ((false,()),())) else bif !decide (a0.1.2.2.2.1=a1.1.2.2.2.1) then some (Out.ret ((false,()),())) else bif (↑a0.2.length:Int) != (↑a1.2.length:Int) then some (Out.ret ((false,()),())) else (lz ((0,()),((a0.1.1,(a0.1.2.1,(a0.1.2.2.1,(a0.1.2.2.2.1,(a0.2,()))))),((a1.1.1,(a1.1.2.1,(a1.1.2.2.1,(a1.1.2.2.2.1,(a1.2,()))))),())))).run fun y=>match y with | .ret ((),((x25,()),()))=>(some (Out.ret ((x25,()),()))) | .pan (.ret ((),((),())))=>(some (Out.ret ((true,()),())))
theorem L0 (a0 a1:Nd):Io.run tt EI dr rE d6 Tryz.f51 ((a0,a1,()),())=wl a0 a1:=by kernel_rfl
theorem Lz (rtAlike:HcOk prog 51 (af d6 (nO du))):HcOk prog 51 (af d6 (nO (du+1))):=by
 refine ao (n:=400) hm (cs:=wv) (.cons Cy (.cons rtAlike .nil)) (lp:=rE) (fn:=Tryz.f51) (by kernel_rfl) (by kernel_rfl) (by kernel_rfl) d6 (.step (h0:=bv ew lz) (by kernel_rfl) (aQ (n:=400) hm (cs:=wv) (.cons Cy (.cons rtAlike .nil)) (lp:=rE) (fn:=Tryz.f51) (.done (by kernel_rfl)) ew lz ?_) (.done (by kernel_rfl))) (nO (du+1)) ?_
 ·rintro ⟨⟨(i:Int),⟨⟩⟩,⟨⟨(a:Int),(b:Int),(z:Bool),(x:List Int),(l:List Nd),⟨⟩⟩,⟨(c:Int),(d:Int),(z':Bool),(y':List Int),(m:List Nd),⟨⟩⟩,⟨⟩⟩⟩ y hw hy
  obtain ⟨hg,hy⟩:=Tr.guard hy
  simp only[Bool.and_eq_true,decide_eq_true_eq] at hg
  obtain ⟨h1,h2,h3⟩:=hg
  have h1:i=0:=h1
  have h2:l.length=m.length:=h2
  have h3:cO l<du:=h3
  subst h1
  refine ⟨l.length+1,(Hu h2 (by have:=hw.2.1.2.2.2.2.1.1;exact this) h3 a b c d z z' x y' (l.length+1) 0 (by omega) (by omega) rfl).trans ?_⟩
  rw[← hy]
  by_cases h:qD l m=true
  ·rw[if_pos h];exact (aa h _ _).symm
  ·rw[if_neg h];exact (ae (by simpa using h) _ _).symm
 ·rintro ⟨⟨(a:Nd),(b:Nd),⟨⟩⟩,⟨⟩⟩ out hw ho
  obtain ⟨hg,ho⟩:=Tr.guard ho
  have hk:r8 a<du+1:=of_decide_eq_true hg
  clear hg
  cases ho
  refine (L0 a b).trans ?_
  unfold wl
  show _=some (Out.ret ((dF a b,()),()))
  obtain ⟨⟨a1,a2,a3,a4,⟨⟩⟩,a5⟩:=a
  obtain ⟨⟨b1,b2,b3,b4,⟨⟩⟩,b5⟩:=b
  rw[Da] at hk
  have hk:1+a4.length+cO a5<du+1:=hk
  have key:=QM (a:=a1) (b:=b1) (c:=a2) (d:=b2) (z:=a3) (z':=b3) (x:=a4) (y:=b4) (l:=a5) (m:=b5)
  have no:¬(a1=b1∧a2=b2∧a3=b3∧a4=b4∧a5=b5)→dF (Tre.mk (a1,(a2,(a3,(a4,())))) a5) (Tre.mk (b1,(b2,(b3,(b4,())))) b5)=false:=fun h=>by
   rw[Bool.eq_false_iff];exact fun e=>h (key.1 e)
  by_cases h1:a1=b1
  ·refine (ae (by simpa using h1) _ _).trans ?_
   by_cases h2:a2=b2
   ·refine (ae (by simpa using h2) _ _).trans ?_
    by_cases h3:a3=b3
    ·refine (ae (by simp[h3]) _ _).trans ?_
     by_cases h4:a4=b4
     ·refine (ae (by simp[h4]) _ _).trans ?_
      by_cases h5:a5.length=b5.length
      ·refine (ae (by simp[h5]) _ _).trans ?_
       have c1:(decide ((0:Int)=0)&&(decide (a5.length=b5.length)&&decide (cO a5<du)))=true:=by simp;omega
       have e1:lz ((0,()),((a1,(a2,(a3,(a4,(a5,()))))),((b1,(b2,(b3,(b4,(b5,()))))),())))=.ite true (.ite (qD a5 b5) (.ret (.pan (.ret ((),((),()))))) (.ret (.ret ((),((false,()),()))))) .no:=congrArg (fun c=>Tr.ite c _ _) c1
       rw[e1]
       by_cases h6:a5=b5
       ·rw[na.2 h6,key.2 ⟨h1,h2,h3,h4,h6⟩];rfl
       ·have:qD a5 b5=false:=by rw[Bool.eq_false_iff];exact fun e=>h6 (na.1 e)
        rw[this,no (fun h=>h6 h.2.2.2.2)];rfl
      ·refine (aa (bne_iff_ne.2 (fun e=>h5 (Int.ofNat.inj e))) _ _).trans ?_
       rw[no (fun h=>h5 (by rw[h.2.2.2.2]))]
     ·refine (aa (by simp[h4]) _ _).trans ?_
      rw[no (fun h=>h4 h.2.2.2.1)]
    ·refine (aa (by cases a3 <;> cases b3 <;> simp_all) _ _).trans ?_
     rw[no (fun h=>h3 h.2.2.1)]
   ·refine (aa (by simpa using h2) _ _).trans ?_
    rw[no (fun h=>h2 h.2.1)]
  ·refine (aa (by simpa using h1) _ _).trans ?_
   rw[no (fun h=>h1 h.1)]
end
theorem Ly (n:Nat):HcOk prog 51 (af d6 (nO n)):=by
 induction n with
 |zero=>exact HcOk.none (fn:=Tryz.f51) (by kernel_rfl) (by kernel_rfl) (by kernel_rfl) _ _ fun d out h=>by cases h
 |succ n ih=>
  have:=@Lz ⟨⟨n⟩⟩ (by rw[FuT.val];exact ih)
  rw[FuT.val] at this
  exact this
theorem FE:HcOk prog 51 (af d6 IP):=by
 refine HcOk.lim Ly fun d=>⟨r8 d.1.1+1,fun out h=>?_⟩
 exact (aa (decide_eq_true (Nat.lt_succ_self _)) _ _).trans h
section
variable [Inhabited FuT]
abbrev Af:Lo:=⟨⟨(.any::.one (.ptr 1 0)::.one (.ptr 2 0)::.one (.onl 91 az 7)::.one (.hol (.int IntKind.i64))::ag (dq (bQ []))),[none,some [.hol (.int IntKind.i64),.hol (.int IntKind.i64),.hol .bool,.hol (.sl 5 (Ty.int IntKind.u8)),.hol (.sl 91 az)],some [.hol (.int IntKind.i64),.hol (.int IntKind.i64),.hol .bool,.onl 5 (Ty.int IntKind.u8) 1032,.onl 91 az 1034]]⟩,[(.exit 0,⟨(.any::.one (.ptr 1 0)::.one (.ptr 2 0)::.one (.onl 91 az 7)::.any::ag (dq (bQ []))),[none,some [.hol (.int IntKind.i64),.hol (.int IntKind.i64),.hol .bool,.hol (.sl 5 (Ty.int IntKind.u8)),.hol (.sl 91 az)],some [.hol (.int IntKind.i64),.hol (.int IntKind.i64),.hol .bool,.onl 5 (Ty.int IntKind.u8) 1032,.onl 91 az 1034]]⟩)]⟩
def Ww (d:Af.st.den):Tr (aJ Af.xs):=
 .ite (decide (d.1.1.length=0)&&(decide (d.1.2.1=0)&&(decide (cO d.2.1.2.2.2.2.1<du)&&decide (cO d.2.1.2.2.2.2.1≤4294967296)))) (.ret (.ret ((),((d.2.1.2.2.2.2.1,()),d.2)))) .no
end
end
end Go.Proofs.YtomeplopmndbgaaGreat.Sym
namespace Go.Proofs.YtomeplopmndbgaaGreat.Sym
open Go
set_option linter.unusedSimpArgs false
set_option linter.unusedVariables false
noncomputable section
mutual
def i3 (f:Fd)(v:Int):Nd→List Int×Int
 |.mk a ks=>
  if kV f.lab.2.1 (.mk a ks)=false then ([],101)
  else if f.lab.2.1≤4 then (if km a.2.1 (AY f.lab.2.1)=true then (aE a.2.1 (AY f.lab.2.1).toNat,0) else ([],102))
  else if f.lab.2.1=9 then (if 16<ks.length then ([],9) else if (eL (f.kids.headD f) v ks).2≠0 then ([],(eL (f.kids.headD f) v ks).2) else (aE ks.length 4++(eL (f.kids.headD f) v ks).1,0))
  else if f.lab.2.1=10 then kt f.kids v (.mk a ks)
  else if a.2.2.1=true then (if a.2.2.2.1.length=0 then (aE (-1) (AY f.lab.2.1).toNat,0) else ([],70))
  else if f.lab.2.1≤6∧(cM a.2.2.2.1).2=false then ([],6)
  else if f.lab.2.1≤6∧255<a.2.2.2.1.length then ([],4)
  else (aE a.2.2.2.1.length (AY f.lab.2.1).toNat++a.2.2.2.1,0)
termination_by n=>(SizeOf.sizeOf n,1)
def kt (fs:List Fd)(v:Int):Nd→List Int×Int
 |.mk a ks=>if ks.length≠(li fs v).length then ([],101) else ku v (li fs v) ks
termination_by n=>(SizeOf.sizeOf n,0)
def eL (f:Fd)(v:Int):List Nd→List Int×Int
 |[]=>([],0)
 |k::ks=>if (i3 f v k).2≠0 then ([],(i3 f v k).2) else if (eL f v ks).2≠0 then ([],(eL f v ks).2) else ((i3 f v k).1++(eL f v ks).1,0)
termination_by l=>(SizeOf.sizeOf l,0)
def ku (v:Int):List Fd→List Nd→List Int×Int
 |f::fs,k::ks=>if (i3 f v k).2≠0 then ([],(i3 f v k).2) else if (ku v fs ks).2≠0 then ([],(ku v fs ks).2) else ((i3 f v k).1++(ku v fs ks).1,0)
 |_,_=>([],0)
termination_by fs l=>(SizeOf.sizeOf l,0)
end
mutual
def Tre.arr:Fd→Bool
 |.mk a ks=>((decide (a.2.1≠9) || decide (ks.length≠0))&&decide (ks.length≤16))&&Tre.arrs ks
def Tre.arrs:List Fd→Bool
 |[]=>true
 |k::ks=>k.arr&&Tre.arrs ks
end
@[irreducible] noncomputable def td (f:List Fd):Bool:=Tre.arrs f
section
variable [Inhabited FuT]
abbrev t7:Lo:=⟨⟨(.any::.one (.hol (.int IntKind.i64))::.any::.one (.ptr 3 0)::.any::.one (.ptr 5 0)::.any::bt (.one (.onl 5 (Ty.int IntKind.u8) 19)::.one (.hol (.int IntKind.i64))::.any::ag (ag (ag (ag (ag (ag (dq (bt []))))))))),[none,none,none,some [.hol .str,.hol (.int IntKind.i64),.hol (.int IntKind.i64),.hol (.int IntKind.i64),.hol (.sl 160 yA)],none,some [.hol (.int IntKind.i64),.hol (.int IntKind.i64),.hol .bool,.hol (.sl 5 (Ty.int IntKind.u8)),.hol (.sl 91 (((Ty.int IntKind.i64).prod ((Ty.int IntKind.i64).prod (Ty.bool.prod ((Ty.sl 5 (Ty.int IntKind.u8)).prod Ty.unit)))).tree 91))]]⟩,[(.ret,⟨(bQ (bt (.one (.onl 5 (Ty.int IntKind.u8) 13)::.one (.hol (.int IntKind.i64))::ag (ag (ag (ag (ag (ag (dq (bQ (bt []))))))))))),[]⟩),(.exit 0,⟨(.any::dq (.one (.onl 5 (Ty.int IntKind.u8) 19)::ag (ag (ag (ag (ag (ag (dq (bQ []))))))))),[]⟩)]⟩
def UK (d:t7.st.den):Tr (aJ t7.xs):=
 .ite (decide (d.1.2.2.1=0)&&(decide (d.1.2.1.length=4)&&((decide (d.2.1.2.2.2.2.1.length≠0)&&td d.2.1.2.2.2.2.1)&&(decide (2*cO d.2.2.1.2.2.2.2.1+1≤du)&&decide (8+8*cO d.2.2.1.2.2.2.2.1≤4294967296)))))
  (.ite (decide ((eL (d.2.1.2.2.2.2.1.headD (.mk ([],(0,(0,(0,())))) [])) d.1.1 d.2.2.1.2.2.2.2.1).2=0))
   (.ret (.pan (.ret ((),((d.1.2.1++(eL (d.2.1.2.2.2.2.1.headD (.mk ([],(0,(0,(0,())))) [])) d.1.1 d.2.2.1.2.2.2.2.1).1,()),())))))
   (.ret (.ret ((),(([],((eL (d.2.1.2.2.2.2.1.headD (.mk ([],(0,(0,(0,())))) [])) d.1.1 d.2.2.1.2.2.2.2.1).2,())),()))))) .no
end
section
variable [Inhabited FuT]
abbrev w5:Lo:=⟨⟨(.any::.one (.hol (.int IntKind.i64))::.any::bt (.one (.ptr 5 0)::bt (.one (.onl 160 yA 17)::.one (.onl 5 (Ty.int IntKind.u8) 19)::.one (.hol (.int IntKind.i64))::.any::ag (ag (bQ (bt [])))))),[none,none,none,none,none,some [.hol (.int IntKind.i64),.hol (.int IntKind.i64),.hol .bool,.hol (.sl 5 (Ty.int IntKind.u8)),.hol (.sl 91 (((Ty.int IntKind.i64).prod ((Ty.int IntKind.i64).prod (Ty.bool.prod ((Ty.sl 5 (Ty.int IntKind.u8)).prod Ty.unit)))).tree 91))]]⟩,[(.ret,⟨(bQ (bt (.one (.onl 5 (Ty.int IntKind.u8) 13)::.one (.hol (.int IntKind.i64))::ag (ag (dq (bt [])))))),[]⟩),(.exit 0,⟨(.any::dq (.one (.onl 5 (Ty.int IntKind.u8) 19)::ag (ag (dq [])))),[]⟩)]⟩
def Wg (d:w5.st.den):Tr (aJ w5.xs):=
 .ite (decide (d.1.2.2.2.1=0)&&(decide (d.1.2.2.1.length=0)&&((decide (d.1.2.1.length=d.2.1.2.2.2.2.1.length)&&td d.1.2.1)&&(decide (2*cO d.2.1.2.2.2.2.1+1≤du)&&decide (8+8*cO d.2.1.2.2.2.2.1≤4294967296)))))
  (.ite (decide ((ku d.1.1 d.1.2.1 d.2.1.2.2.2.2.1).2=0))
   (.ret (.pan (.ret ((),(((ku d.1.1 d.1.2.1 d.2.1.2.2.2.2.1).1,()),())))))
   (.ret (.ret ((),(([],((ku d.1.1 d.1.2.1 d.2.1.2.2.2.2.1).2,())),()))))) .no
end
end
end Go.Proofs.YtomeplopmndbgaaGreat.Sym
namespace Go.Proofs.YtomeplopmndbgaaGreat.Sym
open Go
set_option linter.unusedSimpArgs false
set_option linter.unusedVariables false
noncomputable section
@[irreducible] noncomputable def Xg (l:List Fd):Nat:=Tre.wts (fun _=>0) l
def C8 (ks:List Fd):Nat→Int→Int→Bool
 |0,_,_=>true
 |k+1,v,hi=>if v≤hi then (if (li ks v).length=0 then false else C8 ks k (v+1) hi) else true
def Us (ks:List Fd)(s:List Int):Bool:=ks.all fun k=>!decide (k.lab.1=s)
def xQ (ks:List Fd):Nat→List Fd→Bool
 |_,[]=>true
 |j,f::fs=>Us (ks.take j) f.lab.1&&xQ ks (j+1) fs
mutual
def pp (d:Int):Fd→Bool
 |.mk a ks=>if a.1.length=0 then false else if a.2.2.1<0 then false else if 3<a.2.2.2.1 then false else if a.2.2.2.1<a.2.2.1 then false else if a.2.1<1 then false else if 10<a.2.1 then false
   else if a.2.1<9 then (if ks.length=0 then true else false) else if ov (d+1) ks=false then false else if C8 ks 5 a.2.2.1 a.2.2.2.1=false then false else if a.2.1=10 then true else if ks.length=1 then true else false
termination_by f=>(SizeOf.sizeOf f,0)
def ov (d:Int)(ks:List Fd):Bool:=if ks.length<1 then false else if 16<ks.length then false else if 8<d then false else xQ ks 0 ks&&iv d ks
termination_by (SizeOf.sizeOf ks,1)
def iv (d:Int):List Fd→Bool
 |[]=>true
 |k::ks=>pp d k&&iv d ks
termination_by l=>(SizeOf.sizeOf l,0)
end
section
variable [Inhabited FuT]
abbrev Aj:Lo:=⟨⟨(.one (.hol (.sl 160 yA))::.one (.hol (.int IntKind.i64))::.any::bt (.one (.hol (.int IntKind.i64))::.one (.hol (.int IntKind.i64))::.any::ag (ag (dq [])))),[]⟩,[(.ret,⟨(bQ (.one (.hol .bool)::.any::ag (ag (dq (bt []))))),[]⟩),(.exit 2,⟨(.one (.hol (.sl 160 yA))::.one (.hol (.int IntKind.i64))::.any::bt (.one (.hol (.int IntKind.i64))::ag (ag (dq (bt []))))),[]⟩)]⟩
abbrev Ai:Lo:=⟨⟨(.one (.hol (.sl 160 yA))::.one (.hol (.int IntKind.i64))::.any::bt (.one (.hol (.int IntKind.i64))::ag (ag (dq (bt []))))),[]⟩,[(.ret,⟨(bQ (.one (.hol .bool)::.any::ag (ag (dq (bt []))))),[]⟩),(.exit 0,⟨(ag (ag (ag []))),[]⟩)]⟩
def WA (d:Aj.st.den):Tr (aJ Aj.xs):=
 .ite (decide (d.1.2.2.2.1=0)&&(decide ((0:Int)≤d.1.2.2.1)&&decide (d.1.2.2.1<(d.1.1.length:Int))))
  (.ite (Us (d.1.1.take d.1.2.2.1.toNat) (d.1.1.getD d.1.2.2.1.toNat (Tre.mk ([],(0,(0,(0,())))) [])).lab.1) (.ret (.pan (.ret ((),((d.1.1,(d.1.2.1,(d.1.2.2.1,()))),()))))) (.ret (.ret ((),((false,()),()))))) .no
def Wz (d:Ai.st.den):Tr (aJ Ai.xs):=
 .ite (decide (d.1.2.2.1=0)&&((decide ((0:Int)≤d.1.2.1)&&decide (d.1.2.1≤999))&&(decide (2*Xg d.1.1+1≤du)&&decide (d.1.1.length≤16))))
  (.ite (xQ d.1.1 0 d.1.1&&iv d.1.2.1 d.1.1) (.ret (.pan (.ret ((),((),()))))) (.ret (.ret ((),((false,()),()))))) .no
end
section
variable [Inhabited FuT]
abbrev wZ:Lo:=⟨⟨(bt (.one (.ptr 2 0)::bt (.one (.hol (.int IntKind.i64))::.any::ag (ag (ag (ag (bt []))))))),[none,none,some [.hol .str,.hol (.int IntKind.i64),.hol (.int IntKind.i64),.hol (.int IntKind.i64),.hol (.sl 160 yA)]]⟩,[(.ret,⟨(bQ (.one (.hol .bool)::ag (ag (ag (ag (bQ [])))))),[]⟩),(.exit 0,⟨(bt (.one (.ptr 2 0)::ag (ag (ag (ag (bQ (bt []))))))),[none,none,some [.hol .str,.hol (.int IntKind.i64),.hol (.int IntKind.i64),.hol (.int IntKind.i64),.hol (.sl 160 yA)]]⟩)]⟩
def Wc (d:wZ.st.den):Tr (aJ wZ.xs):=
 .ite (((decide ((0:Int)≤d.1.1)&&decide (d.1.1≤4))&&decide (d.2.1.2.2.2.1≤3))&&decide (d.2.1.2.2.2.2.1.length≤16))
  (.ite (C8 d.2.1.2.2.2.2.1 5 d.1.1 d.2.1.2.2.2.1) (.ret (.pan (.ret ((),((),(d.2.1,())))))) (.ret (.ret ((),((false,()),()))))) .no
end
def pO (l:List Fd):Int:=if ov 1 l=true then 0 else 100
def Ko (l:List Fd)(v:Int):Int:=if v<0∨3<v then 8 else pO l
def QL (l:List Fd)(v:Int)(n:Nd):List Int×Int:=if Ko l v≠0 then ([],Ko l v) else if kV 10 n=false then ([],101) else if (kt l v n).2≠0 then ([],(kt l v n).2) else if 130048<(kt l v n).1.length then ([],4) else ((kt l v n).1,0)
end
end Go.Proofs.YtomeplopmndbgaaGreat.Sym
namespace Go.Proofs.YtomeplopmndbgaaGreat.Sym
open Go
set_option linter.unusedSimpArgs false
set_option linter.unusedVariables false
noncomputable section
mutual
def db (f:Fd)(v:Int):Nd→Nd×Bool
 |.mk a ks=>if f.lab.2.1=9 then (.mk (9,(0,(false,(([]:List Int),())))) (dj (f.kids.headD f) v ks).1,(dj (f.kids.headD f) v ks).2)
  else if f.lab.2.1=10 then (.mk (10,(0,(false,(([]:List Int),())))) (bS v f.kids ks).1,(bS v f.kids ks).2) else (.mk a ks,true)
termination_by n=>(SizeOf.sizeOf n,0)
def dj (f:Fd)(v:Int):List Nd→List Nd×Bool
 |[]=>([],true)
 |k::ks=>((db f v k).1::(dj f v ks).1,(db f v k).2&&(dj f v ks).2)
termination_by l=>(SizeOf.sizeOf l,0)
def bS (v:Int):List Fd→List Nd→List Nd×Bool
 |f::fs,k::ks=>if nx f v=true then ((db f v k).1::(bS v fs ks).1,(db f v k).2&&(bS v fs ks).2) else ((bS v fs ks).1,dJ k&&(bS v fs ks).2)
 |_,_=>([],true)
termination_by fs l=>(SizeOf.sizeOf l,0)
end
mutual
def QN (f:Fd)(v:Int):Nd→Nd
 |.mk a ks=>if f.lab.2.1=9 then .mk (9,(0,(false,(([]:List Int),())))) (xR (f.kids.headD f) v ks)
  else if f.lab.2.1=10 then .mk (10,(0,(false,(([]:List Int),())))) (xS v f.kids ks) else .mk a ks
termination_by n=>(SizeOf.sizeOf n,0,0)
def xR (f:Fd)(v:Int):List Nd→List Nd
 |[]=>[]
 |k::ks=>QN f v k::xR f v ks
termination_by l=>(SizeOf.sizeOf l,0,0)
def xS (v:Int):List Fd→List Nd→List Nd
 |[],_=>[]
 |f::fs,[]=>.mk (f.lab.2.1,(0,(false,(([]:List Int),())))) []::xS v fs []
 |f::fs,k::ks=>if nx f v=true then QN f v k::xS v fs ks else .mk (f.lab.2.1,(0,(false,(([]:List Int),())))) []::xS v fs (k::ks)
termination_by fs l=>(SizeOf.sizeOf l,0,fs.length)
end
section
variable [Inhabited FuT]
abbrev EY:Lo:=⟨⟨(.any::.one (.hol (.int IntKind.i64))::.any::.one (.ptr 3 0)::.any::.one (.ptr 5 0)::.one (.ptr 6 0)::.any::.one (.onl 91 (((Ty.int IntKind.i64).prod ((Ty.int IntKind.i64).prod (Ty.bool.prod ((Ty.sl 5 (Ty.int IntKind.u8)).prod Ty.unit)))).tree 91) 17)::.one (.hol .bool)::.one (.hol (.int IntKind.i64))::.any::ag (ag (ag (ag (ag (ag (bQ []))))))),[none,none,none,some [.hol .str,.hol (.int IntKind.i64),.hol (.int IntKind.i64),.hol (.int IntKind.i64),.hol (.sl 160 yA)],none,some [.hol (.int IntKind.i64),.hol (.int IntKind.i64),.hol .bool,.hol (.sl 5 (Ty.int IntKind.u8)),.hol (.sl 91 (((Ty.int IntKind.i64).prod ((Ty.int IntKind.i64).prod (Ty.bool.prod ((Ty.sl 5 (Ty.int IntKind.u8)).prod Ty.unit)))).tree 91))],some [.hol (.int IntKind.i64),.hol (.int IntKind.i64),.hol .bool,.onl 5 (Ty.int IntKind.u8) 3080,.onl 91 (((Ty.int IntKind.i64).prod ((Ty.int IntKind.i64).prod (Ty.bool.prod ((Ty.sl 5 (Ty.int IntKind.u8)).prod Ty.unit)))).tree 91) 3082]]⟩,[(.exit 0,⟨(bQ (bt (.one (.ptr 6 0)::.any::.one (.onl 91 (((Ty.int IntKind.i64).prod ((Ty.int IntKind.i64).prod (Ty.bool.prod ((Ty.sl 5 (Ty.int IntKind.u8)).prod Ty.unit)))).tree 91) 17)::.one (.hol .bool)::ag (ag (ag (ag (ag (ag (bQ (bt [])))))))))),[none,none,none,none,none,none,some [.hol (.int IntKind.i64),.hol (.int IntKind.i64),.hol .bool,.onl 5 (Ty.int IntKind.u8) 3080,.onl 91 (((Ty.int IntKind.i64).prod ((Ty.int IntKind.i64).prod (Ty.bool.prod ((Ty.sl 5 (Ty.int IntKind.u8)).prod Ty.unit)))).tree 91) 3082]]⟩)]⟩
abbrev Ag:Lo:=⟨⟨(.any::.one (.hol (.int IntKind.i64))::.any::.one (.ptr 3 0)::.any::.one (.ptr 5 0)::.one (.ptr 6 0)::.any::.one (.onl 91 (((Ty.int IntKind.i64).prod ((Ty.int IntKind.i64).prod (Ty.bool.prod ((Ty.sl 5 (Ty.int IntKind.u8)).prod Ty.unit)))).tree 91) 17)::.one (.hol .bool)::.any::bt (.one (.hol (.int IntKind.i64))::ag (ag (ag (ag (ag (ag (bt [])))))))),[none,none,none,some [.hol .str,.hol (.int IntKind.i64),.hol (.int IntKind.i64),.hol (.int IntKind.i64),.hol (.sl 160 yA)],none,some [.hol (.int IntKind.i64),.hol (.int IntKind.i64),.hol .bool,.hol (.sl 5 (Ty.int IntKind.u8)),.hol (.sl 91 (((Ty.int IntKind.i64).prod ((Ty.int IntKind.i64).prod (Ty.bool.prod ((Ty.sl 5 (Ty.int IntKind.u8)).prod Ty.unit)))).tree 91))],some [.hol (.int IntKind.i64),.hol (.int IntKind.i64),.hol .bool,.onl 5 (Ty.int IntKind.u8) 3080,.onl 91 (((Ty.int IntKind.i64).prod ((Ty.int IntKind.i64).prod (Ty.bool.prod ((Ty.sl 5 (Ty.int IntKind.u8)).prod Ty.unit)))).tree 91) 3082]]⟩,[(.exit 2,⟨(bQ (bt (.one (.ptr 6 0)::.any::.one (.onl 91 (((Ty.int IntKind.i64).prod ((Ty.int IntKind.i64).prod (Ty.bool.prod ((Ty.sl 5 (Ty.int IntKind.u8)).prod Ty.unit)))).tree 91) 17)::.one (.hol .bool)::ag (ag (ag (ag (ag (ag (bQ (bt [])))))))))),[none,none,none,none,none,none,some [.hol (.int IntKind.i64),.hol (.int IntKind.i64),.hol .bool,.onl 5 (Ty.int IntKind.u8) 3080,.onl 91 (((Ty.int IntKind.i64).prod ((Ty.int IntKind.i64).prod (Ty.bool.prod ((Ty.sl 5 (Ty.int IntKind.u8)).prod Ty.unit)))).tree 91) 3082]]⟩)]⟩
def Xs (d:EY.st.den):Tr (aJ EY.xs):=
 .ite (decide (d.1.2.2.2.1=0)&&((decide (d.1.2.1.length=0)&&d.1.2.2.1)&&((decide (d.2.1.2.2.2.2.1.length≠0)&&td d.2.1.2.2.2.2.1)&&(decide (cO d.2.2.1.2.2.2.2.1<du)&&decide (cO d.2.2.1.2.2.2.2.1≤4294967296)))))
  (.ret (.ret ((),(((dj (d.2.1.2.2.2.2.1.headD (.mk ([],(0,(0,(0,())))) [])) d.1.1 d.2.2.1.2.2.2.2.1).1,((dj (d.2.1.2.2.2.2.1.headD (.mk ([],(0,(0,(0,())))) [])) d.1.1 d.2.2.1.2.2.2.2.1).2,())),(d.2.2.2.1,()))))) .no
def Wx (d:Ag.st.den):Tr (aJ Ag.xs):=
 .ite (decide (d.1.2.2.2.1=0)&&((decide (d.1.2.1.length=0)&&d.1.2.2.1)&&(td d.2.1.2.2.2.2.1&&(decide (cO d.2.2.1.2.2.2.2.1<du)&&decide (cO d.2.2.1.2.2.2.2.1≤4294967296)))))
  (.ret (.ret ((),(((bS d.1.1 d.2.1.2.2.2.2.1 d.2.2.1.2.2.2.2.1).1,((bS d.1.1 d.2.1.2.2.2.2.1 d.2.2.1.2.2.2.2.1).2,())),(d.2.2.2.1,()))))) .no
end
section
variable [Inhabited FuT]
abbrev Ah:Lo:=⟨⟨(.any::.one (.hol (.int IntKind.i64))::.any::.one (.ptr 3 0)::.any::.one (.ptr 5 0)::.one (.ptr 6 0)::.one (.onl 91 (((Ty.int IntKind.i64).prod ((Ty.int IntKind.i64).prod (Ty.bool.prod ((Ty.sl 5 (Ty.int IntKind.u8)).prod Ty.unit)))).tree 91) 15)::.one (.hol (.int IntKind.i64))::.any::ag (ag (ag (ag (ag (bt [])))))),[none,none,none,some [.hol .str,.hol (.int IntKind.i64),.hol (.int IntKind.i64),.hol (.int IntKind.i64),.hol (.sl 160 yA)],none,some [.hol (.int IntKind.i64),.hol (.int IntKind.i64),.hol .bool,.hol (.sl 5 (Ty.int IntKind.u8)),.hol (.sl 91 (((Ty.int IntKind.i64).prod ((Ty.int IntKind.i64).prod (Ty.bool.prod ((Ty.sl 5 (Ty.int IntKind.u8)).prod Ty.unit)))).tree 91))],some [.hol (.int IntKind.i64),.hol (.int IntKind.i64),.hol .bool,.onl 5 (Ty.int IntKind.u8) 3080,.onl 91 (((Ty.int IntKind.i64).prod ((Ty.int IntKind.i64).prod (Ty.bool.prod ((Ty.sl 5 (Ty.int IntKind.u8)).prod Ty.unit)))).tree 91) 3082]]⟩,[(.exit 0,⟨(bQ (bt (.one (.ptr 6 0)::.one (.onl 91 (((Ty.int IntKind.i64).prod ((Ty.int IntKind.i64).prod (Ty.bool.prod ((Ty.sl 5 (Ty.int IntKind.u8)).prod Ty.unit)))).tree 91) 15)::ag (ag (ag (ag (ag (bQ [])))))))),[none,none,none,none,none,none,some [.hol (.int IntKind.i64),.hol (.int IntKind.i64),.hol .bool,.onl 5 (Ty.int IntKind.u8) 3080,.onl 91 (((Ty.int IntKind.i64).prod ((Ty.int IntKind.i64).prod (Ty.bool.prod ((Ty.sl 5 (Ty.int IntKind.u8)).prod Ty.unit)))).tree 91) 3082]]⟩)]⟩
abbrev w4:Lo:=⟨⟨(.any::.one (.hol (.int IntKind.i64))::.any::.one (.ptr 3 0)::.any::.one (.ptr 5 0)::.one (.ptr 6 0)::.one (.onl 91 (((Ty.int IntKind.i64).prod ((Ty.int IntKind.i64).prod (Ty.bool.prod ((Ty.sl 5 (Ty.int IntKind.u8)).prod Ty.unit)))).tree 91) 15)::.any::.one (.hol (.int IntKind.i64))::.one (.hol (.int IntKind.i64))::.any::ag (ag (ag (ag (ag []))))),[none,none,none,some [.hol .str,.hol (.int IntKind.i64),.hol (.int IntKind.i64),.hol (.int IntKind.i64),.hol (.sl 160 yA)],none,some [.hol (.int IntKind.i64),.hol (.int IntKind.i64),.hol .bool,.hol (.sl 5 (Ty.int IntKind.u8)),.hol (.sl 91 (((Ty.int IntKind.i64).prod ((Ty.int IntKind.i64).prod (Ty.bool.prod ((Ty.sl 5 (Ty.int IntKind.u8)).prod Ty.unit)))).tree 91))],some [.hol (.int IntKind.i64),.hol (.int IntKind.i64),.hol .bool,.onl 5 (Ty.int IntKind.u8) 3080,.onl 91 (((Ty.int IntKind.i64).prod ((Ty.int IntKind.i64).prod (Ty.bool.prod ((Ty.sl 5 (Ty.int IntKind.u8)).prod Ty.unit)))).tree 91) 3082]]⟩,[(.exit 2,⟨(bQ (bt (.one (.ptr 6 0)::.one (.onl 91 (((Ty.int IntKind.i64).prod ((Ty.int IntKind.i64).prod (Ty.bool.prod ((Ty.sl 5 (Ty.int IntKind.u8)).prod Ty.unit)))).tree 91) 15)::ag (ag (ag (ag (ag (bQ [])))))))),[none,none,none,none,none,none,some [.hol (.int IntKind.i64),.hol (.int IntKind.i64),.hol .bool,.onl 5 (Ty.int IntKind.u8) 3080,.onl 91 (((Ty.int IntKind.i64).prod ((Ty.int IntKind.i64).prod (Ty.bool.prod ((Ty.sl 5 (Ty.int IntKind.u8)).prod Ty.unit)))).tree 91) 3082]]⟩)]⟩
def Wy (d:Ah.st.den):Tr (aJ Ah.xs):=
 .ite (decide (d.1.2.2.1=0)&&(decide (d.1.2.1.length=0)&&((decide (d.2.1.2.2.2.2.1.length≠0)&&td d.2.1.2.2.2.2.1)&&(decide (cO d.2.2.1.2.2.2.2.1<du)&&decide (cO d.2.2.1.2.2.2.2.1≤4294967296)))))
  (.ret (.ret ((),((xR (d.2.1.2.2.2.2.1.headD (.mk ([],(0,(0,(0,())))) [])) d.1.1 d.2.2.1.2.2.2.2.1,()),(d.2.2.2.1,()))))) .no
def We (d:w4.st.den):Tr (aJ w4.xs):=
 .ite ((decide (d.1.2.2.1=0)&&decide (d.1.2.2.2.1=0))&&(decide (d.1.2.1.length=0)&&((decide (d.2.1.2.2.2.2.1.length≤16)&&td d.2.1.2.2.2.2.1)&&(decide (cO d.2.2.1.2.2.2.2.1<du)&&decide (cO d.2.2.1.2.2.2.2.1≤4294967296)))))
  (.ret (.ret ((),((xS d.1.1 d.2.1.2.2.2.2.1 d.2.2.1.2.2.2.2.1,()),(d.2.2.2.1,()))))) .no
end
abbrev bY (s:List Int)(k lo hi:Int)(e:List Fd):Fd:=Tre.mk (s,(k,(lo,(hi,())))) e
def bH (part:List Fd):Fd:=bY [116,111,112,105,99,115] 9 0 3 [bY [116,111,112,105,99] 10 0 3 [bY [110,97,109,101] 5 0 3 [],bY [112,97,114,116,115] 9 0 3 [bY [112,97,114,116] 10 0 3 part]]]
def kW:List Fd:=[bY [116,120,110] 6 3 3 [],bY [97,99,107,115] 2 0 3 [],bY [119,97,105,116] 3 0 3 [],bH [bY [105,110,100,101,120] 3 0 3 [],bY [114,101,99,115] 8 0 3 []]]
def r4:List Fd:=[bH [bY [105,110,100,101,120] 3 0 3 [],bY [99,111,100,101] 2 0 3 [],bY [98,97,115,101] 4 0 3 [],bY [116,105,109,101] 4 2 3 [],bY [115,116,97,114,116] 4 3 3 []],bY [116,104,114,111,116,116,108,101] 3 1 3 []]
def pV:List Fd:=[bY [114,101,112,108,105,99,97] 3 0 3 [],bY [119,97,105,116] 3 0 3 [],bY [109,105,110] 3 0 3 [],bY [109,97,120] 3 1 3 [],bY [108,101,118,101,108] 1 2 3 [],bH [bY [105,110,100,101,120] 3 0 3 [],bY [101,112,111,99,104] 3 3 3 [],bY [111,102,102,115,101,116] 4 0 3 [],bY [109,97,120] 3 0 3 []]]
def r5:List Fd:=[bY [116,104,114,111,116,116,108,101] 3 1 3 [],bH [bY [105,110,100,101,120] 3 0 3 [],bY [99,111,100,101] 2 0 3 [],bY [104,105,103,104] 4 0 3 [],bY [115,116,97,98,108,101] 4 2 3 [],bY [115,116,97,114,116] 4 3 3 [],bY [114,101,99,115] 8 0 3 []]]
def pW:List Fd:=[bY [114,101,112,108,105,99,97] 3 0 3 [],bY [108,101,118,101,108] 1 2 3 [],bH [bY [105,110,100,101,120] 3 0 3 [],bY [101,112,111,99,104] 3 3 3 [],bY [116,105,109,101] 4 0 3 [],bY [109,111,115,116] 3 0 0 []]]
def r6:List Fd:=[bY [116,104,114,111,116,116,108,101] 3 2 3 [],bH [bY [105,110,100,101,120] 3 0 3 [],bY [99,111,100,101] 2 0 3 [],bY [111,102,102,115,101,116,115] 9 0 0 [bY [111,102,102,115,101,116] 4 0 0 []],bY [116,105,109,101] 4 1 3 [],bY [111,102,102,115,101,116] 4 1 3 [],bY [101,112,111,99,104] 3 3 3 []]]
def AU (k:Int)(r:Bool):List Fd×Int:=
 if k=0 then (if r=false then (kW,0) else (r4,0)) else if k=1 then (if r=false then (pV,0) else (r5,0)) else if k=2 then (if r=false then (pW,0) else (r6,0)) else ([],160)
theorem te (v:Int)(l:List Nd):bS v [] l=([],true):=by rw[bS];simp
def qC (k:Int)(r:Bool)(v:Int)(n:Nd):List Int×Int:=if (AU k r).2≠0 then ([],(AU k r).2) else if v<0∨3<v then ([],8) else
 if (db (Tre.mk (([]:List Int),((10:Int),((0:Int),((0:Int),())))) (AU k r).1) v n).2=false then ([],7) else QL (AU k r).1 v (db (Tre.mk (([]:List Int),((10:Int),((0:Int),((0:Int),())))) (AU k r).1) v n).1
end
end Go.Proofs.YtomeplopmndbgaaGreat.Sym
