/- cursor.Reader: NewReader, Left, number, I16, I32, I64, Skip, Take, End. -/
import Derived.Test.YtomeplopmndbgaaGreatQ3

set_option linter.unusedVariables false
set_option linter.unusedSimpArgs false
namespace Go.Proofs.YtomeplopmndbgaaGreat.Sym
open Go
open Go.IntKind (i8 i16 i32 i64 u8 u16 u32 u64)
noncomputable section
abbrev Zd:List Sh:=[dL,dI]
abbrev Q2:Sh:=.dat (.int .i64) false false
def fp (l:LI):Int:=l.foldl (fun v c=>v*256+c) 0
def an (b:LI)(p:Int)(n:Nat):Int×(Int×Int):=if (b.length:Int) - p<n then (0,(p,1)) else (fp ((b.drop p.toNat).take n),(p+n,0))
def bP (b:LI)(p:Int):Bool:=decide (b.length≤4294960000)&&(decide (0≤p)&&decide (p≤(b.length:Int)))
def mg (b:LI)(p n:Int):Int×Int:=if n<0 then (p,3) else if (b.length:Int) - p<n then (p,1) else (p+n,0)
def aT (b:LI)(p n:Int):LI×(Int×Int):=if n<0 then ([],(p,3)) else if (b.length:Int) - p<n then ([],(p,1)) else ((b.drop p.toNat).take n.toNat,(p+n,0))
def sQ (b:LI)(p:Int):Int:=if p<(b.length:Int) then 2 else 0
abbrev jw:Io:=⟨[.ptr 0 0],[Zd],[],[dI],none⟩
def tq (d:jw.In):Tr jw.Res:=.ret (.ret ((i64.wrap ((d.2.1.1.length:Int) - d.2.1.2.1),()),((d.2.1.1,(d.2.1.2.1,())),())))
abbrev Nt:List (Nat×Hc):=[]
def aa4:Hd:=bM Nt
def OE:Lp:=bB []
def QL (a0:LI)(a1:Int):Option jw.Res:=oR ((i64.wrap ((↑a0.length:Int) - a1),()),(a0,a1,()),())
theorem X9 (a0:LI)(a1:Int):Io.run tt aa4 dr OE jw Tryz.f64 (((),()),(a0,a1,()),())=QL a0 a1:=by kernel_rfl
theorem xY:HcOk prog 64 (ae jw tq):=by
 refine cg (cs:=Nt) HcsOk.nil (lp:=OE) (fn:=Tryz.f64) jw (.done (by kernel_rfl)) tq ?_
 rintro ⟨⟨⟨⟩,⟨⟩⟩,⟨⟨(b:LI),(p:Int),⟨⟩⟩,⟨⟩⟩⟩ out hw ho
 rw[← ho]
 exact X9 b p
abbrev gb:Io:=⟨[.ptr 0 0,dI],[Zd],[],[ajX,dI],none⟩
def mW (d:gb.In):Tr gb.Res:=
 .ite (bP d.2.1.1 d.2.1.2.1&&(decide ((0:Int)≤d.1.2.1)&&decide (d.1.2.1≤(8:Int)))) (.ret (.ret (((an d.2.1.1 d.2.1.2.1 d.1.2.1.toNat).1,((an d.2.1.1 d.2.1.2.1 d.1.2.1.toNat).2.2,())),((d.2.1.1,((an d.2.1.1 d.2.1.2.1 d.1.2.1.toNat).2.1,())),())))) .no
abbrev D4:List (Nat×Hc):=[(64,ae jw tq)]
def Eo:Hd:=bM D4
abbrev eQ:Lo:=⟨⟨(.one (.ptr 0 0)::.one hI::dq (.one (.hol (.int u64))::am (dq (.one (.hol (.sl 5 (Ty.int u8)))::.one hI::.one hI::am (ce []))))),[some [.hol (.sl 5 (Ty.int u8)),hI]]⟩,[(.exit 0,⟨(.one (.ptr 0 0)::.one hI::dq (.one (.hol (.int u64))::.any::am (am (gE [])))),[some [.hol (.sl 5 (Ty.int u8)),hI]]⟩)]⟩
def lE (d:eQ.st.den):Tr (aH eQ.xs):=
 .ite (decide (d.1.2.1=0)&&(decide (d.1.2.2.2.2.1=0)&&(decide (d.1.2.2.2.1=(d.1.2.2.1.length:Int))&&decide (d.1.2.2.1.length≤8)))) (.ret (.ret ((),((d.1.1,(fp d.1.2.2.1,())),(d.2.1,()))))) .no
def qX:Lp:=bB [(6,aS eQ lE)]
def s9 {R:Type}(h3 h4:Int)(h5:LI)(h6 h7:Int)(h8:LI)(h9:Int)(next:Int→Int→LI→Int→Int→LI→Int→Option R)(out:aH eQ.xs→Option R):Option R:=bif decide (h7<h6) then bif decide (0≤h7)&&decide (h7<(↑h5.length:Int)) then next (h3) (ag2 u64 (V5 u64 h4 8) (u64.wrap (h5.getD h7.toNat 0))) (h5) (h6) (i64.wrap (h7+1)) (h8) (h9) else none else out (.ret ((),((h3,(h4,())),((h8,(h9,())),()))))
def qT (n:Nat)(h3 h4:Int)(h5:LI)(h6 h7:Int)(h8:LI)(h9:Int):Option (aH eQ.xs):=il tt Eo dr qX 1 Tryz.f166 (db Tryz.f166 0) n (eQ.st.mk' ((h3,(h4,(h5,(h6,(h7,()))))),((h8,(h9,())),()))) (ci eQ.xs)
theorem LV (n:Nat)(h3 h4:Int)(h5:LI)(h6 h7:Int)(h8:LI)(h9:Int):qT (n+1) h3 h4 h5 h6 h7 h8 h9=s9 h3 h4 h5 h6 h7 h8 h9 (qT n) some:=by kernel_rfl
theorem agc {v c:Int}(h0:0≤v)(h1:v<72057594037927936)(h2:0≤c)(h3:c≤255):ag2 .u64 (V5 .u64 v 8) (u64.wrap c)=v*256+c:=by
 have e1:V5 .u64 v 8=v*256:=by
  show IntKind.wrap .u64 (v*2 ^ 8)=_
  rw[show v*2 ^ 8=v*256 by omega]
  exact dY (k:=.u64) (by simp[eD,IntKind.min,IntKind.max,IntKind.signed,IntKind.bits];omega)
 have e0:u64.wrap c=c:=dY (k:=.u64) (by simp[eD,IntKind.min,IntKind.max,IntKind.signed,IntKind.bits];omega)
 rw[e1,e0]
 obtain ⟨v,rfl⟩:=eK h0
 obtain ⟨c,rfl⟩:=eK h2
 have e4:=Nat.two_pow_add_eq_or_of_lt (show c<2 ^ 8 by omega) v
 show IntKind.wrap .u64 ((BitVec.ofInt 64 ((v:Int)*256) ||| BitVec.ofInt 64 (c:Int)).toNat:Int)=_
 have e2:(BitVec.ofInt 64 (c:Int)).toNat=c:=by rw[BitVec.toNat_ofInt];omega
 have e3:(BitVec.ofInt 64 ((v:Int)*256)).toNat=2 ^ 8*v:=by rw[BitVec.toNat_ofInt];omega
 rw[BitVec.toNat_or,e2,e3,← e4]
 refine (dY (k:=.u64) ?_).trans ?_
 ·simp[eD,IntKind.min,IntKind.max,IntKind.signed,IntKind.bits];omega
 ·omega
theorem L1 (l:LI)(c:Int):fp (l++[c])=fp l*256+c:=by simp[fp]
theorem Ei:∀(l:LI) (v:Int),(∀c∈l,0≤c∧c≤255)→0≤v→0≤l.foldl (fun v c=>v*256+c) v∧l.foldl (fun v c=>v*256+c) v<(v+1)*256 ^ l.length
 |[],v,_,h0=>⟨h0,by simp;omega⟩
 |c::l,v,h,h0=>by
  obtain ⟨h3,h4⟩:=h c (by simp)
  obtain ⟨h1,h2⟩:=Ei l (v*256+c) (fun d hd=>h d (by simp[hd])) (by omega)
  refine ⟨h1,Int.lt_of_lt_of_le h2 ?_⟩
  rw[zN,Int.pow_succ,Int.mul_comm (256 ^ l.length) 256,← Int.mul_assoc]
  exact Int.mul_le_mul_of_nonneg_right (by omega) (Int.le_of_lt (Int.pow_pos (by decide)))
theorem PJ (l:LI)(h:∀c∈l,0≤c∧c≤255):0≤fp l∧fp l<256 ^ l.length:=by
 have:=Ei l 0 h (Int.le_refl _)
 simpa [fp] using this
theorem K8 (n:Int)(l b:LI)(p:Int)(hl:l.length≤8)(hr:∀c∈l,0≤c∧c≤255):∀(k i:Nat),l.length<i+k→i≤l.length→
  qT k n (fp (l.take i)) l (l.length:Int) i b p=some (.ret ((),((n,(fp l,())),((b,(p,())),())))):=by
 intro k
 induction k with
 |zero=>intro i h;omega
 |succ k ih=>
  intro i h1 h2
  rw[LV]
  unfold s9
  by_cases hi:i<l.length
  ·have hc:=hr l[i] (List.getElem_mem hi)
   have hb:=PJ (l.take i) fun c hc=>hr c (List.mem_of_mem_take hc)
   have hlt:(256:Int) ^ (l.take i).length≤72057594037927936:=by
    rw[List.length_take,show min i l.length=i by omega]
    have hi7:i≤7:=by omega
    match i,hi7 with
    |0,_=>decide
    |1,_=>decide
    |2,_=>decide
    |3,_=>decide
    |4,_=>decide
    |5,_=>decide
    |6,_=>decide
    |7,_=>decide
   have e1:List.getD l (i:Int).toNat 0=l[i]:=by simp only[zG,aJ hi]
   rw[aa (by simpa using hi),aa (by simpa using hi),e1,agc hb.1 (by omega) hc.1 hc.2,← L1,← List.take_succ_eq_append_getElem hi,cq hi (by rw[pB];omega),ih (i+1) (by omega) (by omega)]
  ·rw[af (by simp;omega),List.take_of_length_le (by omega)]
def xj (a0:Int)(a1:LI)(a2:Int):Option gb.Res:=bif decide (i64.wrap ((↑a1.length:Int) - a2)<a0) then oR ((0,1,()),(a1,a2,()),()) else bif decide (0≤a2)&&(decide (a2≤i64.wrap (a2+a0))&&decide (i64.wrap (a2+a0)≤(↑a1.length:Int))) then (lE ((a0,(0,(List.drop a2.toNat (List.take (i64.wrap (a2+a0)).toNat a1),((↑(List.drop a2.toNat (List.take (i64.wrap (a2+a0)).toNat a1)).length:Int),(0,()))))),((a1,(a2,())),()))).run fun y=>match y with | .ret ((),((x21,x22,()),(x23,x24,()),()))=>(oR ((x22,0,()),(x23,i64.wrap (x24+x21),()),())) else none
theorem Pk (a0:Int)(a1:LI)(a2:Int):Io.run tt Eo dr qX gb Tryz.f166 (((),a0,()),(a1,a2,()),())=xj a0 a1 a2:=by kernel_rfl
theorem ZJ {b:LI}(h:Ty.wf bs b):∀c∈b,0≤c∧c≤255:=fun c hc=>by
 have:=h.2 c hc
 simpa [Ty.wf,eD,IntKind.min,IntKind.max,IntKind.signed,IntKind.bits] using this
theorem xz:HcsOk prog D4:=.cons xY .nil
theorem q3:HcOk prog 166 (ae gb mW):=by
 refine cg xz (lp:=qX) (fn:=Tryz.f166) gb (.step (h0:=aS eQ lE) (by kernel_rfl) (jh xz (lp:=qX) (fn:=Tryz.f166) (.done (by kernel_rfl)) eQ lE ?_) (.done (by kernel_rfl))) mW ?_
 ·rintro ⟨⟨(n:Int),(v:Int),(l:LI),(m:Int),(i:Int),⟨⟩⟩,⟨⟨(b:LI),(p:Int),⟨⟩⟩,⟨⟩⟩⟩ y hw hy
  obtain ⟨hg,hy⟩:=Tr.guard hy
  simp only[zA,zB] at hg
  obtain ⟨rfl,rfl,rfl,h4⟩:=hg
  refine ⟨l.length+1,(K8 n l b p h4 (ZJ hw.1.2.2.1) _ 0 (by omega) (by omega)).trans ?_⟩
  rw[← hy];rfl
 ·rintro ⟨⟨⟨⟩,(n:Int),⟨⟩⟩,⟨⟨(b:LI),(p:Int),⟨⟩⟩,⟨⟩⟩⟩ out hw ho
  obtain ⟨hg,ho⟩:=Tr.guard ho
  simp only[bP,zA,zB] at hg
  obtain ⟨⟨h1,h2,h3⟩,h4,h5⟩:=hg
  have h1:b.length≤4294960000:=h1
  have h2:(0:Int)≤p:=h2
  have h3:p≤(b.length:Int):=h3
  have h4:(0:Int)≤n:=h4
  have h5:n≤(8:Int):=h5
  cases ho
  refine (Pk n b p).trans ?_
  show _=oR (((an b p n.toNat).1,((an b p n.toNat).2.2,())),((b,((an b p n.toNat).2.1,())),()))
  unfold xj
  rw[aI (n:=(b.length:Int) - p) (by omega) (by omega),aI (n:=p+n) (by omega) (by omega)]
  unfold an
  by_cases hl:(b.length:Int) - p<n
  ·rw[aa (by simpa using hl),if_pos (by omega)]
  ·have e0:List.drop p.toNat (List.take (p+n).toNat b)=(b.drop p.toNat).take n.toNat:=by rw[List.drop_take,show (p+n).toNat - p.toNat=n.toNat by omega]
   rw[af (by simpa using hl),if_neg (by omega),aa (by simp;omega),e0]
   have hl8:((b.drop p.toNat).take n.toNat).length≤8:=by simp;omega
   have e1:lE ((n,(0,((b.drop p.toNat).take n.toNat,((((b.drop p.toNat).take n.toNat).length:Int),(0,()))))),((b,(p,())),()))=.ite true (.ret (.ret ((),((n,(fp ((b.drop p.toNat).take n.toNat),())),((b,(p,())),()))))) .no:=
    congrArg (fun c=>Tr.ite c _ _) (show (decide ((0:Int)=0)&&(decide ((0:Int)=0)&&(decide ((((b.drop p.toNat).take n.toNat).length:Int)=(((b.drop p.toNat).take n.toNat).length:Int))&&decide (((b.drop p.toNat).take n.toNat).length≤8))))=true by simp;omega)
   rw[e1]
   simp only[Tr.run,cond_true]
   rw[aI (n:=p+n) (by omega) (by omega),show ((n.toNat:Nat):Int)=n by omega]
abbrev mG:Io:=⟨[.ptr 0 0],[Zd],[],[Ql,dI],none⟩
def Da (d:mG.In):Tr mG.Res:=
 .ite (bP d.2.1.1 d.2.1.2.1) (.ret (.ret ((i16.wrap (an d.2.1.1 d.2.1.2.1 2).1,((an d.2.1.1 d.2.1.2.1 2).2.2,())),((d.2.1.1,((an d.2.1.1 d.2.1.2.1 2).2.1,())),())))) .no
abbrev UA:List (Nat×Hc):=[(166,ae gb mW)]
def aff:Hd:=bM UA
def Vw:Lp:=bB []
def HE (a0:LI)(a1:Int):Option mG.Res:=bif bP a0 a1&&(decide (0≤2)&&decide (2≤8)) then oR ((i16.wrap (an a0 a1 (Int.toNat 2)).1,(an a0 a1 (Int.toNat 2)).2.2,()),(a0,(an a0 a1 (Int.toNat 2)).2.1,()),()) else none
theorem adk (a0:LI)(a1:Int):Io.run tt aff dr Vw mG Tryz.f136 (((),()),(a0,a1,()),())=HE a0 a1:=by kernel_rfl
theorem LH:HcOk prog 136 (ae mG Da):=by
 refine cg (cs:=UA) (.cons q3 .nil) (lp:=Vw) (fn:=Tryz.f136) mG (.done (by kernel_rfl)) Da ?_
 rintro ⟨⟨⟨⟩,⟨⟩⟩,⟨⟨(b:LI),(p:Int),⟨⟩⟩,⟨⟩⟩⟩ out hw ho
 obtain ⟨hg,ho⟩:=Tr.guard ho
 have hg:bP b p=true:=hg
 cases ho
 refine (adk b p).trans ?_
 unfold HE
 rw[aa (by simp[hg])]
 rfl
abbrev mH:Io:=⟨[.ptr 0 0],[Zd],[],[Wy,dI],none⟩
def Db (d:mH.In):Tr mH.Res:=
 .ite (bP d.2.1.1 d.2.1.2.1) (.ret (.ret ((i32.wrap (an d.2.1.1 d.2.1.2.1 4).1,((an d.2.1.1 d.2.1.2.1 4).2.2,())),((d.2.1.1,((an d.2.1.1 d.2.1.2.1 4).2.1,())),())))) .no
abbrev UB:List (Nat×Hc):=[(166,ae gb mW)]
def afg:Hd:=bM UB
def Vx:Lp:=bB []
def HF (a0:LI)(a1:Int):Option mH.Res:=bif bP a0 a1&&(decide (0≤4)&&decide (4≤8)) then oR ((i32.wrap (an a0 a1 (Int.toNat 4)).1,(an a0 a1 (Int.toNat 4)).2.2,()),(a0,(an a0 a1 (Int.toNat 4)).2.1,()),()) else none
theorem adl (a0:LI)(a1:Int):Io.run tt afg dr Vx mH Tryz.f74 (((),()),(a0,a1,()),())=HF a0 a1:=by kernel_rfl
theorem LJ:HcOk prog 74 (ae mH Db):=by
 refine cg (cs:=UB) (.cons q3 .nil) (lp:=Vx) (fn:=Tryz.f74) mH (.done (by kernel_rfl)) Db ?_
 rintro ⟨⟨⟨⟩,⟨⟩⟩,⟨⟨(b:LI),(p:Int),⟨⟩⟩,⟨⟩⟩⟩ out hw ho
 obtain ⟨hg,ho⟩:=Tr.guard ho
 have hg:bP b p=true:=hg
 cases ho
 refine (adl b p).trans ?_
 unfold HF
 rw[aa (by simp[hg])]
 rfl
abbrev qG:Io:=⟨[.ptr 0 0],[Zd],[],[Q2,dI],none⟩
def Qx (d:qG.In):Tr qG.Res:=
 .ite (bP d.2.1.1 d.2.1.2.1) (.ret (.ret ((i64.wrap (an d.2.1.1 d.2.1.2.1 8).1,((an d.2.1.1 d.2.1.2.1 8).2.2,())),((d.2.1.1,((an d.2.1.1 d.2.1.2.1 8).2.1,())),())))) .no
abbrev UC:List (Nat×Hc):=[(166,ae gb mW)]
def afh:Hd:=bM UC
def Vy:Lp:=bB []
def HG (a0:LI)(a1:Int):Option qG.Res:=bif bP a0 a1&&(decide (0≤8)&&decide (8≤8)) then oR ((i64.wrap (an a0 a1 (Int.toNat 8)).1,(an a0 a1 (Int.toNat 8)).2.2,()),(a0,(an a0 a1 (Int.toNat 8)).2.1,()),()) else none
theorem adm (a0:LI)(a1:Int):Io.run tt afh dr Vy qG Tryz.f207 (((),()),(a0,a1,()),())=HG a0 a1:=by kernel_rfl
theorem afW:HcOk prog 207 (ae qG Qx):=by
 refine cg (cs:=UC) (.cons q3 .nil) (lp:=Vy) (fn:=Tryz.f207) qG (.done (by kernel_rfl)) Qx ?_
 rintro ⟨⟨⟨⟩,⟨⟩⟩,⟨⟨(b:LI),(p:Int),⟨⟩⟩,⟨⟩⟩⟩ out hw ho
 obtain ⟨hg,ho⟩:=Tr.guard ho
 have hg:bP b p=true:=hg
 cases ho
 refine (adm b p).trans ?_
 unfold HG
 rw[aa (by simp[hg])]
 rfl
abbrev nx:Io:=⟨[.ptr 0 0,dI],[Zd],[],[dI],none⟩
def J9 (d:nx.In):Tr nx.Res:=
 .ite (bP d.2.1.1 d.2.1.2.1) (.ret (.ret (((mg d.2.1.1 d.2.1.2.1 d.1.2.1).2,()),((d.2.1.1,((mg d.2.1.1 d.2.1.2.1 d.1.2.1).1,())),())))) .no
abbrev Nu:List (Nat×Hc):=[(64,ae jw tq)]
def aa5:Hd:=bM Nu
def OF:Lp:=bB []
def DJ (a0:Int)(a1:LI)(a2:Int):Option nx.Res:=bif decide (a0<0) then oR ((3,()),(a1,a2,()),()) else bif decide (i64.wrap ((↑a1.length:Int) - a2)<a0) then oR ((1,()),(a1,a2,()),()) else oR ((0,()),(a1,i64.wrap (a2+a0),()),())
theorem Ya (a0:Int)(a1:LI)(a2:Int):Io.run tt aa5 dr OF nx Tryz.f138 (((),a0,()),(a1,a2,()),())=DJ a0 a1 a2:=by kernel_rfl
theorem aco:HcOk prog 138 (ae nx J9):=by
 refine cg (cs:=Nu) (.cons xY .nil) (lp:=OF) (fn:=Tryz.f138) nx (.done (by kernel_rfl)) J9 ?_
 rintro ⟨⟨⟨⟩,(n:Int),⟨⟩⟩,⟨⟨(b:LI),(p:Int),⟨⟩⟩,⟨⟩⟩⟩ out hw ho
 obtain ⟨hg,ho⟩:=Tr.guard ho
 simp only[bP,zA,zB] at hg
 obtain ⟨h1,h2,h3⟩:=hg
 have h1:b.length≤4294960000:=h1
 have h2:(0:Int)≤p:=h2
 have h3:p≤(b.length:Int):=h3
 cases ho
 refine (Ya n b p).trans ?_
 unfold DJ mg
 rw[aI (n:=(b.length:Int) - p) (by omega) (by omega)]
 by_cases h4:n<0
 ·rw[aa (by simpa using h4),if_pos h4]
 ·rw[af (by simpa using h4),if_neg h4]
  by_cases h5:(b.length:Int) - p<n
  ·rw[aa (by simpa using h5),if_pos h5]
  ·rw[af (by simpa using h5),if_neg h5,aI (n:=p+n) (by omega) (by omega)]
abbrev jx:Io:=⟨[.ptr 0 0,dI],[Zd],[],[dO,dI],none⟩
def tr (d:jx.In):Tr jx.Res:=
 .ite (bP d.2.1.1 d.2.1.2.1) (.ret (.ret (((aT d.2.1.1 d.2.1.2.1 d.1.2.1).1,((aT d.2.1.1 d.2.1.2.1 d.1.2.1).2.2,())),((d.2.1.1,((aT d.2.1.1 d.2.1.2.1 d.1.2.1).2.1,())),())))) .no
abbrev Nv:List (Nat×Hc):=[(138,ae nx J9),(118,ae jv wH)]
def aa6:Hd:=bM Nv
def OG:Lp:=bB []
def DK (a0:Int)(a1:LI)(a2:Int):Option jx.Res:=bif bP a1 a2 then bif (mg a1 a2 a0).2 != 0 then oR (([],(mg a1 a2 a0).2,()),(a1,(mg a1 a2 a0).1,()),()) else bif decide (0≤a2)&&(decide (a2≤(mg a1 a2 a0).1)&&decide ((mg a1 a2 a0).1≤(↑a1.length:Int))) then bif decide ((List.drop a2.toNat (List.take (mg a1 a2 a0).1.toNat a1)).length≤4294967296) then oR ((List.drop a2.toNat (List.take (mg a1 a2 a0).1.toNat a1),0,()),(a1,(mg a1 a2 a0).1,()),()) else none else none else none
theorem Yb (a0:Int)(a1:LI)(a2:Int):Io.run tt aa6 dr OG jx Tryz.f63 (((),a0,()),(a1,a2,()),())=DK a0 a1 a2:=by kernel_rfl
theorem xZ:HcOk prog 63 (ae jx tr):=by
 refine cg (cs:=Nv) (.cons aco (.cons EY .nil)) (lp:=OG) (fn:=Tryz.f63) jx (.done (by kernel_rfl)) tr ?_
 rintro ⟨⟨⟨⟩,(n:Int),⟨⟩⟩,⟨⟨(b:LI),(p:Int),⟨⟩⟩,⟨⟩⟩⟩ out hw ho
 obtain ⟨hg,ho⟩:=Tr.guard ho
 have hg0:bP b p=true:=hg
 simp only[bP,zA,zB] at hg
 obtain ⟨h1,h2,h3⟩:=hg
 have h1:b.length≤4294960000:=h1
 have h2:(0:Int)≤p:=h2
 have h3:p≤(b.length:Int):=h3
 cases ho
 refine (Yb n b p).trans ?_
 unfold DK aT mg
 rw[aa hg0]
 by_cases h4:n<0
 ·simp[h4]
 ·by_cases h5:(b.length:Int) - p<n
  ·simp[h4,h5]
  ·have e0:List.drop p.toNat (List.take (p+n).toNat b)=(b.drop p.toNat).take n.toNat:=by rw[List.drop_take,show (p+n).toNat - p.toNat=n.toNat by omega]
   simp only[h4,h5,if_false,e0,bne_self_eq_false,cond_false]
   rw[aa (by simp;omega),aa (by simp;omega)]
abbrev oJ:Io:=⟨[.ptr 0 0],[Zd],[],[dI],none⟩
def J8 (d:oJ.In):Tr oJ.Res:=.ret (.ret ((sQ d.2.1.1 d.2.1.2.1,()),(d.2.1,())))
abbrev Uz:List (Nat×Hc):=[]
def afe:Hd:=bM Uz
def Vv:Lp:=bB []
def HD (a0:LI)(a1:Int):Option oJ.Res:=bif decide (a1<(↑a0.length:Int)) then oR ((2,()),(a0,a1,()),()) else oR ((0,()),(a0,a1,()),())
theorem adj (a0:LI)(a1:Int):Io.run tt afe dr Vv oJ Tryz.f203 (((),()),(a0,a1,()),())=HD a0 a1:=by kernel_rfl
theorem VT:HcOk prog 203 (ae oJ J8):=by
 refine cg (cs:=Uz) HcsOk.nil (lp:=Vv) (fn:=Tryz.f203) oJ (.done (by kernel_rfl)) J8 ?_
 rintro ⟨⟨⟨⟩,⟨⟩⟩,⟨⟨(b:LI),(p:Int),⟨⟩⟩,⟨⟩⟩⟩ out hw ho
 cases ho
 refine (adj b p).trans ?_
 unfold HD sQ
 by_cases h:p<(b.length:Int)
 ·rw[aa (by simpa using h),if_pos h]
 ·rw[af (by simpa using h),if_neg h]
abbrev ly:Io:=⟨[dL],[],[Zd],[.ptr 0 0],none⟩
def yN (d:ly.In):Tr ly.Res:=.ite (decide (d.1.1.length≤4294967296)) (.ret (.ret (((),()),((d.1.1,(0,())),())))) .no
abbrev UD:List (Nat×Hc):=[(118,ae jv wH)]
def afi:Hd:=bM UD
def Vz:Lp:=bB []
def Wc (a0:LI):Option ly.Res:=bif decide (a0.length≤4294967296) then oR (((),()),(a0,0,()),()) else none
theorem adn (a0:LI):Io.run tt afi dr Vz ly Tryz.f61 ((a0,()),())=Wc a0:=by kernel_rfl
theorem CH:HcOk prog 61 (ae ly yN):=by
 refine cg (cs:=UD) (.cons EY .nil) (lp:=Vz) (fn:=Tryz.f61) ly (.done (by kernel_rfl)) yN ?_
 rintro ⟨⟨(b:LI),⟨⟩⟩,⟨⟩⟩ out hw ho
 obtain ⟨hg,ho⟩:=Tr.guard ho
 cases ho
 exact (adn b).trans (aa hg _ _)
def iB (v n:Int):Bool:=if 8≤n then true else if -(2 ^ (8*n - 1).toNat)≤v∧v<2 ^ (8*n - 1).toNat then true else false
abbrev qw:Io:=⟨[Q2,dI],[],[],[dB],none⟩
def Qq (d:qw.In):Tr qw.Res:=.ite (decide ((1:Int)≤d.1.2.1)) (.ret (.ret ((iB d.1.1 d.1.2.1,()),()))) .no
abbrev Kx:List (Nat×Hc):=[]
def U0:Hd:=bM Kx
abbrev iY:Lo:=⟨⟨(.one hI::.one hI::.any::ce (.one hI::.one hI::am (dq []))),[]⟩,[(.exit 0,⟨(.one hI::dq (.one hI::.any::am (dq []))),[]⟩)]⟩
def rS (d:iY.st.den):Tr (aH iY.xs):=
 .ite (decide (d.1.2.2.1=1)&&(decide (d.1.2.2.2.1=0)&&(decide ((1:Int)≤d.1.2.1)&&decide (d.1.2.1≤(7:Int))))) (.ret (.ret ((),((d.1.1,((2:Int) ^ (8*d.1.2.1 - 1).toNat,())),())))) .no
def CC:Lp:=bB [(6,aS iY rS)]
def BR {R:Type}(h2 h3 h4 h5:Int)(next:Int→Int→Int→Int→Option R)(out:aH iY.xs→Option R):Option R:=bif decide (h5<i64.wrap (i64.wrap (8*h3) - 1)) then next (h2) (h3) (i64.wrap (h4*2)) (i64.wrap (h5+1)) else out (.ret ((),((h2,(h4,())),())))
def zo (n:Nat)(h2 h3 h4 h5:Int):Option (aH iY.xs):=il tt U0 dr CC 0 Tryz.f218 (db Tryz.f218 0) n (iY.st.mk' ((h2,(h3,(h4,(h5,())))),())) (ci iY.xs)
theorem Yv (n:Nat)(h2 h3 h4 h5:Int):zo (n+1) h2 h3 h4 h5=BR h2 h3 h4 h5 (zo n) some:=by kernel_rfl
theorem wC {m:Nat}(h:m≤56):(1:Int)≤2 ^ m∧(2:Int) ^ m≤72057594037927936:=by
 constructor
 ·have:(0:Int)<2 ^ m:=Int.pow_pos (by decide)
  omega
 ·have:=Nat.pow_le_pow_right (show 0<2 by decide) h
  have e:((2 ^ m:Nat):Int)=(2:Int) ^ m:=by simp
  have e2:(2:Nat) ^ 56=72057594037927936:=by decide
  omega
theorem W5 (v:Int){n:Int}(h0:1≤n)(h1:n≤7):∀(k j:Nat),(8*n - 1).toNat<j+k→j≤(8*n - 1).toNat→
  zo k v n ((2:Int) ^ j) j=some (.ret ((),((v,((2:Int) ^ (8*n - 1).toNat,())),()))):=by
 intro k
 induction k with
 |zero=>intro j h;omega
 |succ k ih=>
  intro j h2 h3
  rw[Yv]
  unfold BR
  rw[aI (n:=8*n) (by omega) (by omega),aI (n:=8*n - 1) (by omega) (by omega)]
  by_cases hj:(j:Int)<8*n - 1
  ·refine bT (by simpa using hj) ?_
   have hp:=wC (m:=j+1) (by omega)
   have hp0:=wC (m:=j) (by omega)
   have e:(2:Int) ^ j*2=2 ^ (j+1):=(Int.pow_succ 2 j).symm
   rw[e,aI (n:=(2:Int) ^ (j+1)) (by omega) (by omega),aI (n:=(j:Int)+1) (by omega) (by omega)]
   exact ih (j+1) (by omega) (by omega)
  ·refine bF (by simpa using hj) ?_
   have e:j=(8*n - 1).toNat:=by omega
   rw[← e]
def Hu (a0 a1:Int):Option qw.Res:=bif decide (8≤a1) then oR ((true,()),()) else (rS ((a0,(a1,(1,(0,())))),())).run fun y=>match y with | .ret ((),((x12,x13,()),()))=>(bif decide (i64.wrap (0 - x13)≤x12) then oR ((decide (x12<x13),()),()) else oR ((false,()),()))
theorem ac9 (a0 a1:Int):Io.run tt U0 dr CC qw Tryz.f218 ((a0,a1,()),())=Hu a0 a1:=by kernel_rfl
theorem VS:HcOk prog 218 (ae qw Qq):=by
 refine cg (cs:=Kx) HcsOk.nil (lp:=CC) (fn:=Tryz.f218) qw (.step (h0:=aS iY rS) (by kernel_rfl) (jh (cs:=Kx) HcsOk.nil (lp:=CC) (fn:=Tryz.f218) (.done (by kernel_rfl)) iY rS ?_) (.done (by kernel_rfl))) Qq ?_
 ·rintro ⟨⟨(v:Int),(n:Int),(a:Int),(i:Int),⟨⟩⟩,⟨⟩⟩ y hw hy
  obtain ⟨hg,hy⟩:=Tr.guard hy
  simp only[zA,zB] at hg
  obtain ⟨h1,h2,h3,h4⟩:=hg
  have h1:a=1:=h1
  have h2:i=0:=h2
  have h3:(1:Int)≤n:=h3
  have h4:n≤(7:Int):=h4
  subst h1
  subst h2
  refine ⟨(8*n - 1).toNat+1,(W5 v h3 h4 ((8*n - 1).toNat+1) 0 (by omega) (by omega)).trans ?_⟩
  rw[← hy];rfl
 ·rintro ⟨⟨(v:Int),(n:Int),⟨⟩⟩,⟨⟩⟩ out hw ho
  obtain ⟨hg,ho⟩:=Tr.guard ho
  have hg:(1:Int)≤n:=of_decide_eq_true hg
  cases ho
  refine (ac9 v n).trans ?_
  unfold Hu
  show _=oR ((iB v n,()),())
  unfold iB
  by_cases h8:8≤n
  ·rw[if_pos h8]
   exact aa (by simpa using h8) _ _
  ·rw[if_neg h8]
   refine bF (by simpa using h8) ?_
   have c1:(decide ((1:Int)=1)&&(decide ((0:Int)=0)&&(decide ((1:Int)≤n)&&decide (n≤(7:Int)))))=true:=by simp;omega
   have e1:rS ((v,(n,(1,(0,())))),())=.ite true (.ret (.ret ((),((v,((2:Int) ^ (8*n - 1).toNat,())),())))) .no:=congrArg (fun c=>Tr.ite c _ _) c1
   rw[e1]
   have hp:=wC (m:=(8*n - 1).toNat) (by omega)
   show (bif decide (i64.wrap (0 - (2:Int) ^ (8*n - 1).toNat)≤v) then oR ((decide (v<(2:Int) ^ (8*n - 1).toNat),()),()) else oR ((false,()),()))=_
   generalize (2:Int) ^ (8*n - 1).toNat=m at hp ⊢
   rw[aI (n:=0 - m) (by omega) (by omega)]
   by_cases h1:0 - m≤v
   ·refine bT (by simpa using h1) ?_
    by_cases h2:v<m
    ·rw[if_pos ⟨by omega,h2⟩,decide_eq_true h2]
    ·rw[if_neg (by omega),decide_eq_false h2]
   ·refine bF (by simpa using h1) ?_
    rw[if_neg (by omega)]
abbrev iP:Io:=⟨[Q2,dI],[],[],[dO],none⟩
def rR (d:iP.In):Tr iP.Res:=.ite (decide ((0:Int)≤d.1.2.1)&&decide (d.1.2.1≤(8:Int))) (.ret (.ret ((aB d.1.1 d.1.2.1.toNat,()),()))) .no
abbrev tH:List (Nat×Hc):=[]
def zd:Hd:=bM tH
abbrev fL:Lo:=⟨⟨(.one hI::.one hI::.any::ce (.one (.onl 5 (Ty.int u8) 11)::.one hI::.any::am (am (dq (ce []))))),[]⟩,[(.exit 0,⟨(.any::.one hI::.any::ce (.one (.onl 5 (Ty.int u8) 11)::am (am (gE [])))),[]⟩)]⟩
abbrev eN:Lo:=⟨⟨(.any::dq (.one (.onl 5 (Ty.int u8) 11)::ce (.one (.onl 5 (Ty.int u8) 17)::.one hI::am (am (dq []))))),[]⟩,[(.exit 2,⟨(gE (.one (.onl 5 (Ty.int u8) 17)::.any::am (am (dq [])))),[]⟩)]⟩
def kd (v:Int):Nat→LI
 |0=>[]
 |n+1=>v % 256::kd (v / 256) n
def m8 (d:fL.st.den):Tr (aH fL.xs):=
 .ite (decide (d.1.2.2.1.length=0)&&(decide (d.1.2.2.2.1=0)&&(decide ((0:Int)≤d.1.2.1)&&decide (d.1.2.1≤(8:Int))))) (.ret (.ret ((),((d.1.2.1,(kd d.1.1 d.1.2.1.toNat,())),())))) .no
def jZ (d:eN.st.den):Tr (aH eN.xs):=
 .ite (decide (d.1.2.1.length=0)&&(decide (d.1.2.2.1=(d.1.1.length:Int) - 1)&&decide (d.1.1.length≤8))) (.ret (.ret ((),((d.1.1.reverse,()),())))) .no
def mX:Lp:=bB [(4,aS fL m8),(13,aS eN jZ)]
def vh {R:Type}(h2 h3:Int)(h4:LI)(h5:Int)(next:Int→Int→LI→Int→Option R)(out:aH fL.xs→Option R):Option R:=bif decide (h5<h3) then bif decide (i64.wrap (h2.tmod 256)<0) then bif decide (h4.length+[u8.wrap (i64.wrap (i64.wrap (h2.tmod 256)+256))].length≤4294967296) then next (i64.wrap ((i64.wrap (h2 - i64.wrap (i64.wrap (h2.tmod 256)+256))).tdiv 256)) (h3) (h4++[u8.wrap (i64.wrap (i64.wrap (h2.tmod 256)+256))]) (i64.wrap (h5+1)) else none else bif decide (h4.length+[u8.wrap (i64.wrap (h2.tmod 256))].length≤4294967296) then next (i64.wrap ((i64.wrap (h2 - i64.wrap (h2.tmod 256))).tdiv 256)) (h3) (h4++[u8.wrap (i64.wrap (h2.tmod 256))]) (i64.wrap (h5+1)) else none else out (.ret ((),((h3,(h4,())),())))
def oP (n:Nat)(h2 h3:Int)(h4:LI)(h5:Int):Option (aH fL.xs):=il tt zd dr mX 0 Tryz.f39 (db Tryz.f39 0) n (fL.st.mk' ((h2,(h3,(h4,(h5,())))),())) (ci fL.xs)
theorem Pt (n:Nat)(h2 h3:Int)(h4:LI)(h5:Int):oP (n+1) h2 h3 h4 h5=vh h2 h3 h4 h5 (oP n) some:=by kernel_rfl
def od {R:Type}(h18 h19:LI)(h20:Int)(next:LI→LI→Int→Option R)(out:aH eN.xs→Option R):Option R:=bif decide (0≤h20) then bif decide (0≤h20)&&decide (h20<(↑h18.length:Int)) then bif decide (h19.length+[h18.getD h20.toNat 0].length≤4294967296) then next (h18) (h19++[h18.getD h20.toNat 0]) (i64.wrap (h20 - 1)) else none else none else out (.ret ((),((h19,()),())))
def qS (n:Nat)(h18 h19:LI)(h20:Int):Option (aH eN.xs):=il tt zd dr mX 0 Tryz.f39 (db Tryz.f39 1) n (eN.st.mk' ((h18,(h19,(h20,()))),())) (ci eN.xs)
theorem ya (n:Nat)(h18 h19:LI)(h20:Int):qS (n+1) h18 h19 h20=od h18 h19 h20 (qS n) some:=by kernel_rfl
theorem aee (v:Int):(v.tmod 256<0→v.tmod 256+256=v % 256)∧(¬ v.tmod 256<0→v.tmod 256=v % 256):=by
 by_cases h:0≤v
 ·rw[Int.tmod_eq_emod_of_nonneg h];omega
 ·obtain ⟨u,rfl⟩:∃u,v = -u:=⟨-v,by omega⟩
  rw[Int.neg_tmod,Int.tmod_eq_emod_of_nonneg (by omega)];omega
theorem aed (v:Int):(v - v % 256).tdiv 256=v / 256:=by
 have e:v - v % 256=v / 256*256:=by omega
 rw[e,Int.mul_tdiv_cancel _ (by decide)]
theorem ahj {n:Int}(h0:0≤n)(h1:n<256):u8.wrap n=n:=dY (by simp[eD,IntKind.min,IntKind.max,IntKind.signed,IntKind.bits];omega)
theorem Gt {m:Nat}(hm:m≤8):∀(k j:Nat) (v:Int) (acc:LI),m<j+k→j≤m→acc.length=j→-9223372036854775808≤v→v≤9223372036854775807→
  oP k v (m:Int) acc j=some (.ret ((),(((m:Int),(acc++kd v (m - j),())),()))):=by
 intro k
 induction k with
 |zero=>intro j v acc h;omega
 |succ k ih=>
  intro j v acc h1 h2 h3 h4 h5
  rw[Pt]
  unfold vh
  by_cases hj:j<m
  ·refine bT (decide_eq_true (show (j:Int)<(m:Int) by omega)) ?_
   have ht:=aee v
   have hd:∀x:Int,x=v % 256→oP k (i64.wrap ((i64.wrap (v - x)).tdiv 256)) (m:Int) (acc++[u8.wrap x]) (i64.wrap ((j:Int)+1))=some (.ret ((),(((m:Int),(acc++kd v (m - j),())),()))):=by
    rintro x rfl
    rw[aI (n:=v - v % 256) (by omega) (by omega),aed,aI (n:=v / 256) (by omega) (by omega),aI (n:=(j:Int)+1) (by omega) (by omega),ahj (n:=v % 256) (by omega) (by omega)]
    refine (ih (j+1) (v / 256) (acc++[v % 256]) (by omega) (by omega) (by simp[h3]) (by omega) (by omega)).trans ?_
    obtain ⟨q,hq⟩:∃q,m - j=q+1:=⟨m - j - 1,by omega⟩
    rw[hq,show m - (j+1)=q by omega,kd]
    simp
   have hr : -256≤v.tmod 256∧v.tmod 256<256:=by
    by_cases h:v.tmod 256<0
    ·have:=ht.1 h;omega
    ·have:=ht.2 h;omega
   rw[aI (n:=v.tmod 256) (by omega) (by omega),aI (n:=v.tmod 256+256) (by omega) (by omega)]
   by_cases hn:v.tmod 256<0
   ·refine bT (by simpa using hn) ?_
    refine bT (decide_eq_true (show acc.length+1≤4294967296 by omega)) ?_
    exact hd _ (ht.1 hn)
   ·refine bF (by simpa using hn) ?_
    refine bT (decide_eq_true (show acc.length+1≤4294967296 by omega)) ?_
    exact hd _ (ht.2 hn)
  ·refine bF (decide_eq_false (show ¬(j:Int)<(m:Int) by omega)) ?_
   rw[show m - j=0 by omega,kd]
   simp
theorem EI {low:LI}(hl:low.length≤8):∀(j:Nat) (acc:LI),j≤low.length→acc.length+j≤8→
  qS (j+1) low acc ((j:Int) - 1)=some (.ret ((),((acc++(low.take j).reverse,()),()))):=by
 intro j
 induction j with
 |zero=>
  intro acc h1 h2
  rw[ya]
  unfold od
  refine bF (by decide) ?_
  simp
 |succ j ih=>
  intro acc h1 h2
  rw[ya]
  unfold od
  rw[show ((j+1:Nat):Int) - 1=(j:Int) by omega]
  have hg:List.getD low j (0:Int)=low[j]'(by omega):=aJ (by omega)
  refine bT (by simp) ?_
  refine bT (by simp;omega) ?_
  simp only[zG,hg]
  refine bT (decide_eq_true (show acc.length+1≤4294967296 by omega)) ?_
  rw[aI (n:=(j:Int) - 1) (by omega) (by omega)]
  refine (ih (acc++[low[j]'(by omega)]) (by omega) (by simp;omega)).trans ?_
  rw[List.take_succ_eq_append_getElem (by omega),List.reverse_append,List.reverse_singleton,zK]
theorem YV (v:Int):∀n,(kd v n).length=n:=by
 intro n
 induction n generalizing v with
 |zero=>rfl
 |succ n ih=>rw[kd,zN,ih]
theorem Fz:∀(n:Nat) (v:Int),kd v (n+1)=kd v n++[(v / 256 ^ n) % 256]
 |0,v=>by simp[kd]
 |n+1,v=>by
  rw[kd,Fz n (v / 256),kd]
  have e:v / 256 / 256 ^ n=v / 256 ^ (n+1):=by
   rw[Int.pow_succ,Int.mul_comm,Int.ediv_ediv_of_nonneg (by decide)]
  rw[e];rfl
theorem Jf (v:Int):∀n,(kd v n).reverse=aB v n
 |0=>rfl
 |n+1=>by rw[Fz,List.reverse_append,Jf v n];rfl
def A3 (a0 a1:Int):Option iP.Res:=(m8 ((a0,(a1,([],(0,())))),())).run fun y=>match y with | .ret ((),((x16,x17,()),()))=>((jZ ((x17,([],(i64.wrap (x16 - 1),()))),())).run fun y=>match y with | .ret ((),((x25,()),()))=>(oR ((x25,()),())))
theorem Sj (a0 a1:Int):Io.run tt zd dr mX iP Tryz.f39 ((a0,a1,()),())=A3 a0 a1:=by kernel_rfl
theorem ur:HcOk prog 39 (ae iP rR):=by
 refine cg (cs:=tH) HcsOk.nil (lp:=mX) (fn:=Tryz.f39) iP (.step (h0:=aS fL m8) (by kernel_rfl) (jh (cs:=tH) HcsOk.nil (lp:=mX) (fn:=Tryz.f39) (.done (by kernel_rfl)) fL m8 ?_) (.step (h0:=aS eN jZ) (by kernel_rfl) (jh (cs:=tH) HcsOk.nil (lp:=mX) (fn:=Tryz.f39) (.done (by kernel_rfl)) eN jZ ?_) (.done (by kernel_rfl)))) rR ?_
 ·rintro ⟨⟨(v:Int),(m:Int),(acc:LI),(i:Int),⟨⟩⟩,⟨⟩⟩ y hw hy
  obtain ⟨hg,hy⟩:=Tr.guard hy
  simp only[zA,zB] at hg
  obtain ⟨h1,h2,h3,h4⟩:=hg
  have h1:acc=[]:=zF h1
  have h2:i=0:=h2
  have h3:(0:Int)≤m:=h3
  have h4:m≤(8:Int):=h4
  subst h1
  subst h2
  obtain ⟨m,rfl⟩:=eK h3
  have hv:eD .i64 v:=hw.1.1
  simp only[eD,IntKind.min,IntKind.max,IntKind.signed,IntKind.bits] at hv
  simp at hv
  refine ⟨m+1,(Gt (m:=m) (by omega) (m+1) 0 v [] (by omega) (by omega) rfl (by omega) (by omega)).trans ?_⟩
  rw[← hy];rfl
 ·rintro ⟨⟨(low:LI),(acc:LI),(i:Int),⟨⟩⟩,⟨⟩⟩ y hw hy
  obtain ⟨hg,hy⟩:=Tr.guard hy
  simp only[zA,zB] at hg
  obtain ⟨h1,h2,h3⟩:=hg
  have h1:acc=[]:=zF h1
  have h2:i=(low.length:Int) - 1:=h2
  have h3:low.length≤8:=h3
  subst h1
  subst h2
  refine ⟨low.length+1,(EI h3 low.length [] (by omega) (by simpa using h3)).trans ?_⟩
  rw[← hy,List.take_length];rfl
 ·rintro ⟨⟨(v:Int),(m:Int),⟨⟩⟩,⟨⟩⟩ out hw ho
  obtain ⟨hg,ho⟩:=Tr.guard ho
  simp only[zA,zB] at hg
  obtain ⟨h5,h6⟩:=hg
  have h5:(0:Int)≤m:=h5
  have h6:m≤(8:Int):=h6
  cases ho
  refine (Sj v m).trans ?_
  unfold A3
  have c1:(decide (([]:LI).length=0)&&(decide ((0:Int)=0)&&(decide ((0:Int)≤m)&&decide (m≤(8:Int)))))=true:=by simp;omega
  have e1:m8 ((v,(m,([],(0,())))),())=.ite true (.ret (.ret ((),((m,(kd v m.toNat,())),())))) .no:=congrArg (fun c=>Tr.ite c _ _) c1
  rw[e1]
  show (jZ ((kd v m.toNat,([],(i64.wrap (m - 1),()))),())).run _=_
  rw[aI (n:=m - 1) (by omega) (by omega)]
  have c2:(decide (([]:LI).length=0)&&(decide (m - 1=((kd v m.toNat).length:Int) - 1)&&decide ((kd v m.toNat).length≤8)))=true:=by
   rw[YV];simp;omega
  have e2:jZ ((kd v m.toNat,([],(m - 1,()))),())=.ite true (.ret (.ret ((),(((kd v m.toNat).reverse,()),())))) .no:=congrArg (fun c=>Tr.ite c _ _) c2
  rw[e2,Jf]
  rfl
abbrev Cd:Ty:=.prod (.int .i64) (.prod (.int .i64) (.prod .bool (.prod bs .unit)))
abbrev ap:Ty:=.tree Cd 91
abbrev dH:Sh:=.dat ap true false
abbrev aeb:Ty:=.sl 91 ap
abbrev Nd:Type:=Tre Cd.den
abbrev kZ:Io:=⟨[dI,Q2],[],[],[dH],none⟩
def wO (d:kZ.In):Tr kZ.Res:=.ret (.ret ((.mk (d.1.1,(d.1.2.1,(false,(([]:LI),())))) [],()),()))
abbrev aak:List (Nat×Hc):=[]
def aiV:Hd:=bM aak
def abL:Lp:=bB []
def ZG (a0 a1:Int):Option kZ.Res:=oR ((Tre.mk (a0,a1,false,[],()) [],()),())
theorem agI (a0 a1:Int):Io.run tt aiV dr abL kZ Tryz.f181 ((a0,a1,()),())=ZG a0 a1:=by kernel_rfl
theorem we:HcOk prog 181 (ae kZ wO):=by
 refine cg (cs:=aak) HcsOk.nil (lp:=abL) (fn:=Tryz.f181) kZ (.done (by kernel_rfl)) wO ?_
 rintro ⟨⟨(k:Int),(n:Int),⟨⟩⟩,⟨⟩⟩ out hw ho
 cases ho
 exact agI k n
abbrev ma:Io:=⟨[.dat aeb false false],[],[],[dH],none⟩
def AO (d:ma.In):Tr ma.Res:=.ret (.ret ((.mk (10,(0,(false,(([]:LI),())))) d.1.1,()),()))
abbrev aal:List (Nat×Hc):=[]
def aiW:Hd:=bM aal
def abM:Lp:=bB []
def ZH (a0:List ap.den):Option ma.Res:=oR ((Tre.mk (10,0,false,[],()) a0,()),())
theorem agJ (a0:List ap.den):Io.run tt aiW dr abM ma Tryz.f180 ((a0,()),())=ZH a0:=by kernel_rfl
theorem Ac:HcOk prog 180 (ae ma AO):=by
 refine cg (cs:=aal) HcsOk.nil (lp:=abM) (fn:=Tryz.f180) ma (.done (by kernel_rfl)) AO ?_
 rintro ⟨⟨l,⟨⟩⟩,⟨⟩⟩ out hw ho
 cases ho
 exact agJ l
abbrev rD:Io:=⟨[dH,dI],[],[],[dH],none⟩
def aY (n:Nd)(i:Int):Nd:=if 0≤i∧i<(n.kids.length:Int) then n.kids.getD i.toNat (.mk (0,(0,(false,([],())))) []) else .mk (0,(0,(false,([],())))) []
def Mj (d:rD.In):Tr rD.Res:=.ret (.ret ((aY d.1.1 d.1.2.1,()),()))
abbrev ahC:List (Nat×Hc):=[]
def aj9:Hd:=bM ahC
def ahV:Lp:=bB []
def T2 (a0:Tre Cd.den)(a1:Int):Option rD.Res:=bif decide (a1<0) then oR ((Tre.mk (0,0,false,[],()) [],()),()) else bif decide ((↑a0.2.length:Int)≤a1) then oR ((Tre.mk (0,0,false,[],()) [],()),()) else bif decide (0≤a1)&&decide (a1<(↑a0.2.length:Int)) then oR ((Tre.mk (a0.2.getD a1.toNat (Tre.mk (0,0,false,[],()) [])).1 (a0.2.getD a1.toNat (Tre.mk (0,0,false,[],()) [])).2,()),()) else none
theorem ajq (a0:Tre Cd.den)(a1:Int):Io.run tt aj9 dr ahV rD Tryz.f164 ((a0,a1,()),())=T2 a0 a1:=by kernel_rfl
theorem I5:HcOk prog 164 (ae rD Mj):=by
 refine cg (cs:=ahC) HcsOk.nil (lp:=ahV) (fn:=Tryz.f164) rD (.done (by kernel_rfl)) Mj ?_
 rintro ⟨⟨(n:Nd),(i:Int),⟨⟩⟩,⟨⟩⟩ out hw ho
 cases ho
 refine (ajq n i).trans ?_
 unfold T2
 show _=oR ((aY n i,()),())
 unfold aY
 by_cases h1:i<0
 ·rw[if_neg (by omega)]
  exact aa (by simpa using h1) _ _
 ·refine bF (by simpa using h1) ?_
  by_cases h2:(n.kids.length:Int)≤i
  ·rw[if_neg (by omega)]
   exact aa (by simpa using h2) _ _
  ·rw[if_pos (by omega)]
   refine bF (by simpa using h2) ?_
   refine bT (by simp;omega) ?_
   cases n.kids.getD i.toNat (.mk (0,(0,(false,([],())))) [])
   rfl
abbrev uM:List (List Sh):=[[.ptr 1 0,dI,dI,dB],[dO,dI]]
abbrev bf:Type:=Int×(Bool×LI)
abbrev EnO:Type:=m7 uM
abbrev gj (d:EnO):bf:=(d.1.2.2.1,(d.1.2.2.2.1,d.2.1.1))
abbrev cV (v:Int)(s:bf):EnO:=(((),(v,(s.1,(s.2.1,())))),((s.2.2,(130048,())),()))
abbrev gi (d:EnO):Bool:=decide (d.2.1.2.1=130048)&&decide (d.2.1.1.length≤130048)
def bU (e:Int)(s:bf):bf:=if s.1=0 then (e,s.2) else s
def ac (v:Int)(n:Nat)(s:bf):bf:=if 130048 - (s.2.2.length:Int)<n then (s.1,(true,s.2.2)) else (s.1,(s.2.1,s.2.2++aB v n))
def lm (p:LI)(s:bf):bf:=if 130048 - (s.2.2.length:Int)<p.length then (s.1,(true,s.2.2)) else (s.1,(s.2.1,s.2.2++p))
def bJ (t:LI)(s:bf):bf:=if (cC t).2=false then bU 6 s else if 255<(t.length:Int) then bU 4 s else lm t (ac t.length 2 s)
def aq (v:Int)(z:Bool)(lo hi:Int)(s:bf):bf:=if z=false∧(v<lo∨hi<v) then bU 7 s else s
abbrev fv:Ty:=.prod .bool (.prod .str .unit)
abbrev yW:Sh:=.dat fv true false
abbrev rB:Ty:=.prod .bool (.prod bs .unit)
abbrev KA:Sh:=.dat rB true false
theorem bK {v e:Int}{f:Bool}{b:LI}{m:Int}(h:gi (((),(v,(e,(f,())))),((b,(m,())),()))=true):m=130048∧b.length≤130048:=by
 simpa [gi] using h
theorem ahf {b:LI}(x:Int)(n:Nat)(h:b.length≤130048):(aC b 130048 x n).2.length≤130048:=by
 unfold aC
 split
 ·exact h
 ·simp only[zH,bj];omega
theorem YZ (x:Int)(n:Nat)(v e:Int)(f:Bool)(b:LI):
  cV v (ac x n (e,f,b))=(((),(v,(e,((f || decide ((aC b 130048 x n).1≠0)),())))),(((aC b 130048 x n).2,(130048,())),())):=by
 unfold ac aC cV
 by_cases h:130048 - (b.length:Int)<n
 ·simp[h]
 ·simp[h]
theorem P9 {b:LI}(h:b.length≤130048):bx b 130048=true:=by
 simp[bx];omega
theorem aA {s:bf}(x:Int)(n:Nat)(h:s.2.2.length≤130048):(ac x n s).2.2.length≤130048:=by
 unfold ac
 split
 ·exact h
 ·simp only[zH,bj];omega
theorem YW {b:LI}(p:LI)(h:b.length≤130048):(bI b 130048 [p]).2.length≤130048:=by
 unfold bI
 split
 ·exact h
 ·simp only[be,nV,zH,List.length_nil] at *;omega
theorem S6 (p:LI)(v e:Int)(f:Bool)(b:LI):
  cV v (lm p (e,f,b))=(((),(v,(e,((f || decide ((bI b 130048 [p]).1≠0)),())))),(((bI b 130048 [p]).2,(130048,())),())):=by
 unfold lm bI cV
 by_cases h:130048 - (b.length:Int)<p.length
 ·simp[h,be]
 ·simp[h,be,nV]
abbrev cT:Io:=⟨[.ptr 0 0,dI],uM,[],[],none⟩
def gq (d:cT.In):Tr cT.Res:=.ite (gi d.2) (.ret (.ret ((),cV d.2.1.2.1 (bU d.1.2.1 (gj d.2))))) .no
abbrev Un:List (Nat×Hc):=[]
def ae7:Hd:=bM Un
def Vn:Lp:=bB []
def Hq (a0 a1 a2:Int)(a3:Bool)(a4:LI)(a5:Int):Option cT.Res:=bif a2 == 0 then oR ((),((),a1,a0,a3,()),(a4,a5,()),()) else oR ((),((),a1,a2,a3,()),(a4,a5,()),())
theorem ac5 (a0 a1 a2:Int)(a3:Bool)(a4:LI)(a5:Int):Io.run tt ae7 dr Vn cT Tryz.f194 (((),a0,()),((),a1,a2,a3,()),(a4,a5,()),())=Hq a0 a1 a2 a3 a4 a5:=by kernel_rfl
theorem fD:HcOk prog 194 (ae cT gq):=by
 refine cg (cs:=Un) HcsOk.nil (lp:=Vn) (fn:=Tryz.f194) cT (.done (by kernel_rfl)) gq ?_
 rintro ⟨⟨⟨⟩,(x:Int),⟨⟩⟩,⟨⟨⟨⟩,(v:Int),(e:Int),(f:Bool),⟨⟩⟩,⟨(b:LI),(m:Int),⟨⟩⟩,⟨⟩⟩⟩ out hw ho
 obtain ⟨hg,ho⟩:=Tr.guard ho
 obtain ⟨rfl,hb⟩:=bK hg
 cases ho
 refine (ac5 x v e f b 130048).trans ?_
 unfold Hq bU gj cV
 by_cases h:e=0
 ·rw[aa (by simpa using h),if_pos h]
 ·rw[af (by simpa using h),if_neg h]
abbrev ir:Io:=⟨[.ptr 0 0,dI],uM,[],[],none⟩
def ol (d:ir.In):Tr ir.Res:=.ite (gi d.2) (.ret (.ret ((),cV d.2.1.2.1 (d.2.1.2.2.1,(d.2.1.2.2.2.1 || decide (d.1.2.1≠0),d.2.2.1.1))))) .no
abbrev Ni:List (Nat×Hc):=[]
def aaT:Hd:=bM Ni
def Ov:Lp:=bB []
def Dy (a0 a1 a2:Int)(a3:Bool)(a4:LI)(a5:Int):Option ir.Res:=bif a3 then oR ((),((),a1,a2,true,()),(a4,a5,()),()) else oR ((),((),a1,a2,a0 != 0,()),(a4,a5,()),())
theorem XY (a0 a1 a2:Int)(a3:Bool)(a4:LI)(a5:Int):Io.run tt aaT dr Ov ir Tryz.f195 (((),a0,()),((),a1,a2,a3,()),(a4,a5,()),())=Dy a0 a1 a2 a3 a4 a5:=by kernel_rfl
theorem pH:HcOk prog 195 (ae ir ol):=by
 refine cg (cs:=Ni) HcsOk.nil (lp:=Ov) (fn:=Tryz.f195) ir (.done (by kernel_rfl)) ol ?_
 rintro ⟨⟨⟨⟩,(x:Int),⟨⟩⟩,⟨⟨⟨⟩,(v:Int),(e:Int),(f:Bool),⟨⟩⟩,⟨(b:LI),(m:Int),⟨⟩⟩,⟨⟩⟩⟩ out hw ho
 obtain ⟨hg,ho⟩:=Tr.guard ho
 obtain ⟨rfl,hb⟩:=bK hg
 cases ho
 refine (XY x v e f b 130048).trans ?_
 unfold Dy
 cases f
 ·show some _=_
  have:(x != 0)=decide (x≠0):=by rw[Bool.eq_iff_iff];simp
  rw[this];rfl
 ·rfl
abbrev gt:Io:=⟨[.ptr 0 0,dB,dI,dI],uM,[],[],none⟩
def mr (d:gt.In):Tr gt.Res:=.ite (gi d.2) (.ret (.ret ((),cV d.2.1.2.1 (aq d.2.1.2.1 d.1.2.1 d.1.2.2.1 d.1.2.2.2.1 (gj d.2))))) .no
abbrev Nh:List (Nat×Hc):=[(194,ae cT gq)]
def aaS:Hd:=bM Nh
def Ou:Lp:=bB []
def Dx (a0:Bool)(a1 a2 a3 a4:Int)(a5:Bool)(a6:LI)(a7:Int):Option gt.Res:=bif !a0 then bif decide (a3<a1) then bif decide (a7=130048)&&decide (a6.length≤130048) then oR ((),((),a3,(bU 7 (a4,a5,a6)).1,(bU 7 (a4,a5,a6)).2.1,()),((bU 7 (a4,a5,a6)).2.2,130048,()),()) else none else bif decide (a2<a3) then bif decide (a7=130048)&&decide (a6.length≤130048) then oR ((),((),a3,(bU 7 (a4,a5,a6)).1,(bU 7 (a4,a5,a6)).2.1,()),((bU 7 (a4,a5,a6)).2.2,130048,()),()) else none else oR ((),((),a3,a4,a5,()),(a6,a7,()),()) else oR ((),((),a3,a4,a5,()),(a6,a7,()),())
theorem XW (a0:Bool)(a1 a2 a3 a4:Int)(a5:Bool)(a6:LI)(a7:Int):Io.run tt aaS dr Ou gt Tryz.f94 (((),a0,a1,a2,()),((),a3,a4,a5,()),(a6,a7,()),())=Dx a0 a1 a2 a3 a4 a5 a6 a7:=by kernel_rfl
theorem nI:HcOk prog 94 (ae gt mr):=by
 refine cg (cs:=Nh) (.cons fD .nil) (lp:=Ou) (fn:=Tryz.f94) gt (.done (by kernel_rfl)) mr ?_
 rintro ⟨⟨⟨⟩,(z:Bool),(lo:Int),(hi:Int),⟨⟩⟩,⟨⟨⟨⟩,(v:Int),(e:Int),(f:Bool),⟨⟩⟩,⟨(b:LI),(m:Int),⟨⟩⟩,⟨⟩⟩⟩ out hw ho
 obtain ⟨hg,ho⟩:=Tr.guard ho
 obtain ⟨rfl,hb⟩:=bK hg
 cases ho
 refine (XW z lo hi v e f b 130048).trans ?_
 unfold Dx
 have g:(decide ((130048:Int)=130048)&&decide (b.length≤130048))=true:=by simpa using hb
 show _=oR ((),cV v (aq v z lo hi (e,f,b)))
 unfold aq
 cases z
 ·by_cases h1:v<lo
  ·rw[aa (by rfl),aa (by simpa using h1),aa g,if_pos ⟨rfl,.inl h1⟩]
  ·rw[aa (by rfl),af (by simpa using h1)]
   by_cases h2:hi<v
   ·rw[aa (by simpa using h2),aa g,if_pos ⟨rfl,.inr h2⟩]
   ·rw[af (by simpa using h2),if_neg (by simp;omega)]
 ·rw[af (by rfl),if_neg (by simp)]
abbrev iJ:Io:=⟨[.ptr 0 0,dI,dI],uM,[],[dB],none⟩
def pr (d:iJ.In):Tr iJ.Res:=.ite (gi d.2) (.ret (.ret ((decide (d.1.2.1≤d.2.1.2.1)&&decide (d.2.1.2.1≤d.1.2.2.1),()),cV d.2.1.2.1 (gj d.2)))) .no
abbrev Z5:List (Nat×Hc):=[]
def aiM:Hd:=bM Z5
def abC:Lp:=bB []
def MG (a0 a1 a2 a3:Int)(a4:Bool)(a5:LI)(a6:Int):Option iJ.Res:=bif decide (a0≤a2) then oR ((decide (a2≤a1),()),((),a2,a3,a4,()),(a5,a6,()),()) else oR ((false,()),((),a2,a3,a4,()),(a5,a6,()),())
theorem agw (a0 a1 a2 a3:Int)(a4:Bool)(a5:LI)(a6:Int):Io.run tt aiM dr abC iJ Tryz.f95 (((),a0,a1,()),((),a2,a3,a4,()),(a5,a6,()),())=MG a0 a1 a2 a3 a4 a5 a6:=by kernel_rfl
theorem nH:HcOk prog 95 (ae iJ pr):=by
 refine cg (cs:=Z5) HcsOk.nil (lp:=abC) (fn:=Tryz.f95) iJ (.done (by kernel_rfl)) pr ?_
 rintro ⟨⟨⟨⟩,(lo:Int),(hi:Int),⟨⟩⟩,⟨⟨⟨⟩,(v:Int),(e:Int),(f:Bool),⟨⟩⟩,⟨(b:LI),(m:Int),⟨⟩⟩,⟨⟩⟩⟩ out hw ho
 obtain ⟨hg,ho⟩:=Tr.guard ho
 obtain ⟨rfl,hb⟩:=bK hg
 cases ho
 refine (agw lo hi v e f b 130048).trans ?_
 unfold MG
 show _=oR ((decide (lo≤v)&&decide (v≤hi),()),cV v (e,f,b))
 by_cases h:lo≤v
 ·rw[aa (by simpa using h),decide_eq_true h];rfl
 ·rw[af (by simpa using h),decide_eq_false h];rfl
theorem KL (n:Nat)(x:Int){a1 a2:Int}{a3:Bool}{a4:LI}(h:a4.length≤130048):
  (bif bx a4 130048 then bif decide ((130048:Int)=130048)&&decide ((aC a4 130048 x n).2.length≤130048) then oR ((),((),a1,a2,a3 || decide ((aC a4 130048 x n).1≠0),()),((aC a4 130048 x n).2,130048,()),()) else none else (none:Option cT.Res))
   = oR ((),cV a1 (ac x n (a2,a3,a4))):=by
 rw[aa (P9 h),aa (by simpa using ahf x n h),YZ]
theorem aaz (p:LI){a1 a2:Int}{a3:Bool}{a4:LI}(h:a4.length≤130048)(hp:p.length≤4294960000):
  (bif bx a4 130048&&decide (be [p]≤4294960000) then bif decide ((130048:Int)=130048)&&decide ((bI a4 130048 [p]).2.length≤130048) then oR ((),((),a1,a2,a3 || decide ((bI a4 130048 [p]).1≠0),()),((bI a4 130048 [p]).2,130048,()),()) else none else (none:Option cT.Res))
   = oR ((),cV a1 (lm p (a2,a3,a4))):=by
 rw[aa (by rw[P9 h,Bool.true_and];exact decide_eq_true (show p.length+0≤4294960000 by omega)),aa (by simpa using YW p h),S6]
abbrev l7:Io:=⟨[.ptr 0 0,Ql],uM,[],[],none⟩
def AL (d:l7.In):Tr l7.Res:=.ite (gi d.2) (.ret (.ret ((),cV d.2.1.2.1 (ac d.1.2.1 2 (gj d.2))))) .no
abbrev Z6:List (Nat×Hc):=[(47,ae su TS),(195,ae ir ol)]
def aiN:Hd:=bM Z6
def abD:Lp:=bB []
def ZC (a0 a1 a2:Int)(a3:Bool)(a4:LI)(a5:Int):Option l7.Res:=bif bx a4 a5 then bif decide (a5=130048)&&decide ((aC a4 a5 a0 2).2.length≤130048) then oR ((),((),a1,a2,a3 || decide ((aC a4 a5 a0 2).1≠0),()),((aC a4 a5 a0 2).2,130048,()),()) else none else none
theorem agx (a0 a1 a2:Int)(a3:Bool)(a4:LI)(a5:Int):Io.run tt aiN dr abD l7 Tryz.f97 (((),a0,()),((),a1,a2,a3,()),(a4,a5,()),())=ZC a0 a1 a2 a3 a4 a5:=by kernel_rfl
theorem z5:HcOk prog 97 (ae l7 AL):=by
 refine cg (cs:=Z6) (.cons acB (.cons pH .nil)) (lp:=abD) (fn:=Tryz.f97) l7 (.done (by kernel_rfl)) AL ?_
 rintro ⟨⟨⟨⟩,(x:Int),⟨⟩⟩,⟨⟨⟨⟩,(v:Int),(e:Int),(f:Bool),⟨⟩⟩,⟨(b:LI),(m:Int),⟨⟩⟩,⟨⟩⟩⟩ out hw ho
 obtain ⟨hg,ho⟩:=Tr.guard ho
 obtain ⟨rfl,hb⟩:=bK hg
 cases ho
 refine (agx x v e f b 130048).trans ?_
 exact KL 2 x hb
abbrev cX:Io:=⟨[.ptr 0 0,Wy],uM,[],[],none⟩
def gg (d:cX.In):Tr cX.Res:=.ite (gi d.2) (.ret (.ret ((),cV d.2.1.2.1 (ac d.1.2.1 4 (gj d.2))))) .no
abbrev Z7:List (Nat×Hc):=[(48,ae qL Mm),(195,ae ir ol)]
def aiO:Hd:=bM Z7
def abE:Lp:=bB []
def ZD (a0 a1 a2:Int)(a3:Bool)(a4:LI)(a5:Int):Option cX.Res:=bif bx a4 a5 then bif decide (a5=130048)&&decide ((aC a4 a5 a0 4).2.length≤130048) then oR ((),((),a1,a2,a3 || decide ((aC a4 a5 a0 4).1≠0),()),((aC a4 a5 a0 4).2,130048,()),()) else none else none
theorem agy (a0 a1 a2:Int)(a3:Bool)(a4:LI)(a5:Int):Io.run tt aiO dr abE cX Tryz.f98 (((),a0,()),((),a1,a2,a3,()),(a4,a5,()),())=ZD a0 a1 a2 a3 a4 a5:=by kernel_rfl
theorem eb:HcOk prog 98 (ae cX gg):=by
 refine cg (cs:=Z7) (.cons RT (.cons pH .nil)) (lp:=abE) (fn:=Tryz.f98) cX (.done (by kernel_rfl)) gg ?_
 rintro ⟨⟨⟨⟩,(x:Int),⟨⟩⟩,⟨⟨⟨⟩,(v:Int),(e:Int),(f:Bool),⟨⟩⟩,⟨(b:LI),(m:Int),⟨⟩⟩,⟨⟩⟩⟩ out hw ho
 obtain ⟨hg,ho⟩:=Tr.guard ho
 obtain ⟨rfl,hb⟩:=bK hg
 cases ho
 refine (agy x v e f b 130048).trans ?_
 exact KL 4 x hb
abbrev l8:Io:=⟨[.ptr 0 0,Q2],uM,[],[],none⟩
def AM (d:l8.In):Tr l8.Res:=.ite (gi d.2) (.ret (.ret ((),cV d.2.1.2.1 (ac d.1.2.1 8 (gj d.2))))) .no
abbrev Z8:List (Nat×Hc):=[(197,ae vU Zu),(195,ae ir ol)]
def aiP:Hd:=bM Z8
def abF:Lp:=bB []
def ZE (a0 a1 a2:Int)(a3:Bool)(a4:LI)(a5:Int):Option l8.Res:=bif bx a4 a5 then bif decide (a5=130048)&&decide ((aC a4 a5 a0 8).2.length≤130048) then oR ((),((),a1,a2,a3 || decide ((aC a4 a5 a0 8).1≠0),()),((aC a4 a5 a0 8).2,130048,()),()) else none else none
theorem agz (a0 a1 a2:Int)(a3:Bool)(a4:LI)(a5:Int):Io.run tt aiP dr abF l8 Tryz.f111 (((),a0,()),((),a1,a2,a3,()),(a4,a5,()),())=ZE a0 a1 a2 a3 a4 a5:=by kernel_rfl
theorem z6:HcOk prog 111 (ae l8 AM):=by
 refine cg (cs:=Z8) (.cons ajf (.cons pH .nil)) (lp:=abF) (fn:=Tryz.f111) l8 (.done (by kernel_rfl)) AM ?_
 rintro ⟨⟨⟨⟩,(x:Int),⟨⟩⟩,⟨⟨⟨⟩,(v:Int),(e:Int),(f:Bool),⟨⟩⟩,⟨(b:LI),(m:Int),⟨⟩⟩,⟨⟩⟩⟩ out hw ho
 obtain ⟨hg,ho⟩:=Tr.guard ho
 obtain ⟨rfl,hb⟩:=bK hg
 cases ho
 refine (agz x v e f b 130048).trans ?_
 exact KL 8 x hb
abbrev kR:Io:=⟨[.ptr 0 0,.dat .str false false],uM,[],[],none⟩
def wG (d:kR.In):Tr kR.Res:=.ite (gi d.2) (.ret (.ret ((),cV d.2.1.2.1 (bJ d.1.2.1 (gj d.2))))) .no
abbrev aaa:List (Nat×Hc):=[(92,ae pc GV),(194,ae cT gq),(97,ae l7 AL),(49,ae pd GX),(195,ae ir ol)]
def aiR:Hd:=bM aaa
def abH:Lp:=bB []
def MI (a0:LI)(a1 a2:Int)(a3:Bool)(a4:LI)(a5:Int):Option kR.Res:=bif !(cC a0).2 then bif decide (a5=130048)&&decide (a4.length≤130048) then oR ((),((),a1,(bU 6 (a2,a3,a4)).1,(bU 6 (a2,a3,a4)).2.1,()),((bU 6 (a2,a3,a4)).2.2,130048,()),()) else none else bif decide (255<(↑a0.length:Int)) then bif decide (a5=130048)&&decide (a4.length≤130048) then oR ((),((),a1,(bU 4 (a2,a3,a4)).1,(bU 4 (a2,a3,a4)).2.1,()),((bU 4 (a2,a3,a4)).2.2,130048,()),()) else none else bif decide (a5=130048)&&decide (a4.length≤130048) then bif bx (ac (i16.wrap (↑a0.length:Int)) 2 (a2,a3,a4)).2.2 130048&&decide (be [a0]≤4294960000) then bif decide (130048=130048)&&decide ((bI (ac (i16.wrap (↑a0.length:Int)) 2 (a2,a3,a4)).2.2 130048 [a0]).2.length≤130048) then oR ((),((),a1,(ac (i16.wrap (↑a0.length:Int)) 2 (a2,a3,a4)).1,(ac (i16.wrap (↑a0.length:Int)) 2 (a2,a3,a4)).2.1 || decide ((bI (ac (i16.wrap (↑a0.length:Int)) 2 (a2,a3,a4)).2.2 130048 [a0]).1≠0),()),((bI (ac (i16.wrap (↑a0.length:Int)) 2 (a2,a3,a4)).2.2 130048 [a0]).2,130048,()),()) else none else none else none
theorem agB (a0:LI)(a1 a2:Int)(a3:Bool)(a4:LI)(a5:Int):Io.run tt aiR dr abH kR Tryz.f101 (((),a0,()),((),a1,a2,a3,()),(a4,a5,()),())=MI a0 a1 a2 a3 a4 a5:=by kernel_rfl
theorem wd:HcOk prog 101 (ae kR wG):=by
 refine cg (cs:=aaa) (.cons LG (.cons fD (.cons z5 (.cons LK (.cons pH .nil))))) (lp:=abH) (fn:=Tryz.f101) kR (.done (by kernel_rfl)) wG ?_
 rintro ⟨⟨⟨⟩,(t:LI),⟨⟩⟩,⟨⟨⟨⟩,(v:Int),(e:Int),(f:Bool),⟨⟩⟩,⟨(b:LI),(m:Int),⟨⟩⟩,⟨⟩⟩⟩ out hw ho
 obtain ⟨hg,ho⟩:=Tr.guard ho
 obtain ⟨rfl,hb⟩:=bK hg
 cases ho
 refine (agB t v e f b 130048).trans ?_
 unfold MI
 have g:∀c:LI,c.length≤130048→(decide ((130048:Int)=130048)&&decide (c.length≤130048))=true:=fun c h=>by simpa using h
 show _=oR ((),cV v (bJ t (e,f,b)))
 unfold bJ
 cases hu:(cC t).2
 ·rw[aa (by rfl),aa (g b hb),if_pos rfl]
 ·rw[af (by rfl),if_neg (by simp)]
  by_cases h1:(255:Int)<(t.length:Int)
  ·rw[aa (by simpa using h1),aa (g b hb),if_pos h1]
  ·rw[af (by simpa using h1),if_neg h1,aa (g b hb),show i16.wrap (t.length:Int)=t.length from dY (by simp[eD,IntKind.min,IntKind.max,IntKind.signed,IntKind.bits];omega)]
   exact aaz t (aA (s:=(e,f,b)) _ 2 hb) (by omega)
abbrev qr:Io:=⟨[.ptr 0 0,yW],uM,[],[],none⟩
def ey (n:Bool×(LI×Unit))(s:bf):bf:=if n.1=true∧n.2.1≠[] then bU 70 s else if n.1=true then ac (-1) 2 s else bJ n.2.1 s
def Qp (d:qr.In):Tr qr.Res:=.ite (gi d.2) (.ret (.ret ((),cV d.2.1.2.1 (ey d.1.2.1 (gj d.2))))) .no
abbrev Uo:List (Nat×Hc):=[(194,ae cT gq),(97,ae l7 AL),(101,ae kR wG)]
def ae8:Hd:=bM Uo
def Vo:Lp:=bB []
def Hr (a0:Bool)(a1:LI)(a2 a3:Int)(a4:Bool)(a5:LI)(a6:Int):Option qr.Res:=bif a0 then bif !decide (a1=List.map (fun (c:UInt8)=>(↑c.toNat:Int)) []) then bif decide (a6=130048)&&decide (a5.length≤130048) then oR ((),((),a2,(bU 70 (a3,a4,a5)).1,(bU 70 (a3,a4,a5)).2.1,()),((bU 70 (a3,a4,a5)).2.2,130048,()),()) else none else bif a0 then bif decide (a6=130048)&&decide (a5.length≤130048) then oR ((),((),a2,(ac (-1) 2 (a3,a4,a5)).1,(ac (-1) 2 (a3,a4,a5)).2.1,()),((ac (-1) 2 (a3,a4,a5)).2.2,130048,()),()) else none else bif decide (a6=130048)&&decide (a5.length≤130048) then oR ((),((),a2,(bJ a1 (a3,a4,a5)).1,(bJ a1 (a3,a4,a5)).2.1,()),((bJ a1 (a3,a4,a5)).2.2,130048,()),()) else none else bif a0 then bif decide (a6=130048)&&decide (a5.length≤130048) then oR ((),((),a2,(ac (-1) 2 (a3,a4,a5)).1,(ac (-1) 2 (a3,a4,a5)).2.1,()),((ac (-1) 2 (a3,a4,a5)).2.2,130048,()),()) else none else bif decide (a6=130048)&&decide (a5.length≤130048) then oR ((),((),a2,(bJ a1 (a3,a4,a5)).1,(bJ a1 (a3,a4,a5)).2.1,()),((bJ a1 (a3,a4,a5)).2.2,130048,()),()) else none
theorem ac6 (a0:Bool)(a1:LI)(a2 a3:Int)(a4:Bool)(a5:LI)(a6:Int):Io.run tt ae8 dr Vo qr Tryz.f96 (((),(a0,a1,()),()),((),a2,a3,a4,()),(a5,a6,()),())=Hr a0 a1 a2 a3 a4 a5 a6:=by kernel_rfl
theorem afJ:HcOk prog 96 (ae qr Qp):=by
 refine cg (cs:=Uo) (.cons fD (.cons z5 (.cons wd .nil))) (lp:=Vo) (fn:=Tryz.f96) qr (.done (by kernel_rfl)) Qp ?_
 rintro ⟨⟨⟨⟩,⟨(z:Bool),(t:LI),⟨⟩⟩,⟨⟩⟩,⟨⟨⟨⟩,(v:Int),(e:Int),(f:Bool),⟨⟩⟩,⟨(b:LI),(m:Int),⟨⟩⟩,⟨⟩⟩⟩ out hw ho
 obtain ⟨hg,ho⟩:=Tr.guard ho
 obtain ⟨rfl,hb⟩:=bK hg
 cases ho
 refine (ac6 z t v e f b 130048).trans ?_
 unfold Hr
 have g:(decide ((130048:Int)=130048)&&decide (b.length≤130048))=true:=by simpa using hb
 show _=oR ((),cV v (ey (z,(t,())) (e,f,b)))
 unfold ey
 rw[g]
 simp only[List.map_nil,cond_true]
 cases z
 ·rw[af (by rfl),af (by rfl),if_neg (by simp),if_neg (by simp)]
 ·by_cases h:t=[]
  ·rw[aa (by rfl),af (by simpa using h),aa (by rfl),if_neg (by simp[h]),if_pos rfl]
  ·rw[aa (by rfl),aa (by simpa using h),if_pos ⟨rfl,h⟩]
abbrev oH:Io:=⟨[.ptr 0 0,KA],uM,[],[],none⟩
def cE (n:Bool×(LI×Unit))(s:bf):bf:=if n.1=true∧0<n.2.1.length then bU 70 s else if n.1=true then ac (-1) 4 s else lm n.2.1 (ac (i32.wrap n.2.1.length) 4 s)
def J0 (d:oH.In):Tr oH.Res:=.ite (gi d.2&&decide (d.1.2.1.2.1.length≤2147483647)) (.ret (.ret ((),cV d.2.1.2.1 (cE d.1.2.1 (gj d.2))))) .no
abbrev Ul:List (Nat×Hc):=[(194,ae cT gq),(98,ae cX gg),(49,ae pd GX),(195,ae ir ol)]
def ae5:Hd:=bM Ul
def Vl:Lp:=bB []
def Ho (a0:Bool)(a1:LI)(a2 a3:Int)(a4:Bool)(a5:LI)(a6:Int):Option oH.Res:=bif a0 then bif decide (0<(↑a1.length:Int)) then bif decide (a6=130048)&&decide (a5.length≤130048) then oR ((),((),a2,(bU 70 (a3,a4,a5)).1,(bU 70 (a3,a4,a5)).2.1,()),((bU 70 (a3,a4,a5)).2.2,130048,()),()) else none else bif a0 then bif decide (a6=130048)&&decide (a5.length≤130048) then oR ((),((),a2,(ac (-1) 4 (a3,a4,a5)).1,(ac (-1) 4 (a3,a4,a5)).2.1,()),((ac (-1) 4 (a3,a4,a5)).2.2,130048,()),()) else none else bif decide (a6=130048)&&decide (a5.length≤130048) then bif bx (ac (i32.wrap (↑a1.length:Int)) 4 (a3,a4,a5)).2.2 130048&&decide (be [a1]≤4294960000) then bif decide (130048=130048)&&decide ((bI (ac (i32.wrap (↑a1.length:Int)) 4 (a3,a4,a5)).2.2 130048 [a1]).2.length≤130048) then oR ((),((),a2,(ac (i32.wrap (↑a1.length:Int)) 4 (a3,a4,a5)).1,(ac (i32.wrap (↑a1.length:Int)) 4 (a3,a4,a5)).2.1 || decide ((bI (ac (i32.wrap (↑a1.length:Int)) 4 (a3,a4,a5)).2.2 130048 [a1]).1≠0),()),((bI (ac (i32.wrap (↑a1.length:Int)) 4 (a3,a4,a5)).2.2 130048 [a1]).2,130048,()),()) else none else none else none else bif a0 then bif decide (a6=130048)&&decide (a5.length≤130048) then oR ((),((),a2,(ac (-1) 4 (a3,a4,a5)).1,(ac (-1) 4 (a3,a4,a5)).2.1,()),((ac (-1) 4 (a3,a4,a5)).2.2,130048,()),()) else none else bif decide (a6=130048)&&decide (a5.length≤130048) then bif bx (ac (i32.wrap (↑a1.length:Int)) 4 (a3,a4,a5)).2.2 130048&&decide (be [a1]≤4294960000) then bif decide (130048=130048)&&decide ((bI (ac (i32.wrap (↑a1.length:Int)) 4 (a3,a4,a5)).2.2 130048 [a1]).2.length≤130048) then oR ((),((),a2,(ac (i32.wrap (↑a1.length:Int)) 4 (a3,a4,a5)).1,(ac (i32.wrap (↑a1.length:Int)) 4 (a3,a4,a5)).2.1 || decide ((bI (ac (i32.wrap (↑a1.length:Int)) 4 (a3,a4,a5)).2.2 130048 [a1]).1≠0),()),((bI (ac (i32.wrap (↑a1.length:Int)) 4 (a3,a4,a5)).2.2 130048 [a1]).2,130048,()),()) else none else none else none
theorem ac3 (a0:Bool)(a1:LI)(a2 a3:Int)(a4:Bool)(a5:LI)(a6:Int):Io.run tt ae5 dr Vl oH Tryz.f104 (((),(a0,a1,()),()),((),a2,a3,a4,()),(a5,a6,()),())=Ho a0 a1 a2 a3 a4 a5 a6:=by kernel_rfl
theorem VR:HcOk prog 104 (ae oH J0):=by
 refine cg (cs:=Ul) (.cons fD (.cons eb (.cons LK (.cons pH .nil)))) (lp:=Vl) (fn:=Tryz.f104) oH (.done (by kernel_rfl)) J0 ?_
 rintro ⟨⟨⟨⟩,⟨(z:Bool),(t:LI),⟨⟩⟩,⟨⟩⟩,⟨⟨⟨⟩,(v:Int),(e:Int),(f:Bool),⟨⟩⟩,⟨(b:LI),(m:Int),⟨⟩⟩,⟨⟩⟩⟩ out hw ho
 obtain ⟨hg,ho⟩:=Tr.guard ho
 obtain ⟨hg,ht⟩:=Bool.and_eq_true_iff.1 hg
 have ht:t.length≤2147483647:=of_decide_eq_true ht
 obtain ⟨rfl,hb⟩:=bK hg
 cases ho
 refine (ac3 z t v e f b 130048).trans ?_
 unfold Ho
 have g:(decide ((130048:Int)=130048)&&decide (b.length≤130048))=true:=by simpa using hb
 show _=oR ((),cV v (cE (z,(t,())) (e,f,b)))
 unfold cE
 rw[g]
 simp only[cond_true]
 cases z
 ·simp only[cond_false,Bool.false_eq_true,false_and,if_false]
  exact aaz t (aA (s:=(e,f,b)) _ 4 hb) (by omega)
 ·by_cases h:0<t.length
  ·rw[aa (by rfl),aa (by simpa using h),if_pos ⟨rfl,h⟩]
  ·rw[aa (by rfl),af (by simpa using h),if_neg (fun c=>h c.2),if_pos rfl]
   rfl
abbrev l9:Io:=⟨[dI],[],uM,[.ptr 0 0],none⟩
def aV (v:Int):Int:=if v<0∨3<v then 8 else 0
def AN (d:l9.In):Tr l9.Res:=.ret (.ret (((),()),cV d.1.1 (aV d.1.1,(false,([]:LI)))))
abbrev Z9:List (Nat×Hc):=[(46,ae qM Mn),(194,ae cT gq)]
def aiQ:Hd:=bM Z9
def abG:Lp:=bB []
def MH (a0:Int):Option l9.Res:=bif decide (a0<0) then oR (((),()),((),a0,8,false,()),([],130048,()),()) else bif decide (3<a0) then oR (((),()),((),a0,8,false,()),([],130048,()),()) else oR (((),()),((),a0,0,false,()),([],BH (BG 130048 0) 1048576,()),())
theorem agA (a0:Int):Io.run tt aiQ dr abG l9 Tryz.f93 ((a0,()),())=MH a0:=by kernel_rfl
theorem z7:HcOk prog 93 (ae l9 AN):=by
 refine cg (cs:=Z9) (.cons RU (.cons fD .nil)) (lp:=abG) (fn:=Tryz.f93) l9 (.done (by kernel_rfl)) AN ?_
 rintro ⟨⟨(v:Int),⟨⟩⟩,⟨⟩⟩ out hw ho
 cases ho
 refine (agA v).trans ?_
 unfold MH
 have e:BH (BG 130048 0) 1048576=130048:=by decide
 show _=oR (((),()),cV v (if v<0∨3<v then 8 else 0,(false,([]:LI))))
 by_cases h1:v<0
 ·rw[aa (by simpa using h1),if_pos (.inl h1)]
 ·rw[af (by simpa using h1)]
  by_cases h2:3<v
  ·rw[aa (by simpa using h2),if_pos (.inr h2)]
  ·rw[af (by simpa using h2),if_neg (by omega),e]
abbrev jF:Io:=⟨[.ptr 0 0],uM,[],[dO,dI],none⟩
def bm (s:bf):Int:=if s.1=0 then (if s.2.1=true then 4 else 0) else s.1
def bD (s:bf):LI:=if bm s=0 then s.2.2 else []
def rM (d:jF.In):Tr jF.Res:=.ite (gi d.2) (.ret (.ret ((bD (gj d.2),(bm (gj d.2),())),cV d.2.1.2.1 (bm (gj d.2),(d.2.1.2.2.2.1,d.2.2.1.1))))) .no
abbrev Um:List (Nat×Hc):=[(50,ae ko wT)]
def ae6:Hd:=bM Um
def Vm:Lp:=bB []
def Hp (a0 a1:Int)(a2:Bool)(a3:LI)(a4:Int):Option jF.Res:=bif a1 == 0 then bif a2 then oR (([],4,()),((),a0,4,a2,()),(a3,a4,()),()) else bif a1 != 0 then oR (([],a1,()),((),a0,a1,a2,()),(a3,a4,()),()) else bif decide (a3.length≤4294967296) then oR ((a3,0,()),((),a0,a1,a2,()),(a3,a4,()),()) else none else bif a1 != 0 then oR (([],a1,()),((),a0,a1,a2,()),(a3,a4,()),()) else bif decide (a3.length≤4294967296) then oR ((a3,0,()),((),a0,a1,a2,()),(a3,a4,()),()) else none
theorem ac4 (a0 a1:Int)(a2:Bool)(a3:LI)(a4:Int):Io.run tt ae6 dr Vm jF Tryz.f105 (((),()),((),a0,a1,a2,()),(a3,a4,()),())=Hp a0 a1 a2 a3 a4:=by kernel_rfl
theorem uq:HcOk prog 105 (ae jF rM):=by
 refine cg (cs:=Um) (.cons E0 .nil) (lp:=Vm) (fn:=Tryz.f105) jF (.done (by kernel_rfl)) rM ?_
 rintro ⟨⟨⟨⟩,⟨⟩⟩,⟨⟨⟨⟩,(v:Int),(e:Int),(f:Bool),⟨⟩⟩,⟨(b:LI),(m:Int),⟨⟩⟩,⟨⟩⟩⟩ out hw ho
 obtain ⟨hg,ho⟩:=Tr.guard ho
 obtain ⟨rfl,hb⟩:=bK hg
 cases ho
 refine (ac4 v e f b 130048).trans ?_
 unfold Hp
 unfold bD
 show _=oR (((if bm (e,f,b)=0 then b else []:LI),(bm (e,f,b),())),cV v (bm (e,f,b),(f,b)))
 have g:decide (b.length≤4294967296)=true:=by simp;omega
 unfold bm
 rw[g]
 simp only[cond_true]
 by_cases h:e=0
 ·subst h
  cases f
  ·rw[aa (by rfl),af (by rfl),af (by rfl)];rfl
  ·rw[aa (by rfl),aa (by rfl)];rfl
 ·rw[af (by simpa using h),aa (by simpa using h),if_neg h,if_neg h]
abbrev pE:List (List Sh):=[[.ptr 1 0,dI,dI],[dL,dI]]
abbrev BA:List (List Sh):=[[.nil,dI,dI]]
abbrev akd:List (List Sh):=[[.ptr 1 0,dI,dI],[dL,dI],[.ptr 0 0],[dI]]
abbrev ake:List (List Sh):=[[.ptr 2 0],[dI],[.ptr 3 0,dI,dI],[dL,dI]]
abbrev aD:Type:=Int×Int
abbrev cK (d:m7 pE):aD:=(d.1.2.2.1,d.2.1.2.1)
abbrev dM (v:Int)(b:LI)(s:aD):m7 pE:=(((),(v,(s.1,()))),((b,(s.2,())),()))
def al (b:LI)(p:Int):Bool:=decide (b.length≤130048)&&(decide (0≤p)&&decide (p≤(b.length:Int)))
abbrev py (d:m7 pE):Bool:=al d.2.1.1 d.2.1.2.1
def ab (k:IntKind)(n:Nat)(b:LI)(s:aD):Int×aD:=if s.1=0 then (k.wrap (an b s.2 n).1,((an b s.2 n).2.2,(an b s.2 n).2.1)) else (0,s)
def cx (b:LI)(n:Int)(s:aD):LI×aD:=if s.1=0 then (if n<0 then ([],(5,s.2)) else ((aT b s.2 n).1,((aT b s.2 n).2.2,(aT b s.2 n).2.1))) else ([],s)
def lz (n:Int)(s:aD):aD:=if 255<n then (4,s.2) else s
def dT (b:LI)(n:Int)(s:aD):LI×aD:=if (cC (cx b n (lz n s)).1).2=true then cx b n (lz n s) else ([],(6,(cx b n (lz n s)).2.2))
theorem sV {b:LI}{p:Int}(h:al b p=true):bP b p=true:=by
 simp only[al,bP,zA,zB] at h ⊢
 exact ⟨by omega,h.2⟩
theorem ag3 {b:LI}{p:Int}(n:Nat)(h:al b p=true):al b (an b p n).2.1=true:=by
 unfold an
 split
 ·exact h
 ·simp only[al,zA,zB] at h ⊢
  exact ⟨h.1,by omega,by omega⟩
theorem Te {b:LI}{p:Int}(n:Int)(h:al b p=true):al b (aT b p n).2.1=true:=by
 unfold aT
 split
 ·exact h
 ·split
  ·exact h
  ·simp only[al,zA,zB] at h ⊢
   exact ⟨h.1,by omega,by omega⟩
theorem aO {b:LI}{s:aD}(k:IntKind)(n:Nat)(h:al b s.2=true):al b (ab k n b s).2.2=true:=by
 unfold ab
 split
 ·exact ag3 n h
 ·exact h
theorem PV (b:LI)(n:Nat)(s:aD):i64.wrap (ab .i16 n b s).1=(ab .i16 n b s).1:=by
 unfold ab
 split
 ·have h:=fJ .i16 (an b s.2 n).1
  simp only[eD,IntKind.min,IntKind.max,IntKind.signed,IntKind.bits] at h
  exact aI (by simp at h;omega) (by simp at h;omega)
 ·rfl
theorem adV (b:LI)(n:Nat)(s:aD):i64.wrap (ab .i32 n b s).1=(ab .i32 n b s).1:=by
 unfold ab
 split
 ·have h:=fJ .i32 (an b s.2 n).1
  simp only[eD,IntKind.min,IntKind.max,IntKind.signed,IntKind.bits] at h
  exact aI (by simp at h;omega) (by simp at h;omega)
 ·rfl
theorem wk {b:LI}{s:aD}(n:Int)(h:al b s.2=true):al b (cx b n s).2.2=true:=by
 unfold cx
 split
 ·split
  ·exact h
  ·exact Te n h
 ·exact h
theorem Ft {b:LI}{s:aD}(n:Int)(h:al b s.2=true):al b (lz n s).2=true:=by
 unfold lz
 split <;> exact h
theorem SX {b:LI}{s:aD}(n:Int)(h:al b s.2=true):al b (dT b n s).2.2=true:=by
 unfold dT
 split
 ·exact wk n (Ft n h)
 ·exact wk n (Ft n h)
abbrev vM:Io:=⟨[.ptr 0 0,.fnc 136 true [1]],pE,[],[Ql],none⟩
def Zh (d:vM.In):Tr vM.Res:=.ite (py d.2) (.ret (.ret ((i16.wrap (an d.2.2.1.1 d.2.2.1.2.1 2).1,()),dM d.2.1.2.1 d.2.2.1.1 ((an d.2.2.1.1 d.2.2.1.2.1 2).2.2,(an d.2.2.1.1 d.2.2.1.2.1 2).2.1)))) .no
abbrev Z0:List (Nat×Hc):=[(136,ae mG Da)]
def aiH:Hd:=bM Z0
def abx:Lp:=bB []
def MB (a0 a1:Int)(a2:LI)(a3:Int):Option vM.Res:=bif bP a2 a3 then oR ((i16.wrap (an a2 a3 2).1,()),((),a0,(an a2 a3 2).2.2,()),(a2,(an a2 a3 2).2.1,()),()) else none
theorem agq (a0 a1:Int)(a2:LI)(a3:Int):Io.run tt aiH dr abx vM Tryz.f200 (((),(),()),((),a0,a1,()),(a2,a3,()),())=MB a0 a1 a2 a3:=by kernel_rfl
theorem ai6:HcOk prog 200 (ae vM Zh):=by
 refine cg (cs:=Z0) (.cons LH .nil) (lp:=abx) (fn:=Tryz.f200) vM (.done (by kernel_rfl)) Zh ?_
 rintro ⟨⟨⟨⟩,⟨⟩,⟨⟩⟩,⟨⟨⟩,(v:Int),(e:Int),⟨⟩⟩,⟨(b:LI),(p:Int),⟨⟩⟩,⟨⟩⟩ out hw ho
 obtain ⟨hg,ho⟩:=Tr.guard ho
 have hg:al b p=true:=hg
 cases ho
 refine (agq v e b p).trans ?_
 unfold MB
 exact aa (sV hg) _ _
abbrev vN:Io:=⟨[.ptr 0 0,.fnc 74 true [1]],pE,[],[Wy],none⟩
def Zi (d:vN.In):Tr vN.Res:=.ite (py d.2) (.ret (.ret ((i32.wrap (an d.2.2.1.1 d.2.2.1.2.1 4).1,()),dM d.2.1.2.1 d.2.2.1.1 ((an d.2.2.1.1 d.2.2.1.2.1 4).2.2,(an d.2.2.1.1 d.2.2.1.2.1 4).2.1)))) .no
abbrev Z1:List (Nat×Hc):=[(74,ae mH Db)]
def aiI:Hd:=bM Z1
def aby:Lp:=bB []
def MC (a0 a1:Int)(a2:LI)(a3:Int):Option vN.Res:=bif bP a2 a3 then oR ((i32.wrap (an a2 a3 4).1,()),((),a0,(an a2 a3 4).2.2,()),(a2,(an a2 a3 4).2.1,()),()) else none
theorem ags (a0 a1:Int)(a2:LI)(a3:Int):Io.run tt aiI dr aby vN Tryz.f201 (((),(),()),((),a0,a1,()),(a2,a3,()),())=MC a0 a1 a2 a3:=by kernel_rfl
theorem ai7:HcOk prog 201 (ae vN Zi):=by
 refine cg (cs:=Z1) (.cons LJ .nil) (lp:=aby) (fn:=Tryz.f201) vN (.done (by kernel_rfl)) Zi ?_
 rintro ⟨⟨⟨⟩,⟨⟩,⟨⟩⟩,⟨⟨⟩,(v:Int),(e:Int),⟨⟩⟩,⟨(b:LI),(p:Int),⟨⟩⟩,⟨⟩⟩ out hw ho
 obtain ⟨hg,ho⟩:=Tr.guard ho
 have hg:al b p=true:=hg
 cases ho
 refine (ags v e b p).trans ?_
 unfold MC
 exact aa (sV hg) _ _
abbrev vO:Io:=⟨[.ptr 0 0,.fnc 207 true [1]],pE,[],[Q2],none⟩
def Zj (d:vO.In):Tr vO.Res:=.ite (py d.2) (.ret (.ret ((i64.wrap (an d.2.2.1.1 d.2.2.1.2.1 8).1,()),dM d.2.1.2.1 d.2.2.1.1 ((an d.2.2.1.1 d.2.2.1.2.1 8).2.2,(an d.2.2.1.1 d.2.2.1.2.1 8).2.1)))) .no
abbrev Z2:List (Nat×Hc):=[(207,ae qG Qx)]
def aiJ:Hd:=bM Z2
def abz:Lp:=bB []
def MD (a0 a1:Int)(a2:LI)(a3:Int):Option vO.Res:=bif bP a2 a3 then oR ((i64.wrap (an a2 a3 8).1,()),((),a0,(an a2 a3 8).2.2,()),(a2,(an a2 a3 8).2.1,()),()) else none
theorem agt (a0 a1:Int)(a2:LI)(a3:Int):Io.run tt aiJ dr abz vO Tryz.f206 (((),(),()),((),a0,a1,()),(a2,a3,()),())=MD a0 a1 a2 a3:=by kernel_rfl
theorem ai8:HcOk prog 206 (ae vO Zj):=by
 refine cg (cs:=Z2) (.cons afW .nil) (lp:=abz) (fn:=Tryz.f206) vO (.done (by kernel_rfl)) Zj ?_
 rintro ⟨⟨⟨⟩,⟨⟩,⟨⟩⟩,⟨⟨⟩,(v:Int),(e:Int),⟨⟩⟩,⟨(b:LI),(p:Int),⟨⟩⟩,⟨⟩⟩ out hw ho
 obtain ⟨hg,ho⟩:=Tr.guard ho
 have hg:al b p=true:=hg
 cases ho
 refine (agt v e b p).trans ?_
 unfold MD
 exact aa (sV hg) _ _
abbrev Ew:Io:=⟨[.ptr 0 0,.ptr 1 0],ake,[],[dO,dI],none⟩
def aik (d:Ew.In):Tr Ew.Res:=.ite (al d.2.2.2.2.1.1 d.2.2.2.2.1.2.1) (.ret (.ret (((aT d.2.2.2.2.1.1 d.2.2.2.2.1.2.1 d.2.2.1.1).1,((aT d.2.2.2.2.1.1 d.2.2.2.2.1.2.1 d.2.2.1.1).2.2,())),(((),()),(d.2.2.1,(d.2.2.2.1,((d.2.2.2.2.1.1,((aT d.2.2.2.2.1.1 d.2.2.2.2.1.2.1 d.2.2.1.1).2.1,())),()))))))) .no
abbrev ahz:List (Nat×Hc):=[(63,ae jx tr)]
def aj7:Hd:=bM ahz
def ahT:Lp:=bB []
def T0 (a0 a1 a2:Int)(a3:LI)(a4:Int):Option Ew.Res:=bif bP a3 a4 then oR (((aT a3 a4 a0).1,(aT a3 a4 a0).2.2,()),((),()),(a0,()),((),a1,a2,()),(a3,(aT a3 a4 a0).2.1,()),()) else none
theorem ajn (a0 a1 a2:Int)(a3:LI)(a4:Int):Io.run tt aj7 dr ahT Ew Tryz.f214 (((),(),()),((),()),(a0,()),((),a1,a2,()),(a3,a4,()),())=T0 a0 a1 a2 a3 a4:=by kernel_rfl
theorem aki:HcOk prog 214 (ae Ew aik):=by
 refine cg (cs:=ahz) (.cons xZ .nil) (lp:=ahT) (fn:=Tryz.f214) Ew (.done (by kernel_rfl)) aik ?_
 rintro ⟨⟨⟨⟩,⟨⟩,⟨⟩⟩,⟨⟨⟩,⟨⟩⟩,⟨(n:Int),⟨⟩⟩,⟨⟨⟩,(v:Int),(e:Int),⟨⟩⟩,⟨(b:LI),(p:Int),⟨⟩⟩,⟨⟩⟩ out hw ho
 obtain ⟨hg,ho⟩:=Tr.guard ho
 have hg:al b p=true:=hg
 cases ho
 refine (ajn n v e b p).trans ?_
 unfold T0
 exact aa (sV hg) _ _
abbrev Eu:Io:=⟨[.ptr 0 0,.fnc 214 false [2,3]],akd,[],[dO],none⟩
def aii (d:Eu.In):Tr Eu.Res:=.ite (al d.2.2.1.1 d.2.2.1.2.1) (.ret (.ret (((aT d.2.2.1.1 d.2.2.1.2.1 d.2.2.2.2.1.1).1,()),(((),(d.2.1.2.1,((aT d.2.2.1.1 d.2.2.1.2.1 d.2.2.2.2.1.1).2.2,()))),((d.2.2.1.1,((aT d.2.2.1.1 d.2.2.1.2.1 d.2.2.2.2.1.1).2.1,())),(((),()),(d.2.2.2.2.1,()))))))) .no
abbrev ahx:List (Nat×Hc):=[(214,ae Ew aik)]
def aj6:Hd:=bM ahx
def ahS:Lp:=bB []
def TY (a0 a1:Int)(a2:LI)(a3 a4:Int):Option Eu.Res:=bif al a2 a3 then oR (((aT a2 a3 a4).1,()),((),a0,(aT a2 a3 a4).2.2,()),(a2,(aT a2 a3 a4).2.1,()),((),()),(a4,()),()) else none
theorem ajl (a0 a1:Int)(a2:LI)(a3 a4:Int):Io.run tt aj6 dr ahS Eu Tryz.f213 (((),(),()),((),a0,a1,()),(a2,a3,()),((),()),(a4,()),())=TY a0 a1 a2 a3 a4:=by kernel_rfl
theorem akg:HcOk prog 213 (ae Eu aii):=by
 refine cg (cs:=ahx) (.cons aki .nil) (lp:=ahS) (fn:=Tryz.f213) Eu (.done (by kernel_rfl)) aii ?_
 rintro ⟨⟨⟨⟩,⟨⟩,⟨⟩⟩,⟨⟨⟩,(v:Int),(e:Int),⟨⟩⟩,⟨(b:LI),(p:Int),⟨⟩⟩,⟨⟨⟩,⟨⟩⟩,⟨(n:Int),⟨⟩⟩,⟨⟩⟩ out hw ho
 obtain ⟨hg,ho⟩:=Tr.guard ho
 have hg:al b p=true:=hg
 cases ho
 refine (ajl v e b p n).trans ?_
 unfold TY
 exact aa hg _ _
abbrev lX:Io:=⟨[.ptr 0 0],pE,[],[Ql],none⟩
def AD (d:lX.In):Tr lX.Res:=.ite (py d.2) (.ret (.ret (((ab .i16 2 d.2.2.1.1 (cK d.2)).1,()),dM d.2.1.2.1 d.2.2.1.1 (ab .i16 2 d.2.2.1.1 (cK d.2)).2))) .no
abbrev ZW:List (Nat×Hc):=[(200,ae vM Zh)]
def aiD:Hd:=bM ZW
def abt:Lp:=bB []
def Mx (a0 a1:Int)(a2:LI)(a3:Int):Option lX.Res:=bif a1 != 0 then oR ((0,()),((),a0,a1,()),(a2,a3,()),()) else bif al a2 a3 then oR ((i16.wrap (an a2 a3 2).1,()),((),a0,(an a2 a3 2).2.2,()),(a2,(an a2 a3 2).2.1,()),()) else none
theorem agm (a0 a1:Int)(a2:LI)(a3:Int):Io.run tt aiD dr abt lX Tryz.f142 (((),()),((),a0,a1,()),(a2,a3,()),())=Mx a0 a1 a2 a3:=by kernel_rfl
theorem zY:HcOk prog 142 (ae lX AD):=by
 refine cg (cs:=ZW) (.cons ai6 .nil) (lp:=abt) (fn:=Tryz.f142) lX (.done (by kernel_rfl)) AD ?_
 rintro ⟨⟨⟨⟩,⟨⟩⟩,⟨⟨⟩,(v:Int),(e:Int),⟨⟩⟩,⟨(b:LI),(p:Int),⟨⟩⟩,⟨⟩⟩ out hw ho
 obtain ⟨hg,ho⟩:=Tr.guard ho
 have hg:al b p=true:=hg
 cases ho
 refine (agm v e b p).trans ?_
 unfold Mx
 show _=oR (((ab .i16 2 b (e,p)).1,()),dM v b (ab .i16 2 b (e,p)).2)
 unfold ab
 by_cases h:e=0
 ·rw[if_pos h]
  refine bF (by simpa using h) ?_
  exact aa hg _ _
 ·rw[if_neg h]
  exact aa (by simpa using h) _ _
abbrev cB:Io:=⟨[.ptr 0 0],pE,[],[Wy],none⟩
def ew (d:cB.In):Tr cB.Res:=.ite (py d.2) (.ret (.ret (((ab .i32 4 d.2.2.1.1 (cK d.2)).1,()),dM d.2.1.2.1 d.2.2.1.1 (ab .i32 4 d.2.2.1.1 (cK d.2)).2))) .no
abbrev ZX:List (Nat×Hc):=[(201,ae vN Zi)]
def aiE:Hd:=bM ZX
def abu:Lp:=bB []
def My (a0 a1:Int)(a2:LI)(a3:Int):Option cB.Res:=bif a1 != 0 then oR ((0,()),((),a0,a1,()),(a2,a3,()),()) else bif al a2 a3 then oR ((i32.wrap (an a2 a3 4).1,()),((),a0,(an a2 a3 4).2.2,()),(a2,(an a2 a3 4).2.1,()),()) else none
theorem agn (a0 a1:Int)(a2:LI)(a3:Int):Io.run tt aiE dr abu cB Tryz.f143 (((),()),((),a0,a1,()),(a2,a3,()),())=My a0 a1 a2 a3:=by kernel_rfl
theorem cY:HcOk prog 143 (ae cB ew):=by
 refine cg (cs:=ZX) (.cons ai7 .nil) (lp:=abu) (fn:=Tryz.f143) cB (.done (by kernel_rfl)) ew ?_
 rintro ⟨⟨⟨⟩,⟨⟩⟩,⟨⟨⟩,(v:Int),(e:Int),⟨⟩⟩,⟨(b:LI),(p:Int),⟨⟩⟩,⟨⟩⟩ out hw ho
 obtain ⟨hg,ho⟩:=Tr.guard ho
 have hg:al b p=true:=hg
 cases ho
 refine (agn v e b p).trans ?_
 unfold My
 show _=oR (((ab .i32 4 b (e,p)).1,()),dM v b (ab .i32 4 b (e,p)).2)
 unfold ab
 by_cases h:e=0
 ·rw[if_pos h]
  refine bF (by simpa using h) ?_
  exact aa hg _ _
 ·rw[if_neg h]
  exact aa (by simpa using h) _ _
abbrev lY:Io:=⟨[.ptr 0 0],pE,[],[Q2],none⟩
def AE (d:lY.In):Tr lY.Res:=.ite (py d.2) (.ret (.ret (((ab .i64 8 d.2.2.1.1 (cK d.2)).1,()),dM d.2.1.2.1 d.2.2.1.1 (ab .i64 8 d.2.2.1.1 (cK d.2)).2))) .no
abbrev ZY:List (Nat×Hc):=[(206,ae vO Zj)]
def aiF:Hd:=bM ZY
def abv:Lp:=bB []
def Mz (a0 a1:Int)(a2:LI)(a3:Int):Option lY.Res:=bif a1 != 0 then oR ((0,()),((),a0,a1,()),(a2,a3,()),()) else bif al a2 a3 then oR ((i64.wrap (an a2 a3 8).1,()),((),a0,(an a2 a3 8).2.2,()),(a2,(an a2 a3 8).2.1,()),()) else none
theorem ago (a0 a1:Int)(a2:LI)(a3:Int):Io.run tt aiF dr abv lY Tryz.f156 (((),()),((),a0,a1,()),(a2,a3,()),())=Mz a0 a1 a2 a3:=by kernel_rfl
theorem zZ:HcOk prog 156 (ae lY AE):=by
 refine cg (cs:=ZY) (.cons ai8 .nil) (lp:=abv) (fn:=Tryz.f156) lY (.done (by kernel_rfl)) AE ?_
 rintro ⟨⟨⟨⟩,⟨⟩⟩,⟨⟨⟩,(v:Int),(e:Int),⟨⟩⟩,⟨(b:LI),(p:Int),⟨⟩⟩,⟨⟩⟩ out hw ho
 obtain ⟨hg,ho⟩:=Tr.guard ho
 have hg:al b p=true:=hg
 cases ho
 refine (ago v e b p).trans ?_
 unfold Mz
 show _=oR (((ab .i64 8 b (e,p)).1,()),dM v b (ab .i64 8 b (e,p)).2)
 unfold ab
 by_cases h:e=0
 ·rw[if_pos h]
  refine bF (by simpa using h) ?_
  exact aa hg _ _
 ·rw[if_neg h]
  exact aa (by simpa using h) _ _
abbrev mB:Io:=⟨[.ptr 0 0,dI],pE,[],[dO],none⟩
def CT (d:mB.In):Tr mB.Res:=.ite (py d.2) (.ret (.ret (((cx d.2.2.1.1 d.1.2.1 (cK d.2)).1,()),dM d.2.1.2.1 d.2.2.1.1 (cx d.2.2.1.1 d.1.2.1 (cK d.2)).2))) .no
abbrev Uj:List (Nat×Hc):=[(213,ae Eu aii)]
def ae3:Hd:=bM Uj
def Vj:Lp:=bB []
def Hm (a0 a1 a2:Int)(a3:LI)(a4:Int):Option mB.Res:=bif a2 == 0 then bif decide (a0<0) then oR (([],()),((),a1,5,()),(a3,a4,()),()) else bif a2 != 0 then oR (([],()),((),a1,a2,()),(a3,a4,()),()) else bif al a3 a4 then oR (((aT a3 a4 a0).1,()),((),a1,(aT a3 a4 a0).2.2,()),(a3,(aT a3 a4 a0).2.1,()),()) else none else bif a2 != 0 then oR (([],()),((),a1,a2,()),(a3,a4,()),()) else bif al a3 a4 then oR (((aT a3 a4 a0).1,()),((),a1,(aT a3 a4 a0).2.2,()),(a3,(aT a3 a4 a0).2.1,()),()) else none
theorem ac1 (a0 a1 a2:Int)(a3:LI)(a4:Int):Io.run tt ae3 dr Vj mB Tryz.f202 (((),a0,()),((),a1,a2,()),(a3,a4,()),())=Hm a0 a1 a2 a3 a4:=by kernel_rfl
theorem LB:HcOk prog 202 (ae mB CT):=by
 refine cg (cs:=Uj) (.cons akg .nil) (lp:=Vj) (fn:=Tryz.f202) mB (.done (by kernel_rfl)) CT ?_
 rintro ⟨⟨⟨⟩,(n:Int),⟨⟩⟩,⟨⟨⟩,(v:Int),(e:Int),⟨⟩⟩,⟨(b:LI),(p:Int),⟨⟩⟩,⟨⟩⟩ out hw ho
 obtain ⟨hg,ho⟩:=Tr.guard ho
 have hg:al b p=true:=hg
 cases ho
 refine (ac1 n v e b p).trans ?_
 unfold Hm
 show _=oR (((cx b n (e,p)).1,()),dM v b (cx b n (e,p)).2)
 unfold cx
 by_cases h:e=0
 ·rw[if_pos h]
  refine bT (by simpa using h) ?_
  by_cases h2:n<0
  ·rw[if_pos h2]
   exact aa (by simpa using h2) _ _
  ·rw[if_neg h2]
   refine bF (by simpa using h2) ?_
   refine bF (by simpa using h) ?_
   exact aa hg _ _
 ·rw[if_neg h]
  refine bF (by simpa using h) ?_
  exact aa (by simpa using h) _ _
abbrev mA:Io:=⟨[.ptr 0 0],BA,[],[Ql],none⟩
def CS (d:mA.In):Tr mA.Res:=.ite (decide (d.2.1.2.2.1≠0)) (.ret (.ret ((0,()),d.2))) .no
abbrev Uf:List (Nat×Hc):=[]
def aeZ:Hd:=bM Uf
def Ve:Lp:=bB []
def Hi (a0 a1:Int):Option mA.Res:=bif a1 != 0 then oR ((0,()),((),a0,a1,()),()) else none
theorem acX (a0 a1:Int):Io.run tt aeZ dr Ve mA Tryz.f142 (((),()),((),a0,a1,()),())=Hi a0 a1:=by kernel_rfl
theorem LA:HcOk prog 142 (ae mA CS):=by
 refine cg (cs:=Uf) HcsOk.nil (lp:=Ve) (fn:=Tryz.f142) mA (.done (by kernel_rfl)) CS ?_
 rintro ⟨⟨⟨⟩,⟨⟩⟩,⟨⟨⟩,(v:Int),(e:Int),⟨⟩⟩,⟨⟩⟩ out hw ho
 obtain ⟨hg,ho⟩:=Tr.guard ho
 have hg:e≠0:=of_decide_eq_true hg
 cases ho
 refine (acX v e).trans ?_
 unfold Hi
 exact aa (by simpa using hg) _ _
abbrev eM:Io:=⟨[.ptr 0 0],BA,[],[Wy],none⟩
def jO (d:eM.In):Tr eM.Res:=.ite (decide (d.2.1.2.2.1≠0)) (.ret (.ret ((0,()),d.2))) .no
abbrev Ug:List (Nat×Hc):=[]
def ae0:Hd:=bM Ug
def Vf:Lp:=bB []
def Hj (a0 a1:Int):Option eM.Res:=bif a1 != 0 then oR ((0,()),((),a0,a1,()),()) else none
theorem acY (a0 a1:Int):Io.run tt ae0 dr Vf eM Tryz.f143 (((),()),((),a0,a1,()),())=Hj a0 a1:=by kernel_rfl
theorem jj:HcOk prog 143 (ae eM jO):=by
 refine cg (cs:=Ug) HcsOk.nil (lp:=Vf) (fn:=Tryz.f143) eM (.done (by kernel_rfl)) jO ?_
 rintro ⟨⟨⟨⟩,⟨⟩⟩,⟨⟨⟩,(v:Int),(e:Int),⟨⟩⟩,⟨⟩⟩ out hw ho
 obtain ⟨hg,ho⟩:=Tr.guard ho
 have hg:e≠0:=of_decide_eq_true hg
 cases ho
 refine (acY v e).trans ?_
 unfold Hj
 exact aa (by simpa using hg) _ _
abbrev kj:Io:=⟨[.ptr 0 0,dI],BA,[],[dO],none⟩
def wF (d:kj.In):Tr kj.Res:=.ite (decide (d.2.1.2.2.1≠0)) (.ret (.ret ((([]:LI),()),d.2))) .no
abbrev M5:List (Nat×Hc):=[]
def aaM:Hd:=bM M5
def Om:Lp:=bB []
def Do (a0 a1 a2:Int):Option kj.Res:=bif a2 == 0 then bif decide (a0<0) then oR (([],()),((),a1,5,()),()) else bif a2 != 0 then oR (([],()),((),a1,a2,()),()) else none else bif a2 != 0 then oR (([],()),((),a1,a2,()),()) else none
theorem XQ (a0 a1 a2:Int):Io.run tt aaM dr Om kj Tryz.f202 (((),a0,()),((),a1,a2,()),())=Do a0 a1 a2:=by kernel_rfl
theorem EX:HcOk prog 202 (ae kj wF):=by
 refine cg (cs:=M5) HcsOk.nil (lp:=Om) (fn:=Tryz.f202) kj (.done (by kernel_rfl)) wF ?_
 rintro ⟨⟨⟨⟩,(n:Int),⟨⟩⟩,⟨⟨⟩,(v:Int),(e:Int),⟨⟩⟩,⟨⟩⟩ out hw ho
 obtain ⟨hg,ho⟩:=Tr.guard ho
 have hg:e≠0:=of_decide_eq_true hg
 cases ho
 refine (XQ n v e).trans ?_
 unfold Do
 refine bF (by simpa using hg) ?_
 exact aa (by simpa using hg) _ _
abbrev oC:Io:=⟨[.ptr 0 0,dI],pE,[],[.dat .str false false],none⟩
def JV (d:oC.In):Tr oC.Res:=.ite (py d.2) (.ret (.ret (((dT d.2.2.1.1 d.1.2.1 (cK d.2)).1,()),dM d.2.1.2.1 d.2.2.1.1 (dT d.2.2.1.1 d.1.2.1 (cK d.2)).2))) .no
abbrev Uk:List (Nat×Hc):=[(202,eX di (ae kj wF) (ae mB CT)),(92,ae pc GV)]
def ae4:Hd:=bM Uk
def Vk:Lp:=bB []
def Hn (a0 a1 a2:Int)(a3:LI)(a4:Int):Option oC.Res:=bif decide (255<a0) then bif al a3 a4 then oR (([],()),((),a1,4,()),(a3,a4,()),()) else none else bif al a3 a4 then bif !(cC (cx a3 a0 (a2,a4)).1).2 then oR ((List.map (fun (c:UInt8)=>(↑c.toNat:Int)) [],()),((),a1,6,()),(a3,(cx a3 a0 (a2,a4)).2.2,()),()) else oR (((cx a3 a0 (a2,a4)).1,()),((),a1,(cx a3 a0 (a2,a4)).2.1,()),(a3,(cx a3 a0 (a2,a4)).2.2,()),()) else none
theorem ac2 (a0 a1 a2:Int)(a3:LI)(a4:Int):Io.run tt ae4 dr Vk oC Tryz.f199 (((),a0,()),((),a1,a2,()),(a3,a4,()),())=Hn a0 a1 a2 a3 a4:=by kernel_rfl
theorem VQ:HcOk prog 199 (ae oC JV):=by
 refine cg (cs:=Uk) (.cons (bb EX LB) (.cons LG .nil)) (lp:=Vk) (fn:=Tryz.f199) oC (.done (by kernel_rfl)) JV ?_
 rintro ⟨⟨⟨⟩,(n:Int),⟨⟩⟩,⟨⟨⟩,(v:Int),(e:Int),⟨⟩⟩,⟨(b:LI),(p:Int),⟨⟩⟩,⟨⟩⟩ out hw ho
 obtain ⟨hg,ho⟩:=Tr.guard ho
 have hg:al b p=true:=hg
 cases ho
 refine (ac2 n v e b p).trans ?_
 unfold Hn
 show _=oR (((dT b n (e,p)).1,()),dM v b (dT b n (e,p)).2)
 unfold dT lz
 by_cases h:255<n
 ·rw[if_pos h]
  refine bT (by simpa using h) ?_
  refine (aa hg _ _).trans ?_
  have e1:cx b n (4,p)=([],(4,p)):=rfl
  rw[e1,if_pos (by rfl)]
 ·rw[if_neg h]
  refine bF (by simpa using h) ?_
  refine (aa hg _ _).trans ?_
  cases hu:(cC (cx b n (e,p)).1).2
  ·rw[if_neg (by simp)]
   rfl
  ·rw[if_pos rfl]
   rfl
abbrev lH:Io:=⟨[.ptr 0 0,dI],BA,[],[.dat .str false false],none⟩
def Cj (d:lH.In):Tr lH.Res:=.ite (decide (d.2.1.2.2.1≠0)&&decide (d.1.2.1≤255)) (.ret (.ret ((([]:LI),()),d.2))) .no
abbrev M6:List (Nat×Hc):=[(202,eX di (ae kj wF) (ae mB CT)),(92,ae pc GV)]
def aaN:Hd:=bM M6
def On:Lp:=bB []
def Dp (a0 a1 a2:Int):Option lH.Res:=bif decide (255<a0) then oR (([],()),((),a1,4,()),()) else bif decide (a2≠0) then oR (([],()),((),a1,a2,()),()) else none
theorem XR (a0 a1 a2:Int):Io.run tt aaN dr On lH Tryz.f199 (((),a0,()),((),a1,a2,()),())=Dp a0 a1 a2:=by kernel_rfl
theorem OT:HcOk prog 199 (ae lH Cj):=by
 refine cg (cs:=M6) (.cons (bb EX LB) (.cons LG .nil)) (lp:=On) (fn:=Tryz.f199) lH (.done (by kernel_rfl)) Cj ?_
 rintro ⟨⟨⟨⟩,(n:Int),⟨⟩⟩,⟨⟨⟩,(v:Int),(e:Int),⟨⟩⟩,⟨⟩⟩ out hw ho
 obtain ⟨hg,ho⟩:=Tr.guard ho
 obtain ⟨hg,h2⟩:=Bool.and_eq_true_iff.1 hg
 have hg:e≠0:=of_decide_eq_true hg
 have h2:n≤255:=of_decide_eq_true h2
 cases ho
 refine (XR n v e).trans ?_
 unfold Dp
 refine bF (by simp;omega) ?_
 exact aa (by simpa using hg) _ _
def bi (b:LI)(s:aD):LI×aD:=dT b (ab .i16 2 b s).1 (ab .i16 2 b s).2
abbrev l6:Io:=⟨[.ptr 0 0],pE,[],[.dat .str false false],none⟩
def AG (d:l6.In):Tr l6.Res:=.ite (py d.2) (.ret (.ret (((bi d.2.2.1.1 (cK d.2)).1,()),dM d.2.1.2.1 d.2.2.1.1 (bi d.2.2.1.1 (cK d.2)).2))) .no
abbrev Z4:List (Nat×Hc):=[(142,eX di (ae mA CS) (ae lX AD)),(199,eX di (ae lH Cj) (ae oC JV))]
def aiL:Hd:=bM Z4
def abB:Lp:=bB []
def MF (a0 a1:Int)(a2:LI)(a3:Int):Option l6.Res:=bif al a2 a3 then bif al a2 (ab i16 2 a2 (a1,a3)).2.2 then oR (((dT a2 (i64.wrap (ab i16 2 a2 (a1,a3)).1) (ab i16 2 a2 (a1,a3)).2).1,()),((),a0,(dT a2 (i64.wrap (ab i16 2 a2 (a1,a3)).1) (ab i16 2 a2 (a1,a3)).2).2.1,()),(a2,(dT a2 (i64.wrap (ab i16 2 a2 (a1,a3)).1) (ab i16 2 a2 (a1,a3)).2).2.2,()),()) else none else none
theorem agv (a0 a1:Int)(a2:LI)(a3:Int):Io.run tt aiL dr abB l6 Tryz.f146 (((),()),((),a0,a1,()),(a2,a3,()),())=MF a0 a1 a2 a3:=by kernel_rfl
theorem z4:HcOk prog 146 (ae l6 AG):=by
 refine cg (cs:=Z4) (.cons (bb LA zY) (.cons (bb OT VQ) .nil)) (lp:=abB) (fn:=Tryz.f146) l6 (.done (by kernel_rfl)) AG ?_
 rintro ⟨⟨⟨⟩,⟨⟩⟩,⟨⟨⟩,(v:Int),(e:Int),⟨⟩⟩,⟨(b:LI),(p:Int),⟨⟩⟩,⟨⟩⟩ out hw ho
 obtain ⟨hg,ho⟩:=Tr.guard ho
 have hg:al b p=true:=hg
 cases ho
 refine (agv v e b p).trans ?_
 unfold MF
 show _=oR (((bi b (e,p)).1,()),dM v b (bi b (e,p)).2)
 rw[PV]
 refine (aa hg _ _).trans ?_
 exact aa (aO .i16 2 (s:=(e,p)) hg) _ _
def dR (b:LI)(s:aD):fv.den×aD:=if (ab .i16 2 b s).1 = -1 then ((true,(([]:LI),())),(ab .i16 2 b s).2) else ((false,((bi b s).1,())),(bi b s).2)
abbrev qm:Io:=⟨[.ptr 0 0],pE,[],[yW],none⟩
def Qo (d:qm.In):Tr qm.Res:=.ite (py d.2) (.ret (.ret (((dR d.2.2.1.1 (cK d.2)).1,()),dM d.2.1.2.1 d.2.2.1.1 (dR d.2.2.1.1 (cK d.2)).2))) .no
abbrev Uh:List (Nat×Hc):=[(142,eX di (ae mA CS) (ae lX AD)),(199,eX di (ae lH Cj) (ae oC JV))]
def ae1:Hd:=bM Uh
def Vg:Lp:=bB []
def Hk (a0 a1:Int)(a2:LI)(a3:Int):Option qm.Res:=bif al a2 a3 then bif (ab i16 2 a2 (a1,a3)).1 == -1 then oR (((true,List.map (fun (c:UInt8)=>(↑c.toNat:Int)) [],()),()),((),a0,(ab i16 2 a2 (a1,a3)).2.1,()),(a2,(ab i16 2 a2 (a1,a3)).2.2,()),()) else bif al a2 (ab i16 2 a2 (a1,a3)).2.2 then oR (((false,(dT a2 (i64.wrap (ab i16 2 a2 (a1,a3)).1) (ab i16 2 a2 (a1,a3)).2).1,()),()),((),a0,(dT a2 (i64.wrap (ab i16 2 a2 (a1,a3)).1) (ab i16 2 a2 (a1,a3)).2).2.1,()),(a2,(dT a2 (i64.wrap (ab i16 2 a2 (a1,a3)).1) (ab i16 2 a2 (a1,a3)).2).2.2,()),()) else none else none
theorem acZ (a0 a1:Int)(a2:LI)(a3:Int):Io.run tt ae1 dr Vg qm Tryz.f141 (((),()),((),a0,a1,()),(a2,a3,()),())=Hk a0 a1 a2 a3:=by kernel_rfl
theorem afI:HcOk prog 141 (ae qm Qo):=by
 refine cg (cs:=Uh) (.cons (bb LA zY) (.cons (bb OT VQ) .nil)) (lp:=Vg) (fn:=Tryz.f141) qm (.done (by kernel_rfl)) Qo ?_
 rintro ⟨⟨⟨⟩,⟨⟩⟩,⟨⟨⟩,(v:Int),(e:Int),⟨⟩⟩,⟨(b:LI),(p:Int),⟨⟩⟩,⟨⟩⟩ out hw ho
 obtain ⟨hg,ho⟩:=Tr.guard ho
 have hg:al b p=true:=hg
 cases ho
 refine (acZ v e b p).trans ?_
 unfold Hk
 show _=oR (((dR b (e,p)).1,()),dM v b (dR b (e,p)).2)
 rw[PV]
 refine (aa hg _ _).trans ?_
 unfold dR bi
 by_cases h:(ab .i16 2 b (e,p)).1 = -1
 ·rw[if_pos h]
  exact aa (by simpa using h) _ _
 ·rw[if_neg h]
  refine bF (by simpa using h) ?_
  exact aa (aO .i16 2 (s:=(e,p)) hg) _ _
def cm (b:LI)(s:aD):rB.den×aD:=if (ab .i32 4 b s).1 = -1 then ((true,(([]:LI),())),(ab .i32 4 b s).2) else ((false,((cx b (ab .i32 4 b s).1 (ab .i32 4 b s).2).1,())),(cx b (ab .i32 4 b s).1 (ab .i32 4 b s).2).2)
abbrev oB:Io:=⟨[.ptr 0 0],pE,[],[KA],none⟩
def JU (d:oB.In):Tr oB.Res:=.ite (py d.2) (.ret (.ret (((cm d.2.2.1.1 (cK d.2)).1,()),dM d.2.1.2.1 d.2.2.1.1 (cm d.2.2.1.1 (cK d.2)).2))) .no
abbrev Uc:List (Nat×Hc):=[(143,eX di (ae eM jO) (ae cB ew)),(202,eX di (ae kj wF) (ae mB CT))]
def aeW:Hd:=bM Uc
def Vb:Lp:=bB []
def Hf (a0 a1:Int)(a2:LI)(a3:Int):Option oB.Res:=bif al a2 a3 then bif (ab i32 4 a2 (a1,a3)).1 == -1 then oR (((true,[],()),()),((),a0,(ab i32 4 a2 (a1,a3)).2.1,()),(a2,(ab i32 4 a2 (a1,a3)).2.2,()),()) else bif al a2 (ab i32 4 a2 (a1,a3)).2.2 then oR (((false,(cx a2 (i64.wrap (ab i32 4 a2 (a1,a3)).1) (ab i32 4 a2 (a1,a3)).2).1,()),()),((),a0,(cx a2 (i64.wrap (ab i32 4 a2 (a1,a3)).1) (ab i32 4 a2 (a1,a3)).2).2.1,()),(a2,(cx a2 (i64.wrap (ab i32 4 a2 (a1,a3)).1) (ab i32 4 a2 (a1,a3)).2).2.2,()),()) else none else none
theorem acU (a0 a1:Int)(a2:LI)(a3:Int):Io.run tt aeW dr Vb oB Tryz.f149 (((),()),((),a0,a1,()),(a2,a3,()),())=Hf a0 a1 a2 a3:=by kernel_rfl
theorem VP:HcOk prog 149 (ae oB JU):=by
 refine cg (cs:=Uc) (.cons (bb jj cY) (.cons (bb EX LB) .nil)) (lp:=Vb) (fn:=Tryz.f149) oB (.done (by kernel_rfl)) JU ?_
 rintro ⟨⟨⟨⟩,⟨⟩⟩,⟨⟨⟩,(v:Int),(e:Int),⟨⟩⟩,⟨(b:LI),(p:Int),⟨⟩⟩,⟨⟩⟩ out hw ho
 obtain ⟨hg,ho⟩:=Tr.guard ho
 have hg:al b p=true:=hg
 cases ho
 refine (acU v e b p).trans ?_
 unfold Hf
 show _=oR (((cm b (e,p)).1,()),dM v b (cm b (e,p)).2)
 rw[adV]
 refine (aa hg _ _).trans ?_
 unfold cm
 by_cases h:(ab .i32 4 b (e,p)).1 = -1
 ·rw[if_pos h]
  exact aa (by simpa using h) _ _
 ·rw[if_neg h]
  refine bF (by simpa using h) ?_
  exact aa (aO .i32 4 (s:=(e,p)) hg) _ _
def aQ (v lo hi e:Int):Bool:=if e=0∧lo≤v∧v≤hi then true else false
abbrev iI:Io:=⟨[.ptr 0 0,dI,dI],pE,[],[dB],none⟩
def pq (d:iI.In):Tr iI.Res:=.ret (.ret ((aQ d.2.1.2.1 d.1.2.1 d.1.2.2.1 d.2.1.2.2.1,()),d.2))
abbrev ZV:List (Nat×Hc):=[]
def aiC:Hd:=bM ZV
def abs:Lp:=bB []
def Mw (a0 a1 a2 a3:Int)(a4:LI)(a5:Int):Option iI.Res:=bif a3 == 0 then bif decide (a0≤a2) then oR ((decide (a2≤a1),()),((),a2,a3,()),(a4,a5,()),()) else oR ((false,()),((),a2,a3,()),(a4,a5,()),()) else oR ((false,()),((),a2,a3,()),(a4,a5,()),())
theorem agl (a0 a1 a2 a3:Int)(a4:LI)(a5:Int):Io.run tt aiC dr abs iI Tryz.f140 (((),a0,a1,()),((),a2,a3,()),(a4,a5,()),())=Mw a0 a1 a2 a3 a4 a5:=by kernel_rfl
theorem nG:HcOk prog 140 (ae iI pq):=by
 refine cg (cs:=ZV) HcsOk.nil (lp:=abs) (fn:=Tryz.f140) iI (.done (by kernel_rfl)) pq ?_
 rintro ⟨⟨⟨⟩,(lo:Int),(hi:Int),⟨⟩⟩,⟨⟨⟩,(v:Int),(e:Int),⟨⟩⟩,⟨(b:LI),(p:Int),⟨⟩⟩,⟨⟩⟩ out hw ho
 cases ho
 refine (agl lo hi v e b p).trans ?_
 unfold Mw
 show _=oR ((aQ v lo hi e,()),dM v b (e,p))
 have hs:aQ v lo hi e=((e == 0)&&(decide (lo≤v)&&decide (v≤hi))):=by
  unfold aQ
  by_cases h:e=0∧lo≤v∧v≤hi
  ·rw[if_pos h];simp[h]
  ·rw[if_neg h]
   rw[eq_comm,Bool.eq_false_iff]
   intro h'
   simp only[zA,beq_iff_eq,zB] at h'
   exact h h'
 rw[hs]
 cases e == 0
 ·rfl
 ·cases decide (lo≤v) <;> rfl
abbrev jD:Io:=⟨[.ptr 0 0,dI,dI],BA,[],[dB],none⟩
def rL (d:jD.In):Tr jD.Res:=.ite (decide (d.2.1.2.2.1≠0)) (.ret (.ret ((false,()),d.2))) .no
abbrev Ue:List (Nat×Hc):=[]
def aeY:Hd:=bM Ue
def Vd:Lp:=bB []
def Hh (a0 a1 a2 a3:Int):Option jD.Res:=bif a3 == 0 then bif decide (a0≤a2) then oR ((decide (a2≤a1),()),((),a2,a3,()),()) else oR ((false,()),((),a2,a3,()),()) else oR ((false,()),((),a2,a3,()),())
theorem acW (a0 a1 a2 a3:Int):Io.run tt aeY dr Vd jD Tryz.f140 (((),a0,a1,()),((),a2,a3,()),())=Hh a0 a1 a2 a3:=by kernel_rfl
theorem uo:HcOk prog 140 (ae jD rL):=by
 refine cg (cs:=Ue) HcsOk.nil (lp:=Vd) (fn:=Tryz.f140) jD (.done (by kernel_rfl)) rL ?_
 rintro ⟨⟨⟨⟩,(lo:Int),(hi:Int),⟨⟩⟩,⟨⟨⟩,(v:Int),(e:Int),⟨⟩⟩,⟨⟩⟩ out hw ho
 obtain ⟨hg,ho⟩:=Tr.guard ho
 have hg:e≠0:=of_decide_eq_true hg
 cases ho
 refine (acW lo hi v e).trans ?_
 unfold Hh
 exact af (by simpa using hg) _ _
def aE (b:LI)(s:aD):Int:=if s.1=0 then sQ b s.2 else s.1
abbrev lW:Io:=⟨[.ptr 0 0],pE,[],[dI],none⟩
def AC (d:lW.In):Tr lW.Res:=.ret (.ret ((aE d.2.2.1.1 (cK d.2),()),(((),(d.2.1.2.1,(aE d.2.2.1.1 (cK d.2),()))),d.2.2)))
abbrev ZU:List (Nat×Hc):=[(203,ae oJ J8)]
def aiB:Hd:=bM ZU
def abr:Lp:=bB []
def Mv (a0 a1:Int)(a2:LI)(a3:Int):Option lW.Res:=bif a1 == 0 then oR ((sQ a2 a3,()),((),a0,sQ a2 a3,()),(a2,a3,()),()) else oR ((a1,()),((),a0,a1,()),(a2,a3,()),())
theorem agk (a0 a1:Int)(a2:LI)(a3:Int):Io.run tt aiB dr abr lW Tryz.f150 (((),()),((),a0,a1,()),(a2,a3,()),())=Mv a0 a1 a2 a3:=by kernel_rfl
theorem zX:HcOk prog 150 (ae lW AC):=by
 refine cg (cs:=ZU) (.cons VT .nil) (lp:=abr) (fn:=Tryz.f150) lW (.done (by kernel_rfl)) AC ?_
 rintro ⟨⟨⟨⟩,⟨⟩⟩,⟨⟨⟩,(v:Int),(e:Int),⟨⟩⟩,⟨(b:LI),(p:Int),⟨⟩⟩,⟨⟩⟩ out hw ho
 cases ho
 refine (agk v e b p).trans ?_
 unfold Mv
 show _=oR ((aE b (e,p),()),dM v b (aE b (e,p),p))
 unfold aE
 by_cases h:e=0
 ·rw[if_pos h]
  exact aa (by simpa using h) _ _
 ·rw[if_neg h]
  exact af (by simpa using h) _ _
abbrev jC:Io:=⟨[.ptr 0 0],BA,[],[dI],none⟩
def rK (d:jC.In):Tr jC.Res:=.ite (decide (d.2.1.2.2.1≠0)) (.ret (.ret ((d.2.1.2.2.1,()),d.2))) .no
abbrev Ud:List (Nat×Hc):=[(203,ae oJ J8)]
def aeX:Hd:=bM Ud
def Vc:Lp:=bB []
def Hg (a0 a1:Int):Option jC.Res:=bif a1 == 0 then none else oR ((a1,()),((),a0,a1,()),())
theorem acV (a0 a1:Int):Io.run tt aeX dr Vc jC Tryz.f150 (((),()),((),a0,a1,()),())=Hg a0 a1:=by kernel_rfl
theorem un:HcOk prog 150 (ae jC rK):=by
 refine cg (cs:=Ud) (.cons VT .nil) (lp:=Vc) (fn:=Tryz.f150) jC (.done (by kernel_rfl)) rK ?_
 rintro ⟨⟨⟨⟩,⟨⟩⟩,⟨⟨⟩,(v:Int),(e:Int),⟨⟩⟩,⟨⟩⟩ out hw ho
 obtain ⟨hg,ho⟩:=Tr.guard ho
 have hg:e≠0:=of_decide_eq_true hg
 cases ho
 refine (acV v e).trans ?_
 unfold Hg
 exact af (by simpa using hg) _ _
abbrev lZ:Io:=⟨[dI,dL],[],pE,[.ptr 0 0],none⟩
def AF (d:lZ.In):Tr lZ.Res:=.ite (decide (0≤d.1.1)&&(decide (d.1.1≤3)&&decide ((d.1.2.1.length:Int)≤130048))) (.ret (.ret (((),()),dM d.1.1 d.1.2.1 (0,0)))) .no
abbrev Z3:List (Nat×Hc):=[(61,ae ly yN)]
def aiK:Hd:=bM Z3
def abA:Lp:=bB []
def ME (a0:Int)(a1:LI):Option lZ.Res:=bif decide (a0<0) then none else bif decide (3<a0) then none else bif decide (130048<(↑a1.length:Int)) then none else bif decide (a1.length≤4294967296) then oR (((),()),((),a0,0,()),(a1,0,()),()) else none
theorem agu (a0:Int)(a1:LI):Io.run tt aiK dr abA lZ Tryz.f139 ((a0,a1,()),())=ME a0 a1:=by kernel_rfl
theorem z0:HcOk prog 139 (ae lZ AF):=by
 refine cg (cs:=Z3) (.cons CH .nil) (lp:=abA) (fn:=Tryz.f139) lZ (.done (by kernel_rfl)) AF ?_
 rintro ⟨⟨(v:Int),(b:LI),⟨⟩⟩,⟨⟩⟩ out hw ho
 obtain ⟨hg,ho⟩:=Tr.guard ho
 simp only[zA,zB] at hg
 obtain ⟨h1,h2,h3⟩:=hg
 have h1:(0:Int)≤v:=h1
 have h2:v≤(3:Int):=h2
 have h3:(b.length:Int)≤130048:=h3
 cases ho
 refine (agu v b).trans ?_
 unfold ME
 refine bF (by simp;omega) ?_
 refine bF (by simp;omega) ?_
 refine bF (by simp;omega) ?_
 exact aa (by simp;omega) _ _
def bg (v:Int):Int:=if v<0∨3<v then 8 else 4
abbrev jE:Io:=⟨[dI,dL],[],BA,[.ptr 0 0],none⟩
def o8 (d:jE.In):Tr jE.Res:=.ite (decide (0≤d.1.1)&&(decide (d.1.1≤3)&&decide ((d.1.2.1.length:Int)≤130048))) .no (.ret (.ret (((),()),(((),(d.1.1,(bg d.1.1,()))),()))))
abbrev Ui:List (Nat×Hc):=[(61,ae ly yN)]
def ae2:Hd:=bM Ui
def Vh:Lp:=bB []
def Hl (a0:Int)(a1:LI):Option jE.Res:=bif decide (a0<0) then oR (((),()),((),a0,8,()),()) else bif decide (3<a0) then oR (((),()),((),a0,8,()),()) else bif decide (130048<(↑a1.length:Int)) then oR (((),()),((),a0,4,()),()) else bif decide (a1.length≤4294967296) then none else none
theorem ac0 (a0:Int)(a1:LI):Io.run tt ae2 dr Vh jE Tryz.f139 ((a0,a1,()),())=Hl a0 a1:=by kernel_rfl
theorem up:HcOk prog 139 (ae jE o8):=by
 refine cg (cs:=Ui) (.cons CH .nil) (lp:=Vh) (fn:=Tryz.f139) jE (.done (by kernel_rfl)) o8 ?_
 rintro ⟨⟨(v:Int),(b:LI),⟨⟩⟩,⟨⟩⟩ out hw ho
 have hg:(decide (0≤v)&&(decide (v≤3)&&decide ((b.length:Int)≤130048)))=false:=by
  cases hc:(decide (0≤v)&&(decide (v≤3)&&decide ((b.length:Int)≤130048)))
  ·rfl
  ·have e1:o8 ((v,(b,())),())=.ite true .no (.ret (.ret (((),()),(((),(v,(bg v,()))),())))):=congrArg (fun c=>Tr.ite c _ _) hc
   rw[e1] at ho
   cases ho
 have e1:o8 ((v,(b,())),())=.ite false .no (.ret (.ret (((),()),(((),(v,(bg v,()))),())))):=congrArg (fun c=>Tr.ite c _ _) hg
 rw[e1] at ho
 cases ho
 refine (ac0 v b).trans ?_
 unfold Hl bg
 simp only[Bool.and_eq_false_iff,decide_eq_false_iff_not] at hg
 by_cases h1:v<0
 ·rw[if_pos (.inl h1)]
  exact aa (by simpa using h1) _ _
 ·refine bF (by simpa using h1) ?_
  by_cases h2:3<v
  ·rw[if_pos (.inr h2)]
   exact aa (by simpa using h2) _ _
  ·rw[if_neg (by omega)]
   refine bF (by simpa using h2) ?_
   exact aa (by simp;omega) _ _
abbrev pG:List (List Sh):=[[.ptr 1 0],[.ptr 2 0,dI,dI,dB],[dO,dI]]
abbrev mh:List (List Sh):=[[.ptr 1 0,dI,dI,dB],[dO,dI],[.ptr 0 0]]
abbrev fI (v:Int)(s:bf):m7 pG:=(((),()),cV v s)
abbrev gl (v:Int)(s:bf):m7 mh:=(((),(v,(s.1,(s.2.1,())))),((s.2.2,(130048,())),(((),()),())))
abbrev kh (d:m7 mh):bf:=(d.1.2.2.1,(d.1.2.2.2.1,d.2.1.1))
abbrev kg (d:m7 mh):Bool:=decide (d.2.1.2.1=130048)&&decide (d.2.1.1.length≤130048)
def bE {α:Type}(one:α→bf→bf)(xs:List α)(s:bf):bf:=if 16<(xs.length:Int) then bU 9 s else xs.foldl (fun s x=>one x s) (ac xs.length 4 s)
abbrev cJ:Ty:=.prod (.int .i32) (.prod rB .unit)
def lB (p:cJ.den)(s:bf):bf:=cE p.2.1 (ac p.1 4 s)
def LN (p:cJ.den):Bool:=decide (p.2.1.2.1.length≤2147483647)
abbrev tJ (v:Int)(s:bf):(Int×(Int×(Bool×Unit)))×((LI×(Int×Unit))×(Unit×Unit)):=((v,(s.1,(s.2.1,()))),((s.2.2,(130048,())),((),())))
theorem Ao {s:bf}(p:LI)(h:s.2.2.length≤130048):(lm p s).2.2.length≤130048:=by
 unfold lm
 split
 ·exact h
 ·simp only[zH];omega
theorem m4 {s:bf}(e:Int)(h:s.2.2.length≤130048):(bU e s).2.2.length≤130048:=by
 unfold bU;split <;> exact h
theorem li {s:bf}(n:Bool×(LI×Unit))(h:s.2.2.length≤130048):(cE n s).2.2.length≤130048:=by
 unfold cE
 split
 ·exact m4 _ h
 ·split
  ·exact aA _ _ h
  ·exact Ao _ (aA _ _ h)
theorem fc {s:bf}(t:LI)(h:s.2.2.length≤130048):(bJ t s).2.2.length≤130048:=by
 unfold bJ
 split
 ·exact m4 _ h
 ·split
  ·exact m4 _ h
  ·exact Ao _ (aA _ _ h)
theorem FC {s:bf}(p:cJ.den)(h:s.2.2.length≤130048):(lB p s).2.2.length≤130048:=li _ (aA _ _ h)
theorem iq {α:Type}{one:α→bf→bf}(h1:∀x s,s.2.2.length≤130048→(one x s).2.2.length≤130048):∀(xs:List α) (s:bf),s.2.2.length≤130048→(xs.foldl (fun s x=>one x s) s).2.2.length≤130048
 |[],_,h=>h
 |x::xs,s,h=>iq h1 xs (one x s) (h1 x s h)
theorem cn {α:Type}{one:α→bf→bf}(h1:∀x s,s.2.2.length≤130048→(one x s).2.2.length≤130048)(xs:List α){s:bf}(h:s.2.2.length≤130048):(bE one xs s).2.2.length≤130048:=by
 unfold bE
 split
 ·exact m4 _ h
 ·exact iq h1 xs _ (aA _ _ h)
def uA (xs:List cJ.den):Bool:=xs.all LN
abbrev qC:Io:=⟨[.dat cJ true false,.ptr 0 0],pG,[],[],none⟩
def Qs (d:qC.In):Tr qC.Res:=.ite (gi d.2.2&&LN d.1.1) (.ret (.ret ((),fI d.2.2.1.2.1 (lB d.1.1 (gj d.2.2))))) .no
abbrev Uu:List (Nat×Hc):=[(98,ae cX gg),(104,ae oH J0)]
def afa:Hd:=bM Uu
def Vr:Lp:=bB []
def Hy (a0:Int)(a1:Bool)(a2:LI)(a3 a4:Int)(a5:Bool)(a6:LI)(a7:Int):Option qC.Res:=bif decide (a7=130048)&&decide (a6.length≤130048) then bif decide (130048=130048)&&decide ((ac a0 4 (a4,a5,a6)).2.2.length≤130048)&&decide (a2.length≤2147483647) then oR ((),((),()),((),a3,(cE (a1,a2,()) (ac a0 4 (a4,a5,a6))).1,(cE (a1,a2,()) (ac a0 4 (a4,a5,a6))).2.1,()),((cE (a1,a2,()) (ac a0 4 (a4,a5,a6))).2.2,130048,()),()) else none else none
theorem ade (a0:Int)(a1:Bool)(a2:LI)(a3 a4:Int)(a5:Bool)(a6:LI)(a7:Int):Io.run tt afa dr Vr qC Tryz.f103 (((a0,(a1,a2,()),()),(),()),((),()),((),a3,a4,a5,()),(a6,a7,()),())=Hy a0 a1 a2 a3 a4 a5 a6 a7:=by kernel_rfl
theorem afP:HcOk prog 103 (ae qC Qs):=by
 refine cg (cs:=Uu) (.cons eb (.cons VR .nil)) (lp:=Vr) (fn:=Tryz.f103) qC (.done (by kernel_rfl)) Qs ?_
 rintro ⟨⟨⟨(x:Int),⟨(z:Bool),(t:LI),⟨⟩⟩,⟨⟩⟩,⟨⟩,⟨⟩⟩,⟨⟨⟩,⟨⟩⟩,⟨⟨⟩,(v:Int),(e:Int),(f:Bool),⟨⟩⟩,⟨(b:LI),(m:Int),⟨⟩⟩,⟨⟩⟩ out hw ho
 obtain ⟨hg,ho⟩:=Tr.guard ho
 obtain ⟨hg,h5⟩:=Bool.and_eq_true_iff.1 hg
 obtain ⟨rfl,hb⟩:=bK (v:=v) (e:=e) (f:=f) hg
 have h5:decide (t.length≤2147483647)=true:=h5
 cases ho
 refine (ade x z t v e f b 130048).trans ?_
 unfold Hy
 refine bT (by simpa using hb) ?_
 refine bT (by rw[h5];simpa using aA (s:=(e,f,b)) x 4 hb) ?_
 rfl
abbrev jB (st cf:Nat)(T:Ty):Io:=⟨[.ptr 0 0,.dat (.sl st T) false false,.fnc cf false [2]],mh,[],[],none⟩
def Tz (st cf:Nat)(T:Ty)(gx:T.den→Bool)(sps:Int→List T.den→bf→bf)(d:(jB st cf T).In):Tr (jB st cf T).Res:=.ite (kg d.2&&d.1.2.1.all gx) (.ret (.ret ((),gl d.2.1.2.1 (sps d.2.1.2.1 d.1.2.1 (kh d.2))))) .no
abbrev bC (st cf:Nat)(T:Ty):Lo:=⟨⟨[.any,.any,.one (.fnp cf false [2]),.any,.any,.any,.any,.any,.any,.any,.any,.any,.any,.any,.any,.any,.any,.any,.one (.hol (.sl st T)),.one hI,.one hI,.any,.any,.any,.any,.any,.any,.any],[some [.ptr 1 0,hI,hI,hL],some [.onl 5 (Ty.int u8) 514,hI],some [.ptr 0 0]]⟩,[(.exit 0,⟨(am (gE (dq []))),[some [.ptr 1 0,hI,hI,hL],some [.onl 5 (Ty.int u8) 514,hI],some [.ptr 0 0]]⟩)]⟩
def im (st cf:Nat)(T:Ty)(gx:T.den→Bool)(one:Int→T.den→bf→bf)(d:(bC st cf T).st.den):Tr (aH (bC st cf T).xs):=
 .ite (decide (d.1.2.2.1=0)&&(decide (d.1.2.1=(d.1.1.length:Int))&&(decide (d.2.2.1.2.1=130048)&&(decide (d.2.2.1.1.length≤130048)&&d.1.1.all gx)))) (.ret (.ret ((),((),tJ d.2.1.1 (d.1.1.foldl (fun s x=>one d.2.1.1 x s) (d.2.1.2.1,(d.2.1.2.2.1,d.2.2.1.1))))))) .no
def wy (st cf:Nat)(T:Ty)(gx:T.den→Bool)(one:Int→T.den→bf→bf){R:Type}(h6:List T.den)(h7 h8 h9 h10:Int)(h11:Bool)(h12:LI)(h13:Int)(next:List T.den→Int→Int→Int→Int→Bool→LI→Int→Option R)(out:aH (bC st cf T).xs→Option R):Option R:=bif decide (h8<h7) then bif decide (0≤h8)&&decide (h8<(h6.length:Int)) then bif decide (h13=130048)&&decide (h12.length≤130048)&&gx (h6.getD h8.toNat T.zero) then next (h6) (h7) (i64.wrap (h8+1)) (h9) ((one h9 (h6.getD h8.toNat T.zero) (h10,h11,h12)).1) ((one h9 (h6.getD h8.toNat T.zero) (h10,h11,h12)).2.1) ((one h9 (h6.getD h8.toNat T.zero) (h10,h11,h12)).2.2) (130048) else none else none else out (.ret ((),((),((h9,(h10,(h11,()))),((h12,(h13,())),((),()))))))
theorem Rk {st cf:Nat}{T:Ty}{gx:T.den→Bool}{one:Int→T.den→bf→bf}(hle:∀v x s,s.2.2.length≤130048→(one v x s).2.2.length≤130048)
  (it:Nat→List T.den→Int→Int→Int→Int→Bool→LI→Int→Option (aH (bC st cf T).xs)) (hit:∀n h6 h7 h8 h9 h10 h11 h12 h13,it (n+1) h6 h7 h8 h9 h10 h11 h12 h13=wy st cf T gx one h6 h7 h8 h9 h10 h11 h12 h13 (it n) some)
  {xs:List T.den} (v:Int) (hl:xs.length≤maxLen) (hok:∀x∈xs,gx x=true):∀(k i:Nat) (s:bf),xs.length<i+k→i≤xs.length→s.2.2.length≤130048→
  it k xs (xs.length:Int) i v s.1 s.2.1 s.2.2 130048=some (.ret ((),((),tJ v ((xs.drop i).foldl (fun s x=>one v x s) s)))):=by
 intro k
 induction k with
 |zero=>intro i s h;omega
 |succ k ih=>
  intro i s h1 h2 h3
  rw[hit]
  unfold wy
  by_cases hi:i<xs.length
  ·refine bT (decide_eq_true (show (i:Int)<(xs.length:Int) by omega)) ?_
   refine bT (by simpa using hi) ?_
   simp only[zG,aJ hi,cq hi hl]
   have g:(decide ((130048:Int)=130048)&&decide (s.2.2.length≤130048)&&gx xs[i])=true:=by
    rw[hok _ (List.getElem_mem hi)];simpa using h3
   refine (aa g _ _).trans ?_
   rw[zE hi]
   exact ih (i+1) (one v xs[i] s) (by omega) (by omega) (hle v _ s h3)
  ·refine bF (by simp;omega) ?_
   rw[zI (by omega)]
   rfl
def Dl (st cf:Nat)(T:Ty)(gx:T.den→Bool)(one:Int→T.den→bf→bf)(a0:List T.den)(a1 a2:Int)(a3:Bool)(a4:LI)(a5:Int):Option (jB st cf T).Res:=bif decide (16<(a0.length:Int)) then bif decide (a5=130048)&&decide (a4.length≤130048) then oR ((),((),a1,(bU 9 (a2,a3,a4)).1,(bU 9 (a2,a3,a4)).2.1,()),((bU 9 (a2,a3,a4)).2.2,130048,()),((),()),()) else none else bif decide (a5=130048)&&decide (a4.length≤130048) then (im st cf T gx one ((a0,((a0.length:Int),(0,()))),((a1,((ac (i32.wrap (a0.length:Int)) 4 (a2,a3,a4)).1,((ac (i32.wrap (a0.length:Int)) 4 (a2,a3,a4)).2.1,()))),(((ac (i32.wrap (a0.length:Int)) 4 (a2,a3,a4)).2.2,(130048,())),((),()))))).run fun y=>match y with | .ret ((),((),(x27,x28,x29,()),(x30,x31,()),(),()))=>(oR ((),((),x27,x28,x29,()),(x30,x31,()),((),()),())) else none
theorem xL {st cf f:Nat}{T:Ty}{gx:T.den→Bool}{sps:Int→List T.den→bf→bf}{one:Int→T.den→bf→bf}(hs:∀v xs s,sps v xs s=bE (one v) xs s)(hle:∀v x s,s.2.2.length≤130048→(one v x s).2.2.length≤130048)
  {cs:List (Nat×Hc)} (hcs:HcsOk prog cs) {fn:Func} (hf:prog.funcs[f]?=some fn) (hname:(fn.name == "runtime.NumGoroutine")=false) (hbody:fn.body.isNone=false)
  (hlp:bB [(5,aS (bC st cf T) (im st cf T gx one))] (fB ((dc fn).getD 0 lM).2.1)=some (aS (bC st cf T) (im st cf T gx one))) (h1:Nat.ble (Tt fn ((dc fn).getD 0 lM)).length 0=true) (h2:Nat.ble (dc fn).length (0+1)=true)
  (hit:∀(n:Nat) (h6:List T.den) (h7 h8 h9 h10:Int) (h11:Bool) (h12:LI) (h13:Int),il tt (bM cs) dr (bB [(5,aS (bC st cf T) (im st cf T gx one))]) 3 fn ((dc fn).getD 0 lM) (n+1) ((bC st cf T).st.mk' ((h6,(h7,(h8,()))),((h9,(h10,(h11,()))),((h12,(h13,())),((),()))))) (ci (bC st cf T).xs)=
   wy st cf T gx one h6 h7 h8 h9 h10 h11 h12 h13 (fun h6 h7 h8 h9 h10 h11 h12 h13=>il tt (bM cs) dr (bB [(5,aS (bC st cf T) (im st cf T gx one))]) 3 fn ((dc fn).getD 0 lM) n ((bC st cf T).st.mk' ((h6,(h7,(h8,()))),((h9,(h10,(h11,()))),((h12,(h13,())),((),()))))) (ci (bC st cf T).xs)) some)
  (hrun:∀(a0:List T.den) (a1 a2:Int) (a3:Bool) (a4:LI) (a5:Int),Io.run tt (bM cs) dr (bB [(5,aS (bC st cf T) (im st cf T gx one))]) (jB st cf T) fn (((),a0,(),()),((),a1,a2,a3,()),(a4,a5,()),((),()),())=Dl st cf T gx one a0 a1 a2 a3 a4 a5):
  HcOk prog f (ae (jB st cf T) (Tz st cf T gx sps)):=by
 refine sf (n:=400) hm (cs:=cs) hcs (lp:=bB [(5,aS (bC st cf T) (im st cf T gx one))]) (fn:=fn) hf hname hbody (jB st cf T) (.step (h0:=aS (bC st cf T) (im st cf T gx one)) hlp (jh (cs:=cs) hcs (lp:=bB [(5,aS (bC st cf T) (im st cf T gx one))]) (fn:=fn) (.done h1) (bC st cf T) (im st cf T gx one) ?_) (.done h2)) (Tz st cf T gx sps) ?_
 ·rintro ⟨⟨(xs:List T.den),(n:Int),(i:Int),⟨⟩⟩,⟨⟨(v:Int),(e:Int),(f:Bool),⟨⟩⟩,⟨(b:LI),(m:Int),⟨⟩⟩,⟨⟨⟩,⟨⟩⟩⟩⟩ y hw hy
  obtain ⟨hg,hy⟩:=Tr.guard hy
  simp only[zA,zB] at hg
  obtain ⟨rfl,rfl,rfl,h4,h5⟩:=hg
  have h5:∀x∈xs,gx x=true:=List.all_eq_true.1 h5
  have h4:b.length≤130048:=h4
  have hl:xs.length≤maxLen:=hw.1.1.1
  refine ⟨xs.length+1,(Rk (st:=st) (cf:=cf) (gx:=gx) hle (fun n h6 h7 h8 h9 h10 h11 h12 h13=>il tt (bM cs) dr (bB [(5,aS (bC st cf T) (im st cf T gx one))]) 3 fn ((dc fn).getD 0 lM) n ((bC st cf T).st.mk' ((h6,(h7,(h8,()))),((h9,(h10,(h11,()))),((h12,(h13,())),((),()))))) (ci (bC st cf T).xs)) hit v hl h5 (xs.length+1) 0 (e,(f,b)) (by omega) (by omega) h4).trans ?_⟩
  rw[← hy];rfl
 ·rintro ⟨⟨⟨⟩,(xs:List T.den),⟨⟩,⟨⟩⟩,⟨⟨⟩,(v:Int),(e:Int),(f:Bool),⟨⟩⟩,⟨(b:LI),(m:Int),⟨⟩⟩,⟨⟨⟩,⟨⟩⟩,⟨⟩⟩ out hw ho
  obtain ⟨hg,ho⟩:=Tr.guard ho
  obtain ⟨hg,h5⟩:=Bool.and_eq_true_iff.1 hg
  have h5:xs.all gx=true:=h5
  obtain ⟨rfl,hb⟩:=bK (v:=v) (e:=e) (f:=f) hg
  cases ho
  refine (hrun xs v e f b 130048).trans ?_
  unfold Dl
  have g:(decide ((130048:Int)=130048)&&decide (b.length≤130048))=true:=by simpa using hb
  show _=oR ((),gl v (sps v xs (e,f,b)))
  rw[hs]
  unfold bE
  by_cases h:16<(xs.length:Int)
  ·rw[if_pos h]
   refine bT (decide_eq_true h) ?_
   exact aa g _ _
  ·rw[if_neg h]
   refine bF (decide_eq_false h) ?_
   refine (aa g _ _).trans ?_
   have hw32:i32.wrap (xs.length:Int)=xs.length:=dY (by simp[eD,IntKind.min,IntKind.max,IntKind.signed,IntKind.bits];omega)
   rw[hw32]
   have c1:(decide ((0:Int)=0)&&(decide ((xs.length:Int)=(xs.length:Int))&&(decide ((130048:Int)=130048)&&(decide ((ac xs.length 4 (e,f,b)).2.2.length≤130048)&&xs.all gx))))=true:=by
    rw[h5];simpa using aA (s:=(e,f,b)) _ 4 hb
   have e1:im st cf T gx one ((xs,((xs.length:Int),(0,()))),((v,((ac xs.length 4 (e,f,b)).1,((ac xs.length 4 (e,f,b)).2.1,()))),(((ac xs.length 4 (e,f,b)).2.2,(130048,())),((),()))))=
     .ite true (.ret (.ret ((),((),tJ v (xs.foldl (fun s x=>one v x s) (ac xs.length 4 (e,f,b))))))) .no:=congrArg (fun c=>Tr.ite c _ _) c1
   rw[e1]
   rfl
abbrev xE:Io:=⟨[.ptr 0 0,.dat (.sl 178 cJ) false false,.fnc 103 false [2]],mh,[],[],none⟩
def TJ (d:xE.In):Tr xE.Res:=.ite (kg d.2&&uA d.1.2.1) (.ret (.ret ((),gl d.2.1.2.1 (bE lB d.1.2.1 (kh d.2))))) .no
abbrev aad:List (Nat×Hc):=[(194,ae cT gq),(98,ae cX gg),(103,ae qC Qs)]
theorem aci:HcOk prog 102 (ae xE TJ):=
 xL (gx:=LN) (one:=fun _=>lB) (sps:=fun _=>bE lB) (fun _ _ _=>rfl) (fun v _ _ h3=>FC _ h3) (cs:=aad) (.cons fD (.cons eb (.cons afP .nil))) (fn:=Tryz.f102) (by kernel_rfl) (by kernel_rfl) (by kernel_rfl) (by kernel_rfl) (by kernel_rfl) (by kernel_rfl) (by intros;kernel_rfl) (by intros;kernel_rfl)
abbrev ar:Ty:=.prod .str (.prod (.sl 178 cJ) .unit)
def f5 (t:ar.den)(s:bf):bf:=bE lB t.2.1 (bJ t.1 s)
def yE (t:ar.den):Bool:=uA t.2.1
def cH (xs:List ar.den):Bool:=xs.all yE
abbrev nu:Io:=⟨[.dat ar true false,.ptr 0 0],pG,[],[],none⟩
def J5 (d:nu.In):Tr nu.Res:=.ite (gi d.2.2&&yE d.1.1) (.ret (.ret ((),fI d.2.2.1.2.1 (f5 d.1.1 (gj d.2.2))))) .no
abbrev Nn:List (Nat×Hc):=[(101,ae kR wG),(102,ae xE TJ)]
def aaZ:Hd:=bM Nn
def OA:Lp:=bB []
def DD (a0:LI)(a1:List cJ.den)(a2 a3:Int)(a4:Bool)(a5:LI)(a6:Int):Option nu.Res:=bif decide (a6=130048)&&decide (a5.length≤130048) then bif decide (130048=130048)&&decide ((bJ a0 (a3,a4,a5)).2.2.length≤130048)&&uA a1 then oR ((),((),()),((),a2,(bE lB a1 (bJ a0 (a3,a4,a5))).1,(bE lB a1 (bJ a0 (a3,a4,a5))).2.1,()),((bE lB a1 (bJ a0 (a3,a4,a5))).2.2,130048,()),()) else none else none
theorem X3 (a0:LI)(a1:List cJ.den)(a2 a3:Int)(a4:Bool)(a5:LI)(a6:Int):Io.run tt aaZ dr OA nu Tryz.f100 (((a0,a1,()),(),()),((),()),((),a2,a3,a4,()),(a5,a6,()),())=DD a0 a1 a2 a3 a4 a5 a6:=by kernel_rfl
theorem acj:HcOk prog 100 (ae nu J5):=by
 refine cg (cs:=Nn) (.cons wd (.cons aci .nil)) (lp:=OA) (fn:=Tryz.f100) nu (.done (by kernel_rfl)) J5 ?_
 rintro ⟨⟨⟨(t:LI),(ps:List cJ.den),⟨⟩⟩,⟨⟩,⟨⟩⟩,⟨⟨⟩,⟨⟩⟩,⟨⟨⟩,(v:Int),(e:Int),(f:Bool),⟨⟩⟩,⟨(b:LI),(m:Int),⟨⟩⟩,⟨⟩⟩ out hw ho
 obtain ⟨hg,ho⟩:=Tr.guard ho
 obtain ⟨hg,h5⟩:=Bool.and_eq_true_iff.1 hg
 obtain ⟨rfl,hb⟩:=bK (v:=v) (e:=e) (f:=f) hg
 have h5:uA ps=true:=h5
 cases ho
 refine (X3 t ps v e f b 130048).trans ?_
 unfold DD
 refine bT (by simpa using hb) ?_
 refine bT (by rw[h5];simpa using fc (s:=(e,f,b)) t hb) ?_
 rfl
theorem sW {s:bf}(t:ar.den)(h:s.2.2.length≤130048):(f5 t s).2.2.length≤130048:=cn (fun x s=>FC x) _ (fc _ h)
theorem br {s:bf}(v:Int)(z:Bool)(lo hi:Int)(h:s.2.2.length≤130048):(aq v z lo hi s).2.2.length≤130048:=by
 unfold aq
 split
 ·exact m4 _ h
 ·exact h
theorem S5 {s:bf}(n:Bool×(LI×Unit))(h:s.2.2.length≤130048):(ey n s).2.2.length≤130048:=by
 unfold ey
 split
 ·exact m4 _ h
 ·split
  ·exact aA _ _ h
  ·exact fc _ h
abbrev tT:Io:=⟨[.ptr 0 0,.dat (.sl 172 ar) false false,.fnc 100 false [2]],mh,[],[],none⟩
def Mi (d:tT.In):Tr tT.Res:=.ite (kg d.2&&cH d.1.2.1) (.ret (.ret ((),gl d.2.1.2.1 (bE f5 d.1.2.1 (kh d.2))))) .no
abbrev Wv:List (Nat×Hc):=[(194,ae cT gq),(98,ae cX gg),(100,ae nu J5)]
theorem Xt:HcOk prog 99 (ae tT Mi):=
 xL (gx:=yE) (one:=fun _=>f5) (sps:=fun _=>bE f5) (fun _ _ _=>rfl) (fun v _ _ h3=>sW _ h3) (cs:=Wv) (.cons fD (.cons eb (.cons acj .nil))) (fn:=Tryz.f99) (by kernel_rfl) (by kernel_rfl) (by kernel_rfl) (by kernel_rfl) (by kernel_rfl) (by kernel_rfl) (by intros;kernel_rfl) (by intros;kernel_rfl)
abbrev ik:Ty:=.prod fv (.prod (.int .i16) (.prod (.int .i32) (.prod (.sl 172 ar) .unit)))
def rn (v:Int)(n:fv.den)(s:bf):bf:=if v=3 then ey n s else s
def ri (v:Int)(m:ik.den):bf:=
 bE f5 m.2.2.2.1 (ac m.2.2.1 4 (ac m.2.1 2 (rn v m.1 (aq v (m.1.1 == false&&decide (m.1.2.1=[])) 3 3 (aV v,(false,([]:LI)))))))
abbrev vQ:Io:=⟨[dI,.dat ik true false],[],[],[dO,dI],none⟩
def ahp (d:vQ.In):Tr vQ.Res:=.ite (cH d.1.2.1.2.2.2.1) (.ret (.ret ((bD (ri d.1.1 d.1.2.1),(bm (ri d.1.1 d.1.2.1),())),()))) .no
abbrev aae:List (Nat×Hc):=[(93,ae l9 AN),(94,ae gt mr),(95,ae iJ pr),(96,ae qr Qp),(97,ae l7 AL),(98,ae cX gg),(99,ae tT Mi),(105,ae jF rM)]
def aiT:Hd:=bM aae
def abJ:Lp:=bB []
def MK (a0:Int)(a1:Bool)(a2:LI)(a3 a4:Int)(a5:List ar.den):Option vQ.Res:=bif decide (130048=130048)&&decide ((aq a0 (a1 == false&&(decide (a2=List.map (fun (c:UInt8)=>(↑c.toNat:Int)) [])&&true)) 3 3 (aV a0,false,[])).2.2.length≤130048) then bif decide (3≤a0)&&decide (a0≤3) then bif decide (130048=130048)&&decide ((aq a0 (a1 == false&&(decide (a2=List.map (fun (c:UInt8)=>(↑c.toNat:Int)) [])&&true)) 3 3 (aV a0,false,[])).2.2.length≤130048) then bif decide (130048=130048)&&decide ((ey (a1,a2,()) (aq a0 (a1 == false&&(decide (a2=List.map (fun (c:UInt8)=>(↑c.toNat:Int)) [])&&true)) 3 3 (aV a0,false,[]))).2.2.length≤130048) then bif decide (130048=130048)&&decide ((ac a3 2 (ey (a1,a2,()) (aq a0 (a1 == false&&(decide (a2=List.map (fun (c:UInt8)=>(↑c.toNat:Int)) [])&&true)) 3 3 (aV a0,false,[])))).2.2.length≤130048) then bif decide (130048=130048)&&decide ((ac a4 4 (ac a3 2 (ey (a1,a2,()) (aq a0 (a1 == false&&(decide (a2=List.map (fun (c:UInt8)=>(↑c.toNat:Int)) [])&&true)) 3 3 (aV a0,false,[]))))).2.2.length≤130048)&&cH a5 then bif decide (130048=130048)&&decide ((bE f5 a5 (ac a4 4 (ac a3 2 (ey (a1,a2,()) (aq a0 (a1 == false&&(decide (a2=List.map (fun (c:UInt8)=>(↑c.toNat:Int)) [])&&true)) 3 3 (aV a0,false,[])))))).2.2.length≤130048) then oR ((bD (bE f5 a5 (ac a4 4 (ac a3 2 (ey (a1,a2,()) (aq a0 (a1 == false&&(decide (a2=List.map (fun (c:UInt8)=>(↑c.toNat:Int)) [])&&true)) 3 3 (aV a0,false,[])))))),bm (bE f5 a5 (ac a4 4 (ac a3 2 (ey (a1,a2,()) (aq a0 (a1 == false&&(decide (a2=List.map (fun (c:UInt8)=>(↑c.toNat:Int)) [])&&true)) 3 3 (aV a0,false,[])))))),()),()) else none else none else none else none else none else bif decide (130048=130048)&&decide ((aq a0 (a1 == false&&(decide (a2=List.map (fun (c:UInt8)=>(↑c.toNat:Int)) [])&&true)) 3 3 (aV a0,false,[])).2.2.length≤130048) then bif decide (130048=130048)&&decide ((ac a3 2 (aq a0 (a1 == false&&(decide (a2=List.map (fun (c:UInt8)=>(↑c.toNat:Int)) [])&&true)) 3 3 (aV a0,false,[]))).2.2.length≤130048) then bif decide (130048=130048)&&decide ((ac a4 4 (ac a3 2 (aq a0 (a1 == false&&(decide (a2=List.map (fun (c:UInt8)=>(↑c.toNat:Int)) [])&&true)) 3 3 (aV a0,false,[])))).2.2.length≤130048)&&cH a5 then bif decide (130048=130048)&&decide ((bE f5 a5 (ac a4 4 (ac a3 2 (aq a0 (a1 == false&&(decide (a2=List.map (fun (c:UInt8)=>(↑c.toNat:Int)) [])&&true)) 3 3 (aV a0,false,[]))))).2.2.length≤130048) then oR ((bD (bE f5 a5 (ac a4 4 (ac a3 2 (aq a0 (a1 == false&&(decide (a2=List.map (fun (c:UInt8)=>(↑c.toNat:Int)) [])&&true)) 3 3 (aV a0,false,[]))))),bm (bE f5 a5 (ac a4 4 (ac a3 2 (aq a0 (a1 == false&&(decide (a2=List.map (fun (c:UInt8)=>(↑c.toNat:Int)) [])&&true)) 3 3 (aV a0,false,[]))))),()),()) else none else none else none else none else none
theorem agE (a0:Int)(a1:Bool)(a2:LI)(a3 a4:Int)(a5:List ar.den):Io.run tt aiT dr abJ vQ Tryz.f43 ((a0,((a1,a2,()),a3,a4,a5,()),()),())=MK a0 a1 a2 a3 a4 a5:=by kernel_rfl
theorem aja:HcOk prog 43 (ae vQ ahp):=by
 refine cg (cs:=aae) (.cons z7 (.cons nI (.cons nH (.cons afJ (.cons z5 (.cons eb (.cons Xt (.cons uq .nil)))))))) (lp:=abJ) (fn:=Tryz.f43) vQ (.done (by kernel_rfl)) ahp ?_
 rintro ⟨⟨(v:Int),⟨⟨(z:Bool),(t:LI),⟨⟩⟩,(a:Int),(w:Int),(ts:List ar.den),⟨⟩⟩,⟨⟩⟩,⟨⟩⟩ out hw ho
 obtain ⟨h5,ho⟩:=Tr.guard ho
 have h5:cH ts=true:=h5
 cases ho
 refine (agE v z t a w ts).trans ?_
 unfold MK
 have hg:∀s:bf,s.2.2.length≤130048→(decide ((130048:Int)=130048)&&decide (s.2.2.length≤130048))=true:=fun s h=>by simpa using h
 have l0:∀z,(aq v z 3 3 (aV v,(false,([]:LI)))).2.2.length≤130048:=fun z=>br _ _ _ _ (by simp)
 refine (aa (hg _ (l0 _)) _ _).trans ?_
 by_cases hv:v=3
 ·refine bT (by simp;omega) ?_
  refine (aa (hg _ (l0 _)) _ _).trans ?_
  have l1:=S5 (z,(t,())) (l0 (z == false&&(decide (t=List.map (fun (c:UInt8)=>(c.toNat:Int)) [])&&true)))
  refine (aa (hg _ l1) _ _).trans ?_
  refine (aa (hg _ (aA _ _ l1)) _ _).trans ?_
  have l2:=aA w 4 (aA a 2 l1)
  refine bT (by rw[h5,Bool.and_true];exact hg _ l2) ?_
  refine (aa (hg _ (cn (fun x s=>sW x) _ l2)) _ _).trans ?_
  simp only[ri,rn,if_pos hv,List.map_nil,Bool.and_true]
 ·refine bF (by simp;omega) ?_
  have l1:=l0 (z == false&&(decide (t=List.map (fun (c:UInt8)=>(c.toNat:Int)) [])&&true))
  refine (aa (hg _ l1) _ _).trans ?_
  refine (aa (hg _ (aA _ _ l1)) _ _).trans ?_
  have l2:=aA w 4 (aA a 2 l1)
  refine bT (by rw[h5,Bool.and_true];exact hg _ l2) ?_
  refine (aa (hg _ (cn (fun x s=>sW x) _ l2)) _ _).trans ?_
  simp only[ri,rn,if_neg hv,List.map_nil,Bool.and_true]
abbrev pF:List (List Sh):=[[.ptr 1 0],[.ptr 2 0,dI,dI],[dL,dI]]
abbrev nF:List (List Sh):=[[.ptr 1 0,dI,dI],[dL,dI],[.ptr 0 0]]
abbrev wc:List (List Sh):=[[.nil,dI,dI],[.ptr 0 0]]
abbrev dp (v:Int)(b:LI)(s:aD):m7 pF:=(((),()),dM v b s)
abbrev iD (v:Int)(b:LI)(s:aD):m7 nF:=(((),(v,(s.1,()))),((b,(s.2,())),(((),()),())))
abbrev d7 (d:m7 nF):aD:=(d.1.2.2.1,d.2.1.2.1)
def fZ {α:Type}(one:aD→α×aD):Nat→aD→List α×aD
 |0,s=>([],s)
 |k+1,s=>if s.1=0 then ((one s).1::(fZ one k (one s).2).1,(fZ one k (one s).2).2) else ([],s)
def sS (n:Int)(s:aD):aD:=if s.1=0 then (if n<0 then (5,s.2) else if 16<n then (9,s.2) else s) else s
def iC {α:Type}(one:aD→α×aD)(b:LI)(s:aD):List α×aD:=fZ one (ab .i32 4 b s).1.toNat (sS (ab .i32 4 b s).1 (ab .i32 4 b s).2)
abbrev KC (v:Int)(b:LI)(s:aD):(Int×(Int×Unit))×((LI×(Int×Unit))×(Unit×Unit)):=((v,(s.1,())),((b,(s.2,())),((),())))
theorem adX {b:LI}{s:aD}(n:Int)(h:al b s.2=true):al b (sS n s).2=true:=by
 unfold sS
 split
 ·split
  ·exact h
  ·split <;> exact h
 ·exact h
theorem P4 {α:Type}{one:aD→α×aD}{b:LI}(h1:∀s,al b s.2=true→al b (one s).2.2=true):∀(k:Nat) (s:aD),al b s.2=true→al b (fZ one k s).2.2=true
 |0,s,h=>h
 |k+1,s,h=>by
  rw[fZ]
  split
  ·exact P4 h1 k _ (h1 s h)
  ·exact h
theorem fH {α:Type}{one:aD→α×aD}{b:LI}{s:aD}(h1:∀s,al b s.2=true→al b (one s).2.2=true)(h:al b s.2=true):al b (iC one b s).2.2=true:=
 P4 h1 _ _ (adX _ (aO _ _ h))
theorem lj {b:LI}{s:aD}(h:al b s.2=true):al b (cm b s).2.2=true:=by
 unfold cm
 split
 ·exact aO _ _ h
 ·exact wk _ (aO _ _ h)
theorem fa {b:LI}{s:aD}(h:al b s.2=true):al b (bi b s).2.2=true:=SX _ (aO _ _ h)
theorem SW {b:LI}{s:aD}(h:al b s.2=true):al b (dR b s).2.2=true:=by
 unfold dR
 split
 ·exact aO _ _ h
 ·exact fa h
@[irreducible] noncomputable def kD (b:LI)(s:aD):cJ.den×aD:=(((ab .i32 4 b s).1,((cm b (ab .i32 4 b s).2).1,())),(cm b (ab .i32 4 b s).2).2)
theorem Fu {b:LI}{s:aD}(h:al b s.2=true):al b (kD b s).2.2=true:=by
 unfold kD
 exact lj (aO _ _ h)
abbrev qH:Io:=⟨[.ptr 0 0],pF,[],[.dat cJ true false],none⟩
def Qy (d:qH.In):Tr qH.Res:=.ite (al d.2.2.2.1.1 d.2.2.2.1.2.1) (.ret (.ret (((kD d.2.2.2.1.1 (cK d.2.2)).1,()),dp d.2.2.1.2.1 d.2.2.2.1.1 (kD d.2.2.2.1.1 (cK d.2.2)).2))) .no
abbrev UJ:List (Nat×Hc):=[(143,ae cB ew),(149,ae oB JU)]
def afn:Hd:=bM UJ
def VE:Lp:=bB []
def HK (a0 a1:Int)(a2:LI)(a3:Int):Option qH.Res:=bif al a2 a3 then bif al a2 (ab i32 4 a2 (a1,a3)).2.2 then oR ((((ab i32 4 a2 (a1,a3)).1,((cm a2 (ab i32 4 a2 (a1,a3)).2).1.1,(cm a2 (ab i32 4 a2 (a1,a3)).2).1.2.1,()),()),()),((),()),((),a0,(cm a2 (ab i32 4 a2 (a1,a3)).2).2.1,()),(a2,(cm a2 (ab i32 4 a2 (a1,a3)).2).2.2,()),()) else none else none
theorem adu (a0 a1:Int)(a2:LI)(a3:Int):Io.run tt afn dr VE qH Tryz.f148 (((),()),((),()),((),a0,a1,()),(a2,a3,()),())=HK a0 a1 a2 a3:=by kernel_rfl
theorem afX:HcOk prog 148 (ae qH Qy):=by
 refine cg (cs:=UJ) (.cons cY (.cons VP .nil)) (lp:=VE) (fn:=Tryz.f148) qH (.done (by kernel_rfl)) Qy ?_
 rintro ⟨⟨⟨⟩,⟨⟩⟩,⟨⟨⟩,⟨⟩⟩,⟨⟨⟩,(v:Int),(e:Int),⟨⟩⟩,⟨(b:LI),(p:Int),⟨⟩⟩,⟨⟩⟩ out hw ho
 obtain ⟨hg,ho⟩:=Tr.guard ho
 have hg:al b p=true:=hg
 cases ho
 refine (adu v e b p).trans ?_
 unfold HK
 show _=oR (((kD b (e,p)).1,()),dp v b (kD b (e,p)).2)
 unfold kD
 refine (aa hg _ _).trans ?_
 exact aa (aO .i32 4 (s:=(e,p)) hg) _ _
abbrev zj (st cf:Nat)(T:Ty):Io:=⟨[.ptr 0 0,.fnc cf false [2]],nF,[],[.dat (.sl st T) false false],none⟩
def aho (st cf:Nat)(T:Ty)(sps:Int→LI→aD→List T.den×aD)(d:(zj st cf T).In):Tr (zj st cf T).Res:=.ite (al d.2.2.1.1 d.2.2.1.2.1) (.ret (.ret (((sps d.2.1.2.1 d.2.2.1.1 (d7 d.2)).1,()),iD d.2.1.2.1 d.2.2.1.1 (sps d.2.1.2.1 d.2.2.1.1 (d7 d.2)).2))) .no
abbrev gv (st cf:Nat)(T:Ty):Lo:=⟨⟨[.one (.ptr 0 0),.one (.fnp cf false [2]),.any,.any,.any,.one hJ,.one (.onl st T 19),.one hJ,.any,.any,.any,.any,.any,.any,.any,.any,.any,.any,.any,.any,.any,.any,.any,.any,.any,.any,.any,.any,.any,.any,.any,.any,.any,.any,.any,.any,.any,.any,.any,.any,.any,.any,.any,.any,.any,.any],[some [.ptr 1 0,hI,hI],some [.hol (.sl 5 (Ty.int u8)),hI],some [.ptr 0 0]]⟩,[(.exit 1,⟨(dq (ce (.one (.onl st T 19)::.any::am (am (dq (ce [])))))),[some [.ptr 1 0,hI,hI],some [.hol (.sl 5 (Ty.int u8)),hI],some [.ptr 0 0]]⟩)]⟩
def eL (st cf:Nat)(T:Ty)(one:Int→LI→aD→T.den×aD)(d:(gv st cf T).st.den):Tr (aH (gv st cf T).xs):=
 .ite (decide (d.1.2.2.1=0)&&(decide (d.1.2.1.length=0)&&(al d.2.2.1.1 d.2.2.1.2.1&&(decide (d.1.1≤(16:Int)) || decide (d.2.1.2.1≠0))))) (.ret (.ret ((),(((fZ (one d.2.1.1 d.2.2.1.1) d.1.1.toNat (d.2.1.2.1,d.2.2.1.2.1)).1,()),KC d.2.1.1 d.2.2.1.1 (fZ (one d.2.1.1 d.2.2.1.1) d.1.1.toNat (d.2.1.2.1,d.2.2.1.2.1)).2)))) .no
def F8 (st cf:Nat)(T:Ty)(one:Int→LI→aD→T.den×aD){R:Type}(h4:Int)(h5:List T.den)(h6 h7 h8:Int)(h9:LI)(h10:Int)(next:Int→List T.den→Int→Int→Int→LI→Int→Option R)(out:aH (gv st cf T).xs→Option R):Option R:=bif decide (h6<h4) then bif h8 == 0 then bif al h9 h10 then bif decide (h5.length+1≤4294967296) then next (h4) (h5++[(one h7 h9 (h8,h10)).1]) (i32.wrap (h6+1)) (h7) ((one h7 h9 (h8,h10)).2.1) (h9) ((one h7 h9 (h8,h10)).2.2) else none else none else out (.ret ((),((h5,()),((h7,(h8,())),((h9,(h10,())),((),())))))) else out (.ret ((),((h5,()),((h7,(h8,())),((h9,(h10,())),((),()))))))
theorem abl {st cf:Nat}{T:Ty}{one:Int→LI→aD→T.den×aD}(hok:∀v b s,al b s.2=true→al b (one v b s).2.2=true)
  (it:Nat→Int→List T.den→Int→Int→Int→LI→Int→Option (aH (gv st cf T).xs)) (hit:∀n h4 h5 h6 h7 h8 h9 h10,it (n+1) h4 h5 h6 h7 h8 h9 h10=F8 st cf T one h4 h5 h6 h7 h8 h9 h10 (it n) some) (n v:Int) (b:LI):∀(k j:Nat) (xs:List T.den) (s:aD),n.toNat<j+k→j≤n.toNat→xs.length=j→al b s.2=true→(s.1=0→n≤16)→
  it k n xs j v s.1 b s.2=some (.ret ((),((xs++(fZ (one v b) (n.toNat - j) s).1,()),KC v b (fZ (one v b) (n.toNat - j) s).2))):=by
 intro k
 induction k with
 |zero=>intro j xs s h;omega
 |succ k ih=>
  intro j xs s h1 h2 h3 h4 h5
  rw[hit]
  unfold F8
  by_cases hj:(j:Int)<n
  ·refine bT (by simpa using hj) ?_
   obtain ⟨m,hm⟩:∃m,n.toNat - j=m+1:=⟨n.toNat - j - 1,by omega⟩
   rw[hm]
   by_cases he:s.1=0
   ·refine bT (by simpa using he) ?_
    have hn:=h5 he
    refine (aa h4 _ _).trans ?_
    refine bT (decide_eq_true (show xs.length+1≤4294967296 by omega)) ?_
    have hw:i32.wrap ((j:Int)+1)=((j+1:Nat):Int):=dY (by simp[eD,IntKind.min,IntKind.max,IntKind.signed,IntKind.bits];omega)
    rw[hw]
    refine (ih (j+1) (xs++[(one v b s).1]) (one v b s).2 (by omega) (by omega) (by simp[h3]) (hok v b s h4) (fun _=>hn)).trans ?_
    rw[show n.toNat - (j+1)=m by omega,fZ,if_pos he]
    simp
   ·refine bF (by simpa using he) ?_
    rw[fZ,if_neg he]
    simp
  ·refine bF (by simpa using hj) ?_
   rw[show n.toNat - j=0 by omega,fZ]
   simp
def Mr (st cf:Nat)(T:Ty)(one:Int→LI→aD→T.den×aD)(a0 a1:Int)(a2:LI)(a3:Int):Option (zj st cf T).Res:=bif al a2 a3 then bif (ab i32 4 a2 (a1,a3)).2.1 != 0 then (eL st cf T one (((ab i32 4 a2 (a1,a3)).1,([],(0,()))),((a0,((ab i32 4 a2 (a1,a3)).2.1,())),((a2,((ab i32 4 a2 (a1,a3)).2.2,())),((),()))))).run fun y=>match y with | .ret ((),((x28,()),(x29,x30,()),(x31,x32,()),(),()))=>(oR ((x28,()),((),x29,x30,()),(x31,x32,()),((),()),())) else bif decide ((ab i32 4 a2 (a1,a3)).1<0) then (eL st cf T one (((ab i32 4 a2 (a1,a3)).1,([],(0,()))),((a0,(5,())),((a2,((ab i32 4 a2 (a1,a3)).2.2,())),((),()))))).run fun y=>match y with | .ret ((),((x40,()),(x41,x42,()),(x43,x44,()),(),()))=>(oR ((x40,()),((),x41,x42,()),(x43,x44,()),((),()),())) else bif decide (16<(ab i32 4 a2 (a1,a3)).1) then (eL st cf T one (((ab i32 4 a2 (a1,a3)).1,([],(0,()))),((a0,(9,())),((a2,((ab i32 4 a2 (a1,a3)).2.2,())),((),()))))).run fun y=>match y with | .ret ((),((x52,()),(x53,x54,()),(x55,x56,()),(),()))=>(oR ((x52,()),((),x53,x54,()),(x55,x56,()),((),()),())) else (eL st cf T one (((ab i32 4 a2 (a1,a3)).1,([],(0,()))),((a0,((ab i32 4 a2 (a1,a3)).2.1,())),((a2,((ab i32 4 a2 (a1,a3)).2.2,())),((),()))))).run fun y=>match y with | .ret ((),((x64,()),(x65,x66,()),(x67,x68,()),(),()))=>(oR ((x64,()),((),x65,x66,()),(x67,x68,()),((),()),())) else none
theorem mc {st cf f:Nat}{T:Ty}{sps:Int→LI→aD→List T.den×aD}{one:Int→LI→aD→T.den×aD}(hs:∀v b s,sps v b s=iC (one v b) b s)(hok:∀v b s,al b s.2=true→al b (one v b s).2.2=true)
  {cs:List (Nat×Hc)} (hcs:HcsOk prog cs) {fn:Func} (hf:prog.funcs[f]?=some fn) (hname:(fn.name == "runtime.NumGoroutine")=false) (hbody:fn.body.isNone=false)
  (hlp:bB [(10,aS (gv st cf T) (eL st cf T one))] (fB ((dc fn).getD 0 lM).2.1)=some (aS (gv st cf T) (eL st cf T one))) (h1:Nat.ble (Tt fn ((dc fn).getD 0 lM)).length 0=true) (h2:Nat.ble (dc fn).length (0+1)=true)
  (hit:∀(n:Nat) (h4:Int) (h5:List T.den) (h6 h7 h8:Int) (h9:LI) (h10:Int),il tt (bM cs) dr (bB [(10,aS (gv st cf T) (eL st cf T one))]) 3 fn ((dc fn).getD 0 lM) (n+1) ((gv st cf T).st.mk' ((h4,(h5,(h6,()))),((h7,(h8,())),((h9,(h10,())),((),()))))) (ci (gv st cf T).xs)=
   F8 st cf T one h4 h5 h6 h7 h8 h9 h10 (fun h4 h5 h6 h7 h8 h9 h10=>il tt (bM cs) dr (bB [(10,aS (gv st cf T) (eL st cf T one))]) 3 fn ((dc fn).getD 0 lM) n ((gv st cf T).st.mk' ((h4,(h5,(h6,()))),((h7,(h8,())),((h9,(h10,())),((),()))))) (ci (gv st cf T).xs)) some)
  (hrun:∀(a0 a1:Int) (a2:LI) (a3:Int),Io.run tt (bM cs) dr (bB [(10,aS (gv st cf T) (eL st cf T one))]) (zj st cf T) fn (((),(),()),((),a0,a1,()),(a2,a3,()),((),()),())=Mr st cf T one a0 a1 a2 a3):
  HcOk prog f (ae (zj st cf T) (aho st cf T sps)):=by
 refine sf (n:=400) hm (cs:=cs) hcs (lp:=bB [(10,aS (gv st cf T) (eL st cf T one))]) (fn:=fn) hf hname hbody (zj st cf T) (.step (h0:=aS (gv st cf T) (eL st cf T one)) hlp (jh (cs:=cs) hcs (lp:=bB [(10,aS (gv st cf T) (eL st cf T one))]) (fn:=fn) (.done h1) (gv st cf T) (eL st cf T one) ?_) (.done h2)) (aho st cf T sps) ?_
 ·rintro ⟨⟨(n:Int),(xs:List T.den),(i:Int),⟨⟩⟩,⟨⟨(v:Int),(e:Int),⟨⟩⟩,⟨(b:LI),(p:Int),⟨⟩⟩,⟨⟨⟩,⟨⟩⟩⟩⟩ y hw hy
  obtain ⟨hg,hy⟩:=Tr.guard hy
  simp only[zA,zB,Bool.or_eq_true] at hg
  obtain ⟨h1,h2,h3,h4⟩:=hg
  have h1:i=0:=h1
  have h2:xs=[]:=zF h2
  have h3:al b p=true:=h3
  have h4:n≤16∨e≠0:=h4
  subst h1
  subst h2
  refine ⟨n.toNat+1,(abl (st:=st) (cf:=cf) hok (fun n h4 h5 h6 h7 h8 h9 h10=>il tt (bM cs) dr (bB [(10,aS (gv st cf T) (eL st cf T one))]) 3 fn ((dc fn).getD 0 lM) n ((gv st cf T).st.mk' ((h4,(h5,(h6,()))),((h7,(h8,())),((h9,(h10,())),((),()))))) (ci (gv st cf T).xs)) hit n v b (n.toNat+1) 0 [] (e,p) (by omega) (by omega) rfl h3 (fun he=>h4.resolve_right (fun h=>h he))).trans ?_⟩
  rw[← hy];rfl
 ·rintro ⟨⟨⟨⟩,⟨⟩,⟨⟩⟩,⟨⟨⟩,(v:Int),(e:Int),⟨⟩⟩,⟨(b:LI),(p:Int),⟨⟩⟩,⟨⟨⟩,⟨⟩⟩,⟨⟩⟩ out hw ho
  obtain ⟨hg,ho⟩:=Tr.guard ho
  have hg:al b p=true:=hg
  cases ho
  refine (hrun v e b p).trans ?_
  unfold Mr
  show _=oR (((sps v b (e,p)).1,()),iD v b (sps v b (e,p)).2)
  rw[hs]
  unfold iC
  refine (aa hg _ _).trans ?_
  have hr:al b (ab .i32 4 b (e,p)).2.2=true:=aO .i32 4 (s:=(e,p)) hg
  generalize ab .i32 4 b (e,p)=r at hr ⊢
  obtain ⟨n,e1,q⟩:=r
  have hr:al b q=true:=hr
  have key:∀e':Int,(e'=0→n≤16)→eL st cf T one ((n,([],(0,()))),((v,(e',())),((b,(q,())),((),()))))=.ite true (.ret (.ret ((),(((fZ (one v b) n.toNat (e',q)).1,()),KC v b (fZ (one v b) n.toNat (e',q)).2)))) .no:=by
   intro e' he
   refine congrArg (fun c=>Tr.ite c _ _) ?_
   show (decide ((0:Int)=0)&&(decide (([]:List T.den).length=0)&&(al b q&&(decide (n≤16) || decide (e'≠0)))))=true
   rw[hr]
   by_cases h:e'=0
   ·simp[he h]
   ·simp[h]
  unfold sS
  show (bif e1 != 0 then _ else _)=_
  by_cases h1:e1=0
  ·refine bF (by simpa using h1) ?_
   show (bif decide (n<0) then _ else _)=_
   rw[if_pos h1]
   by_cases h2:n<0
   ·refine bT (by simpa using h2) ?_
    show (eL st cf T one ((n,([],(0,()))),((v,(5,())),((b,(q,())),((),()))))).run _=_
    rw[key 5 (by omega),if_pos h2]
    rfl
   ·refine bF (by simpa using h2) ?_
    show (bif decide (16<n) then _ else _)=_
    rw[if_neg h2]
    by_cases h3:16<n
    ·refine bT (by simpa using h3) ?_
     show (eL st cf T one ((n,([],(0,()))),((v,(9,())),((b,(q,())),((),()))))).run _=_
     rw[key 9 (by omega),if_pos h3]
     rfl
    ·refine bF (by simpa using h3) ?_
     show (eL st cf T one ((n,([],(0,()))),((v,(e1,())),((b,(q,())),((),()))))).run _=_
     rw[key e1 (by omega),if_neg h3]
     rfl
  ·refine bT (by simpa using h1) ?_
   show (eL st cf T one ((n,([],(0,()))),((v,(e1,())),((b,(q,())),((),()))))).run _=_
   rw[key e1 (fun h=>absurd h h1),if_neg h1]
   rfl
@[irreducible] noncomputable def iv (b:LI)(s:aD):List cJ.den×aD:=iC (kD b) b s
theorem PT {b:LI}{s:aD}(h:al b s.2=true):al b (iv b s).2.2=true:=by
 unfold iv
 exact fH (fun s h=>Fu h) h
abbrev xH:Io:=⟨[.ptr 0 0,.fnc 148 false [2]],nF,[],[.dat (.sl 178 cJ) false false],none⟩
def TO (d:xH.In):Tr xH.Res:=.ite (al d.2.2.1.1 d.2.2.1.2.1) (.ret (.ret (((iv d.2.2.1.1 (d7 d.2)).1,()),iD d.2.1.2.1 d.2.2.1.1 (iv d.2.2.1.1 (d7 d.2)).2))) .no
abbrev aan:List (Nat×Hc):=[(143,ae cB ew),(148,ae qH Qy)]
theorem acs:HcOk prog 147 (ae xH TO):=
 mc (one:=fun _ b=>kD b) (sps:=fun _=>iv) (fun _ _ _=>by unfold iv;rfl) (fun _ _ _ h4=>Fu h4) (cs:=aan) (.cons cY (.cons afX .nil)) (fn:=Tryz.f147) (by kernel_rfl) (by kernel_rfl) (by kernel_rfl) (by kernel_rfl) (by kernel_rfl) (by kernel_rfl) (by intros;kernel_rfl) (by intros;kernel_rfl)
@[irreducible] noncomputable def iO (b:LI)(s:aD):ar.den×aD:=(((bi b s).1,((iv b (bi b s).2).1,())),(iv b (bi b s).2).2)
theorem PU {b:LI}{s:aD}(h:al b s.2=true):al b (iO b s).2.2=true:=by
 unfold iO
 exact PT (fa h)
abbrev nA:Io:=⟨[.ptr 0 0],pF,[],[.dat ar true false],none⟩
def Kf (d:nA.In):Tr nA.Res:=.ite (al d.2.2.2.1.1 d.2.2.2.1.2.1) (.ret (.ret (((iO d.2.2.2.1.1 (cK d.2.2)).1,()),dp d.2.2.1.2.1 d.2.2.2.1.1 (iO d.2.2.2.1.1 (cK d.2.2)).2))) .no
abbrev NA:List (Nat×Hc):=[(146,ae l6 AG),(147,ae xH TO)]
def abb:Hd:=bM NA
def OL:Lp:=bB []
def DP (a0 a1:Int)(a2:LI)(a3:Int):Option nA.Res:=bif al a2 a3 then bif al a2 (bi a2 (a1,a3)).2.2 then oR ((((bi a2 (a1,a3)).1,(iv a2 (bi a2 (a1,a3)).2).1,()),()),((),()),((),a0,(iv a2 (bi a2 (a1,a3)).2).2.1,()),(a2,(iv a2 (bi a2 (a1,a3)).2).2.2,()),()) else none else none
theorem Yh (a0 a1:Int)(a2:LI)(a3:Int):Io.run tt abb dr OL nA Tryz.f145 (((),()),((),()),((),a0,a1,()),(a2,a3,()),())=DP a0 a1 a2 a3:=by kernel_rfl
theorem act:HcOk prog 145 (ae nA Kf):=by
 refine cg (cs:=NA) (.cons z4 (.cons acs .nil)) (lp:=OL) (fn:=Tryz.f145) nA (.done (by kernel_rfl)) Kf ?_
 rintro ⟨⟨⟨⟩,⟨⟩⟩,⟨⟨⟩,⟨⟩⟩,⟨⟨⟩,(v:Int),(e:Int),⟨⟩⟩,⟨(b:LI),(p:Int),⟨⟩⟩,⟨⟩⟩ out hw ho
 obtain ⟨hg,ho⟩:=Tr.guard ho
 have hg:al b p=true:=hg
 cases ho
 refine (Yh v e b p).trans ?_
 unfold DP
 show _=oR (((iO b (e,p)).1,()),dp v b (iO b (e,p)).2)
 unfold iO
 refine (aa hg _ _).trans ?_
 exact aa (fa (s:=(e,p)) hg) _ _
@[irreducible] noncomputable def cU (b:LI)(s:aD):List ar.den×aD:=iC (iO b) b s
abbrev tU:Io:=⟨[.ptr 0 0,.fnc 145 false [2]],nF,[],[.dat (.sl 172 ar) false false],none⟩
def Mk (d:tU.In):Tr tU.Res:=.ite (al d.2.2.1.1 d.2.2.1.2.1) (.ret (.ret (((cU d.2.2.1.1 (d7 d.2)).1,()),iD d.2.1.2.1 d.2.2.1.1 (cU d.2.2.1.1 (d7 d.2)).2))) .no
abbrev Ww:List (Nat×Hc):=[(143,ae cB ew),(145,ae nA Kf)]
theorem XA:HcOk prog 144 (ae tU Mk):=
 mc (one:=fun _ b=>iO b) (sps:=fun _=>cU) (fun _ _ _=>by unfold cU;rfl) (fun _ _ _ h4=>PU h4) (cs:=Ww) (.cons cY (.cons act .nil)) (fn:=Tryz.f144) (by kernel_rfl) (by kernel_rfl) (by kernel_rfl) (by kernel_rfl) (by kernel_rfl) (by kernel_rfl) (by intros;kernel_rfl) (by intros;kernel_rfl)
abbrev tO (st cf:Nat)(T:Ty):Io:=⟨[.ptr 0 0,.fnc cf false [1]],wc,[],[.dat (.sl st T) false false],none⟩
def Zg (st cf:Nat)(T:Ty)(d:(tO st cf T).In):Tr (tO st cf T).Res:=.ite (decide (d.2.1.2.2.1≠0)) (.ret (.ret ((([]:List T.den),()),d.2))) .no
abbrev gm (st cf:Nat)(T:Ty):Lo:=⟨⟨[.one (.ptr 0 0),.one (.fnp cf false [1]),.any,.any,.any,.one hJ,.one (.onl st T 17),.one hJ,.any,.any,.any,.any,.any,.any,.any,.any,.any,.any,.any,.any,.any,.any,.any,.any,.any,.any,.any,.any,.any,.any,.any,.any,.any,.any,.any,.any,.any,.any,.any,.any,.any,.any,.any,.any,.any,.any],[some [.nilp,hI,hI],some [.ptr 0 0]]⟩,[(.exit 1,⟨(dq (ce (.one (.onl st T 17)::.any::am (am (dq (ce [])))))),[some [.nilp,hI,hI],some [.ptr 0 0]]⟩)]⟩
def ip (st cf:Nat)(T:Ty)(d:(gm st cf T).st.den):Tr (aH (gm st cf T).xs):=
 .ite (decide (d.2.1.2.1≠0)) (.ret (.ret ((),((d.1.2.1,()),d.2)))) .no
def JJ (st cf:Nat)(T:Ty){R:Type}(h2:Int)(h3:List T.den)(h4 h5 h6:Int)(next:Int→List T.den→Int→Int→Int→Option R)(out:aH (gm st cf T).xs→Option R):Option R:=bif decide (h4<h2) then bif h6 == 0 then none else out (.ret ((),((h3,()),((h5,(h6,())),((),()))))) else out (.ret ((),((h3,()),((h5,(h6,())),((),())))))
def G7 (st cf:Nat)(T:Ty)(a0 a1:Int):Option (tO st cf T).Res:=bif decide (a1≠0) then bif a1 != 0 then (ip st cf T ((0,([],(0,()))),((a0,(a1,())),((),())))).run fun y=>match y with | .ret ((),((x13,()),(x14,x15,()),(),()))=>(oR ((x13,()),((),x14,x15,()),((),()),())) else (ip st cf T ((0,([],(0,()))),((a0,(a1,())),((),())))).run fun y=>match y with | .ret ((),((x21,()),(x22,x23,()),(),()))=>(oR ((x21,()),((),x22,x23,()),((),()),())) else none
theorem t4 {st cf f:Nat}{T:Ty}
  {cs:List (Nat×Hc)} (hcs:HcsOk prog cs) {fn:Func} (hf:prog.funcs[f]?=some fn) (hname:(fn.name == "runtime.NumGoroutine")=false) (hbody:fn.body.isNone=false)
  (hlp:bB [(10,aS (gm st cf T) (ip st cf T))] (fB ((dc fn).getD 0 lM).2.1)=some (aS (gm st cf T) (ip st cf T))) (h1:Nat.ble (Tt fn ((dc fn).getD 0 lM)).length 0=true) (h2:Nat.ble (dc fn).length (0+1)=true)
  (hit:∀(n:Nat) (h2:Int) (h3:List T.den) (h4 h5 h6:Int),il tt (bM cs) dr (bB [(10,aS (gm st cf T) (ip st cf T))]) 2 fn ((dc fn).getD 0 lM) (n+1) ((gm st cf T).st.mk' ((h2,(h3,(h4,()))),((h5,(h6,())),((),())))) (ci (gm st cf T).xs)=
   JJ st cf T h2 h3 h4 h5 h6 (fun h2 h3 h4 h5 h6=>il tt (bM cs) dr (bB [(10,aS (gm st cf T) (ip st cf T))]) 2 fn ((dc fn).getD 0 lM) n ((gm st cf T).st.mk' ((h2,(h3,(h4,()))),((h5,(h6,())),((),())))) (ci (gm st cf T).xs)) some)
  (hrun:∀(a0 a1:Int),Io.run tt (bM cs) dr (bB [(10,aS (gm st cf T) (ip st cf T))]) (tO st cf T) fn (((),(),()),((),a0,a1,()),((),()),())=G7 st cf T a0 a1):
  HcOk prog f (ae (tO st cf T) (Zg st cf T)):=by
 refine sf (n:=400) hm (cs:=cs) hcs (lp:=bB [(10,aS (gm st cf T) (ip st cf T))]) (fn:=fn) hf hname hbody (tO st cf T) (.step (h0:=aS (gm st cf T) (ip st cf T)) hlp (jh (cs:=cs) hcs (lp:=bB [(10,aS (gm st cf T) (ip st cf T))]) (fn:=fn) (.done h1) (gm st cf T) (ip st cf T) ?_) (.done h2)) (Zg st cf T) ?_
 ·rintro ⟨⟨(n:Int),(xs:List T.den),(i:Int),⟨⟩⟩,⟨⟨(v:Int),(e:Int),⟨⟩⟩,⟨⟨⟩,⟨⟩⟩⟩⟩ y hw hy
  obtain ⟨hg,hy⟩:=Tr.guard hy
  have hg:e≠0:=of_decide_eq_true hg
  refine ⟨1,(hit 0 n xs i v e).trans ?_⟩
  unfold JJ
  rw[← hy]
  by_cases h:i<n
  ·refine bT (by simpa using h) ?_
   exact af (by simpa using hg) _ _
  ·exact af (by simpa using h) _ _
 ·rintro ⟨⟨⟨⟩,⟨⟩,⟨⟩⟩,⟨⟨⟩,(v:Int),(e:Int),⟨⟩⟩,⟨⟨⟩,⟨⟩⟩,⟨⟩⟩ out hw ho
  obtain ⟨hg,ho⟩:=Tr.guard ho
  have hg:e≠0:=of_decide_eq_true hg
  cases ho
  refine (hrun v e).trans ?_
  unfold G7
  have e1:ip st cf T ((0,([],(0,()))),((v,(e,())),((),())))=.ite true (.ret (.ret ((),((([]:List T.den),()),((v,(e,())),((),())))))) .no:=congrArg (fun c=>Tr.ite c _ _) (decide_eq_true hg)
  refine bT (by simpa using hg) ?_
  refine bT (by simpa using hg) ?_
  rw[e1]
  rfl
abbrev qI:Io:=⟨[.ptr 0 0,.fnc 145 false [1]],wc,[],[.dat (.sl 172 ar) false false],none⟩
def GW (d:qI.In):Tr qI.Res:=.ite (decide (d.2.1.2.2.1≠0)) (.ret (.ret ((([]:List ar.den),()),d.2))) .no
abbrev Q0:List (Nat×Hc):=[(143,eX di (ae eM jO) (ae cB ew))]
theorem RS:HcOk prog 144 (ae qI GW):=
 t4 (cs:=Q0) (.cons (bb jj cY) .nil) (fn:=Tryz.f144) (by kernel_rfl) (by kernel_rfl) (by kernel_rfl) (by kernel_rfl) (by kernel_rfl) (by kernel_rfl) (by intros;kernel_rfl) (by intros;kernel_rfl)
def zW (args:List V)(A:AS):Bool:=match args with
 |[.one (.int _ v),.one (.lst _ _ xs _)]=>!(decide (0≤v)&&(decide (v≤3)&&decide ((xs.length:Int)≤130048)))
 |_=>false
def ad5:ik.den:=((false,(([]:LI),())),(0,(0,(([]:List ar.den),()))))
def gz (v:Int)(b:LI)(s:aD):fv.den×aD:=if s.1=0∧3≤v∧v≤3 then dR b s else ((false,(([]:LI),())),s)
def q7 (v:Int)(b:LI):ik.den×aD:=
 (((gz v b (0,0)).1,((ab .i16 2 b (gz v b (0,0)).2).1,((ab .i32 4 b (ab .i16 2 b (gz v b (0,0)).2).2).1,((cU b (ab .i32 4 b (ab .i16 2 b (gz v b (0,0)).2).2).2).1,())))),(cU b (ab .i32 4 b (ab .i16 2 b (gz v b (0,0)).2).2).2).2)
def ei (v:Int)(b:LI):ik.den×Int:=if 0≤v∧v≤3∧(b.length:Int)≤130048 then (if aE b (q7 v b).2=0 then ((q7 v b).1,0) else (ad5,aE b (q7 v b).2)) else (ad5,bg v)
abbrev vT:Io:=⟨[dI,dL],[],[],[.dat ik true false,dI],none⟩
def Zs (d:vT.In):Tr vT.Res:=.ret (.ret (((ei d.1.1 d.1.2.1).1,((ei d.1.1 d.1.2.1).2,())),()))
abbrev aao:List (Nat×Hc):=[(139,eX zW (ae jE o8) (ae lZ AF)),(140,eX di (ae jD rL) (ae iI pq)),(141,ae qm Qo),(142,eX di (ae mA CS) (ae lX AD)),(143,eX di (ae eM jO) (ae cB ew)),(144,eX di (ae qI GW) (ae tU Mk)),(150,eX di (ae jC rK) (ae lW AC))]
def aiY:Hd:=bM aao
def abO:Lp:=bB []
def MR (a0:Int)(a1:LI):Option vT.Res:=bif !(decide (0≤a0)&&(decide (a0≤3)&&decide ((↑a1.length:Int)≤130048))) then bif decide (0≤a0)&&(decide (a0≤3)&&decide ((↑a1.length:Int)≤130048)) then none else bif decide (bg a0≠0) then bif decide (bg a0≠0) then bif decide (bg a0≠0) then bif decide (bg a0≠0) then bif decide (bg a0≠0) then bif bg a0 != 0 then oR ((((false,List.map (fun (c:UInt8)=>(↑c.toNat:Int)) [],()),0,0,[],()),bg a0,()),()) else oR ((((false,List.map (fun (c:UInt8)=>(↑c.toNat:Int)) [],()),0,0,[],()),0,()),()) else none else none else none else none else none else bif decide (0≤a0)&&(decide (a0≤3)&&decide ((↑a1.length:Int)≤130048)) then bif aQ a0 3 3 0 then bif al a1 0 then bif al a1 (dR a1 (0,0)).2.2 then bif al a1 (ab i16 2 a1 (dR a1 (0,0)).2).2.2 then bif al a1 (ab i32 4 a1 (ab i16 2 a1 (dR a1 (0,0)).2).2).2.2 then bif aE a1 (cU a1 (ab i32 4 a1 (ab i16 2 a1 (dR a1 (0,0)).2).2).2).2 != 0 then oR ((((false,List.map (fun (c:UInt8)=>(↑c.toNat:Int)) [],()),0,0,[],()),aE a1 (cU a1 (ab i32 4 a1 (ab i16 2 a1 (dR a1 (0,0)).2).2).2).2,()),()) else oR (((((dR a1 (0,0)).1.1,(dR a1 (0,0)).1.2.1,()),(ab i16 2 a1 (dR a1 (0,0)).2).1,(ab i32 4 a1 (ab i16 2 a1 (dR a1 (0,0)).2).2).1,(cU a1 (ab i32 4 a1 (ab i16 2 a1 (dR a1 (0,0)).2).2).2).1,()),0,()),()) else none else none else none else none else bif al a1 0 then bif al a1 (an a1 0 2).2.1 then bif al a1 (ab i32 4 a1 ((an a1 0 2).2.2,(an a1 0 2).2.1)).2.2 then bif aE a1 (cU a1 (ab i32 4 a1 ((an a1 0 2).2.2,(an a1 0 2).2.1)).2).2 != 0 then oR ((((false,List.map (fun (c:UInt8)=>(↑c.toNat:Int)) [],()),0,0,[],()),aE a1 (cU a1 (ab i32 4 a1 ((an a1 0 2).2.2,(an a1 0 2).2.1)).2).2,()),()) else oR ((((false,List.map (fun (c:UInt8)=>(↑c.toNat:Int)) [],()),i16.wrap (an a1 0 2).1,(ab i32 4 a1 ((an a1 0 2).2.2,(an a1 0 2).2.1)).1,(cU a1 (ab i32 4 a1 ((an a1 0 2).2.2,(an a1 0 2).2.1)).2).1,()),0,()),()) else none else none else none else none
theorem agL (a0:Int)(a1:LI):Io.run tt aiY dr abO vT Tryz.f65 ((a0,a1,()),())=MR a0 a1:=by kernel_rfl
theorem ajd:HcOk prog 65 (ae vT Zs):=by
 refine cg (cs:=aao) (.cons (bb up z0) (.cons (bb uo nG) (.cons afI (.cons (bb LA zY) (.cons (bb jj cY) (.cons (bb RS XA) (.cons (bb un zX) .nil))))))) (lp:=abO) (fn:=Tryz.f65) vT (.done (by kernel_rfl)) Zs ?_
 rintro ⟨⟨(v:Int),(b:LI),⟨⟩⟩,⟨⟩⟩ out hw ho
 cases ho
 refine (agL v b).trans ?_
 unfold MR
 show _=oR (((ei v b).1,((ei v b).2,())),())
 by_cases h:0≤v∧v≤3∧(b.length:Int)≤130048
 ·have hc:(decide (0≤v)&&(decide (v≤3)&&decide ((b.length:Int)≤130048)))=true:=by simpa using h
  refine bF (by rw[hc];rfl) ?_
  refine (aa hc _ _).trans ?_
  have hg:al b 0=true:=by simp[al];omega
  unfold ei q7
  rw[if_pos h]
  by_cases h3:v=3
  ·have ht:gz v b (0,0)=dR b (0,0):=by unfold gz;rw[if_pos ⟨rfl,by omega,by omega⟩]
   rw[ht]
   have g1:=SW (s:=(0,0)) hg
   have g2:=aO .i16 2 g1
   have g3:=aO .i32 4 g2
   refine bT (by unfold aQ;rw[if_pos ⟨rfl,by omega,by omega⟩]) ?_
   refine (aa hg _ _).trans ?_
   refine (aa g1 _ _).trans ?_
   refine (aa g2 _ _).trans ?_
   refine (aa g3 _ _).trans ?_
   by_cases hE:aE b (cU b (ab .i32 4 b (ab .i16 2 b (dR b (0,0)).2).2).2).2=0
   ·rw[if_pos hE]
    exact af (by simpa using hE) _ _
   ·rw[if_neg hE]
    exact aa (by simpa using hE) _ _
  ·have ht:gz v b (0,0)=((false,(([]:LI),())),(0,0)):=by unfold gz;rw[if_neg (by omega)]
   have h16:ab .i16 2 b (0,0)=(i16.wrap (an b 0 2).1,((an b 0 2).2.2,(an b 0 2).2.1)):=if_pos rfl
   rw[ht]
   show _=oR (((if aE b (cU b (ab .i32 4 b (ab .i16 2 b (0,0)).2).2).2=0 then _ else _:ik.den×Int).1,_),())
   have g2:=aO .i16 2 (s:=(0,0)) hg
   have g3:=aO .i32 4 g2
   rw[h16] at g2 g3 ⊢
   refine bF (by unfold aQ;rw[if_neg (by omega)]) ?_
   refine (aa hg _ _).trans ?_
   refine (aa g2 _ _).trans ?_
   refine (aa g3 _ _).trans ?_
   by_cases hE:aE b (cU b (ab .i32 4 b ((an b 0 2).2.2,(an b 0 2).2.1)).2).2=0
   ·rw[if_pos hE]
    exact af (by simpa using hE) _ _
   ·rw[if_neg hE]
    exact aa (by simpa using hE) _ _
 ·have hc:(decide (0≤v)&&(decide (v≤3)&&decide ((b.length:Int)≤130048)))=false:=by
   rw[Bool.eq_false_iff]
   intro h'
   simp only[zA,zB] at h'
   exact h h'
  have hn:bg v≠0:=by unfold bg;split <;> decide
  unfold ei
  rw[if_neg h]
  refine bT (by rw[hc];rfl) ?_
  refine (af hc _ _).trans ?_
  refine bT (decide_eq_true hn) ?_
  refine bT (decide_eq_true hn) ?_
  refine bT (decide_eq_true hn) ?_
  refine bT (decide_eq_true hn) ?_
  refine bT (decide_eq_true hn) ?_
  exact aa (by simpa using hn) _ _
abbrev tFl:Ty:=.prod .str (.prod (.int .i64) (.prod (.int .i64) (.prod (.int .i64) .unit)))
abbrev gD:Ty:=.tree tFl 160
abbrev Q3:Sh:=.dat gD true false
abbrev ah9:Ty:=.sl 160 gD
abbrev Bo:Sh:=.dat ah9 false false
abbrev aio:Sh:=.dat ah9 false true
abbrev Fd:Type:=Tre tFl.den
abbrev aip:Sh:=.dat aeb false false
abbrev jG:Io:=⟨[dS],[],[],[dH],none⟩
def r5 (d:jG.In):Tr jG.Res:=.ret (.ret ((.mk (5,(0,(false,(d.1.1,())))) [],()),()))
abbrev UG:List (Nat×Hc):=[]
def afk:Hd:=bM UG
def VB:Lp:=bB []
def We (a0:LI):Option jG.Res:=oR ((Tre.mk (5,0,false,a0,()) [],()),())
theorem adq (a0:LI):Io.run tt afk dr VB jG Tryz.f183 ((a0,()),())=We a0:=by kernel_rfl
theorem uu:HcOk prog 183 (ae jG r5):=by
 refine cg (cs:=UG) HcsOk.nil (lp:=VB) (fn:=Tryz.f183) jG (.done (by kernel_rfl)) r5 ?_
 rintro ⟨⟨(s:LI),⟨⟩⟩,⟨⟩⟩ out hw ho
 cases ho
 exact adq s
abbrev lL:Io:=⟨[yW],[],[],[dH],none⟩
def Co (d:lL.In):Tr lL.Res:=.ret (.ret ((.mk (6,(0,(d.1.1.1,(d.1.1.2.1,())))) [],()),()))
abbrev Nx:List (Nat×Hc):=[]
def aa8:Hd:=bM Nx
def OI:Lp:=bB []
def QM (a0:Bool)(a1:LI):Option lL.Res:=oR ((Tre.mk (6,0,a0,a1,()) [],()),())
theorem Ye (a0:Bool)(a1:LI):Io.run tt aa8 dr OI lL Tryz.f185 (((a0,a1,()),()),())=QM a0 a1:=by kernel_rfl
theorem O3:HcOk prog 185 (ae lL Co):=by
 refine cg (cs:=Nx) HcsOk.nil (lp:=OI) (fn:=Tryz.f185) lL (.done (by kernel_rfl)) Co ?_
 rintro ⟨⟨⟨(z:Bool),(s:LI),⟨⟩⟩,⟨⟩⟩,⟨⟩⟩ out hw ho
 cases ho
 exact Ye z s
abbrev iR:Io:=⟨[KA],[],[],[dH],none⟩
def r4 (d:iR.In):Tr iR.Res:=.ret (.ret ((.mk (8,(0,(d.1.1.1,(d.1.1.2.1,())))) [],()),()))
abbrev H9:List (Nat×Hc):=[]
def WS:Hd:=bM H9
def IK:Lp:=bB []
def MO (a0:Bool)(a1:LI):Option iR.Res:=oR ((Tre.mk (8,0,a0,a1,()) [],()),())
theorem Ss (a0:Bool)(a1:LI):Io.run tt WS dr IK iR Tryz.f182 (((a0,a1,()),()),())=MO a0 a1:=by kernel_rfl
theorem Ab:HcOk prog 182 (ae iR r4):=by
 refine cg (cs:=H9) HcsOk.nil (lp:=IK) (fn:=Tryz.f182) iR (.done (by kernel_rfl)) r4 ?_
 rintro ⟨⟨⟨(z:Bool),(s:LI),⟨⟩⟩,⟨⟩⟩,⟨⟩⟩ out hw ho
 cases ho
 exact Ss z s
abbrev iS:Io:=⟨[aip],[],[],[dH],none⟩
def pX (d:iS.In):Tr iS.Res:=.ret (.ret ((.mk (9,(0,(false,(([]:LI),())))) d.1.1,()),()))
abbrev UF:List (Nat×Hc):=[]
def afj:Hd:=bM UF
def VA:Lp:=bB []
def Wd (a0:List ap.den):Option iS.Res:=oR ((Tre.mk (9,0,false,[],()) a0,()),())
theorem adp (a0:List ap.den):Io.run tt afj dr VA iS Tryz.f184 ((a0,()),())=Wd a0:=by kernel_rfl
theorem q4:HcOk prog 184 (ae iS pX):=by
 refine cg (cs:=UF) HcsOk.nil (lp:=VA) (fn:=Tryz.f184) iS (.done (by kernel_rfl)) pX ?_
 rintro ⟨⟨l,⟨⟩⟩,⟨⟩⟩ out hw ho
 cases ho
 exact adp l
abbrev j5:Io:=⟨[dH],[],[],[yW],none⟩
def wN (d:j5.In):Tr j5.Res:=.ret (.ret (((d.1.1.lab.2.2.1,(d.1.1.lab.2.2.2.1,())),()),()))
abbrev Ia:List (Nat×Hc):=[]
def WT:Hd:=bM Ia
def IL:Lp:=bB []
def MP (a0:Tre Cd.den):Option j5.Res:=oR ((a0.1.2.2,()),())
theorem St (a0:Tre Cd.den):Io.run tt WT dr IL j5 Tryz.f163 ((a0,()),())=MP a0:=by kernel_rfl
theorem I6:HcOk prog 163 (ae j5 wN):=by
 refine cg (cs:=Ia) HcsOk.nil (lp:=IL) (fn:=Tryz.f163) j5 (.done (by kernel_rfl)) wN ?_
 rintro ⟨⟨(n:Nd),⟨⟩⟩,⟨⟩⟩ out hw ho
 cases ho
 exact St n
abbrev iQ:Io:=⟨[dH],[],[],[KA],none⟩
def rY (d:iQ.In):Tr iQ.Res:=.ite (decide (d.1.1.lab.2.2.2.1.length≤4294967296)) (.ret (.ret (((d.1.1.lab.2.2.1,(d.1.1.lab.2.2.2.1,())),()),()))) .no
abbrev H8:List (Nat×Hc):=[(27,ae qk Md)]
def WR:Hd:=bM H8
def IJ:Lp:=bB []
def Bb (a0:Tre Cd.den):Option iQ.Res:=bif decide (List.length a0.1.2.2.2.1≤4294967296) then oR ((a0.1.2.2,()),()) else none
theorem Sr (a0:Tre Cd.den):Io.run tt WR dr IJ iQ Tryz.f165 ((a0,()),())=Bb a0:=by kernel_rfl
theorem z9:HcOk prog 165 (ae iQ rY):=by
 refine cg (cs:=H8) (.cons Lz .nil) (lp:=IJ) (fn:=Tryz.f165) iQ (.done (by kernel_rfl)) rY ?_
 rintro ⟨⟨(n:Nd),⟨⟩⟩,⟨⟩⟩ out hw ho
 obtain ⟨hg,ho⟩:=Tr.guard ho
 have hg:n.lab.2.2.2.1.length≤4294967296:=of_decide_eq_true hg
 cases ho
 refine (Sr n).trans ?_
 unfold Bb
 exact aa (by simpa using hg) _ _
abbrev oL:Io:=⟨[dH],[],[],[dB],none⟩
def cD (n:Nd):Bool:=if n.lab.2.1=0 then (if n.lab.2.2.1=false then (if n.lab.2.2.2.1.length=0 then (if n.kids.length=0 then true else false) else false) else false) else false
def Kd (d:oL.In):Tr oL.Res:=.ret (.ret ((cD d.1.1,()),()))
abbrev UH:List (Nat×Hc):=[]
def afl:Hd:=bM UH
def VC:Lp:=bB []
def HJ (a0:Tre Cd.den):Option oL.Res:=bif a0.1.2.1 == 0 then bif !a0.1.2.2.1 then bif (↑(List.length a0.1.2.2.2.1):Int) == 0 then oR (((↑a0.2.length:Int) == 0,()),()) else oR ((false,()),()) else oR ((false,()),()) else oR ((false,()),())
theorem ads (a0:Tre Cd.den):Io.run tt afl dr VC oL Tryz.f88 ((a0,()),())=HJ a0:=by kernel_rfl
theorem CJ:HcOk prog 88 (ae oL Kd):=by
 refine cg (cs:=UH) HcsOk.nil (lp:=VC) (fn:=Tryz.f88) oL (.done (by kernel_rfl)) Kd ?_
 rintro ⟨⟨(n:Nd),⟨⟩⟩,⟨⟩⟩ out hw ho
 cases ho
 refine (ads n).trans ?_
 unfold HJ
 show _=oR ((cD n,()),())
 unfold cD
 simp only[cond_eq_ite]
 repeat' split
 all_goals simp_all
abbrev lK:Io:=⟨[Q3,dI],[],[],[dB],none⟩
def jy (f:Fd)(v:Int):Bool:=if f.lab.2.2.1≤v∧v≤f.lab.2.2.2.1 then true else false
def Cn (d:lK.In):Tr lK.Res:=.ret (.ret ((jy d.1.1 d.1.2.1,()),()))
abbrev Nw:List (Nat×Hc):=[]
def aa7:Hd:=bM Nw
def OH:Lp:=bB []
def DM (a0:Tre tFl.den)(a1:Int):Option lK.Res:=bif decide (a0.1.2.2.1≤a1) then oR ((decide (a1≤a0.1.2.2.2.1),()),()) else oR ((false,()),())
theorem Yd (a0:Tre tFl.den)(a1:Int):Io.run tt aa7 dr OH lK Tryz.f189 ((a0,a1,()),())=DM a0 a1:=by kernel_rfl
theorem x6:HcOk prog 189 (ae lK Cn):=by
 refine cg (cs:=Nw) HcsOk.nil (lp:=OH) (fn:=Tryz.f189) lK (.done (by kernel_rfl)) Cn ?_
 rintro ⟨⟨(f:Fd),(v:Int),⟨⟩⟩,⟨⟩⟩ out hw ho
 cases ho
 refine (Yd f v).trans ?_
 unfold DM
 show _=oR ((jy f v,()),())
 unfold jy
 simp only[cond_eq_ite]
 repeat' split
 all_goals simp_all
abbrev ny:Io:=⟨[dI],[],[],[dI],none⟩
def bZ (k:Int):Int:=if k=1 then 1 else if k=2∨k=5∨k=6 then 2 else if k=4 then 8 else 4
def Kc (d:ny.In):Tr ny.Res:=.ret (.ret ((bZ d.1.1,()),()))
abbrev Nz:List (Nat×Hc):=[]
def aba:Hd:=bM Nz
def OK:Lp:=bB []
def DO (a0:Int):Option ny.Res:=bif a0 == 1 then oR ((1,()),()) else bif a0 == 2 then bif a0 == 2 then oR ((2,()),()) else bif a0 == 4 then oR ((8,()),()) else oR ((4,()),()) else bif a0 == 5 then bif a0 == 5 then oR ((2,()),()) else bif a0 == 4 then oR ((8,()),()) else oR ((4,()),()) else bif a0 == 6 then oR ((2,()),()) else bif a0 == 4 then oR ((8,()),()) else oR ((4,()),())
theorem Yg (a0:Int):Io.run tt aba dr OK ny Tryz.f217 ((a0,()),())=DO a0:=by kernel_rfl
theorem O4:HcOk prog 217 (ae ny Kc):=by
 refine cg (cs:=Nz) HcsOk.nil (lp:=OK) (fn:=Tryz.f217) ny (.done (by kernel_rfl)) Kc ?_
 rintro ⟨⟨(k:Int),⟨⟩⟩,⟨⟩⟩ out hw ho
 cases ho
 refine (Yg k).trans ?_
 unfold DO
 show _=oR ((bZ k,()),())
 unfold bZ
 simp only[cond_eq_ite]
 repeat' split
 all_goals simp_all
abbrev kl:Io:=⟨[Q3,dH],[],[],[dB],none⟩
def iE (k:Int)(n:Nd):Bool:=
 if n.lab.1≠k then false else if 4<k∧n.lab.2.1≠0 then false else if (k<5∨8<k)∧0<n.lab.2.2.2.1.length then false else if k≠6∧k≠8∧n.lab.2.2.1=true then false else if 8<k∨n.kids.length=0 then true else false
def Cq (d:kl.In):Tr kl.Res:=.ret (.ret ((iE d.1.1.lab.2.1 d.1.2.1,()),()))
abbrev Ny:List (Nat×Hc):=[]
def aa9:Hd:=bM Ny
def OJ:Lp:=bB []
def DN (a0:Tre tFl.den)(a1:Tre Cd.den):Option kl.Res:=bif a1.1.1 != a0.1.2.1 then oR ((false,()),()) else bif decide (4<a0.1.2.1) then bif a1.1.2.1 != 0 then oR ((false,()),()) else bif decide (a0.1.2.1<5) then bif decide (0<(↑(List.length a1.1.2.2.2.1):Int)) then oR ((false,()),()) else bif a0.1.2.1 != 6 then bif a0.1.2.1 != 8 then bif a1.1.2.2.1 then oR ((false,()),()) else bif decide (8<a0.1.2.1) then oR ((true,()),()) else oR (((↑a1.2.length:Int) == 0,()),()) else bif decide (8<a0.1.2.1) then oR ((true,()),()) else oR (((↑a1.2.length:Int) == 0,()),()) else bif decide (8<a0.1.2.1) then oR ((true,()),()) else oR (((↑a1.2.length:Int) == 0,()),()) else bif decide (8<a0.1.2.1) then bif decide (0<(↑(List.length a1.1.2.2.2.1):Int)) then oR ((false,()),()) else bif a0.1.2.1 != 6 then bif a0.1.2.1 != 8 then bif a1.1.2.2.1 then oR ((false,()),()) else bif decide (8<a0.1.2.1) then oR ((true,()),()) else oR (((↑a1.2.length:Int) == 0,()),()) else bif decide (8<a0.1.2.1) then oR ((true,()),()) else oR (((↑a1.2.length:Int) == 0,()),()) else bif decide (8<a0.1.2.1) then oR ((true,()),()) else oR (((↑a1.2.length:Int) == 0,()),()) else bif a0.1.2.1 != 6 then bif a0.1.2.1 != 8 then bif a1.1.2.2.1 then oR ((false,()),()) else bif decide (8<a0.1.2.1) then oR ((true,()),()) else oR (((↑a1.2.length:Int) == 0,()),()) else bif decide (8<a0.1.2.1) then oR ((true,()),()) else oR (((↑a1.2.length:Int) == 0,()),()) else bif decide (8<a0.1.2.1) then oR ((true,()),()) else oR (((↑a1.2.length:Int) == 0,()),()) else bif decide (a0.1.2.1<5) then bif decide (0<(↑(List.length a1.1.2.2.2.1):Int)) then oR ((false,()),()) else bif a0.1.2.1 != 6 then bif a0.1.2.1 != 8 then bif a1.1.2.2.1 then oR ((false,()),()) else bif decide (8<a0.1.2.1) then oR ((true,()),()) else oR (((↑a1.2.length:Int) == 0,()),()) else bif decide (8<a0.1.2.1) then oR ((true,()),()) else oR (((↑a1.2.length:Int) == 0,()),()) else bif decide (8<a0.1.2.1) then oR ((true,()),()) else oR (((↑a1.2.length:Int) == 0,()),()) else bif decide (8<a0.1.2.1) then bif decide (0<(↑(List.length a1.1.2.2.2.1):Int)) then oR ((false,()),()) else bif a0.1.2.1 != 6 then bif a0.1.2.1 != 8 then bif a1.1.2.2.1 then oR ((false,()),()) else bif decide (8<a0.1.2.1) then oR ((true,()),()) else oR (((↑a1.2.length:Int) == 0,()),()) else bif decide (8<a0.1.2.1) then oR ((true,()),()) else oR (((↑a1.2.length:Int) == 0,()),()) else bif decide (8<a0.1.2.1) then oR ((true,()),()) else oR (((↑a1.2.length:Int) == 0,()),()) else bif a0.1.2.1 != 6 then bif a0.1.2.1 != 8 then bif a1.1.2.2.1 then oR ((false,()),()) else bif decide (8<a0.1.2.1) then oR ((true,()),()) else oR (((↑a1.2.length:Int) == 0,()),()) else bif decide (8<a0.1.2.1) then oR ((true,()),()) else oR (((↑a1.2.length:Int) == 0,()),()) else bif decide (8<a0.1.2.1) then oR ((true,()),()) else oR (((↑a1.2.length:Int) == 0,()),())
theorem Yf (a0:Tre tFl.den)(a1:Tre Cd.den):Io.run tt aa9 dr OJ kl Tryz.f191 ((a0,a1,()),())=DN a0 a1:=by kernel_rfl
theorem EZ:HcOk prog 191 (ae kl Cq):=by
 refine cg (cs:=Ny) HcsOk.nil (lp:=OJ) (fn:=Tryz.f191) kl (.done (by kernel_rfl)) Cq ?_
 rintro ⟨⟨(f:Fd),(n:Nd),⟨⟩⟩,⟨⟩⟩ out hw ho
 cases ho
 refine (Yf f n).trans ?_
 unfold DN
 show _=oR ((iE f.lab.2.1 n,()),())
 unfold iE
 obtain ⟨⟨nm,k,lo,hi,⟨⟩⟩,e⟩:=f
 obtain ⟨⟨k',m,z,d,⟨⟩⟩,l⟩:=n
 have hc:∀(c a b:Bool),(bif c then (oR ((a,()),()):Option kl.Res) else oR ((b,()),()))=oR ((bif c then a else b,()),()):=by intro c a b;cases c <;> rfl
 simp only[hc]
 refine congrArg (fun b:Bool=>oR ((b,()),())) ?_
 simp only[cond_eq_ite]
 grind
abbrev oK:Io:=⟨[Bo,dI],[],[],[aio],none⟩
def en (l:List Fd)(v:Int):List Fd:=l.filter fun f=>jy f v
def Kb (d:oK.In):Tr oK.Res:=.ite (decide (d.1.1.length≤4294967296)) (.ret (.ret ((en d.1.1 d.1.2.1,()),()))) .no
abbrev UE:List (Nat×Hc):=[(189,ae lK Cn)]
def U2:Hd:=bM UE
abbrev i6:Lo:=⟨⟨(.one (.hol (.sl 160 ((Ty.str.prod ((Ty.int i64).prod ((Ty.int i64).prod ((Ty.int i64).prod Ty.unit)))).tree 160)))::.one hI::.any::ce (.one (.onl 160 ((Ty.str.prod ((Ty.int i64).prod ((Ty.int i64).prod ((Ty.int i64).prod Ty.unit)))).tree 160) 11)::.one hI::.any::am (dq []))),[]⟩,[(.exit 0,⟨(.any::dq (.one (.onl 160 ((Ty.str.prod ((Ty.int i64).prod ((Ty.int i64).prod ((Ty.int i64).prod Ty.unit)))).tree 160) 11)::am (dq (ce [])))),[]⟩)]⟩
def rZ (d:i6.st.den):Tr (aH i6.xs):=
 .ite (decide (d.1.2.2.1.length=0)&&(decide (d.1.2.2.2.1=0)&&decide (d.1.1.length≤4294967296))) (.ret (.ret ((),((en d.1.1 d.1.2.1,()),())))) .no
def CE:Lp:=bB [(4,aS i6 rZ)]
def BW {R:Type}(h2:List gD.den)(h3:Int)(h4:List ((Ty.str.prod ((Ty.int i64).prod ((Ty.int i64).prod ((Ty.int i64).prod Ty.unit)))).tree 160).den)(h5:Int)(next:List gD.den→Int→List ((Ty.str.prod ((Ty.int i64).prod ((Ty.int i64).prod ((Ty.int i64).prod Ty.unit)))).tree 160).den→Int→Option R)(out:aH i6.xs→Option R):Option R:=bif decide (h5<(↑h2.length:Int)) then bif decide (0≤h5)&&decide (h5<(↑h2.length:Int)) then bif jy (Tre.mk (h2.getD h5.toNat (Tre.mk ([],0,0,0,()) [])).1 (h2.getD h5.toNat (Tre.mk ([],0,0,0,()) [])).2) h3 then bif decide (0≤h5)&&decide (h5<(↑h2.length:Int)) then bif decide (h4.length+[Tre.mk (h2.getD h5.toNat (Tre.mk ([],0,0,0,()) [])).1 (h2.getD h5.toNat (Tre.mk ([],0,0,0,()) [])).2].length≤4294967296) then next (h2) (h3) (h4++[Tre.mk (h2.getD h5.toNat (Tre.mk ([],0,0,0,()) [])).1 (h2.getD h5.toNat (Tre.mk ([],0,0,0,()) [])).2]) (i64.wrap (h5+1)) else none else none else next (h2) (h3) (h4) (i64.wrap (h5+1)) else none else out (.ret ((),((h4,()),())))
def zt (n:Nat)(h2:List gD.den)(h3:Int)(h4:List ((Ty.str.prod ((Ty.int i64).prod ((Ty.int i64).prod ((Ty.int i64).prod Ty.unit)))).tree 160).den)(h5:Int):Option (aH i6.xs):=il tt U2 dr CE 0 Tryz.f210 (db Tryz.f210 0) n (i6.st.mk' ((h2,(h3,(h4,(h5,())))),())) (ci i6.xs)
theorem YA (n:Nat)(h2:List gD.den)(h3:Int)(h4:List ((Ty.str.prod ((Ty.int i64).prod ((Ty.int i64).prod ((Ty.int i64).prod Ty.unit)))).tree 160).den)(h5:Int):zt (n+1) h2 h3 h4 h5=BW h2 h3 h4 h5 (zt n) some:=by kernel_rfl
theorem ai5 (f:Nd):Tre.mk f.lab f.kids=f:=by cases f;rfl
theorem W7 {l:List Fd}(v:Int)(hl:l.length≤4294967296):∀(k j:Nat) (o:List Fd),l.length<j+k→j≤l.length→o.length≤j→
  zt k l v o j=some (.ret ((),((o++en (l.drop j) v,()),()))):=by
 intro k
 induction k with
 |zero=>intro j o h1 h2 h3;omega
 |succ k ih=>
  intro j o h1 h2 h3
  rw[YA]
  unfold BW
  by_cases hj:j<l.length
  ·refine bT (decide_eq_true (show (j:Int)<(l.length:Int) by omega)) ?_
   refine bT (by simp;omega) ?_
   have hg:List.getD l ((j:Int)).toNat (Tre.mk (([]:LI),(0:Int),(0:Int),(0:Int),()) ([]:List Fd))=l[j]:=by simp only[zG];exact aJ hj
   simp only[hg]
   rw[aI (n:=(j:Int)+1) (by omega) (by omega)]
   have hd:l.drop j=l[j]::l.drop (j+1):=zE hj
   generalize l[j]=x at hd ⊢
   obtain ⟨a,ks⟩:=x
   by_cases hh:jy (Tre.mk a ks) v=true
   ·refine (aa hh _ _).trans ?_
    refine bT (by simp;omega) ?_
    refine bT (decide_eq_true (show o.length+1≤4294967296 by omega)) ?_
    refine (ih (j+1) (o++[Tre.mk a ks]) (by omega) (by omega) (by simp;omega)).trans ?_
    rw[hd]
    simp[en,hh]
   ·have hh:jy (Tre.mk a ks) v=false:=by simpa using hh
    refine (af hh _ _).trans ?_
    refine (ih (j+1) o (by omega) (by omega) (by omega)).trans ?_
    rw[hd]
    simp[en,hh]
  ·refine bF (decide_eq_false (show ¬(j:Int)<(l.length:Int) by omega)) ?_
   rw[zI (by omega)]
   simp[en]
def HH (a0:List gD.den)(a1:Int):Option oK.Res:=(rZ ((a0,(a1,([],(0,())))),())).run fun y=>match y with | .ret ((),((x15,()),()))=>(oR ((x15,()),()))
theorem ado (a0:List gD.den)(a1:Int):Io.run tt U2 dr CE oK Tryz.f210 ((a0,a1,()),())=HH a0 a1:=by kernel_rfl
theorem Is:HcsOk prog UE:=.cons x6 .nil
theorem CI:HcOk prog 210 (ae oK Kb):=by
 refine cg Is (lp:=CE) (fn:=Tryz.f210) oK (.step (h0:=aS i6 rZ) (by kernel_rfl) (jh Is (lp:=CE) (fn:=Tryz.f210) (.done (by kernel_rfl)) i6 rZ ?_) (.done (by kernel_rfl))) Kb ?_
 ·rintro ⟨⟨(l:List Fd),(v:Int),(o:List Fd),(i:Int),⟨⟩⟩,⟨⟩⟩ y hw hy
  obtain ⟨hg,hy⟩:=Tr.guard hy
  simp only[zA,zB] at hg
  obtain ⟨h1,h2,h3⟩:=hg
  have h1:o=[]:=zF h1
  have h2:i=0:=h2
  have h3:l.length≤4294967296:=h3
  subst h1
  subst h2
  refine ⟨l.length+1,(W7 v h3 (l.length+1) 0 [] (by omega) (by omega) (by simp)).trans ?_⟩
  rw[← hy];rfl
 ·rintro ⟨⟨(l:List Fd),(v:Int),⟨⟩⟩,⟨⟩⟩ out hw ho
  obtain ⟨hg,ho⟩:=Tr.guard ho
  have hg:l.length≤4294967296:=of_decide_eq_true hg
  cases ho
  refine (ado l v).trans ?_
  unfold HH
  have e:rZ ((l,(v,(([]:List Fd),(0,())))),())=.ite true (.ret (.ret ((),((en l v,()),())))) .no:=congrArg (fun c=>Tr.ite c _ _) (by simp[hg])
  rw[e]
  rfl
end
end Go.Proofs.YtomeplopmndbgaaGreat.Sym
namespace Go.Proofs.YtomeplopmndbgaaGreat.Sym
open Go
open Go.IntKind (i8 i16 i32 i64 u8 u16 u32 u64)
structure FuT where
 n:Nat
@[irreducible] noncomputable def aP [i:Inhabited FuT]:Nat:=i.default.n
mutual
def Tre.wt {α:Type}(f:α→Nat):Tre α→Nat
 |.mk l ks=>1+f l+Tre.wts f ks
def Tre.wts {α:Type}(f:α→Nat):List (Tre α)→Nat
 |[]=>0
 |k::ks=>k.wt f+Tre.wts f ks
end
theorem Tre.wt_pos {α:Type}(f:α→Nat)(t:Tre α):1≤t.wt f:=by cases t;simp only[Tre.wt];omega
theorem Tre.wts_len {α:Type}(f:α→Nat):∀l:List (Tre α),l.length≤Tre.wts f l
 |[]=>Nat.zero_le _
 |k::ks=>by
  have h1:=k.wt_pos f
  have h2:=Tre.wts_len f ks
  simp only[Tre.wts,zN];omega
theorem Tre.wts_mem {α:Type}{f:α→Nat}{k:Tre α}:∀{l:List (Tre α)},k∈l→k.wt f≤Tre.wts f l
 |k'::ks,h=>by
  simp only[Tre.wts]
  rcases List.mem_cons.1 h with rfl | h
  ·omega
  ·have:=Tre.wts_mem (f:=f) h;omega
theorem Tre.wt_eq {α:Type}(f:α→Nat)(t:Tre α):t.wt f=1+f t.lab+Tre.wts f t.kids:=by cases t;rfl
noncomputable section
@[irreducible] noncomputable def aM (n:Nd):Nat:=n.wt fun l=>l.2.2.2.1.length
@[irreducible] noncomputable def aK (l:List Nd):Nat:=Tre.wts (fun l=>l.2.2.2.1.length) l
theorem dA (n:Nd):aM n=1+n.lab.2.2.2.1.length+aK n.kids:=by unfold aM aK;exact Tre.wt_eq _ n
theorem cI {k:Nd}{l:List Nd}(h:k∈l):aM k≤aK l:=by unfold aM aK;exact Tre.wts_mem h
theorem dG (l:List Nd):l.length≤aK l:=by unfold aK;exact Tre.wts_len _ l
open Classical in
def dm (a b:Nd):Bool:=if a=b then true else false
open Classical in
def wm (a b:List Nd):Bool:=if a=b then true else false
theorem jk {a b:Nd}:dm a b=true↔a=b:=by unfold dm;split <;> simp_all
theorem rc {a b:List Nd}:wm a b=true↔a=b:=by unfold wm;split <;> simp_all
theorem FuT.val (n:Nat):@aP ⟨⟨n⟩⟩=n:=by unfold aP;rfl
theorem HcOk.none {f:Nat}{fn:Func}(hf:prog.funcs[f]?=some fn)(hname:(fn.name == "runtime.NumGoroutine")=false) (hbody:fn.body.isNone=false) (io:Io) (Fn:io.In→Tr io.Res) (hn:∀d out,(Fn d).val≠some out):HcOk prog f (ae io Fn):=
 zk (mU prog 400) hf hname io Fn (fun d out _ h=>absurd h (hn d out)) hbody
theorem Tr.val_run {α R:Type}:∀{t:Tr α} {K:α→Option R} {a:α},t.val=some a→t.run K=K a
 |.ret a,K,b,h=>by simp only[Tr.val,Tr.run,zC] at h;subst h;rfl
 |.no,K,b,h=>by cases h
 |.ite c t e,K,b,h=>by
  cases c with
  |true=>exact Tr.val_run (t:=t) h
  |false=>exact Tr.val_run (t:=e) h
theorem HcOk.lim {f:Nat}{io:Io}{Fs:Nat→io.In→Tr io.Res}{Fn:io.In→Tr io.Res}(h:∀n,HcOk prog f (ae io (Fs n)))(hF:∀d,∃n,∀out,(Fn d).val=some out→(Fs n d).val=some out):HcOk prog f (ae io Fn):=by
 intro R args id A K r F G ts cst w vals hid hc Rl hv
 unfold ae at hc
 cases h1:Bx io.args args (List.replicate io.obs.length Option.none) with
 |none=>rw[h1] at hc;cases hc
 |some p=>
  obtain ⟨a,β1⟩:=p
  rw[h1] at hc
  simp only at hc
  cases h2:W9 A.ob io.obs 0 β1 with
  |none=>rw[h2] at hc;cases hc
  |some q=>
   obtain ⟨o,β⟩:=q
   rw[h2] at hc
   simp only at hc
   obtain ⟨n,hn⟩:=hF (a,o)
   refine h n R args id A K r F G ts cst w vals hid ?_ Rl hv
   unfold ae
   rw[h1]
   simp only[h2]
   revert hc
   cases cR ((me (gk 0) io.args args 0++pN A.ob β (qd io.obs.length 0) io.obs 0).map (·.2))&&(cR ((me (gk 0) io.args args 0++pN A.ob β (qd io.obs.length 0) io.obs 0).map (·.1))&&io.ok) with
   |false=>intro hc;cases hc
   |true=>
    intro hc
    obtain ⟨out,ho,hk⟩:=Tr.run_val hc
    exact (Tr.val_run (hn out ho)).trans hk
theorem pT (n:Nd):1≤aM n:=by rw[dA];omega
theorem adW {a b c d:Int}{z z':Bool}{x y:LI}{l m:List Nd}:dm (.mk (a,(c,(z,(x,())))) l) (.mk (b,(d,(z',(y,())))) m)=true↔a=b∧c=d∧z=z'∧x=y∧l=m:=by
 rw[jk]
 constructor
 ·intro h
  injection h with h1 h2
  injection h1 with h3 h4
  injection h4 with h5 h6
  injection h6 with h7 h8
  injection h8 with h9 h10
  exact ⟨h3,h5,h7,h9,h2⟩
 ·rintro ⟨rfl,rfl,rfl,rfl,rfl⟩;rfl
abbrev fK:Io:=⟨[dH,dH],[],[],[dB],none⟩
def rX (n:Nat)(d:fK.In):Tr fK.Res:=.ite (decide (aM d.1.1<n)) (.ret (.ret ((dm d.1.1 d.1.2.1,()),()))) .no
def Ka (d:fK.In):Tr fK.Res:=.ret (.ret ((dm d.1.1 d.1.2.1,()),()))
section
variable [Inhabited FuT]
abbrev D5:List (Nat×Hc):=[(28,ae sk TA),(51,ae fK (rX aP))]
def NT:Hd:=bM D5
abbrev gN:Lo:=⟨⟨(ce (.one (.ptr 2 0)::.one (.ptr 3 0)::.any::.one hI::.any::am (am (am (dq (ce [])))))),[none,none,some [hI,hI,hL,.hol (.sl 5 (Ty.int u8)),.hol (.sl 91 ap)],some [hI,hI,hL,.hol (.sl 5 (Ty.int u8)),.hol (.sl 91 ap)]]⟩,[(.ret,⟨(dq (.one hL::am (am (am (gE []))))),[]⟩),(.exit 0,⟨(.any::am (am (am (gE (dq []))))),[]⟩)]⟩
def pv (d:gN.st.den):Tr (aH gN.xs):=
 .ite (decide (d.1.1=0)&&(decide (d.2.1.2.2.2.2.1.length=d.2.2.1.2.2.2.2.1.length)&&decide (aK d.2.1.2.2.2.2.1<aP))) (.ite (wm d.2.1.2.2.2.2.1 d.2.2.1.2.2.2.2.1) (.ret (.pan (.ret ((),((),()))))) (.ret (.ret ((),((false,()),()))))) .no
def xP:Lp:=bB [(5,aS gN pv)]
def yt {R:Type}(h2 h3 h4:Int)(h5:Bool)(h6:LI)(h7:List (Nd))(h8 h9:Int)(h10:Bool)(h11:LI)(h12:List (Nd))(next:Int→Int→Int→Bool→LI→List (Nd)→Int→Int→Bool→LI→List (Nd)→Option R)(out:aH gN.xs→Option R):Option R:=bif decide (h2<(↑h7.length:Int)) then bif decide (0≤h2)&&decide (h2<(↑h7.length:Int)) then bif decide (0≤h2)&&decide (h2<(↑h12.length:Int)) then bif decide (aM (Tre.mk (h7.getD h2.toNat (Tre.mk (0,0,false,[],()) [])).1 (h7.getD h2.toNat (Tre.mk (0,0,false,[],()) [])).2)<aP) then bif !dm (Tre.mk (h7.getD h2.toNat (Tre.mk (0,0,false,[],()) [])).1 (h7.getD h2.toNat (Tre.mk (0,0,false,[],()) [])).2) (Tre.mk (h12.getD h2.toNat (Tre.mk (0,0,false,[],()) [])).1 (h12.getD h2.toNat (Tre.mk (0,0,false,[],()) [])).2) then out (.ret ((),((false,()),()))) else next (i64.wrap (h2+1)) (h3) (h4) (h5) (h6) (h7) (h8) (h9) (h10) (h11) (h12) else none else none else none else out (.pan (.ret ((),((),()))))
def vX (n:Nat)(h2 h3 h4:Int)(h5:Bool)(h6:LI)(h7:List (Nd))(h8 h9:Int)(h10:Bool)(h11:LI)(h12:List (Nd)):Option (aH gN.xs):=il tt NT dr xP 0 Tryz.f51 (db Tryz.f51 0) n (gN.st.mk' ((h2,()),((h3,(h4,(h5,(h6,(h7,()))))),((h8,(h9,(h10,(h11,(h12,()))))),())))) (ci gN.xs)
theorem SI (n:Nat)(h2 h3 h4:Int)(h5:Bool)(h6:LI)(h7:List (Nd))(h8 h9:Int)(h10:Bool)(h11:LI)(h12:List (Nd)):vX (n+1) h2 h3 h4 h5 h6 h7 h8 h9 h10 h11 h12=yt h2 h3 h4 h5 h6 h7 h8 h9 h10 h11 h12 (vX n) some:=by kernel_rfl
theorem Rr {l m:List Nd}(hlm:l.length=m.length)(hl:l.length≤maxLen)(hw:aK l<aP)(a b c d:Int)(z z':Bool)(x y:LI):∀(k j:Nat),l.length<j+k→j≤l.length→l.take j=m.take j→
  vX k j a b z x l c d z' y m=if wm l m=true then some (.pan (.ret ((),((),())))) else some (.ret ((),((false,()),()))):=by
 intro k
 induction k with
 |zero=>intro j h1 h2;omega
 |succ k ih=>
  intro j h1 h2 h3
  rw[SI]
  unfold yt
  by_cases hj:j<l.length
  ·have hj':j<m.length:=by omega
   refine bT (decide_eq_true (show (j:Int)<(l.length:Int) by omega)) ?_
   refine bT (by simp;omega) ?_
   refine bT (by simp;omega) ?_
   rw[cq hj hl]
   have hmem:=cI (List.getElem_mem hj)
   have ht:l.take (j+1)=m.take (j+1)↔l[j]=m[j]:=by
    rw[List.take_succ_eq_append_getElem hj,List.take_succ_eq_append_getElem hj',h3]
    exact ⟨fun h=>by have:=(List.append_inj' h rfl).2;injection this,fun h=>by rw[h]⟩
   have hne:l[j]≠m[j]→l≠m:=fun h e=>h (by subst e;rfl)
   have ih':=ih (j+1) (by omega) (by omega)
   simp only[zG,aJ hj,aJ hj']
   generalize l[j]=u at hmem ht hne ⊢
   generalize m[j]=v at ht hne ⊢
   obtain ⟨ul,uk⟩:=u
   obtain ⟨vl,vk⟩:=v
   refine bT (decide_eq_true (show aM (Tre.mk ul uk)<aP by omega)) ?_
   by_cases he:dm (Tre.mk ul uk) (Tre.mk vl vk)=true
   ·refine (af (show (!dm (Tre.mk ul uk) (Tre.mk vl vk))=false by rw[he];rfl) _ _).trans ?_
    exact ih' (ht.2 (jk.1 he))
   ·refine (aa (show (!dm (Tre.mk ul uk) (Tre.mk vl vk))=true by simpa using he) _ _).trans ?_
    rw[if_neg (fun h=>hne (fun e=>he (jk.2 e)) (rc.1 h))]
  ·refine bF (decide_eq_false (show ¬(j:Int)<(l.length:Int) by omega)) ?_
   rw[List.take_of_length_le (by omega),List.take_of_length_le (by omega)] at h3
   rw[if_pos (rc.2 h3)]
def DL (a0 a1:Nd):Option fK.Res:=bif a0.1.1 != a1.1.1 then oR ((false,()),()) else bif a0.1.2.1 != a1.1.2.1 then oR ((false,()),()) else bif !a0.1.2.2.1 == a1.1.2.2.1 then oR ((false,()),()) else bif !decide (a0.1.2.2.2.1=a1.1.2.2.2.1) then oR ((false,()),()) else bif (↑a0.2.length:Int) != (↑a1.2.length:Int) then oR ((false,()),()) else (pv ((0,()),((a0.1.1,(a0.1.2.1,(a0.1.2.2.1,(a0.1.2.2.2.1,(a0.2,()))))),((a1.1.1,(a1.1.2.1,(a1.1.2.2.1,(a1.1.2.2.2.1,(a1.2,()))))),())))).run fun y=>match y with | .ret ((),((x25,()),()))=>(oR ((x25,()),())) | .pan (.ret ((),((),())))=>(oR ((true,()),()))
theorem Yc (a0 a1:Nd):Io.run tt NT dr xP fK Tryz.f51 ((a0,a1,()),())=DL a0 a1:=by kernel_rfl
theorem Xy (rtAlike:HcOk prog 51 (ae fK (rX aP))):HcOk prog 51 (ae fK (rX (aP+1))):=by
 refine cg (cs:=D5) (.cons RC (.cons rtAlike .nil)) (lp:=xP) (fn:=Tryz.f51) fK (.step (h0:=aS gN pv) (by kernel_rfl) (jh (cs:=D5) (.cons RC (.cons rtAlike .nil)) (lp:=xP) (fn:=Tryz.f51) (.done (by kernel_rfl)) gN pv ?_) (.done (by kernel_rfl))) (rX (aP+1)) ?_
 ·rintro ⟨⟨(i:Int),⟨⟩⟩,⟨⟨(a:Int),(b:Int),(z:Bool),(x:LI),(l:List Nd),⟨⟩⟩,⟨(c:Int),(d:Int),(z':Bool),(y':LI),(m:List Nd),⟨⟩⟩,⟨⟩⟩⟩ y hw hy
  obtain ⟨hg,hy⟩:=Tr.guard hy
  simp only[zA,zB] at hg
  obtain ⟨h1,h2,h3⟩:=hg
  have h1:i=0:=h1
  have h2:l.length=m.length:=h2
  have h3:aK l<aP:=h3
  subst h1
  refine ⟨l.length+1,(Rr h2 (by have:=hw.2.1.2.2.2.2.1.1;exact this) h3 a b c d z z' x y' (l.length+1) 0 (by omega) (by omega) rfl).trans ?_⟩
  rw[← hy]
  by_cases h:wm l m=true
  ·rw[if_pos h];exact (aa h _ _).symm
  ·rw[if_neg h];exact (af (by simpa using h) _ _).symm
 ·rintro ⟨⟨(a:Nd),(b:Nd),⟨⟩⟩,⟨⟩⟩ out hw ho
  obtain ⟨hg,ho⟩:=Tr.guard ho
  have hk:aM a<aP+1:=of_decide_eq_true hg
  clear hg
  cases ho
  refine (Yc a b).trans ?_
  unfold DL
  show _=oR ((dm a b,()),())
  obtain ⟨⟨a1,a2,a3,a4,⟨⟩⟩,a5⟩:=a
  obtain ⟨⟨b1,b2,b3,b4,⟨⟩⟩,b5⟩:=b
  rw[dA] at hk
  have hk:1+a4.length+aK a5<aP+1:=hk
  have key:=adW (a:=a1) (b:=b1) (c:=a2) (d:=b2) (z:=a3) (z':=b3) (x:=a4) (y:=b4) (l:=a5) (m:=b5)
  have no:¬(a1=b1∧a2=b2∧a3=b3∧a4=b4∧a5=b5)→dm (Tre.mk (a1,(a2,(a3,(a4,())))) a5) (Tre.mk (b1,(b2,(b3,(b4,())))) b5)=false:=fun h=>by
   rw[Bool.eq_false_iff];exact fun e=>h (key.1 e)
  by_cases h1:a1=b1
  ·refine bF (by simpa using h1) ?_
   by_cases h2:a2=b2
   ·refine bF (by simpa using h2) ?_
    by_cases h3:a3=b3
    ·refine bF (by simp[h3]) ?_
     by_cases h4:a4=b4
     ·refine bF (by simp[h4]) ?_
      by_cases h5:a5.length=b5.length
      ·refine bF (by simp[h5]) ?_
       have c1:(decide ((0:Int)=0)&&(decide (a5.length=b5.length)&&decide (aK a5<aP)))=true:=by simp;omega
       have e1:pv ((0,()),((a1,(a2,(a3,(a4,(a5,()))))),((b1,(b2,(b3,(b4,(b5,()))))),())))=.ite true (.ite (wm a5 b5) (.ret (.pan (.ret ((),((),()))))) (.ret (.ret ((),((false,()),()))))) .no:=congrArg (fun c=>Tr.ite c _ _) c1
       rw[e1]
       by_cases h6:a5=b5
       ·rw[rc.2 h6,key.2 ⟨h1,h2,h3,h4,h6⟩];rfl
       ·have:wm a5 b5=false:=by rw[Bool.eq_false_iff];exact fun e=>h6 (rc.1 e)
        rw[this,no (fun h=>h6 h.2.2.2.2)];rfl
      ·refine (aa (bne_iff_ne.2 (fun e=>h5 (Int.ofNat.inj e))) _ _).trans ?_
       rw[no (fun h=>h5 (by rw[h.2.2.2.2]))]
     ·refine bT (by simp[h4]) ?_
      rw[no (fun h=>h4 h.2.2.2.1)]
    ·refine bT (by cases a3 <;> cases b3 <;> simp_all) ?_
     rw[no (fun h=>h3 h.2.2.1)]
   ·refine bT (by simpa using h2) ?_
    rw[no (fun h=>h2 h.2.1)]
  ·refine bT (by simpa using h1) ?_
   rw[no (fun h=>h1 h.1)]
end
theorem Xx (n:Nat):HcOk prog 51 (ae fK (rX n)):=by
 induction n with
 |zero=>exact HcOk.none (fn:=Tryz.f51) (by kernel_rfl) (by kernel_rfl) (by kernel_rfl) _ _ fun d out h=>by cases h
 |succ n ih=>
  have:=@Xy ⟨⟨n⟩⟩ (by rw[FuT.val];exact ih)
  rw[FuT.val] at this
  exact this
theorem O2:HcOk prog 51 (ae fK Ka):=by
 refine HcOk.lim Xx fun d=>⟨aM d.1.1+1,fun out h=>?_⟩
 exact (aa (decide_eq_true (Nat.lt_succ_self _)) _ _).trans h
abbrev fC:Io:=⟨[dH],[],[],[dH],none⟩
def wP (n:Nat)(d:fC.In):Tr fC.Res:=.ite (decide (aM d.1.1<n)&&decide (aM d.1.1≤4294967296)) (.ret (.ret ((d.1.1,()),()))) .no
def vx (d:fC.In):Tr fC.Res:=.ite (decide (aM d.1.1≤4294967296)) (.ret (.ret ((d.1.1,()),()))) .no
section
variable [Inhabited FuT]
abbrev Ky:List (Nat×Hc):=[(27,ae qk Md),(83,ae fC (wP aP))]
def U3:Hd:=bM Ky
abbrev i7:Lo:=⟨⟨(.any::.one (.ptr 1 0)::.one (.ptr 2 0)::.one (.onl 91 ap 7)::.one hI::am (gE (dq []))),[none,some [hI,hI,hL,.hol (.sl 5 (Ty.int u8)),.hol (.sl 91 ap)],some [hI,hI,hL,.onl 5 (Ty.int u8) 1032,.onl 91 ap 1034]]⟩,[(.exit 0,⟨(.any::.one (.ptr 1 0)::.one (.ptr 2 0)::.one (.onl 91 ap 7)::.any::am (gE (dq []))),[none,some [hI,hI,hL,.hol (.sl 5 (Ty.int u8)),.hol (.sl 91 ap)],some [hI,hI,hL,.onl 5 (Ty.int u8) 1032,.onl 91 ap 1034]]⟩)]⟩
def r6 (d:i7.st.den):Tr (aH i7.xs):=
 .ite (decide (d.1.1.length=0)&&(decide (d.1.2.1=0)&&(decide (aK d.2.1.2.2.2.2.1<aP)&&decide (aK d.2.1.2.2.2.2.1≤4294967296)))) (.ret (.ret ((),((d.2.1.2.2.2.2.1,()),d.2)))) .no
def CF:Lp:=bB [(4,aS i7 r6)]
def BX {R:Type}(h1:List ap.den)(h2 h3 h4:Int)(h5:Bool)(h6:LI)(h7:List (Nd))(h8 h9:Int)(h10:Bool)(h11:LI)(h12:List ap.den)(next:List ap.den→Int→Int→Int→Bool→LI→List (Nd)→Int→Int→Bool→LI→List ap.den→Option R)(out:aH i7.xs→Option R):Option R:=bif decide (h2<(↑h7.length:Int)) then bif decide (0≤h2)&&decide (h2<(↑h7.length:Int)) then bif decide (aM (Tre.mk (h7.getD h2.toNat (Tre.mk (0,0,false,[],()) [])).1 (h7.getD h2.toNat (Tre.mk (0,0,false,[],()) [])).2)<aP)&&decide (aM (Tre.mk (h7.getD h2.toNat (Tre.mk (0,0,false,[],()) [])).1 (h7.getD h2.toNat (Tre.mk (0,0,false,[],()) [])).2)≤4294967296) then bif decide (h1.length+1≤4294967296) then next (h1++[Tre.mk (h7.getD h2.toNat (Tre.mk (0,0,false,[],()) [])).1 (h7.getD h2.toNat (Tre.mk (0,0,false,[],()) [])).2]) (i64.wrap (h2+1)) (h3) (h4) (h5) (h6) (h7) (h8) (h9) (h10) (h11) (h12) else none else none else none else out (.ret ((),((h1,()),((h3,(h4,(h5,(h6,(h7,()))))),((h8,(h9,(h10,(h11,(h12,()))))),())))))
def zu (n:Nat)(h1:List ap.den)(h2 h3 h4:Int)(h5:Bool)(h6:LI)(h7:List (Nd))(h8 h9:Int)(h10:Bool)(h11:LI)(h12:List ap.den):Option (aH i7.xs):=il tt U3 dr CF 0 Tryz.f83 (db Tryz.f83 0) n (i7.st.mk' ((h1,(h2,())),((h3,(h4,(h5,(h6,(h7,()))))),((h8,(h9,(h10,(h11,(h12,()))))),())))) (ci i7.xs)
theorem YB (n:Nat)(h1:List ap.den)(h2 h3 h4:Int)(h5:Bool)(h6:LI)(h7:List (Nd))(h8 h9:Int)(h10:Bool)(h11:LI)(h12:List ap.den):zu (n+1) h1 h2 h3 h4 h5 h6 h7 h8 h9 h10 h11 h12=BX h1 h2 h3 h4 h5 h6 h7 h8 h9 h10 h11 h12 (zu n) some:=by kernel_rfl
theorem W8 {l:List Nd}(hw:aK l<aP)(hb:aK l≤4294967296)(a b:Int)(z:Bool)(x:LI)(c d:Int)(z':Bool)(y:LI)(m:List Nd):∀(k j:Nat),l.length<j+k→j≤l.length→
  zu k (l.take j) j a b z x l c d z' y m=some (.ret ((),((l,()),((a,(b,(z,(x,(l,()))))),((c,(d,(z',(y,(m,()))))),()))))):=by
 intro k
 induction k with
 |zero=>intro j h1 h2;omega
 |succ k ih=>
  intro j h1 h2
  rw[YB]
  unfold BX
  by_cases hj:j<l.length
  ·refine bT (decide_eq_true (show (j:Int)<(l.length:Int) by omega)) ?_
   refine bT (by simp;omega) ?_
   have hlen:=dG l
   rw[aI (n:=(j:Int)+1) (by omega) (by omega)]
   have hmem:=cI (List.getElem_mem hj)
   have ht:l.take (j+1)=l.take j++[l[j]]:=List.take_succ_eq_append_getElem hj
   have ih':=ih (j+1) (by omega) (by omega)
   rw[ht] at ih'
   simp only[zG,aJ hj]
   generalize l[j]=u at hmem ht ih' ⊢
   obtain ⟨ul,uk⟩:=u
   refine (aa (show (decide (aM (Tre.mk ul uk)<aP)&&decide (aM (Tre.mk ul uk)≤4294967296))=true by simp;omega) _ _).trans ?_
   refine bT (decide_eq_true (show (l.take j).length+1≤4294967296 by simp;omega)) ?_
   exact ih'
  ·refine bF (decide_eq_false (show ¬(j:Int)<(l.length:Int) by omega)) ?_
   rw[List.take_of_length_le (by omega)]
def HI (a0:Nd):Option fC.Res:=(r6 (([],(0,())),((a0.1.1,(a0.1.2.1,(a0.1.2.2.1,(a0.1.2.2.2.1,(a0.2,()))))),((0,(0,(false,([],([],()))))),())))).run fun y=>match y with | .ret ((),((x36,()),(x37,x38,x39,x40,x41,()),(x42,x43,x44,x45,x46,()),()))=>(bif decide (x40.length≤4294967296) then oR ((Tre.mk (x37,x38,x39,x40,()) x36,()),()) else none)
theorem adr (a0:Nd):Io.run tt U3 dr CF fC Tryz.f83 ((a0,()),())=HI a0:=by kernel_rfl
theorem acq (rtTwin:HcOk prog 83 (ae fC (wP aP))):HcOk prog 83 (ae fC (wP (aP+1))):=by
 refine cg (cs:=Ky) (.cons Lz (.cons rtTwin .nil)) (lp:=CF) (fn:=Tryz.f83) fC (.step (h0:=aS i7 r6) (by kernel_rfl) (jh (cs:=Ky) (.cons Lz (.cons rtTwin .nil)) (lp:=CF) (fn:=Tryz.f83) (.done (by kernel_rfl)) i7 r6 ?_) (.done (by kernel_rfl))) (wP (aP+1)) ?_
 ·rintro ⟨⟨(o:List Nd),(i:Int),⟨⟩⟩,⟨⟨(a:Int),(b:Int),(z:Bool),(x:LI),(l:List Nd),⟨⟩⟩,⟨(c:Int),(d:Int),(z':Bool),(y':LI),(m:List Nd),⟨⟩⟩,⟨⟩⟩⟩ y hw hy
  obtain ⟨hg,hy⟩:=Tr.guard hy
  simp only[zA,zB] at hg
  obtain ⟨h1,h2,h3,h4⟩:=hg
  have h1:o=[]:=zF h1
  have h2:i=0:=h2
  have h3:aK l<aP:=h3
  have h4:aK l≤4294967296:=h4
  subst h1
  subst h2
  refine ⟨l.length+1,(W8 h3 h4 a b z x c d z' y' m (l.length+1) 0 (by omega) (by omega)).trans ?_⟩
  rw[← hy]
  rfl
 ·rintro ⟨⟨(a:Nd),⟨⟩⟩,⟨⟩⟩ out hw ho
  obtain ⟨hg,ho⟩:=Tr.guard ho
  simp only[zA,zB] at hg
  obtain ⟨hk,hb⟩:=hg
  have hk:aM a<aP+1:=hk
  have hb:aM a≤4294967296:=hb
  cases ho
  refine (adr a).trans ?_
  unfold HI
  show _=oR ((a,()),())
  obtain ⟨⟨a1,a2,a3,a4,⟨⟩⟩,a5⟩:=a
  rw[dA] at hk hb
  have hk:1+a4.length+aK a5<aP+1:=hk
  have hb:1+a4.length+aK a5≤4294967296:=hb
  have c1:(decide (([]:List Nd).length=0)&&(decide ((0:Int)=0)&&(decide (aK a5<aP)&&decide (aK a5≤4294967296))))=true:=by simp;omega
  have e1:r6 ((([]:List Nd),(0,())),((a1,(a2,(a3,(a4,(a5,()))))),((0,(0,(false,(([]:LI),(([]:List Nd),()))))),())))=.ite true (.ret (.ret ((),((a5,()),((a1,(a2,(a3,(a4,(a5,()))))),((0,(0,(false,(([]:LI),(([]:List Nd),()))))),())))))) .no:=congrArg (fun c=>Tr.ite c _ _) c1
  rw[e1]
  exact aa (decide_eq_true (show a4.length≤4294967296 by omega)) _ _
end
theorem acp (n:Nat):HcOk prog 83 (ae fC (wP n)):=by
 induction n with
 |zero=>exact HcOk.none (fn:=Tryz.f83) (by kernel_rfl) (by kernel_rfl) (by kernel_rfl) _ _ fun d out h=>by cases h
 |succ n ih=>
  have:=@acq ⟨⟨n⟩⟩ (by rw[FuT.val];exact ih)
  rw[FuT.val] at this
  exact this
theorem uv:HcOk prog 83 (ae fC vx):=by
 refine HcOk.lim acp fun d=>⟨aM d.1.1+1,fun out h=>?_⟩
 obtain ⟨hg,h⟩:=Tr.guard h
 refine (aa ?_ _ _).trans h
 simp only[zA,zB]
 exact ⟨Nat.lt_succ_self _,of_decide_eq_true hg⟩
end
end Go.Proofs.YtomeplopmndbgaaGreat.Sym
