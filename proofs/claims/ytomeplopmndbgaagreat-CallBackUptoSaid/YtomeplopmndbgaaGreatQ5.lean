/- leatref10.value, parts. -/
import Derived.Test.YtomeplopmndbgaaGreatQ4

set_option linter.unusedVariables false
set_option linter.unusedSimpArgs false
namespace Go.Proofs.YtomeplopmndbgaaGreat.Sym
open Go
open Go.IntKind (i8 i16 i32 i64 u8 u16 u32 u64)
noncomputable section
mutual
def cQ (f:Fd)(v:Int):Nd→LI×Int
 |.mk a ks=>
  if iE f.lab.2.1 (.mk a ks)=false then ([],101)
  else if f.lab.2.1≤4 then (if iB a.2.1 (bZ f.lab.2.1)=true then (aB a.2.1 (bZ f.lab.2.1).toNat,0) else ([],102))
  else if f.lab.2.1=9 then (if 16<ks.length then ([],9) else if (ct (f.kids.headD f) v ks).2≠0 then ([],(ct (f.kids.headD f) v ks).2) else (aB ks.length 4++(ct (f.kids.headD f) v ks).1,0))
  else if f.lab.2.1=10 then ch f.kids v (.mk a ks)
  else if a.2.2.1=true then (if a.2.2.2.1.length=0 then (aB (-1) (bZ f.lab.2.1).toNat,0) else ([],70))
  else if f.lab.2.1≤6∧(cC a.2.2.2.1).2=false then ([],6)
  else if f.lab.2.1≤6∧255<a.2.2.2.1.length then ([],4)
  else (aB a.2.2.2.1.length (bZ f.lab.2.1).toNat++a.2.2.2.1,0)
termination_by n=>(SizeOf.sizeOf n,1)
def ch (fs:List Fd)(v:Int):Nd→LI×Int
 |.mk a ks=>if ks.length≠(en fs v).length then ([],101) else dP v (en fs v) ks
termination_by n=>(SizeOf.sizeOf n,0)
def ct (f:Fd)(v:Int):List Nd→LI×Int
 |[]=>([],0)
 |k::ks=>if (cQ f v k).2≠0 then ([],(cQ f v k).2) else if (ct f v ks).2≠0 then ([],(ct f v ks).2) else ((cQ f v k).1++(ct f v ks).1,0)
termination_by l=>(SizeOf.sizeOf l,0)
def dP (v:Int):List Fd→List Nd→LI×Int
 |f::fs,k::ks=>if (cQ f v k).2≠0 then ([],(cQ f v k).2) else if (dP v fs ks).2≠0 then ([],(dP v fs ks).2) else ((cQ f v k).1++(dP v fs ks).1,0)
 |_,_=>([],0)
termination_by fs l=>(SizeOf.sizeOf l,0)
end
mutual
def Tre.arr:Fd→Bool
 |.mk a ks=>((decide (a.2.1≠9) || decide (ks.length≠0))&&decide (ks.length≤16))&&Tre.arrs ks
def Tre.arrs:List Fd→Bool
 |[]=>true
 |k::ks=>k.arr&&Tre.arrs ks
end
@[irreducible] noncomputable def fj (f:Fd):Bool:=f.arr
@[irreducible] noncomputable def b7 (f:List Fd):Bool:=Tre.arrs f
theorem Fi (f:Fd):fj f=(((decide (f.lab.2.1≠9) || decide (f.kids.length≠0))&&decide (f.kids.length≤16))&&b7 f.kids):=by
 cases f;unfold fj b7;rfl
theorem lg {k:Fd}:∀{l:List Fd},b7 l=true→k∈l→fj k=true
 |[],_,h=>by cases h
 |x::l,h,hk=>by
  unfold b7 at h
  simp only[Tre.arrs,zA] at h
  rcases List.mem_cons.1 hk with rfl | hk
  ·unfold fj;exact h.1
  ·exact lg (l:=l) (by unfold b7;exact h.2) hk
theorem PI {l:List Fd}{v:Int}(h:b7 l=true):b7 (en l v)=true:=by
 have key:∀l:List Fd,(∀k∈l,fj k=true)→b7 l=true:=by
  intro l
  induction l with
  |nil=>intro _;unfold b7;rfl
  |cons x l ih=>
   intro h
   have h1:=ih fun k hk=>h k (List.mem_cons_of_mem _ hk)
   have h2:=h x (by simp)
   unfold b7 fj at *
   simp only[Tre.arrs,h1,h2,Bool.and_self]
 refine key _ fun k hk=>lg h (List.mem_filter.1 hk).1
theorem ay (k:Nd)(ks:List Nd):aK (k::ks)=aM k+aK ks:=by unfold aK aM;rfl
theorem P8 (k:Int):1≤bZ k∧bZ k≤8:=by unfold bZ;split;omega;split;omega;split <;> omega
theorem yl {f:Fd}{v:Int}:∀{ks:List Nd},(∀k∈ks,(cQ f v k).1.length≤8*aM k)→(ct f v ks).1.length≤8*aK ks
 |[],_=>by rw[ct];simp
 |k::ks,h=>by
  have h1:=h k (by simp)
  have h2:=yl (f:=f) (v:=v) (ks:=ks) fun k hk=>h k (List.mem_cons_of_mem _ hk)
  rw[ct,ay]
  split
  ·simp
  ·split
   ·simp
   ·rw[zH];omega
theorem FI {v:Int}:∀{fs:List Fd} {ks:List Nd},(∀f,∀k∈ks,(cQ f v k).1.length≤8*aM k)→(dP v fs ks).1.length≤8*aK ks
 |f::fs,k::ks,h=>by
  have h1:=h f k (by simp)
  have h2:=FI (v:=v) (fs:=fs) (ks:=ks) fun f k hk=>h f k (List.mem_cons_of_mem _ hk)
  rw[dP,ay]
  split
  ·simp
  ·split
   ·simp
   ·rw[zH];omega
 |[],ks,h=>by rw[dP];simp;simp
 |_::_,[],h=>by rw[dP];simp;simp
theorem Tf {v:Int}:∀{fs:List Fd} {ks:List Nd},(dP v fs ks).2≠0→(dP v fs ks).1=[]
 |[],ks,h=>by rw[dP];simp
 |_::_,[],h=>by rw[dP];simp
 |f::fs,k::ks,h=>by
  rw[dP] at h ⊢
  split
  ·rfl
  ·rename_i h1
   rw[if_neg h1] at h
   split
   ·rfl
   ·rename_i h2
    rw[if_neg h2] at h
    exact absurd rfl h
theorem Tg (v:Int):∀(N:Nat),(∀f n,aM n≤N→(cQ f v n).1.length≤8*aM n)∧(∀fs n,aM n≤N→(ch fs v n).1.length+8≤8*aM n):=by
 intro N
 induction N with
 |zero=>exact ⟨fun f n h=>by have:=pT n;omega,fun f n h=>by have:=pT n;omega⟩
 |succ N ih=>
  have hp:∀fs n,aM n≤N+1→(ch fs v n).1.length+8≤8*aM n:=by
   rintro fs ⟨a,ks⟩ h
   rw[dA] at h ⊢
   rw[ch]
   simp only at h ⊢
   split
   ·simp;omega
   ·have:=FI (v:=v) (fs:=en fs v) (ks:=ks) fun f k hk=>ih.1 f k (by have:=cI hk;omega)
    omega
  refine ⟨?_,hp⟩
  rintro f ⟨a,ks⟩ h
  have hpp:=hp f.kids (.mk a ks) h
  have hw:=P8 f.lab.2.1
  rw[dA] at h hpp ⊢
  rw[cQ]
  simp only at h hpp ⊢
  have hi:=yl (f:=f.kids.headD f) (v:=v) (ks:=ks) fun k hk=>ih.1 _ k (by have:=cI hk;omega)
  split
  ·simp
  split
  ·split
   ·simp[bj];omega
   ·simp
  split
  ·split
   ·simp
   ·split
    ·simp
    ·rw[zH,bj];omega
  split
  ·omega
  split
  ·split
   ·simp[bj];omega
   ·simp
  split
  ·simp
  split
  ·simp
  ·rw[zH,bj];omega
theorem Jl (f:Fd)(v:Int)(n:Nd):(cQ f v n).1.length≤8*aM n:=(Tg v _).1 f n (Nat.le_refl _)
abbrev fg:Io:=⟨[Q3,dI,dH],[],[],[dL,dI],none⟩
def m9 (n:Nat)(d:fg.In):Tr fg.Res:=.ite (decide (2*aM d.1.2.2.1+1≤n)&&(fj d.1.1&&decide (8*aM d.1.2.2.1≤4294967296))) (.ret (.ret (((cQ d.1.1 d.1.2.1 d.1.2.2.1).1,((cQ d.1.1 d.1.2.1 d.1.2.2.1).2,())),()))) .no
abbrev gu:Io:=⟨[Bo,dI,dH],[],[],[dL,dI],none⟩
def r8 (n:Nat)(d:gu.In):Tr gu.Res:=.ite (decide (2*aM d.1.2.2.1≤n)&&(b7 d.1.1&&(decide (8*aM d.1.2.2.1≤4294967296)&&decide (d.1.1.length≤4294967296)))) (.ret (.ret (((ch d.1.1 d.1.2.1 d.1.2.2.1).1,((ch d.1.1 d.1.2.1 d.1.2.2.1).2,())),()))) .no
def TP (d:gu.In):Tr gu.Res:=.ite (b7 d.1.1&&(decide (8*aM d.1.2.2.1≤4294967296)&&decide (d.1.1.length≤4294967296))) (.ret (.ret (((ch d.1.1 d.1.2.1 d.1.2.2.1).1,((ch d.1.1 d.1.2.1 d.1.2.2.1).2,())),()))) .no
section
variable [Inhabited FuT]
abbrev D9:List (Nat×Hc):=[(191,ae kl Cq),(217,ae ny Kc),(218,ae qw Qq),(39,ae iP rR),(211,ae fg (m9 aP)),(192,ae gu (r8 aP)),(34,ae sq TM),(38,ae uR Wa)]
def NW:Hd:=bM D9
abbrev fN:Lo:=⟨⟨(.any::.one hI::.any::.one (.ptr 3 0)::.any::.one (.ptr 5 0)::.any::ce (.one (.onl 5 (Ty.int u8) 19)::.one hI::.any::am (am (am (am (am (am (gE (ce []))))))))),[none,none,none,some [.hol .str,hI,hI,hI,.hol (.sl 160 gD)],none,some [hI,hI,hL,.hol (.sl 5 (Ty.int u8)),.hol (.sl 91 ap)]]⟩,[(.ret,⟨(dq (ce (.one (.onl 5 (Ty.int u8) 13)::.one hI::am (am (am (am (am (am (gE (dq (ce []))))))))))),[]⟩),(.exit 0,⟨(.any::gE (.one (.onl 5 (Ty.int u8) 19)::am (am (am (am (am (am (gE (dq []))))))))),[]⟩)]⟩
def pY (d:fN.st.den):Tr (aH fN.xs):=
 .ite (decide (d.1.2.2.1=0)&&(decide (d.1.2.1.length=4)&&((decide (d.2.1.2.2.2.2.1.length≠0)&&b7 d.2.1.2.2.2.2.1)&&(decide (2*aK d.2.2.1.2.2.2.2.1+1≤aP)&&decide (8+8*aK d.2.2.1.2.2.2.2.1≤4294967296)))))
  (.ite (decide ((ct (d.2.1.2.2.2.2.1.headD (.mk ([],(0,(0,(0,())))) [])) d.1.1 d.2.2.1.2.2.2.2.1).2=0))
   (.ret (.pan (.ret ((),((d.1.2.1++(ct (d.2.1.2.2.2.2.1.headD (.mk ([],(0,(0,(0,())))) [])) d.1.1 d.2.2.1.2.2.2.2.1).1,()),())))))
   (.ret (.ret ((),(([],((ct (d.2.1.2.2.2.2.1.headD (.mk ([],(0,(0,(0,())))) [])) d.1.1 d.2.2.1.2.2.2.2.1).2,())),()))))) .no
def xS:Lp:=bB [(14,aS fN pY)]
def vi {R:Type}(h3:Int)(h4:LI)(h5:Int)(h6:LI)(h7 h8 h9:Int)(h10:List (Fd))(h11 h12:Int)(h13:Bool)(h14:LI)(h15:List (Nd))(next:Int→LI→Int→LI→Int→Int→Int→List (Fd)→Int→Int→Bool→LI→List (Nd)→Option R)(out:aH fN.xs→Option R):Option R:=bif decide (h5<(↑h15.length:Int)) then bif decide (0≤0)&&decide (0<(↑h10.length:Int)) then bif decide (0≤h5)&&decide (h5<(↑h15.length:Int)) then bif decide (2*aM (Tre.mk (h15.getD h5.toNat (Tre.mk (0,0,false,[],()) [])).1 (h15.getD h5.toNat (Tre.mk (0,0,false,[],()) [])).2)+1≤aP)&&(fj (Tre.mk (h10.getD (Int.toNat 0) (Tre.mk ([],0,0,0,()) [])).1 (h10.getD (Int.toNat 0) (Tre.mk ([],0,0,0,()) [])).2)&&decide (8*aM (Tre.mk (h15.getD h5.toNat (Tre.mk (0,0,false,[],()) [])).1 (h15.getD h5.toNat (Tre.mk (0,0,false,[],()) [])).2)≤4294967296)) then bif (cQ (Tre.mk (h10.getD (Int.toNat 0) (Tre.mk ([],0,0,0,()) [])).1 (h10.getD (Int.toNat 0) (Tre.mk ([],0,0,0,()) [])).2) h3 (Tre.mk (h15.getD h5.toNat (Tre.mk (0,0,false,[],()) [])).1 (h15.getD h5.toNat (Tre.mk (0,0,false,[],()) [])).2)).2 != 0 then out (.ret ((),(([],((cQ (Tre.mk (h10.getD (Int.toNat 0) (Tre.mk ([],0,0,0,()) [])).1 (h10.getD (Int.toNat 0) (Tre.mk ([],0,0,0,()) [])).2) h3 (Tre.mk (h15.getD h5.toNat (Tre.mk (0,0,false,[],()) [])).1 (h15.getD h5.toNat (Tre.mk (0,0,false,[],()) [])).2)).2,())),()))) else bif decide (h4.length+(cQ (Tre.mk (h10.getD (Int.toNat 0) (Tre.mk ([],0,0,0,()) [])).1 (h10.getD (Int.toNat 0) (Tre.mk ([],0,0,0,()) [])).2) h3 (Tre.mk (h15.getD h5.toNat (Tre.mk (0,0,false,[],()) [])).1 (h15.getD h5.toNat (Tre.mk (0,0,false,[],()) [])).2)).1.length≤4294967296) then next (h3) (h4++(cQ (Tre.mk (h10.getD (Int.toNat 0) (Tre.mk ([],0,0,0,()) [])).1 (h10.getD (Int.toNat 0) (Tre.mk ([],0,0,0,()) [])).2) h3 (Tre.mk (h15.getD h5.toNat (Tre.mk (0,0,false,[],()) [])).1 (h15.getD h5.toNat (Tre.mk (0,0,false,[],()) [])).2)).1) (i64.wrap (h5+1)) (h6) (h7) (h8) (h9) (h10) (h11) (h12) (h13) (h14) (h15) else none else none else none else none else out (.pan (.ret ((),((h4,()),()))))
def sy (n:Nat)(h3:Int)(h4:LI)(h5:Int)(h6:LI)(h7 h8 h9:Int)(h10:List (Fd))(h11 h12:Int)(h13:Bool)(h14:LI)(h15:List (Nd)):Option (aH fN.xs):=il tt NW dr xS 0 Tryz.f211 (db Tryz.f211 0) n (fN.st.mk' ((h3,(h4,(h5,()))),((h6,(h7,(h8,(h9,(h10,()))))),((h11,(h12,(h13,(h14,(h15,()))))),())))) (ci fN.xs)
theorem Pu (n:Nat)(h3:Int)(h4:LI)(h5:Int)(h6:LI)(h7 h8 h9:Int)(h10:List (Fd))(h11 h12:Int)(h13:Bool)(h14:LI)(h15:List (Nd)):sy (n+1) h3 h4 h5 h6 h7 h8 h9 h10 h11 h12 h13 h14 h15=vi h3 h4 h5 h6 h7 h8 h9 h10 h11 h12 h13 h14 h15 (sy n) some:=by kernel_rfl
theorem Ry {f0:Fd}{fs:List Fd}{ks:List Nd}{v:Int}(hl:ks.length≤maxLen)(ha:fj f0=true)(hf:2*aK ks+1≤aP)(hb:8*aK ks≤4294967296)(nm:LI)(k' lo hi a b:Int)(z:Bool)(x:LI):∀(k j:Nat) (o:LI),ks.length<j+k→j≤ks.length→o.length+8*aK (ks.drop j)≤4294967296→
  sy k v o j nm k' lo hi (f0::fs) a b z x ks=if (ct f0 v (ks.drop j)).2=0 then some (.pan (.ret ((),((o++(ct f0 v (ks.drop j)).1,()),())))) else some (.ret ((),(([],((ct f0 v (ks.drop j)).2,())),()))):=by
 intro k
 induction k with
 |zero=>intro j o h1 h2;omega
 |succ k ih=>
  intro j o h1 h2 h3
  rw[Pu]
  unfold vi
  by_cases hj:j<ks.length
  ·refine bT (decide_eq_true (show (j:Int)<(ks.length:Int) by omega)) ?_
   refine bT (by simp) ?_
   refine bT (by simp;omega) ?_
   have hmem:=cI (List.getElem_mem hj)
   have hd:ks.drop j=ks[j]::ks.drop (j+1):=zE hj
   have hvl:=Jl f0 v ks[j]
   have ih':=ih (j+1) (o++(cQ f0 v ks[j]).1) (by omega) (by omega)
   rw[hd,ay] at h3
   rw[hd,ct]
   rw[cq hj hl]
   simp only[zG,aJ hj]
   generalize ks[j]=u at hmem hvl ih' h3 ⊢
   obtain ⟨ul,uk⟩:=u
   obtain ⟨fl,fk⟩:=f0
   refine (aa (show (decide (2*aM (Tre.mk ul uk)+1≤aP)&&(fj (Tre.mk fl fk)&&decide (8*aM (Tre.mk ul uk)≤4294967296)))=true by rw[ha];simp;omega) _ _).trans ?_
   by_cases he:(cQ (Tre.mk fl fk) v (Tre.mk ul uk)).2=0
   ·refine (af (show ((cQ (Tre.mk fl fk) v (Tre.mk ul uk)).2 != 0)=false by rw[he];rfl) _ _).trans ?_
    refine bT (decide_eq_true (show o.length+(cQ (Tre.mk fl fk) v (Tre.mk ul uk)).1.length≤4294967296 by omega)) ?_
    refine (ih' (by rw[zH];omega)).trans ?_
    by_cases h2:(ct (Tre.mk fl fk) v (ks.drop (j+1))).2=0
    ·simp[he,h2]
    ·simp[he,h2]
   ·refine (aa (show ((cQ (Tre.mk fl fk) v (Tre.mk ul uk)).2 != 0)=true by simpa using he) _ _).trans ?_
    simp[he]
  ·refine bF (decide_eq_false (show ¬(j:Int)<(ks.length:Int) by omega)) ?_
   rw[zI (by omega),ct,if_pos rfl,List.append_nil]
def DU (a0:Fd)(a1:Int)(a2:Nd):Option fg.Res:=bif !iE a0.1.2.1 (Tre.mk a2.1 a2.2) then oR (([],101,()),()) else bif decide (a0.1.2.1≤4) then bif decide (1≤bZ a0.1.2.1) then bif !iB a2.1.2.1 (bZ a0.1.2.1) then oR (([],102,()),()) else bif decide (0≤bZ a0.1.2.1)&&decide (bZ a0.1.2.1≤8) then oR ((aB a2.1.2.1 (bZ a0.1.2.1).toNat,0,()),()) else none else none else bif a0.1.2.1 == 9 then bif decide (16<(↑a2.2.length:Int)) then oR (([],9,()),()) else (pY ((a1,(aB (↑a2.2.length:Int) (Int.toNat 4),(0,()))),((a0.1.1,(a0.1.2.1,(a0.1.2.2.1,(a0.1.2.2.2.1,(a0.2,()))))),((a2.1.1,(a2.1.2.1,(a2.1.2.2.1,(a2.1.2.2.2.1,(a2.2,()))))),())))).run fun y=>match y with | .ret ((),((x32,x33,()),()))=>(oR ((x32,x33,()),())) | .pan (.ret ((),((x34,()),())))=>(oR ((x34,0,()),())) else bif a0.1.2.1 == 10 then bif decide (2*aM (Tre.mk a2.1 a2.2)≤aP)&&(b7 a0.2&&(decide (8*aM (Tre.mk a2.1 a2.2)≤4294967296)&&decide (a0.2.length≤4294967296))) then oR (((ch a0.2 a1 (Tre.mk a2.1 a2.2)).1,(ch a0.2 a1 (Tre.mk a2.1 a2.2)).2,()),()) else none else bif a2.1.2.2.1 then bif decide (0<(↑(List.length a2.1.2.2.2.1):Int)) then oR (([],70,()),()) else bif a2.1.2.2.1 then bif decide (0≤bZ a0.1.2.1)&&decide (bZ a0.1.2.1≤8) then oR ((aB (-1) (bZ a0.1.2.1).toNat,0,()),()) else none else bif decide (a0.1.2.1≤6) then bif !(cC a2.1.2.2.2.1).2 then oR (([],6,()),()) else bif decide (255<(↑(List.length a2.1.2.2.2.1):Int)) then oR (([],4,()),()) else bif decide (0≤bZ a0.1.2.1)&&decide (bZ a0.1.2.1≤8) then bif decide ((aB (↑(List.length a2.1.2.2.2.1):Int) (bZ a0.1.2.1).toNat).length+List.length a2.1.2.2.2.1≤4294967296) then oR ((aB (↑(List.length a2.1.2.2.2.1):Int) (bZ a0.1.2.1).toNat++a2.1.2.2.2.1,0,()),()) else none else none else bif decide (0≤bZ a0.1.2.1)&&decide (bZ a0.1.2.1≤8) then bif decide ((aB (↑(List.length a2.1.2.2.2.1):Int) (bZ a0.1.2.1).toNat).length+List.length a2.1.2.2.2.1≤4294967296) then oR ((aB (↑(List.length a2.1.2.2.2.1):Int) (bZ a0.1.2.1).toNat++a2.1.2.2.2.1,0,()),()) else none else none else bif a2.1.2.2.1 then bif decide (0≤bZ a0.1.2.1)&&decide (bZ a0.1.2.1≤8) then oR ((aB (-1) (bZ a0.1.2.1).toNat,0,()),()) else none else bif decide (a0.1.2.1≤6) then bif !(cC a2.1.2.2.2.1).2 then oR (([],6,()),()) else bif decide (255<(↑(List.length a2.1.2.2.2.1):Int)) then oR (([],4,()),()) else bif decide (0≤bZ a0.1.2.1)&&decide (bZ a0.1.2.1≤8) then bif decide ((aB (↑(List.length a2.1.2.2.2.1):Int) (bZ a0.1.2.1).toNat).length+List.length a2.1.2.2.2.1≤4294967296) then oR ((aB (↑(List.length a2.1.2.2.2.1):Int) (bZ a0.1.2.1).toNat++a2.1.2.2.2.1,0,()),()) else none else none else bif decide (0≤bZ a0.1.2.1)&&decide (bZ a0.1.2.1≤8) then bif decide ((aB (↑(List.length a2.1.2.2.2.1):Int) (bZ a0.1.2.1).toNat).length+List.length a2.1.2.2.2.1≤4294967296) then oR ((aB (↑(List.length a2.1.2.2.2.1):Int) (bZ a0.1.2.1).toNat++a2.1.2.2.2.1,0,()),()) else none else none
theorem Ym (a0:Fd)(a1:Int)(a2:Nd):Io.run tt NW dr xS fg Tryz.f211 ((a0,a1,a2,()),())=DU a0 a1 a2:=by kernel_rfl
theorem XE (rvValue:HcOk prog 211 (ae fg (m9 aP)))(rvParts:HcOk prog 192 (ae gu (r8 aP))):HcOk prog 211 (ae fg (m9 (aP+1))):=by
 refine cg (cs:=D9) (.cons EZ (.cons O4 (.cons VS (.cons ur (.cons rvValue (.cons rvParts (.cons RP (.cons IW .nil)))))))) (lp:=xS) (fn:=Tryz.f211) fg (.step (h0:=aS fN pY) (by kernel_rfl) (jh (cs:=D9) (.cons EZ (.cons O4 (.cons VS (.cons ur (.cons rvValue (.cons rvParts (.cons RP (.cons IW .nil)))))))) (lp:=xS) (fn:=Tryz.f211) (.done (by kernel_rfl)) fN pY ?_) (.done (by kernel_rfl))) (m9 (aP+1)) ?_
 ·rintro ⟨⟨(v:Int),(o:LI),(i:Int),⟨⟩⟩,⟨⟨(nm:LI),(k':Int),(lo:Int),(hi:Int),(fs:List Fd),⟨⟩⟩,⟨(a:Int),(b:Int),(z:Bool),(x:LI),(ks:List Nd),⟨⟩⟩,⟨⟩⟩⟩ y hw hy
  obtain ⟨hg,hy⟩:=Tr.guard hy
  simp only[zA,zB] at hg
  obtain ⟨h1,h2,⟨h3,h4⟩,h5,h6⟩:=hg
  have h1:i=0:=h1
  have h2:o.length=4:=h2
  have h3:fs.length≠0:=h3
  have h4:b7 fs=true:=h4
  have h5:2*aK ks+1≤aP:=h5
  have h6:8+8*aK ks≤4294967296:=h6
  subst h1
  obtain ⟨f0,fs,rfl⟩:∃f0 fs',fs=f0::fs':=by cases fs with | nil=>exact absurd rfl h3 | cons a b=>exact ⟨a,b,rfl⟩
  refine ⟨ks.length+1,(Ry (by have:=hw.2.2.1.2.2.2.2.1.1;exact this) (lg h4 (by simp)) h5 (by omega) nm k' lo hi a b z x (ks.length+1) 0 o (by omega) (by omega) (by rw[List.drop_zero];omega)).trans ?_⟩
  rw[← hy,List.drop_zero]
  by_cases h:(ct f0 v ks).2=0
  ·rw[if_pos h];exact (aa (decide_eq_true h) _ _).symm
  ·rw[if_neg h];exact (af (decide_eq_false h) _ _).symm
 ·rintro ⟨⟨(f:Fd),(v:Int),(n:Nd),⟨⟩⟩,⟨⟩⟩ out hw ho
  obtain ⟨hg,ho⟩:=Tr.guard ho
  simp only[zA,zB] at hg
  obtain ⟨hk,ha,hb⟩:=hg
  have hk:2*aM n+1≤aP+1:=hk
  have ha:fj f=true:=ha
  have hb:8*aM n≤4294967296:=hb
  cases ho
  refine (Ym f v n).trans ?_
  unfold DU
  show _=oR (((cQ f v n).1,((cQ f v n).2,())),())
  obtain ⟨⟨nm,k',lo,hi,⟨⟩⟩,fs⟩:=f
  obtain ⟨⟨a,b,z,x,⟨⟩⟩,ks⟩:=n
  have hw8:=P8 k'
  have hwf:=dA (Tre.mk (a,(b,(z,(x,())))) ks)
  have hwf:aM (Tre.mk (a,(b,(z,(x,())))) ks)=1+x.length+aK ks:=hwf
  have hk:2*(1+x.length+aK ks)+1≤aP+1:=by rw[← hwf];exact hk
  have hb:8*(1+x.length+aK ks)≤4294967296:=by rw[← hwf];exact hb
  rw[Fi] at ha
  simp only[zA] at ha
  obtain ⟨⟨ha1,ha3⟩,ha2⟩:=ha
  have ha2:b7 fs=true:=ha2
  have ha3:fs.length≤16:=of_decide_eq_true ha3
  rw[cQ]
  simp only
  have cW:(decide (0≤bZ k')&&decide (bZ k'≤8))=true:=by simp;omega
  have tail:(bif decide (0≤bZ k')&&decide (bZ k'≤8) then bif decide ((aB ((x.length:Nat):Int) (bZ k').toNat).length+x.length≤4294967296) then (oR ((aB ((x.length:Nat):Int) (bZ k').toNat++x,((0:Int),())),()):Option fg.Res) else none else none)=oR ((aB ((x.length:Nat):Int) (bZ k').toNat++x,((0:Int),())),()):=by
   refine (aa cW _ _).trans ?_
   exact aa (decide_eq_true (by rw[bj];omega)) _ _
  by_cases h1:iE k' (Tre.mk (a,(b,(z,(x,())))) ks)=false
  ·rw[if_pos h1]
   exact aa (by rw[show iE k' (Tre.mk (a,(b,(z,(x,())))) ks)=false from h1];rfl) _ _
  rw[if_neg h1]
  refine bF (by simpa using h1) ?_
  by_cases h2:k'≤4
  ·rw[if_pos h2]
   refine bT (by simpa using h2) ?_
   refine bT (decide_eq_true (show 1≤bZ k' by omega)) ?_
   by_cases h3:iB b (bZ k')=true
   ·rw[if_pos h3]
    refine (af (show (!iB b (bZ k'))=false by rw[h3];rfl) _ _).trans ?_
    exact aa cW _ _
   ·rw[if_neg h3]
    exact aa (show (!iB b (bZ k'))=true by simpa using h3) _ _
  rw[if_neg h2]
  refine bF (by simpa using h2) ?_
  by_cases h3:k'=9
  ·rw[if_pos h3]
   refine bT (by simpa using h3) ?_
   by_cases h4:16<ks.length
   ·rw[if_pos h4]
    exact aa (decide_eq_true (show (16:Int)<(ks.length:Int) by omega)) _ _
   ·rw[if_neg h4]
    refine bF (decide_eq_false (show ¬(16:Int)<(ks.length:Int) by omega)) ?_
    have h0:fs.length≠0:=by
     rcases Bool.or_eq_true _ _▸ha1 with h | h
     ·exact absurd h3 (of_decide_eq_true h)
     ·exact of_decide_eq_true h
    have c1:(decide ((0:Int)=0)&&(decide ((aB ((ks.length:Nat):Int) (Int.toNat 4)).length=4)&&((decide (fs.length≠0)&&b7 fs)&&(decide (2*aK ks+1≤aP)&&decide (8+8*aK ks≤4294967296)))))=true:=by
     have h0':fs≠[]:=fun e=>h0 (by rw[e];rfl)
     rw[ha2,bj];simp[h0'];omega
    obtain ⟨f0,fs,rfl⟩:∃f0 fs',fs=f0::fs':=by cases fs with | nil=>exact absurd rfl h0 | cons a b=>exact ⟨a,b,rfl⟩
    refine (aa c1 _ _).trans ?_
    show (Tr.ite (decide ((ct f0 v ks).2=0)) _ _).run _=oR (((if (ct f0 v ks).2≠0 then _ else _:LI×Int).1,((if (ct f0 v ks).2≠0 then _ else _:LI×Int).2,())),())
    by_cases h5:(ct f0 v ks).2=0
    ·rw[if_neg (by simpa using h5)]
     exact aa (decide_eq_true h5) _ _
    ·rw[if_pos h5]
     exact af (decide_eq_false h5) _ _
  rw[if_neg h3]
  refine bF (by simpa using h3) ?_
  by_cases h4:k'=10
  ·rw[if_pos h4]
   refine bT (by simpa using h4) ?_
   exact aa (show (decide (2*aM (Tre.mk (a,(b,(z,(x,())))) ks)≤aP)&&(b7 fs&&(decide (8*aM (Tre.mk (a,(b,(z,(x,())))) ks)≤4294967296)&&decide (fs.length≤4294967296))))=true by rw[ha2,hwf];simp;omega) _ _
  rw[if_neg h4]
  refine bF (by simpa using h4) ?_
  have rest:(bif decide (k'≤6) then bif !(cC x).2 then (oR (([],((6:Int),())),()):Option fg.Res) else bif decide ((255:Int)<((x.length:Nat):Int)) then oR (([],((4:Int),())),()) else bif decide (0≤bZ k')&&decide (bZ k'≤8) then bif decide ((aB ((x.length:Nat):Int) (bZ k').toNat).length+x.length≤4294967296) then (oR ((aB ((x.length:Nat):Int) (bZ k').toNat++x,((0:Int),())),()):Option fg.Res) else none else none
    else bif decide (0≤bZ k')&&decide (bZ k'≤8) then bif decide ((aB ((x.length:Nat):Int) (bZ k').toNat).length+x.length≤4294967296) then (oR ((aB ((x.length:Nat):Int) (bZ k').toNat++x,((0:Int),())),()):Option fg.Res) else none else none)=
    oR (((if k'≤6∧(cC x).2=false then ([],6) else if k'≤6∧255<x.length then ([],4) else (aB ((x.length:Nat):Int) (bZ k').toNat++x,0):LI×Int).1,((if k'≤6∧(cC x).2=false then ([],6) else if k'≤6∧255<x.length then ([],4) else (aB ((x.length:Nat):Int) (bZ k').toNat++x,0):LI×Int).2,())),()):=by
   rw[tail]
   by_cases h6:k'≤6
   ·refine bT (decide_eq_true h6) ?_
    by_cases h7:(cC x).2=false
    ·rw[if_pos ⟨h6,h7⟩]
     exact aa (by rw[h7];rfl) _ _
    ·rw[if_neg (fun h=>h7 h.2)]
     refine bF (by simpa using h7) ?_
     by_cases h8:255<x.length
     ·rw[if_pos ⟨h6,h8⟩]
      exact aa (decide_eq_true (by omega)) _ _
     ·rw[if_neg (fun h=>h8 h.2)]
      exact af (decide_eq_false (by omega)) _ _
   ·rw[if_neg (fun h=>h6 h.1),if_neg (fun h=>h6 h.1)]
    exact af (decide_eq_false h6) _ _
  by_cases h5:z=true
  ·subst h5
   rw[if_pos rfl]
   refine (aa rfl _ _).trans ?_
   by_cases h6:x.length=0
   ·rw[if_pos h6]
    refine bF (decide_eq_false (show ¬(0:Int)<((x.length:Nat):Int) by omega)) ?_
    refine (aa rfl _ _).trans ?_
    exact aa cW _ _
   ·rw[if_neg h6]
    exact aa (decide_eq_true (show (0:Int)<((x.length:Nat):Int) by omega)) _ _
  ·have h5:z=false:=by simpa using h5
   subst h5
   rw[if_neg (by decide)]
   refine (af rfl _ _).trans ?_
   refine (af rfl _ _).trans ?_
   exact rest
end
section
variable [Inhabited FuT]
abbrev D8:List (Nat×Hc):=[(210,ae oK Kb),(211,ae fg (m9 aP)),(38,ae uR Wa)]
def NV:Hd:=bM D8
abbrev gP:Lo:=⟨⟨(.any::.one hI::.any::ce (.one (.ptr 5 0)::ce (.one (.onl 160 gD 17)::.one (.onl 5 (Ty.int u8) 19)::.one hI::.any::am (am (dq (ce [])))))),[none,none,none,none,none,some [hI,hI,hL,.hol (.sl 5 (Ty.int u8)),.hol (.sl 91 ap)]]⟩,[(.ret,⟨(dq (ce (.one (.onl 5 (Ty.int u8) 13)::.one hI::am (am (gE (ce [])))))),[]⟩),(.exit 0,⟨(.any::gE (.one (.onl 5 (Ty.int u8) 19)::am (am (gE [])))),[]⟩)]⟩
def tv (d:gP.st.den):Tr (aH gP.xs):=
 .ite (decide (d.1.2.2.2.1=0)&&(decide (d.1.2.2.1.length=0)&&((decide (d.1.2.1.length=d.2.1.2.2.2.2.1.length)&&b7 d.1.2.1)&&(decide (2*aK d.2.1.2.2.2.2.1+1≤aP)&&decide (8+8*aK d.2.1.2.2.2.2.1≤4294967296)))))
  (.ite (decide ((dP d.1.1 d.1.2.1 d.2.1.2.2.2.2.1).2=0))
   (.ret (.pan (.ret ((),(((dP d.1.1 d.1.2.1 d.2.1.2.2.2.2.1).1,()),())))))
   (.ret (.ret ((),(([],((dP d.1.1 d.1.2.1 d.2.1.2.2.2.2.1).2,())),()))))) .no
def xR:Lp:=bB [(7,aS gP tv)]
def yv {R:Type}(h3:Int)(h4:List gD.den)(h5:LI)(h6 h7 h8:Int)(h9:Bool)(h10:LI)(h11:List (Nd))(next:Int→List gD.den→LI→Int→Int→Int→Bool→LI→List (Nd)→Option R)(out:aH gP.xs→Option R):Option R:=bif decide (h6<(↑h4.length:Int)) then bif decide (0≤h6)&&decide (h6<(↑h4.length:Int)) then bif decide (0≤h6)&&decide (h6<(↑h11.length:Int)) then bif decide (2*aM (Tre.mk (h11.getD h6.toNat (Tre.mk (0,0,false,[],()) [])).1 (h11.getD h6.toNat (Tre.mk (0,0,false,[],()) [])).2)+1≤aP)&&(fj (Tre.mk (h4.getD h6.toNat (Tre.mk ([],0,0,0,()) [])).1 (h4.getD h6.toNat (Tre.mk ([],0,0,0,()) [])).2)&&decide (8*aM (Tre.mk (h11.getD h6.toNat (Tre.mk (0,0,false,[],()) [])).1 (h11.getD h6.toNat (Tre.mk (0,0,false,[],()) [])).2)≤4294967296)) then bif (cQ (Tre.mk (h4.getD h6.toNat (Tre.mk ([],0,0,0,()) [])).1 (h4.getD h6.toNat (Tre.mk ([],0,0,0,()) [])).2) h3 (Tre.mk (h11.getD h6.toNat (Tre.mk (0,0,false,[],()) [])).1 (h11.getD h6.toNat (Tre.mk (0,0,false,[],()) [])).2)).2 != 0 then out (.ret ((),(([],((cQ (Tre.mk (h4.getD h6.toNat (Tre.mk ([],0,0,0,()) [])).1 (h4.getD h6.toNat (Tre.mk ([],0,0,0,()) [])).2) h3 (Tre.mk (h11.getD h6.toNat (Tre.mk (0,0,false,[],()) [])).1 (h11.getD h6.toNat (Tre.mk (0,0,false,[],()) [])).2)).2,())),()))) else bif decide (h5.length+(cQ (Tre.mk (h4.getD h6.toNat (Tre.mk ([],0,0,0,()) [])).1 (h4.getD h6.toNat (Tre.mk ([],0,0,0,()) [])).2) h3 (Tre.mk (h11.getD h6.toNat (Tre.mk (0,0,false,[],()) [])).1 (h11.getD h6.toNat (Tre.mk (0,0,false,[],()) [])).2)).1.length≤4294967296) then next (h3) (h4) (h5++(cQ (Tre.mk (h4.getD h6.toNat (Tre.mk ([],0,0,0,()) [])).1 (h4.getD h6.toNat (Tre.mk ([],0,0,0,()) [])).2) h3 (Tre.mk (h11.getD h6.toNat (Tre.mk (0,0,false,[],()) [])).1 (h11.getD h6.toNat (Tre.mk (0,0,false,[],()) [])).2)).1) (i64.wrap (h6+1)) (h7) (h8) (h9) (h10) (h11) else none else none else none else none else out (.pan (.ret ((),((h5,()),()))))
def vZ (n:Nat)(h3:Int)(h4:List gD.den)(h5:LI)(h6 h7 h8:Int)(h9:Bool)(h10:LI)(h11:List (Nd)):Option (aH gP.xs):=il tt NV dr xR 0 Tryz.f192 (db Tryz.f192 0) n (gP.st.mk' ((h3,(h4,(h5,(h6,())))),((h7,(h8,(h9,(h10,(h11,()))))),()))) (ci gP.xs)
theorem SK (n:Nat)(h3:Int)(h4:List gD.den)(h5:LI)(h6 h7 h8:Int)(h9:Bool)(h10:LI)(h11:List (Nd)):vZ (n+1) h3 h4 h5 h6 h7 h8 h9 h10 h11=yv h3 h4 h5 h6 h7 h8 h9 h10 h11 (vZ n) some:=by kernel_rfl
theorem Rx {fs:List Fd}{ks:List Nd}{v:Int}(hl:ks.length≤maxLen)(hfk:fs.length=ks.length)(ha:b7 fs=true)(hf:2*aK ks+1≤aP)(hb:8*aK ks≤4294967296)(a b:Int)(z:Bool)(x:LI):∀(k j:Nat) (o:LI),ks.length<j+k→j≤ks.length→o.length+8*aK (ks.drop j)≤4294967296→
  vZ k v fs o j a b z x ks=if (dP v (fs.drop j) (ks.drop j)).2=0 then some (.pan (.ret ((),((o++(dP v (fs.drop j) (ks.drop j)).1,()),())))) else some (.ret ((),(([],((dP v (fs.drop j) (ks.drop j)).2,())),()))):=by
 intro k
 induction k with
 |zero=>intro j o h1 h2;omega
 |succ k ih=>
  intro j o h1 h2 h3
  rw[SK]
  unfold yv
  by_cases hj:j<ks.length
  ·have hj':j<fs.length:=by omega
   refine bT (decide_eq_true (show (j:Int)<(fs.length:Int) by omega)) ?_
   refine bT (by simp;omega) ?_
   refine bT (by simp;omega) ?_
   have hmem:=cI (List.getElem_mem hj)
   have har:=lg ha (List.getElem_mem hj')
   have hd:ks.drop j=ks[j]::ks.drop (j+1):=zE hj
   have hd':fs.drop j=fs[j]::fs.drop (j+1):=zE hj'
   have hvl:=Jl fs[j] v ks[j]
   have ih':=ih (j+1) (o++(cQ fs[j] v ks[j]).1) (by omega) (by omega)
   rw[hd,ay] at h3
   rw[hd,hd',dP]
   rw[cq hj hl]
   simp only[zG,aJ hj,aJ hj']
   generalize ks[j]=u at hmem hvl ih' h3 ⊢
   generalize fs[j]=f0 at har hvl ih' ⊢
   obtain ⟨ul,uk⟩:=u
   obtain ⟨fl,fk⟩:=f0
   refine (aa (show (decide (2*aM (Tre.mk ul uk)+1≤aP)&&(fj (Tre.mk fl fk)&&decide (8*aM (Tre.mk ul uk)≤4294967296)))=true by rw[har];simp;omega) _ _).trans ?_
   by_cases he:(cQ (Tre.mk fl fk) v (Tre.mk ul uk)).2=0
   ·refine (af (show ((cQ (Tre.mk fl fk) v (Tre.mk ul uk)).2 != 0)=false by rw[he];rfl) _ _).trans ?_
    refine bT (decide_eq_true (show o.length+(cQ (Tre.mk fl fk) v (Tre.mk ul uk)).1.length≤4294967296 by omega)) ?_
    refine (ih' (by rw[zH];omega)).trans ?_
    by_cases h2:(dP v (fs.drop (j+1)) (ks.drop (j+1))).2=0
    ·simp[he,h2]
    ·simp[he,h2]
   ·refine (aa (show ((cQ (Tre.mk fl fk) v (Tre.mk ul uk)).2 != 0)=true by simpa using he) _ _).trans ?_
    simp[he]
  ·refine bF (decide_eq_false (show ¬(j:Int)<(fs.length:Int) by omega)) ?_
   rw[zI (by omega),zI (by omega),dP,if_pos rfl,List.append_nil]
   simp
def DT (a0:List gD.den)(a1:Int)(a2:Nd):Option gu.Res:=bif decide (a0.length≤4294967296) then bif (↑a2.2.length:Int) != (↑(en a0 a1).length:Int) then oR (([],101,()),()) else (tv ((a1,(en a0 a1,([],(0,())))),((a2.1.1,(a2.1.2.1,(a2.1.2.2.1,(a2.1.2.2.2.1,(a2.2,()))))),()))).run fun y=>match y with | .ret ((),((x24,x25,()),()))=>(oR ((x24,x25,()),())) | .pan (.ret ((),((x26,()),())))=>(oR ((x26,0,()),())) else none
theorem Yl (a0:List gD.den)(a1:Int)(a2:Nd):Io.run tt NV dr xR gu Tryz.f192 ((a0,a1,a2,()),())=DT a0 a1 a2:=by kernel_rfl
theorem XD (rvValue:HcOk prog 211 (ae fg (m9 aP))):HcOk prog 192 (ae gu (r8 (aP+1))):=by
 refine cg (cs:=D8) (.cons CI (.cons rvValue (.cons IW .nil))) (lp:=xR) (fn:=Tryz.f192) gu (.step (h0:=aS gP tv) (by kernel_rfl) (jh (cs:=D8) (.cons CI (.cons rvValue (.cons IW .nil))) (lp:=xR) (fn:=Tryz.f192) (.done (by kernel_rfl)) gP tv ?_) (.done (by kernel_rfl))) (r8 (aP+1)) ?_
 ·rintro ⟨⟨(v:Int),(fs:List Fd),(o:LI),(i:Int),⟨⟩⟩,⟨⟨(a:Int),(b:Int),(z:Bool),(x:LI),(ks:List Nd),⟨⟩⟩,⟨⟩⟩⟩ y hw hy
  obtain ⟨hg,hy⟩:=Tr.guard hy
  simp only[zA,zB] at hg
  obtain ⟨h1,h2,⟨h3,h4⟩,h5,h6⟩:=hg
  have h1:i=0:=h1
  have h2:o=[]:=zF h2
  have h3:fs.length=ks.length:=h3
  have h4:b7 fs=true:=h4
  have h5:2*aK ks+1≤aP:=h5
  have h6:8+8*aK ks≤4294967296:=h6
  subst h1
  subst h2
  refine ⟨ks.length+1,(Rx (by have:=hw.2.1.2.2.2.2.1.1;exact this) h3 h4 h5 (by omega) a b z x (ks.length+1) 0 [] (by omega) (by omega) (by rw[List.drop_zero];simp;omega)).trans ?_⟩
  rw[← hy,List.drop_zero,List.drop_zero]
  by_cases h:(dP v fs ks).2=0
  ·rw[if_pos h];exact (aa (decide_eq_true h) _ _).symm
  ·rw[if_neg h];exact (af (decide_eq_false h) _ _).symm
 ·rintro ⟨⟨(fs:List Fd),(v:Int),(n:Nd),⟨⟩⟩,⟨⟩⟩ out hw ho
  obtain ⟨hg,ho⟩:=Tr.guard ho
  simp only[zA,zB] at hg
  obtain ⟨hk,ha,hb,hl⟩:=hg
  have hk:2*aM n≤aP+1:=hk
  have ha:b7 fs=true:=ha
  have hb:8*aM n≤4294967296:=hb
  have hl:fs.length≤4294967296:=hl
  cases ho
  refine (Yl fs v n).trans ?_
  unfold DT
  show _=oR (((ch fs v n).1,((ch fs v n).2,())),())
  obtain ⟨⟨a,b,z,x,⟨⟩⟩,ks⟩:=n
  have hwf:=dA (Tre.mk (a,(b,(z,(x,())))) ks)
  have hwf:aM (Tre.mk (a,(b,(z,(x,())))) ks)=1+x.length+aK ks:=hwf
  have hk:2*(1+x.length+aK ks)≤aP+1:=by rw[← hwf];exact hk
  have hb:8*(1+x.length+aK ks)≤4294967296:=by rw[← hwf];exact hb
  rw[ch]
  refine bT (decide_eq_true hl) ?_
  by_cases h1:ks.length=(en fs v).length
  ·rw[if_neg (by simpa using h1)]
   refine bF (by simp[h1]) ?_
   have c1:(decide ((0:Int)=0)&&(decide (([]:LI).length=0)&&((decide ((en fs v).length=ks.length)&&b7 (en fs v))&&(decide (2*aK ks+1≤aP)&&decide (8+8*aK ks≤4294967296)))))=true:=by
    rw[PI ha];simp;omega
   refine (aa c1 _ _).trans ?_
   by_cases h5:(dP v (en fs v) ks).2=0
   ·refine bT (decide_eq_true h5) ?_
    rw[h5];rfl
   ·refine bF (decide_eq_false h5) ?_
    rw[Tf h5];rfl
  ·rw[if_pos h1]
   exact aa (bne_iff_ne.2 (fun e=>h1 (Int.ofNat.inj e))) _ _
end
theorem afY (n:Nat):HcOk prog 211 (ae fg (m9 n))∧HcOk prog 192 (ae gu (r8 n)):=by
 induction n with
 |zero=>
  refine ⟨HcOk.none (fn:=Tryz.f211) (by kernel_rfl) (by kernel_rfl) (by kernel_rfl) _ _ fun d out h=>?_,HcOk.none (fn:=Tryz.f192) (by kernel_rfl) (by kernel_rfl) (by kernel_rfl) _ _ fun d out h=>?_⟩
  ·cases h
  ·obtain ⟨hg,h⟩:=Tr.guard h
   simp only[zA,zB] at hg
   have:=pT d.1.2.2.1
   omega
 |succ n ih=>
  have h1:=@XE ⟨⟨n⟩⟩ (by rw[FuT.val];exact ih.1) (by rw[FuT.val];exact ih.2)
  have h2:=@XD ⟨⟨n⟩⟩ (by rw[FuT.val];exact ih.1)
  rw[FuT.val] at h1 h2
  exact ⟨h1,h2⟩
theorem acy:HcOk prog 192 (ae gu TP):=by
 refine HcOk.lim (fun n=>(afY n).2) fun d=>⟨2*aM d.1.2.2.1,fun out h=>?_⟩
 obtain ⟨hg,h⟩:=Tr.guard h
 exact (aa (by rw[hg];simp) _ _).trans h
end
end Go.Proofs.YtomeplopmndbgaaGreat.Sym
namespace Go.Proofs.YtomeplopmndbgaaGreat.Sym
open Go
open Go.IntKind (i8 i16 i32 i64 u8 u16 u32 u64)
noncomputable section
@[irreducible] noncomputable def Cc (f:Fd):Nat:=f.wt fun _=>0
@[irreducible] noncomputable def kc (l:List Fd):Nat:=Tre.wts (fun _=>0) l
theorem L3 (f:Fd):Cc f=1+kc f.kids:=by unfold Cc kc;exact Tre.wt_eq _ f
theorem PX {k:Fd}{l:List Fd}(h:k∈l):Cc k≤kc l:=by unfold Cc kc;exact Tre.wts_mem h
def rp (ks:List Fd):Nat→Int→Int→Bool
 |0,_,_=>true
 |k+1,v,hi=>if v≤hi then (if (en ks v).length=0 then false else rp ks k (v+1) hi) else true
def rG (ks:List Fd)(s:LI):Bool:=ks.all fun k=>!decide (k.lab.1=s)
def nO (ks:List Fd):Nat→List Fd→Bool
 |_,[]=>true
 |j,f::fs=>rG (ks.take j) f.lab.1&&nO ks (j+1) fs
mutual
def fb (d:Int):Fd→Bool
 |.mk a ks=>if a.1.length=0 then false else if a.2.2.1<0 then false else if 3<a.2.2.2.1 then false else if a.2.2.2.1<a.2.2.1 then false else if a.2.1<1 then false else if 10<a.2.1 then false
   else if a.2.1<9 then (if ks.length=0 then true else false) else if dz (d+1) ks=false then false else if rp ks 5 a.2.2.1 a.2.2.2.1=false then false else if a.2.1=10 then true else if ks.length=1 then true else false
termination_by f=>(SizeOf.sizeOf f,0)
def dz (d:Int)(ks:List Fd):Bool:=if ks.length<1 then false else if 16<ks.length then false else if 8<d then false else nO ks 0 ks&&dy d ks
termination_by (SizeOf.sizeOf ks,1)
def dy (d:Int):List Fd→Bool
 |[]=>true
 |k::ks=>fb d k&&dy d ks
termination_by l=>(SizeOf.sizeOf l,0)
end
abbrev iT:Io:=⟨[Bo,dI],[],[],[dB],none⟩
def wR (n:Nat)(d:iT.In):Tr iT.Res:=.ite (decide (2*kc d.1.1+2≤n)&&(decide ((0:Int)≤d.1.2.1)&&decide (d.1.2.1≤1000))) (.ret (.ret ((dz d.1.2.1 d.1.1,()),()))) .no
def Zt (d:iT.In):Tr iT.Res:=.ite ((decide ((0:Int)≤d.1.2.1)&&decide (d.1.2.1≤1000))) (.ret (.ret ((dz d.1.2.1 d.1.1,()),()))) .no
abbrev km:Io:=⟨[Q3,dI],[],[],[dB],none⟩
def r7 (n:Nat)(d:km.In):Tr km.Res:=.ite (decide (2*Cc d.1.1+1≤n)&&(decide ((0:Int)≤d.1.2.1)&&decide (d.1.2.1≤999))) (.ret (.ret ((fb d.1.2.1 d.1.1,()),()))) .no
section
variable [Inhabited FuT]
abbrev Cu:List (Nat×Hc):=[(220,ae km (r7 aP))]
def KW:Hd:=bM Cu
abbrev jb:Lo:=⟨⟨(.one (.hol (.sl 160 gD))::.one hI::.any::ce (.one hI::.one hI::.any::am (am (gE [])))),[]⟩,[(.ret,⟨(dq (.one hL::.any::am (am (gE (ce []))))),[]⟩),(.exit 2,⟨(.one (.hol (.sl 160 gD))::.one hI::.any::ce (.one hI::am (am (gE (ce []))))),[]⟩)]⟩
abbrev ja:Lo:=⟨⟨(.one (.hol (.sl 160 gD))::.one hI::.any::ce (.one hI::am (am (gE (ce []))))),[]⟩,[(.ret,⟨(dq (.one hL::.any::am (am (gE (ce []))))),[]⟩),(.exit 0,⟨(am (am (am []))),[]⟩)]⟩
def pw (d:jb.st.den):Tr (aH jb.xs):=
 .ite (decide (d.1.2.2.2.1=0)&&(decide ((0:Int)≤d.1.2.2.1)&&decide (d.1.2.2.1<(d.1.1.length:Int))))
  (.ite (rG (d.1.1.take d.1.2.2.1.toNat) (d.1.1.getD d.1.2.2.1.toNat (Tre.mk ([],(0,(0,(0,())))) [])).lab.1) (.ret (.pan (.ret ((),((d.1.1,(d.1.2.1,(d.1.2.2.1,()))),()))))) (.ret (.ret ((),((false,()),()))))) .no
def wS (d:ja.st.den):Tr (aH ja.xs):=
 .ite (decide (d.1.2.2.1=0)&&((decide ((0:Int)≤d.1.2.1)&&decide (d.1.2.1≤999))&&(decide (2*kc d.1.1+1≤aP)&&decide (d.1.1.length≤16))))
  (.ite (nO d.1.1 0 d.1.1&&dy d.1.2.1 d.1.1) (.ret (.pan (.ret ((),((),()))))) (.ret (.ret ((),((false,()),()))))) .no
def ua:Lp:=bB [(5,aS ja wS),(8,aS jb pw)]
def B0 {R:Type}(h5:List gD.den)(h6 h7 h8:Int)(next:List gD.den→Int→Int→Int→Option R)(out:aH jb.xs→Option R):Option R:=bif decide (h8<h7) then bif decide (0≤h8)&&decide (h8<(↑h5.length:Int)) then bif decide (0≤h7)&&decide (h7<(↑h5.length:Int)) then bif decide ((h5.getD h8.toNat (Tre.mk ([],0,0,0,()) [])).1.1=(h5.getD h7.toNat (Tre.mk ([],0,0,0,()) [])).1.1) then out (.ret ((),((false,()),()))) else next (h5) (h6) (h7) (i64.wrap (h8+1)) else none else none else out (.pan (.ret ((),((h5,(h6,(h7,()))),()))))
def zw (n:Nat)(h5:List gD.den)(h6 h7 h8:Int):Option (aH jb.xs):=il tt KW dr ua 0 Tryz.f216 (pV Tryz.f216 (db Tryz.f216 0) 0) n (jb.st.mk' ((h5,(h6,(h7,(h8,())))),())) (ci jb.xs)
theorem YE (n:Nat)(h5:List gD.den)(h6 h7 h8:Int):zw (n+1) h5 h6 h7 h8=B0 h5 h6 h7 h8 (zw n) some:=by kernel_rfl
def BZ {R:Type}(h2:List gD.den)(h3 h4:Int)(next:List gD.den→Int→Int→Option R)(out:aH ja.xs→Option R):Option R:=bif decide (h4<(↑h2.length:Int)) then (pw ((h2,(h3,(h4,(0,())))),())).run fun y=>match y with | .ret ((),((x17,()),()))=>(out (.ret ((),((x17,()),())))) | .pan (.ret ((),((x19,x20,x21,()),())))=>(bif decide (0≤x21)&&decide (x21<(↑x19.length:Int)) then bif decide (2*Cc (Tre.mk (x19.getD x21.toNat (Tre.mk ([],0,0,0,()) [])).1 (x19.getD x21.toNat (Tre.mk ([],0,0,0,()) [])).2)+1≤aP)&&(decide (0≤x20)&&decide (x20≤999)) then bif !fb x20 (Tre.mk (x19.getD x21.toNat (Tre.mk ([],0,0,0,()) [])).1 (x19.getD x21.toNat (Tre.mk ([],0,0,0,()) [])).2) then out (.ret ((),((false,()),()))) else next (x19) (x20) (i64.wrap (x21+1)) else none else none) else out (.pan (.ret ((),((),()))))
def zv (n:Nat)(h2:List gD.den)(h3 h4:Int):Option (aH ja.xs):=il tt KW dr ua 0 Tryz.f216 (db Tryz.f216 0) n (ja.st.mk' ((h2,(h3,(h4,()))),())) (ci ja.xs)
theorem YD (n:Nat)(h2:List gD.den)(h3 h4:Int):zv (n+1) h2 h3 h4=BZ h2 h3 h4 (zv n) some:=by kernel_rfl
theorem Ob {fs:List Fd}(d:Int){i:Nat}(hi:i<fs.length)(hl:fs.length≤maxLen):∀(k j:Nat),i<j+k→j≤i→rG (fs.take j) (fs[i]).lab.1=true→
  zw k fs d i j=if rG (fs.take i) (fs[i]).lab.1=true then some (.pan (.ret ((),((fs,(d,((i:Int),()))),())))) else some (.ret ((),((false,()),()))):=by
 intro k
 induction k with
 |zero=>intro j h1 h2;omega
 |succ k ih=>
  intro j h1 h2 h3
  rw[YE]
  unfold B0
  by_cases hj:j<i
  ·have hjl:j<fs.length:=by omega
   refine bT (decide_eq_true (show (j:Int)<(i:Int) by omega)) ?_
   refine bT (by simp;omega) ?_
   refine bT (by simp;omega) ?_
   rw[cq hjl hl]
   simp only[zG,aJ hi,aJ hjl]
   by_cases he:(fs[j]).lab.1=(fs[i]).lab.1
   ·refine bT (decide_eq_true he) ?_
    rw[if_neg]
    intro h
    have hm:fs[j]∈fs.take i:=by rw[List.mem_take_iff_getElem];exact ⟨j,by omega,rfl⟩
    have:=List.all_eq_true.1 h fs[j] hm
    simp[he] at this
   ·refine bF (decide_eq_false he) ?_
    refine ih (j+1) (by omega) (by omega) ?_
    rw[List.take_succ_eq_append_getElem hjl]
    unfold rG at h3 ⊢
    rw[List.all_append,h3]
    simp[he]
  ·refine bF (decide_eq_false (show ¬(j:Int)<(i:Int) by omega)) ?_
   have:j=i:=by omega
   rw[if_pos (this▸h3)]
theorem Oa {fs:List Fd}{d:Int}(hd:0≤d∧d≤999)(hf:2*kc fs+1≤aP)(hl:fs.length≤16):∀(k j:Nat),fs.length<j+k→j≤fs.length→
  zv k fs d j=if (nO fs j (fs.drop j)&&dy d (fs.drop j))=true then some (.pan (.ret ((),((),())))) else some (.ret ((),((false,()),()))):=by
 intro k
 induction k with
 |zero=>intro j h1 h2;omega
 |succ k ih=>
  intro j h1 h2
  rw[YD]
  unfold BZ
  by_cases hj:j<fs.length
  ·refine bT (decide_eq_true (show (j:Int)<(fs.length:Int) by omega)) ?_
   have hdr:fs.drop j=fs[j]::fs.drop (j+1):=zE hj
   have hmem:=PX (List.getElem_mem hj)
   have ih':=ih (j+1) (by omega) (by omega)
   rw[hdr,nO,dy]
   have hgd:fs.getD ((j:Int)).toNat (Tre.mk (([]:LI),((0:Int),((0:Int),((0:Int),())))) ([]:List Fd))=fs[j]:=by simp only[zG];exact aJ hj
   have c8:(decide ((0:Int)=0)&&(decide ((0:Int)≤(j:Int))&&decide ((j:Int)<(fs.length:Int))))=true:=by simp;omega
   have e8:pw ((fs,(d,((j:Int),((0:Int),())))),())=.ite true (.ite (rG (fs.take j) (fs[j]).lab.1) (.ret (.pan (.ret ((),((fs,(d,((j:Int),()))),()))))) (.ret (.ret ((),((false,()),()))))) .no:=by
    unfold pw
    rw[← c8]
    show Tr.ite _ (Tr.ite (rG (fs.take ((j:Int)).toNat) (fs.getD ((j:Int)).toNat _).lab.1) _ _) _=_
    rw[hgd];simp only[zG]
   rw[e8]
   by_cases hn:rG (fs.take j) (fs[j]).lab.1=true
   ·rw[hn]
    show (bif decide (0≤(j:Int))&&decide ((j:Int)<(fs.length:Int)) then _ else none)=_
    refine bT (by simp;omega) ?_
    rw[aI (n:=(j:Int)+1) (by omega) (by omega)]
    simp only[zG,aJ hj]
    generalize fs[j]=f0 at hmem ⊢
    obtain ⟨fl,fk⟩:=f0
    refine (aa (show (decide (2*Cc (Tre.mk fl fk)+1≤aP)&&(decide ((0:Int)≤d)&&decide (d≤999)))=true by simp;omega) _ _).trans ?_
    by_cases hv:fb d (Tre.mk fl fk)=true
    ·refine (af (show (!fb d (Tre.mk fl fk))=false by rw[hv];rfl) _ _).trans ?_
     refine ih'.trans ?_
     rw[hv];simp
    ·refine (aa (show (!fb d (Tre.mk fl fk))=true by simpa using hv) _ _).trans ?_
     simp[hv]
   ·have hn:rG (fs.take j) (fs[j]).lab.1=false:=by simpa using hn
    rw[hn]
    rfl
  ·refine bF (decide_eq_false (show ¬(j:Int)<(fs.length:Int) by omega)) ?_
   rw[zI (by omega),nO,dy]
   rfl
def HL (a0:List gD.den)(a1:Int):Option iT.Res:=bif decide ((↑a0.length:Int)<1) then oR ((false,()),()) else bif decide (16<(↑a0.length:Int)) then oR ((false,()),()) else bif decide (8<a1) then oR ((false,()),()) else (wS ((a0,(a1,(0,()))),())).run fun y=>match y with | .ret ((),((x26,()),()))=>(oR ((x26,()),())) | .pan (.ret ((),((),())))=>(oR ((true,()),()))
theorem adv (a0:List gD.den)(a1:Int):Io.run tt KW dr ua iT Tryz.f216 ((a0,a1,()),())=HL a0 a1:=by kernel_rfl
theorem acx (rvField:HcOk prog 220 (ae km (r7 aP))):HcOk prog 216 (ae iT (wR (aP+1))):=by
 refine cg (cs:=Cu) (.cons rvField .nil) (lp:=ua) (fn:=Tryz.f216) iT (.step (h0:=aS ja wS) (by kernel_rfl) (jh (cs:=Cu) (.cons rvField .nil) (lp:=ua) (fn:=Tryz.f216) (.step (h0:=aS jb pw) (by kernel_rfl) (jh (cs:=Cu) (.cons rvField .nil) (lp:=ua) (fn:=Tryz.f216) (.done (by kernel_rfl)) jb pw ?_) (.done (by kernel_rfl))) ja wS ?_) (.done (by kernel_rfl))) (wR (aP+1)) ?_
 ·rintro ⟨⟨(fs:List Fd),(d:Int),(i:Int),(j:Int),⟨⟩⟩,⟨⟩⟩ y hw hy
  obtain ⟨hg,hy⟩:=Tr.guard hy
  simp only[zA,zB] at hg
  obtain ⟨h1,h2,h3⟩:=hg
  have h1:j=0:=h1
  have h2:0≤i:=h2
  have h3:i<(fs.length:Int):=h3
  subst h1
  obtain ⟨i,rfl⟩:=eK h2
  have hi:i<fs.length:=by omega
  refine ⟨i+1,(Ob d hi hw.1.1.1 (i+1) 0 (by omega) (by omega) (by simp[rG])).trans ?_⟩
  rw[← hy]
  have hgd:fs.getD ((i:Int)).toNat (Tre.mk (([]:LI),((0:Int),((0:Int),((0:Int),())))) ([]:List Fd))=fs[i]:=by simp only[zG];exact aJ hi
  show _=(Tr.ite (rG (fs.take ((i:Int)).toNat) (fs.getD ((i:Int)).toNat _).lab.1) _ _).val
  rw[hgd]
  simp only[zG]
  by_cases h:rG (fs.take i) (fs[i]).lab.1=true
  ·rw[if_pos h];exact (aa h _ _).symm
  ·rw[if_neg h];exact (af (by simpa using h) _ _).symm
 ·rintro ⟨⟨(fs:List Fd),(d:Int),(i:Int),⟨⟩⟩,⟨⟩⟩ y hw hy
  obtain ⟨hg,hy⟩:=Tr.guard hy
  simp only[zA,zB] at hg
  obtain ⟨h1,⟨h2,h3⟩,h4,h5⟩:=hg
  have h1:i=0:=h1
  have h2:0≤d:=h2
  have h3:d≤999:=h3
  have h4:2*kc fs+1≤aP:=h4
  have h5:fs.length≤16:=h5
  subst h1
  refine ⟨fs.length+1,(Oa ⟨h2,h3⟩ h4 h5 (fs.length+1) 0 (by omega) (by omega)).trans ?_⟩
  rw[← hy,List.drop_zero]
  by_cases h:(nO fs 0 fs&&dy d fs)=true
  ·rw[if_pos h];exact (aa h _ _).symm
  ·rw[if_neg h];exact (af (by simpa using h) _ _).symm
 ·rintro ⟨⟨(fs:List Fd),(d:Int),⟨⟩⟩,⟨⟩⟩ out hw ho
  obtain ⟨hg,ho⟩:=Tr.guard ho
  simp only[zA,zB] at hg
  obtain ⟨hk,hd1,hd2⟩:=hg
  have hk:2*kc fs+2≤aP+1:=hk
  have hd1:0≤d:=hd1
  have hd2:d≤1000:=hd2
  cases ho
  refine (adv fs d).trans ?_
  unfold HL
  show _=oR ((dz d fs,()),())
  rw[dz]
  by_cases h1:fs.length<1
  ·rw[if_pos h1]
   exact aa (decide_eq_true (by omega)) _ _
  rw[if_neg h1]
  refine bF (decide_eq_false (by omega)) ?_
  by_cases h2:16<fs.length
  ·rw[if_pos h2]
   exact aa (decide_eq_true (by omega)) _ _
  rw[if_neg h2]
  refine bF (decide_eq_false (by omega)) ?_
  by_cases h3:8<d
  ·rw[if_pos h3]
   exact aa (decide_eq_true h3) _ _
  rw[if_neg h3]
  refine bF (decide_eq_false h3) ?_
  have c1:(decide ((0:Int)=0)&&((decide ((0:Int)≤d)&&decide (d≤999))&&(decide (2*kc fs+1≤aP)&&decide (fs.length≤16))))=true:=by simp;omega
  refine (aa c1 _ _).trans ?_
  by_cases h:(nO fs 0 fs&&dy d fs)=true
  ·rw[h];rfl
  ·have h:(nO fs 0 fs&&dy d fs)=false:=by simpa using h
   rw[h];rfl
end
section
variable [Inhabited FuT]
abbrev D7:List (Nat×Hc):=[(216,ae iT (wR aP)),(210,ae oK Kb)]
def NU:Hd:=bM D7
abbrev gO:Lo:=⟨⟨(ce (.one (.ptr 2 0)::ce (.one hI::.any::am (am (am (am (ce []))))))),[none,none,some [.hol .str,hI,hI,hI,.hol (.sl 160 gD)]]⟩,[(.ret,⟨(dq (.one hL::am (am (am (am (dq [])))))),[]⟩),(.exit 0,⟨(ce (.one (.ptr 2 0)::am (am (am (am (dq (ce []))))))),[none,none,some [.hol .str,hI,hI,hI,.hol (.sl 160 gD)]]⟩)]⟩
def tu (d:gO.st.den):Tr (aH gO.xs):=
 .ite (((decide ((0:Int)≤d.1.1)&&decide (d.1.1≤4))&&decide (d.2.1.2.2.2.1≤3))&&decide (d.2.1.2.2.2.2.1.length≤16))
  (.ite (rp d.2.1.2.2.2.2.1 5 d.1.1 d.2.1.2.2.2.1) (.ret (.pan (.ret ((),((),(d.2.1,())))))) (.ret (.ret ((),((false,()),()))))) .no
def xQ:Lp:=bB [(9,aS gO tu)]
def yu {R:Type}(h2:Int)(h3:LI)(h4 h5 h6:Int)(h7:List (Fd))(next:Int→LI→Int→Int→Int→List (Fd)→Option R)(out:aH gO.xs→Option R):Option R:=bif decide (h2≤h6) then bif decide (h7.length≤4294967296) then bif (↑(en h7 h2).length:Int) == 0 then out (.ret ((),((false,()),()))) else next (i64.wrap (h2+1)) (h3) (h4) (h5) (h6) (h7) else none else out (.pan (.ret ((),((),((h3,(h4,(h5,(h6,(h7,()))))),())))))
def vY (n:Nat)(h2:Int)(h3:LI)(h4 h5 h6:Int)(h7:List (Fd)):Option (aH gO.xs):=il tt NU dr xQ 0 Tryz.f220 (db Tryz.f220 0) n (gO.st.mk' ((h2,()),((h3,(h4,(h5,(h6,(h7,()))))),()))) (ci gO.xs)
theorem SJ (n:Nat)(h2:Int)(h3:LI)(h4 h5 h6:Int)(h7:List (Fd)):vY (n+1) h2 h3 h4 h5 h6 h7=yu h2 h3 h4 h5 h6 h7 (vY n) some:=by kernel_rfl
theorem Rw {ks:List Fd}(hl:ks.length≤16)(nm:LI)(a b c:Int)(hc:c≤3):∀(k:Nat) (v:Int),0≤v→v≤4→4<v+k→
  vY k v nm a b c ks=if rp ks k v c=true then some (.pan (.ret ((),((),((nm,(a,(b,(c,(ks,()))))),()))))) else some (.ret ((),((false,()),()))):=by
 intro k
 induction k with
 |zero=>intro v h0 h1 h2;omega
 |succ k ih=>
  intro v h0 h1 h2
  rw[SJ]
  unfold yu
  rw[rp]
  by_cases hv:v≤c
  ·refine bT (decide_eq_true hv) ?_
   refine bT (decide_eq_true (by omega)) ?_
   rw[if_pos hv,aI (n:=v+1) (by omega) (by omega)]
   by_cases h:(en ks v).length=0
   ·refine bT (by simp[h]) ?_
    rw[if_pos h];rfl
   ·refine bF (by simpa using h) ?_
    rw[if_neg h]
    exact ih (v+1) (by omega) (by omega) (by omega)
  ·refine bF (decide_eq_false hv) ?_
   rw[if_neg hv];rfl
def DS (a0:Fd)(a1:Int):Option km.Res:=bif (↑(List.length a0.1.1):Int) == 0 then oR ((false,()),()) else bif decide (a0.1.2.2.1<0) then oR ((false,()),()) else bif decide (3<a0.1.2.2.2.1) then oR ((false,()),()) else bif decide (a0.1.2.2.2.1<a0.1.2.2.1) then oR ((false,()),()) else bif decide (a0.1.2.1<1) then oR ((false,()),()) else bif decide (10<a0.1.2.1) then oR ((false,()),()) else bif decide (a0.1.2.1<9) then oR (((↑a0.2.length:Int) == 0,()),()) else bif decide (2*kc a0.2+2≤aP)&&(decide (0≤i64.wrap (a1+1))&&decide (i64.wrap (a1+1)≤1000)) then bif !dz (i64.wrap (a1+1)) a0.2 then oR ((false,()),()) else (tu ((a0.1.2.2.1,()),((a0.1.1,(a0.1.2.1,(a0.1.2.2.1,(a0.1.2.2.2.1,(a0.2,()))))),()))).run fun y=>match y with | .ret ((),((x20,()),()))=>(oR ((x20,()),())) | .pan (.ret ((),((),(x21,x22,x23,x24,x25,()),())))=>(bif x22 == 10 then oR ((true,()),()) else oR (((↑x25.length:Int) == 1,()),())) else none
theorem Yk (a0:Fd)(a1:Int):Io.run tt NU dr xQ km Tryz.f220 ((a0,a1,()),())=DS a0 a1:=by kernel_rfl
theorem XC (rvList:HcOk prog 216 (ae iT (wR aP))):HcOk prog 220 (ae km (r7 (aP+1))):=by
 refine cg (cs:=D7) (.cons rvList (.cons CI .nil)) (lp:=xQ) (fn:=Tryz.f220) km (.step (h0:=aS gO tu) (by kernel_rfl) (jh (cs:=D7) (.cons rvList (.cons CI .nil)) (lp:=xQ) (fn:=Tryz.f220) (.done (by kernel_rfl)) gO tu ?_) (.done (by kernel_rfl))) (r7 (aP+1)) ?_
 ·rintro ⟨⟨(v:Int),⟨⟩⟩,⟨⟨(nm:LI),(a:Int),(b:Int),(c:Int),(ks:List Fd),⟨⟩⟩,⟨⟩⟩⟩ y hw hy
  obtain ⟨hg,hy⟩:=Tr.guard hy
  simp only[zA,zB] at hg
  obtain ⟨⟨⟨h1,h4⟩,h2⟩,h3⟩:=hg
  have h1:0≤v:=h1
  have h4:v≤4:=h4
  have h2:c≤3:=h2
  have h3:ks.length≤16:=h3
  refine ⟨5,(Rw h3 nm a b c h2 5 v h1 h4 (by omega)).trans ?_⟩
  rw[← hy]
  by_cases h:rp ks 5 v c=true
  ·rw[if_pos h];exact (aa h _ _).symm
  ·rw[if_neg h];exact (af (by simpa using h) _ _).symm
 ·rintro ⟨⟨(f:Fd),(d:Int),⟨⟩⟩,⟨⟩⟩ out hw ho
  obtain ⟨hg,ho⟩:=Tr.guard ho
  simp only[zA,zB] at hg
  obtain ⟨hk,hd1,hd2⟩:=hg
  have hk:2*Cc f+1≤aP+1:=hk
  have hd1:0≤d:=hd1
  have hd2:d≤999:=hd2
  cases ho
  refine (Yk f d).trans ?_
  unfold DS
  show _=oR ((fb d f,()),())
  obtain ⟨⟨(nm:LI),(k':Int),(lo:Int),(hi:Int),⟨⟩⟩,(ks:List Fd)⟩:=f
  have hwf:=L3 (Tre.mk (nm,(k',(lo,(hi,())))) ks)
  have hwf:Cc (Tre.mk (nm,(k',(lo,(hi,())))) ks)=1+kc ks:=hwf
  have hk:2*(1+kc ks)+1≤aP+1:=by rw[← hwf];exact hk
  rw[fb,aI (n:=d+1) (by omega) (by omega)]
  simp only
  by_cases h1:List.length nm=0
  ·rw[if_pos h1]
   exact aa (by simp[h1]) _ _
  rw[if_neg h1]
  refine bF (by simpa using h1) ?_
  by_cases h2:lo<(0:Int)
  ·rw[if_pos h2]
   exact aa (decide_eq_true h2) _ _
  rw[if_neg h2]
  refine bF (decide_eq_false h2) ?_
  by_cases h3:(3:Int)<hi
  ·rw[if_pos h3]
   exact aa (decide_eq_true h3) _ _
  rw[if_neg h3]
  refine bF (decide_eq_false h3) ?_
  by_cases h4:(hi:Int)<lo
  ·rw[if_pos h4]
   exact aa (decide_eq_true h4) _ _
  rw[if_neg h4]
  refine bF (decide_eq_false h4) ?_
  by_cases h5:k'<(1:Int)
  ·rw[if_pos h5]
   exact aa (decide_eq_true h5) _ _
  rw[if_neg h5]
  refine bF (decide_eq_false h5) ?_
  by_cases h6:(10:Int)<k'
  ·rw[if_pos h6]
   exact aa (decide_eq_true h6) _ _
  rw[if_neg h6]
  refine bF (decide_eq_false h6) ?_
  by_cases h7:k'<(9:Int)
  ·rw[if_pos h7]
   refine bT (decide_eq_true h7) ?_
   by_cases h8:ks.length=0
   ·rw[if_pos h8,h8];rfl
   ·rw[if_neg h8]
    exact congrArg (fun b:Bool=>oR ((b,()),())) (by simpa using h8)
  rw[if_neg h7]
  refine bF (decide_eq_false h7) ?_
  refine (aa (show (decide (2*kc ks+2≤aP)&&(decide ((0:Int)≤d+1)&&decide (d+1≤1000)))=true by simp;omega) _ _).trans ?_
  by_cases h8:dz (d+1) ks=false
  ·rw[if_pos h8]
   exact aa (by rw[h8];rfl) _ _
  rw[if_neg h8]
  refine bF (by simpa using h8) ?_
  have h8:dz (d+1) ks=true:=by simpa using h8
  have hl:ks.length≤16:=by
   rw[dz] at h8
   split at h8
   ·cases h8
   ·split at h8
    ·cases h8
    ·omega
  have c1:(((decide ((0:Int)≤lo)&&decide (lo≤4))&&decide (hi≤(3:Int)))&&decide (ks.length≤16))=true:=by simp[hl];omega
  refine (aa c1 _ _).trans ?_
  by_cases h9:rp ks 5 lo hi=true
  ·refine (aa h9 _ _).trans ?_
   rw[if_neg (by rw[h9];decide)]
   show (bif k' == 10 then _ else _)=_
   by_cases h10:k'=10
   ·rw[if_pos h10]
    exact aa (by simpa using h10) _ _
   ·rw[if_neg h10]
    refine bF (by simpa using h10) ?_
    by_cases h11:ks.length=1
    ·rw[if_pos h11]
     exact congrArg (fun b:Bool=>oR ((b,()),())) (show ((ks.length:Int) == 1)=true by rw[h11];rfl)
    ·rw[if_neg h11]
     exact congrArg (fun b:Bool=>oR ((b,()),())) (show ((ks.length:Int) == 1)=false by simp;omega)
  ·have h9:rp ks 5 lo hi=false:=by simpa using h9
   refine (af h9 _ _).trans ?_
   rw[if_pos h9]
   rfl
end
theorem acw (n:Nat):HcOk prog 216 (ae iT (wR n))∧HcOk prog 220 (ae km (r7 n)):=by
 induction n with
 |zero=>
  refine ⟨HcOk.none (fn:=Tryz.f216) (by kernel_rfl) (by kernel_rfl) (by kernel_rfl) _ _ fun d out h=>?_,HcOk.none (fn:=Tryz.f220) (by kernel_rfl) (by kernel_rfl) (by kernel_rfl) _ _ fun d out h=>?_⟩
  ·cases h
  ·cases h
 |succ n ih=>
  have h1:=@acx ⟨⟨n⟩⟩ (by rw[FuT.val];exact ih.2)
  have h2:=@XC ⟨⟨n⟩⟩ (by rw[FuT.val];exact ih.1)
  rw[FuT.val] at h1 h2
  exact ⟨h1,h2⟩
theorem af1:HcOk prog 216 (ae iT Zt):=by
 refine HcOk.lim (fun n=>(acw n).1) fun d=>⟨2*kc d.1.1+2,fun out h=>?_⟩
 obtain ⟨hg,h⟩:=Tr.guard h
 exact (aa (by rw[hg];simp) _ _).trans h
abbrev nC:Io:=⟨[Bo],[],[],[dI],none⟩
def nM (l:List Fd):Int:=if dz 1 l=true then 0 else 100
def Kh (d:nC.In):Tr nC.Res:=.ret (.ret ((nM d.1.1,()),()))
abbrev NC:List (Nat×Hc):=[(216,ae iT Zt)]
def abd:Hd:=bM NC
def ON:Lp:=bB []
def DR (a0:List gD.den):Option nC.Res:=bif !dz 1 a0 then oR ((100,()),()) else oR ((0,()),())
theorem Yj (a0:List gD.den):Io.run tt abd dr ON nC Tryz.f209 ((a0,()),())=DR a0:=by kernel_rfl
theorem acv:HcOk prog 209 (ae nC Kh):=by
 refine cg (cs:=NC) (.cons af1 .nil) (lp:=ON) (fn:=Tryz.f209) nC (.done (by kernel_rfl)) Kh ?_
 rintro ⟨⟨(fs:List Fd),⟨⟩⟩,⟨⟩⟩ out hw ho
 cases ho
 refine (Yj fs).trans ?_
 unfold DR
 show _=oR ((nM fs,()),())
 unfold nM
 by_cases h:dz 1 fs=true
 ·rw[if_pos h]
  exact af (by rw[h];rfl) _ _
 ·rw[if_neg h]
  exact aa (by simpa using h) _ _
abbrev nB:Io:=⟨[Bo,dI],[],[],[dI],none⟩
def rF (l:List Fd)(v:Int):Int:=if v<0∨3<v then 8 else nM l
def Kg (d:nB.In):Tr nB.Res:=.ret (.ret ((rF d.1.1 d.1.2.1,()),()))
abbrev NB:List (Nat×Hc):=[(209,ae nC Kh)]
def abc:Hd:=bM NB
def OM:Lp:=bB []
def DQ (a0:List gD.den)(a1:Int):Option nB.Res:=bif decide (a1<0) then oR ((8,()),()) else bif decide (3<a1) then oR ((8,()),()) else oR ((nM a0,()),())
theorem Yi (a0:List gD.den)(a1:Int):Io.run tt abc dr OM nB Tryz.f190 ((a0,a1,()),())=DQ a0 a1:=by kernel_rfl
theorem acu:HcOk prog 190 (ae nB Kg):=by
 refine cg (cs:=NB) (.cons acv .nil) (lp:=OM) (fn:=Tryz.f190) nB (.done (by kernel_rfl)) Kg ?_
 rintro ⟨⟨(fs:List Fd),(v:Int),⟨⟩⟩,⟨⟩⟩ out hw ho
 cases ho
 refine (Yi fs v).trans ?_
 unfold DQ
 show _=oR ((rF fs v,()),())
 unfold rF
 by_cases h:v<0
 ·rw[if_pos (.inl h)]
  exact aa (decide_eq_true h) _ _
 ·refine bF (decide_eq_false h) ?_
  by_cases h2:3<v
  ·rw[if_pos (.inr h2)]
   exact aa (decide_eq_true h2) _ _
  ·rw[if_neg (by omega)]
   exact af (decide_eq_false h2) _ _
theorem PH (k:Fd)(ks:List Fd):b7 (k::ks)=(fj k&&b7 ks):=by unfold b7 fj;rfl
theorem PW:∀(N:Nat),(∀(d:Int) (f:Fd),Cc f≤N→fb d f=true→fj f=true)∧(∀(d:Int) (ks:List Fd),kc ks<N→dz d ks=true→b7 ks=true∧1≤ks.length∧ks.length≤16):=by
 intro N
 induction N with
 |zero=>exact ⟨fun d f h=>by have:=L3 f;omega,fun d ks h=>by omega⟩
 |succ N ih=>
  have hl:∀(d:Int) (ks:List Fd),kc ks<N+1→dz d ks=true→b7 ks=true∧1≤ks.length∧ks.length≤16:=by
   intro d ks hN h
   rw[dz] at h
   split at h
   ·cases h
   split at h
   ·cases h
   split at h
   ·cases h
   refine ⟨?_,by omega,by omega⟩
   simp only[zA] at h
   have key:∀l:List Fd,(∀k∈l,Cc k≤N)→dy d l=true→b7 l=true:=by
    intro l
    induction l with
    |nil=>intro _ _;unfold b7;rfl
    |cons k l ihl=>
     intro h1 h2
     rw[dy] at h2
     simp only[zA] at h2
     rw[PH,ih.1 d k (h1 k (by simp)) h2.1,ihl (fun k hk=>h1 k (List.mem_cons_of_mem _ hk)) h2.2];rfl
   exact key ks (fun k hk=>by have:=PX hk;omega) h.2
  refine ⟨?_,hl⟩
  rintro d ⟨⟨(nm:LI),(k':Int),(lo:Int),(hi:Int),⟨⟩⟩,(ks:List Fd)⟩ hN h
  rw[Fi]
  have hwf:=L3 (Tre.mk (nm,(k',(lo,(hi,())))) ks)
  have hwf:Cc (Tre.mk (nm,(k',(lo,(hi,())))) ks)=1+kc ks:=hwf
  have hN:1+kc ks≤N+1:=by rw[← hwf];exact hN
  show ((((decide (k'≠9) || decide (ks.length≠0))&&decide (ks.length≤16))&&b7 ks))=true
  rw[fb] at h
  by_cases c0:List.length nm=0
  ·rw[if_pos c0] at h;cases h
  rw[if_neg c0] at h
  by_cases c1:lo<0
  ·rw[if_pos c1] at h;cases h
  rw[if_neg c1] at h
  by_cases c2:3<hi
  ·rw[if_pos c2] at h;cases h
  rw[if_neg c2] at h
  by_cases c3:hi<lo
  ·rw[if_pos c3] at h;cases h
  rw[if_neg c3] at h
  by_cases c4:k'<1
  ·rw[if_pos c4] at h;cases h
  rw[if_neg c4] at h
  by_cases c5:10<k'
  ·rw[if_pos c5] at h;cases h
  rw[if_neg c5] at h
  by_cases hk9:k'<9
  ·rw[if_pos hk9] at h
   by_cases h0:ks.length=0
   ·have:ks=[]:=zF h0
    subst this
    have e:decide (k'≠9)=true:=decide_eq_true (by omega)
    have:b7 []=true:=by unfold b7;rfl
    rw[e,this];rfl
   ·rw[if_neg h0] at h;cases h
  rw[if_neg hk9] at h
  by_cases hlk:dz (d+1) ks=false
  ·rw[if_pos hlk] at h;cases h
  obtain ⟨h1,h2,h3⟩:=hl (d+1) ks (by omega) (by simpa using hlk)
  have e:decide (ks.length≠0)=true:=decide_eq_true (by omega)
  have e2:decide (ks.length≤16)=true:=decide_eq_true h3
  rw[h1,e,e2,Bool.or_true];rfl
theorem YK {l:List Fd}{v:Int}(h:rF l v=0):b7 l=true∧l.length≤16:=by
 unfold rF at h
 split at h
 ·omega
 ·unfold nM at h
  split at h
  ·rename_i hl
   have:=(PW (kc l+1)).2 1 l (by omega) hl
   exact ⟨this.1,this.2.2⟩
  ·omega
abbrev k7:Io:=⟨[Bo,dI,dH],[],[],[dL,dI],none⟩
def va (l:List Fd)(v:Int)(n:Nd):LI×Int:=if rF l v≠0 then ([],rF l v) else if iE 10 n=false then ([],101) else if (ch l v n).2≠0 then ([],(ch l v n).2) else if 130048<(ch l v n).1.length then ([],4) else ((ch l v n).1,0)
def Df (d:k7.In):Tr k7.Res:=.ite (decide (8*aM d.1.2.2.1≤4294967296)) (.ret (.ret (((va d.1.1 d.1.2.1 d.1.2.2.1).1,((va d.1.1 d.1.2.1 d.1.2.2.1).2,())),()))) .no
abbrev Ic:List (Nat×Hc):=[(190,ae nB Kg),(191,ae kl Cq),(192,ae gu TP)]
def WV:Hd:=bM Ic
def IN:Lp:=bB []
def Bd (a0:List gD.den)(a1:Int)(a2:Nd):Option k7.Res:=bif rF a0 a1 != 0 then oR (([],rF a0 a1,()),()) else bif !iE 10 (Tre.mk a2.1 a2.2) then oR (([],101,()),()) else bif b7 a0&&(decide (8*aM (Tre.mk a2.1 a2.2)≤4294967296)&&decide (a0.length≤4294967296)) then bif (ch a0 a1 (Tre.mk a2.1 a2.2)).2 != 0 then oR (([],(ch a0 a1 (Tre.mk a2.1 a2.2)).2,()),()) else bif decide (130048<(↑(ch a0 a1 (Tre.mk a2.1 a2.2)).1.length:Int)) then oR (([],4,()),()) else oR (((ch a0 a1 (Tre.mk a2.1 a2.2)).1,0,()),()) else none
theorem Sv (a0:List gD.den)(a1:Int)(a2:Nd):Io.run tt WV dr IN k7 Tryz.f91 ((a0,a1,a2,()),())=Bd a0 a1 a2:=by kernel_rfl
theorem XB:HcOk prog 91 (ae k7 Df):=by
 refine cg (cs:=Ic) (.cons acu (.cons EZ (.cons acy .nil))) (lp:=IN) (fn:=Tryz.f91) k7 (.done (by kernel_rfl)) Df ?_
 rintro ⟨⟨(fs:List Fd),(v:Int),(n:Nd),⟨⟩⟩,⟨⟩⟩ out hw ho
 obtain ⟨hg,ho⟩:=Tr.guard ho
 have hb:8*aM n≤4294967296:=of_decide_eq_true hg
 cases ho
 refine (Sv fs v n).trans ?_
 unfold Bd
 show _=oR (((va fs v n).1,((va fs v n).2,())),())
 unfold va
 by_cases h1:rF fs v=0
 ·rw[if_neg (by simpa using h1)]
  refine bF (by rw[h1];rfl) ?_
  obtain ⟨ha,hl⟩:=YK h1
  obtain ⟨nl,nk⟩:=n
  by_cases h2:iE 10 (Tre.mk nl nk)=false
  ·rw[if_pos h2]
   exact aa (show (!iE 10 (Tre.mk nl nk))=true by rw[h2];rfl) _ _
  rw[if_neg h2]
  refine (af (show (!iE 10 (Tre.mk nl nk))=false by simpa using h2) _ _).trans ?_
  refine (aa (show (b7 fs&&(decide (8*aM (Tre.mk nl nk)≤4294967296)&&decide (fs.length≤4294967296)))=true by rw[ha];simp;omega) _ _).trans ?_
  by_cases h3:(ch fs v (Tre.mk nl nk)).2=0
  ·rw[if_neg (by simpa using h3)]
   refine (af (show ((ch fs v (Tre.mk nl nk)).2 != 0)=false by rw[h3];rfl) _ _).trans ?_
   by_cases h4:130048<(ch fs v (Tre.mk nl nk)).1.length
   ·rw[if_pos h4]
    exact aa (decide_eq_true (show (130048:Int)<((ch fs v (Tre.mk nl nk)).1.length:Int) by omega)) _ _
   ·rw[if_neg h4]
    exact af (decide_eq_false (show ¬(130048:Int)<((ch fs v (Tre.mk nl nk)).1.length:Int) by omega)) _ _
  ·rw[if_pos h3]
   exact aa (by simpa using h3) _ _
 ·rw[if_pos h1]
  exact aa (by simpa using h1) _ _
end
end Go.Proofs.YtomeplopmndbgaaGreat.Sym
namespace Go.Proofs.YtomeplopmndbgaaGreat.Sym
open Go
open Go.IntKind (i8 i16 i32 i64 u8 u16 u32 u64)
noncomputable section
mutual
def bn (f:Fd)(v:Int):Nd→Nd×Bool
 |.mk a ks=>if f.lab.2.1=9 then (.mk (9,(0,(false,(([]:LI),())))) (cP (f.kids.headD f) v ks).1,(cP (f.kids.headD f) v ks).2)
  else if f.lab.2.1=10 then (.mk (10,(0,(false,(([]:LI),())))) (bS v f.kids ks).1,(bS v f.kids ks).2) else (.mk a ks,true)
termination_by n=>(SizeOf.sizeOf n,0)
def cP (f:Fd)(v:Int):List Nd→List Nd×Bool
 |[]=>([],true)
 |k::ks=>((bn f v k).1::(cP f v ks).1,(bn f v k).2&&(cP f v ks).2)
termination_by l=>(SizeOf.sizeOf l,0)
def bS (v:Int):List Fd→List Nd→List Nd×Bool
 |f::fs,k::ks=>if jy f v=true then ((bn f v k).1::(bS v fs ks).1,(bn f v k).2&&(bS v fs ks).2) else ((bS v fs ks).1,cD k&&(bS v fs ks).2)
 |_,_=>([],true)
termination_by fs l=>(SizeOf.sizeOf l,0)
end
abbrev k6:Io:=⟨[Q3,dI,dH],[],[],[dH,dB],none⟩
def De (n:Nat)(d:k6.In):Tr k6.Res:=.ite (decide (aM d.1.2.2.1<n)&&(fj d.1.1&&decide (aM d.1.2.2.1≤4294967296))) (.ret (.ret (((bn d.1.1 d.1.2.1 d.1.2.2.1).1,((bn d.1.1 d.1.2.1 d.1.2.2.1).2,())),()))) .no
def ahr (d:k6.In):Tr k6.Res:=.ite (fj d.1.1&&decide (aM d.1.2.2.1≤4294967296)) (.ret (.ret (((bn d.1.1 d.1.2.1 d.1.2.2.1).1,((bn d.1.1 d.1.2.1 d.1.2.2.1).2,())),()))) .no
section
variable [Inhabited FuT]
abbrev Kz:List (Nat×Hc):=[(90,ae k6 (De aP)),(189,ae lK Cn),(88,ae oL Kd)]
def Ra:Hd:=bM Kz
abbrev kx:Lo:=⟨⟨(.any::.one hI::.any::.one (.ptr 3 0)::.any::.one (.ptr 5 0)::.one (.ptr 6 0)::.any::.one (.onl 91 ap 17)::.one hL::.one hI::.any::am (am (am (am (am (am (dq []))))))),[none,none,none,some [.hol .str,hI,hI,hI,.hol (.sl 160 gD)],none,some [hI,hI,hL,.hol (.sl 5 (Ty.int u8)),.hol (.sl 91 ap)],some [hI,hI,hL,.onl 5 (Ty.int u8) 3080,.onl 91 ap 3082]]⟩,[(.exit 0,⟨(dq (ce (.one (.ptr 6 0)::.any::.one (.onl 91 ap 17)::.one hL::am (am (am (am (am (am (dq (ce [])))))))))),[none,none,none,none,none,none,some [hI,hI,hL,.onl 5 (Ty.int u8) 3080,.onl 91 ap 3082]]⟩)]⟩
abbrev i9:Lo:=⟨⟨(.any::.one hI::.any::.one (.ptr 3 0)::.any::.one (.ptr 5 0)::.one (.ptr 6 0)::.any::.one (.onl 91 ap 17)::.one hL::.any::ce (.one hI::am (am (am (am (am (am (ce [])))))))),[none,none,none,some [.hol .str,hI,hI,hI,.hol (.sl 160 gD)],none,some [hI,hI,hL,.hol (.sl 5 (Ty.int u8)),.hol (.sl 91 ap)],some [hI,hI,hL,.onl 5 (Ty.int u8) 3080,.onl 91 ap 3082]]⟩,[(.exit 2,⟨(dq (ce (.one (.ptr 6 0)::.any::.one (.onl 91 ap 17)::.one hL::am (am (am (am (am (am (dq (ce [])))))))))),[none,none,none,none,none,none,some [hI,hI,hL,.onl 5 (Ty.int u8) 3080,.onl 91 ap 3082]]⟩)]⟩
def Cr (d:kx.st.den):Tr (aH kx.xs):=
 .ite (decide (d.1.2.2.2.1=0)&&((decide (d.1.2.1.length=0)&&d.1.2.2.1)&&((decide (d.2.1.2.2.2.2.1.length≠0)&&b7 d.2.1.2.2.2.2.1)&&(decide (aK d.2.2.1.2.2.2.2.1<aP)&&decide (aK d.2.2.1.2.2.2.2.1≤4294967296)))))
  (.ret (.ret ((),(((cP (d.2.1.2.2.2.2.1.headD (.mk ([],(0,(0,(0,())))) [])) d.1.1 d.2.2.1.2.2.2.2.1).1,((cP (d.2.1.2.2.2.2.1.headD (.mk ([],(0,(0,(0,())))) [])) d.1.1 d.2.2.1.2.2.2.2.1).2,())),(d.2.2.2.1,()))))) .no
def wQ (d:i9.st.den):Tr (aH i9.xs):=
 .ite (decide (d.1.2.2.2.1=0)&&((decide (d.1.2.1.length=0)&&d.1.2.2.1)&&(b7 d.2.1.2.2.2.2.1&&(decide (aK d.2.2.1.2.2.2.2.1<aP)&&decide (aK d.2.2.1.2.2.2.2.1≤4294967296)))))
  (.ret (.ret ((),(((bS d.1.1 d.2.1.2.2.2.2.1 d.2.2.1.2.2.2.2.1).1,((bS d.1.1 d.2.1.2.2.2.2.1 d.2.2.1.2.2.2.2.1).2,())),(d.2.2.2.1,()))))) .no
def zS:Lp:=bB [(6,aS kx Cr),(15,aS i9 wQ)]
def Ge {R:Type}(h3:Int)(h4:List ap.den)(h5:Bool)(h6:Int)(h7:LI)(h8 h9 h10:Int)(h11:List (Fd))(h12 h13:Int)(h14:Bool)(h15:LI)(h16:List (Nd))(h17 h18:Int)(h19:Bool)(h20:LI)(h21:List ap.den)(next:Int→List ap.den→Bool→Int→LI→Int→Int→Int→List (Fd)→Int→Int→Bool→LI→List (Nd)→Int→Int→Bool→LI→List ap.den→Option R)(out:aH kx.xs→Option R):Option R:=bif decide (h6<(↑h16.length:Int)) then bif decide (0≤0)&&decide (0<(↑h11.length:Int)) then bif decide (0≤h6)&&decide (h6<(↑h16.length:Int)) then bif decide (aM (Tre.mk (h16.getD h6.toNat (Tre.mk (0,0,false,[],()) [])).1 (h16.getD h6.toNat (Tre.mk (0,0,false,[],()) [])).2)<aP)&&(fj (Tre.mk (h11.getD (Int.toNat 0) (Tre.mk ([],0,0,0,()) [])).1 (h11.getD (Int.toNat 0) (Tre.mk ([],0,0,0,()) [])).2)&&decide (aM (Tre.mk (h16.getD h6.toNat (Tre.mk (0,0,false,[],()) [])).1 (h16.getD h6.toNat (Tre.mk (0,0,false,[],()) [])).2)≤4294967296)) then bif decide (h4.length+1≤4294967296) then bif h5 then next (h3) (h4++[Tre.mk (bn (Tre.mk (h11.getD (Int.toNat 0) (Tre.mk ([],0,0,0,()) [])).1 (h11.getD (Int.toNat 0) (Tre.mk ([],0,0,0,()) [])).2) h3 (Tre.mk (h16.getD h6.toNat (Tre.mk (0,0,false,[],()) [])).1 (h16.getD h6.toNat (Tre.mk (0,0,false,[],()) [])).2)).1.1 (bn (Tre.mk (h11.getD (Int.toNat 0) (Tre.mk ([],0,0,0,()) [])).1 (h11.getD (Int.toNat 0) (Tre.mk ([],0,0,0,()) [])).2) h3 (Tre.mk (h16.getD h6.toNat (Tre.mk (0,0,false,[],()) [])).1 (h16.getD h6.toNat (Tre.mk (0,0,false,[],()) [])).2)).1.2]) ((bn (Tre.mk (h11.getD (Int.toNat 0) (Tre.mk ([],0,0,0,()) [])).1 (h11.getD (Int.toNat 0) (Tre.mk ([],0,0,0,()) [])).2) h3 (Tre.mk (h16.getD h6.toNat (Tre.mk (0,0,false,[],()) [])).1 (h16.getD h6.toNat (Tre.mk (0,0,false,[],()) [])).2)).2) (i64.wrap (h6+1)) (h7) (h8) (h9) (h10) (h11) (h12) (h13) (h14) (h15) (h16) (h17) (h18) (h19) (h20) (h21) else next (h3) (h4++[Tre.mk (bn (Tre.mk (h11.getD (Int.toNat 0) (Tre.mk ([],0,0,0,()) [])).1 (h11.getD (Int.toNat 0) (Tre.mk ([],0,0,0,()) [])).2) h3 (Tre.mk (h16.getD h6.toNat (Tre.mk (0,0,false,[],()) [])).1 (h16.getD h6.toNat (Tre.mk (0,0,false,[],()) [])).2)).1.1 (bn (Tre.mk (h11.getD (Int.toNat 0) (Tre.mk ([],0,0,0,()) [])).1 (h11.getD (Int.toNat 0) (Tre.mk ([],0,0,0,()) [])).2) h3 (Tre.mk (h16.getD h6.toNat (Tre.mk (0,0,false,[],()) [])).1 (h16.getD h6.toNat (Tre.mk (0,0,false,[],()) [])).2)).1.2]) (false) (i64.wrap (h6+1)) (h7) (h8) (h9) (h10) (h11) (h12) (h13) (h14) (h15) (h16) (h17) (h18) (h19) (h20) (h21) else none else none else none else none else out (.ret ((),((h4,(h5,())),((h17,(h18,(h19,(h20,(h21,()))))),()))))
def sx (n:Nat)(h3:Int)(h4:List ap.den)(h5:Bool)(h6:Int)(h7:LI)(h8 h9 h10:Int)(h11:List (Fd))(h12 h13:Int)(h14:Bool)(h15:LI)(h16:List (Nd))(h17 h18:Int)(h19:Bool)(h20:LI)(h21:List ap.den):Option (aH kx.xs):=il tt Ra dr zS 0 Tryz.f90 (db Tryz.f90 0) n (kx.st.mk' ((h3,(h4,(h5,(h6,())))),((h7,(h8,(h9,(h10,(h11,()))))),((h12,(h13,(h14,(h15,(h16,()))))),((h17,(h18,(h19,(h20,(h21,()))))),()))))) (ci kx.xs)
theorem adL (n:Nat)(h3:Int)(h4:List ap.den)(h5:Bool)(h6:Int)(h7:LI)(h8 h9 h10:Int)(h11:List (Fd))(h12 h13:Int)(h14:Bool)(h15:LI)(h16:List (Nd))(h17 h18:Int)(h19:Bool)(h20:LI)(h21:List ap.den):sx (n+1) h3 h4 h5 h6 h7 h8 h9 h10 h11 h12 h13 h14 h15 h16 h17 h18 h19 h20 h21=Ge h3 h4 h5 h6 h7 h8 h9 h10 h11 h12 h13 h14 h15 h16 h17 h18 h19 h20 h21 (sx n) some:=by kernel_rfl
def BY {R:Type}(h74:Int)(h75:List ap.den)(h76:Bool)(h77:Int)(h78:LI)(h79 h80 h81:Int)(h82:List (Fd))(h83 h84:Int)(h85:Bool)(h86:LI)(h87:List (Nd))(h88 h89:Int)(h90:Bool)(h91:LI)(h92:List ap.den)(next:Int→List ap.den→Bool→Int→LI→Int→Int→Int→List (Fd)→Int→Int→Bool→LI→List (Nd)→Int→Int→Bool→LI→List ap.den→Option R)(out:aH i9.xs→Option R):Option R:=bif decide (h77<(↑h82.length:Int)) then bif decide (h77<(↑h87.length:Int)) then bif decide (0≤h77)&&decide (h77<(↑h82.length:Int)) then bif jy (Tre.mk (h82.getD h77.toNat (Tre.mk ([],0,0,0,()) [])).1 (h82.getD h77.toNat (Tre.mk ([],0,0,0,()) [])).2) h74 then bif decide (0≤h77)&&decide (h77<(↑h82.length:Int)) then bif decide (0≤h77)&&decide (h77<(↑h87.length:Int)) then bif decide (aM (Tre.mk (h87.getD h77.toNat (Tre.mk (0,0,false,[],()) [])).1 (h87.getD h77.toNat (Tre.mk (0,0,false,[],()) [])).2)<aP)&&(fj (Tre.mk (h82.getD h77.toNat (Tre.mk ([],0,0,0,()) [])).1 (h82.getD h77.toNat (Tre.mk ([],0,0,0,()) [])).2)&&decide (aM (Tre.mk (h87.getD h77.toNat (Tre.mk (0,0,false,[],()) [])).1 (h87.getD h77.toNat (Tre.mk (0,0,false,[],()) [])).2)≤4294967296)) then bif decide (h75.length+1≤4294967296) then bif h76 then next (h74) (h75++[Tre.mk (bn (Tre.mk (h82.getD h77.toNat (Tre.mk ([],0,0,0,()) [])).1 (h82.getD h77.toNat (Tre.mk ([],0,0,0,()) [])).2) h74 (Tre.mk (h87.getD h77.toNat (Tre.mk (0,0,false,[],()) [])).1 (h87.getD h77.toNat (Tre.mk (0,0,false,[],()) [])).2)).1.1 (bn (Tre.mk (h82.getD h77.toNat (Tre.mk ([],0,0,0,()) [])).1 (h82.getD h77.toNat (Tre.mk ([],0,0,0,()) [])).2) h74 (Tre.mk (h87.getD h77.toNat (Tre.mk (0,0,false,[],()) [])).1 (h87.getD h77.toNat (Tre.mk (0,0,false,[],()) [])).2)).1.2]) ((bn (Tre.mk (h82.getD h77.toNat (Tre.mk ([],0,0,0,()) [])).1 (h82.getD h77.toNat (Tre.mk ([],0,0,0,()) [])).2) h74 (Tre.mk (h87.getD h77.toNat (Tre.mk (0,0,false,[],()) [])).1 (h87.getD h77.toNat (Tre.mk (0,0,false,[],()) [])).2)).2) (i64.wrap (h77+1)) (h78) (h79) (h80) (h81) (h82) (h83) (h84) (h85) (h86) (h87) (h88) (h89) (h90) (h91) (h92) else next (h74) (h75++[Tre.mk (bn (Tre.mk (h82.getD h77.toNat (Tre.mk ([],0,0,0,()) [])).1 (h82.getD h77.toNat (Tre.mk ([],0,0,0,()) [])).2) h74 (Tre.mk (h87.getD h77.toNat (Tre.mk (0,0,false,[],()) [])).1 (h87.getD h77.toNat (Tre.mk (0,0,false,[],()) [])).2)).1.1 (bn (Tre.mk (h82.getD h77.toNat (Tre.mk ([],0,0,0,()) [])).1 (h82.getD h77.toNat (Tre.mk ([],0,0,0,()) [])).2) h74 (Tre.mk (h87.getD h77.toNat (Tre.mk (0,0,false,[],()) [])).1 (h87.getD h77.toNat (Tre.mk (0,0,false,[],()) [])).2)).1.2]) (false) (i64.wrap (h77+1)) (h78) (h79) (h80) (h81) (h82) (h83) (h84) (h85) (h86) (h87) (h88) (h89) (h90) (h91) (h92) else none else none else none else none else bif h76 then bif decide (0≤h77)&&decide (h77<(↑h87.length:Int)) then next (h74) (h75) (cD (Tre.mk (h87.getD h77.toNat (Tre.mk (0,0,false,[],()) [])).1 (h87.getD h77.toNat (Tre.mk (0,0,false,[],()) [])).2)) (i64.wrap (h77+1)) (h78) (h79) (h80) (h81) (h82) (h83) (h84) (h85) (h86) (h87) (h88) (h89) (h90) (h91) (h92) else none else next (h74) (h75) (false) (i64.wrap (h77+1)) (h78) (h79) (h80) (h81) (h82) (h83) (h84) (h85) (h86) (h87) (h88) (h89) (h90) (h91) (h92) else none else out (.ret ((),((h75,(h76,())),((h88,(h89,(h90,(h91,(h92,()))))),())))) else out (.ret ((),((h75,(h76,())),((h88,(h89,(h90,(h91,(h92,()))))),()))))
def t3 (n:Nat)(h74:Int)(h75:List ap.den)(h76:Bool)(h77:Int)(h78:LI)(h79 h80 h81:Int)(h82:List (Fd))(h83 h84:Int)(h85:Bool)(h86:LI)(h87:List (Nd))(h88 h89:Int)(h90:Bool)(h91:LI)(h92:List ap.den):Option (aH i9.xs):=il tt Ra dr zS 0 Tryz.f90 (db Tryz.f90 1) n (i9.st.mk' ((h74,(h75,(h76,(h77,())))),((h78,(h79,(h80,(h81,(h82,()))))),((h83,(h84,(h85,(h86,(h87,()))))),((h88,(h89,(h90,(h91,(h92,()))))),()))))) (ci i9.xs)
theorem YC (n:Nat)(h74:Int)(h75:List ap.den)(h76:Bool)(h77:Int)(h78:LI)(h79 h80 h81:Int)(h82:List (Fd))(h83 h84:Int)(h85:Bool)(h86:LI)(h87:List (Nd))(h88 h89:Int)(h90:Bool)(h91:LI)(h92:List ap.den):t3 (n+1) h74 h75 h76 h77 h78 h79 h80 h81 h82 h83 h84 h85 h86 h87 h88 h89 h90 h91 h92=BY h74 h75 h76 h77 h78 h79 h80 h81 h82 h83 h84 h85 h86 h87 h88 h89 h90 h91 h92 (t3 n) some:=by kernel_rfl
theorem Ru {f0:Fd}{fs:List Fd}{ks:List Nd}{v:Int}(ha:fj f0=true)(hf:aK ks<aP)(hb:aK ks≤4294967296)(nm:LI)(k' lo hi a b:Int)(z:Bool)(x:LI)(a' b':Int)(z':Bool)(x':LI)(l':List Nd):∀(k j:Nat) (o:List Nd) (t:Bool),ks.length<j+k→j≤ks.length→o.length≤j→
  sx k v o t j nm k' lo hi (f0::fs) a b z x ks a' b' z' x' l'=some (.ret ((),(((o++(cP f0 v (ks.drop j)).1),((t&&(cP f0 v (ks.drop j)).2),())),((a',(b',(z',(x',(l',()))))),())))):=by
 intro k
 induction k with
 |zero=>intro j o t h1 h2;omega
 |succ k ih=>
  intro j o t h1 h2 h3
  rw[adL]
  unfold Ge
  have hlen:=dG ks
  by_cases hj:j<ks.length
  ·refine bT (decide_eq_true (show (j:Int)<(ks.length:Int) by omega)) ?_
   refine bT (by simp) ?_
   refine bT (by simp;omega) ?_
   have hmem:=cI (List.getElem_mem hj)
   have hd:ks.drop j=ks[j]::ks.drop (j+1):=zE hj
   have ih':=fun t'=>ih (j+1) (o++[(bn f0 v ks[j]).1]) t' (by omega) (by omega) (by simp;omega)
   rw[hd,cP]
   rw[aI (n:=(j:Int)+1) (by omega) (by omega)]
   simp only[zG,aJ hj]
   generalize ks[j]=u at hmem ih' ⊢
   obtain ⟨ul,uk⟩:=u
   obtain ⟨fl,fk⟩:=f0
   refine (aa (show (decide (aM (Tre.mk ul uk)<aP)&&(fj (Tre.mk fl fk)&&decide (aM (Tre.mk ul uk)≤4294967296)))=true by rw[ha];simp;omega) _ _).trans ?_
   refine bT (decide_eq_true (show o.length+1≤4294967296 by omega)) ?_
   have e1:o++[Tre.mk (bn (Tre.mk fl fk) v (Tre.mk ul uk)).1.1 (bn (Tre.mk fl fk) v (Tre.mk ul uk)).1.2]=o++[(bn (Tre.mk fl fk) v (Tre.mk ul uk)).1]:=by rw[ai5]
   cases t with
   |true=>
    show sx k v (o++[Tre.mk (bn (Tre.mk fl fk) v (Tre.mk ul uk)).1.1 (bn (Tre.mk fl fk) v (Tre.mk ul uk)).1.2]) (bn (Tre.mk fl fk) v (Tre.mk ul uk)).2 _ _ _ _ _ _ _ _ _ _ _ _ _ _ _ _=_
    rw[e1]
    refine (ih' _).trans ?_;simp
   |false=>
    show sx k v (o++[Tre.mk (bn (Tre.mk fl fk) v (Tre.mk ul uk)).1.1 (bn (Tre.mk fl fk) v (Tre.mk ul uk)).1.2]) false _ _ _ _ _ _ _ _ _ _ _ _ _ _ _ _=_
    rw[e1]
    refine (ih' false).trans ?_;simp
  ·refine bF (decide_eq_false (show ¬(j:Int)<(ks.length:Int) by omega)) ?_
   rw[zI (by omega),cP,List.append_nil,Bool.and_true]
theorem N9 {fs:List Fd}{ks:List Nd}{v:Int}(ha:b7 fs=true)(hf:aK ks<aP)(hb:aK ks≤4294967296)(nm:LI)(k' lo hi a b:Int)(z:Bool)(x:LI)(a' b':Int)(z':Bool)(x':LI)(l':List Nd):∀(k j:Nat) (o:List Nd) (t:Bool),ks.length<j+k→j≤ks.length→o.length≤j→
  t3 k v o t j nm k' lo hi fs a b z x ks a' b' z' x' l'=some (.ret ((),(((o++(bS v (fs.drop j) (ks.drop j)).1),((t&&(bS v (fs.drop j) (ks.drop j)).2),())),((a',(b',(z',(x',(l',()))))),())))):=by
 intro k
 induction k with
 |zero=>intro j o t h1 h2;omega
 |succ k ih=>
  intro j o t h1 h2 h3
  rw[YC]
  unfold BY
  have hlen:=dG ks
  by_cases hj':j<fs.length
  ·refine bT (decide_eq_true (show (j:Int)<(fs.length:Int) by omega)) ?_
   by_cases hj:j<ks.length
   ·refine bT (decide_eq_true (show (j:Int)<(ks.length:Int) by omega)) ?_
    refine bT (by simp;omega) ?_
    have hmem:=cI (List.getElem_mem hj)
    have har:=lg ha (List.getElem_mem hj')
    have hd:ks.drop j=ks[j]::ks.drop (j+1):=zE hj
    have hd':fs.drop j=fs[j]::fs.drop (j+1):=zE hj'
    have ih1:=fun t'=>ih (j+1) (o++[(bn fs[j] v ks[j]).1]) t' (by omega) (by omega) (by simp;omega)
    have ih2:=fun t'=>ih (j+1) o t' (by omega) (by omega) (by omega)
    rw[hd,hd',bS]
    rw[aI (n:=(j:Int)+1) (by omega) (by omega)]
    simp only[zG,aJ hj,aJ hj']
    generalize ks[j]=u at hmem ih1 ⊢
    generalize fs[j]=f0 at har ih1 ⊢
    obtain ⟨ul,uk⟩:=u
    obtain ⟨fl,fk⟩:=f0
    by_cases hh:jy (Tre.mk fl fk) v=true
    ·refine (aa (show jy (Tre.mk fl fk) v=true from hh) _ _).trans ?_
     refine bT (by simp;omega) ?_
     refine bT (by simp;omega) ?_
     refine (aa (show (decide (aM (Tre.mk ul uk)<aP)&&(fj (Tre.mk fl fk)&&decide (aM (Tre.mk ul uk)≤4294967296)))=true by rw[har];simp;omega) _ _).trans ?_
     refine bT (decide_eq_true (show o.length+1≤4294967296 by omega)) ?_
     rw[if_pos hh]
     show (bif t then t3 k v (o++[Tre.mk (bn (Tre.mk fl fk) v (Tre.mk ul uk)).1.1 (bn (Tre.mk fl fk) v (Tre.mk ul uk)).1.2]) (bn (Tre.mk fl fk) v (Tre.mk ul uk)).2 _ _ _ _ _ _ _ _ _ _ _ _ _ _ _ _ else _)=_
     generalize bn (Tre.mk fl fk) v (Tre.mk ul uk)=r at ih1 ⊢
     obtain ⟨⟨rl,rk⟩,rb⟩:=r
     cases t with
     |true=>refine (ih1 rb).trans ?_;simp
     |false=>refine (ih1 false).trans ?_;simp
    ·refine (af (show jy (Tre.mk fl fk) v=false by simpa using hh) _ _).trans ?_
     rw[if_neg hh]
     cases t with
     |true=>
      show (bif decide (0≤(j:Int))&&decide ((j:Int)<(ks.length:Int)) then _ else none)=_
      refine bT (by simp;omega) ?_
      refine (ih2 _).trans ?_
      simp
     |false=>
      refine (ih2 false).trans ?_
      simp
   ·refine bF (decide_eq_false (show ¬(j:Int)<(ks.length:Int) by omega)) ?_
    rw[zI (show ks.length≤j by omega),zE hj',bS,List.append_nil,Bool.and_true]
    simp
  ·refine bF (decide_eq_false (show ¬(j:Int)<(fs.length:Int) by omega)) ?_
   rw[zI (show fs.length≤j by omega),bS,List.append_nil,Bool.and_true]
   simp
def MS (a0:Fd)(a1:Int)(a2:Nd):Option k6.Res:=bif a0.1.2.1 == 9 then (Cr ((a1,([],(true,(0,())))),((a0.1.1,(a0.1.2.1,(a0.1.2.2.1,(a0.1.2.2.2.1,(a0.2,()))))),((a2.1.1,(a2.1.2.1,(a2.1.2.2.1,(a2.1.2.2.2.1,(a2.2,()))))),((0,(0,(false,([],([],()))))),()))))).run fun y=>match y with | .ret ((),((x67,x68,()),(x69,x70,x71,x72,x73,()),()))=>(oR ((Tre.mk (9,0,false,[],()) x67,x68,()),())) else bif a0.1.2.1 != 10 then oR ((Tre.mk a2.1 a2.2,true,()),()) else (wQ ((a1,([],(true,(0,())))),((a0.1.1,(a0.1.2.1,(a0.1.2.2.1,(a0.1.2.2.2.1,(a0.2,()))))),((a2.1.1,(a2.1.2.1,(a2.1.2.2.1,(a2.1.2.2.2.1,(a2.2,()))))),((0,(0,(false,([],([],()))))),()))))).run fun y=>match y with | .ret ((),((x183,x184,()),(x185,x186,x187,x188,x189,()),()))=>(oR ((Tre.mk (10,0,false,[],()) x183,x184,()),()))
theorem agM (a0:Fd)(a1:Int)(a2:Nd):Io.run tt Ra dr zS k6 Tryz.f90 ((a0,a1,a2,()),())=MS a0 a1 a2:=by kernel_rfl
theorem af0 (rvCut:HcOk prog 90 (ae k6 (De aP))):HcOk prog 90 (ae k6 (De (aP+1))):=by
 refine cg (cs:=Kz) (.cons rvCut (.cons x6 (.cons CJ .nil))) (lp:=zS) (fn:=Tryz.f90) k6 (.step (h0:=aS kx Cr) (by kernel_rfl) (jh (cs:=Kz) (.cons rvCut (.cons x6 (.cons CJ .nil))) (lp:=zS) (fn:=Tryz.f90) (.done (by kernel_rfl)) kx Cr ?_) (.step (h0:=aS i9 wQ) (by kernel_rfl) (jh (cs:=Kz) (.cons rvCut (.cons x6 (.cons CJ .nil))) (lp:=zS) (fn:=Tryz.f90) (.done (by kernel_rfl)) i9 wQ ?_) (.done (by kernel_rfl)))) (De (aP+1)) ?_
 ·rintro ⟨⟨(v:Int),(o:List Nd),(t:Bool),(i:Int),⟨⟩⟩,⟨⟨(nm:LI),(k':Int),(lo:Int),(hi:Int),(fs:List Fd),⟨⟩⟩,⟨(a:Int),(b:Int),(z:Bool),(x:LI),(ks:List Nd),⟨⟩⟩,⟨(a':Int),(b':Int),(z':Bool),(x':LI),(l':List Nd),⟨⟩⟩,⟨⟩⟩⟩ y hw hy
  obtain ⟨hg,hy⟩:=Tr.guard hy
  simp only[zA,zB] at hg
  obtain ⟨h1,⟨h2,h7⟩,⟨h3,h4⟩,h5,h6⟩:=hg
  have h1:i=0:=h1
  have h2:o=[]:=zF h2
  have h7:t=true:=h7
  have h3:fs.length≠0:=h3
  have h4:b7 fs=true:=h4
  have h5:aK ks<aP:=h5
  have h6:aK ks≤4294967296:=h6
  subst h1
  subst h2
  subst h7
  obtain ⟨f0,fs,rfl⟩:∃f0 fs',fs=f0::fs':=by cases fs with | nil=>exact absurd rfl h3 | cons a b=>exact ⟨a,b,rfl⟩
  refine ⟨ks.length+1,(Ru (lg h4 (by simp)) h5 h6 nm k' lo hi a b z x a' b' z' x' l' (ks.length+1) 0 [] true (by omega) (by omega) (by simp)).trans ?_⟩
  rw[← hy,List.drop_zero]
  rfl
 ·rintro ⟨⟨(v:Int),(o:List Nd),(t:Bool),(i:Int),⟨⟩⟩,⟨⟨(nm:LI),(k':Int),(lo:Int),(hi:Int),(fs:List Fd),⟨⟩⟩,⟨(a:Int),(b:Int),(z:Bool),(x:LI),(ks:List Nd),⟨⟩⟩,⟨(a':Int),(b':Int),(z':Bool),(x':LI),(l':List Nd),⟨⟩⟩,⟨⟩⟩⟩ y hw hy
  obtain ⟨hg,hy⟩:=Tr.guard hy
  simp only[zA,zB] at hg
  obtain ⟨h1,⟨h2,h7⟩,h4,h5,h6⟩:=hg
  have h1:i=0:=h1
  have h2:o=[]:=zF h2
  have h7:t=true:=h7
  have h4:b7 fs=true:=h4
  have h5:aK ks<aP:=h5
  have h6:aK ks≤4294967296:=h6
  subst h1
  subst h2
  subst h7
  refine ⟨ks.length+1,(N9 h4 h5 h6 nm k' lo hi a b z x a' b' z' x' l' (ks.length+1) 0 [] true (by omega) (by omega) (by simp)).trans ?_⟩
  rw[← hy,List.drop_zero,List.drop_zero]
  rfl
 ·rintro ⟨⟨(f:Fd),(v:Int),(n:Nd),⟨⟩⟩,⟨⟩⟩ out hw ho
  obtain ⟨hg,ho⟩:=Tr.guard ho
  simp only[zA,zB] at hg
  obtain ⟨hk,ha,hb⟩:=hg
  have hk:aM n<aP+1:=hk
  have ha:fj f=true:=ha
  have hb:aM n≤4294967296:=hb
  cases ho
  refine (agM f v n).trans ?_
  unfold MS
  show _=oR (((bn f v n).1,((bn f v n).2,())),())
  obtain ⟨⟨(nm:LI),(k':Int),(lo:Int),(hi:Int),⟨⟩⟩,(fs:List Fd)⟩:=f
  obtain ⟨⟨(a:Int),(b:Int),(z:Bool),(x:LI),⟨⟩⟩,(ks:List Nd)⟩:=n
  have hwf:=dA (Tre.mk (a,(b,(z,(x,())))) ks)
  have hwf:aM (Tre.mk (a,(b,(z,(x,())))) ks)=1+x.length+aK ks:=hwf
  have hk:1+x.length+aK ks<aP+1:=by rw[← hwf];exact hk
  have hb:1+x.length+aK ks≤4294967296:=by rw[← hwf];exact hb
  rw[Fi] at ha
  simp only[zA] at ha
  obtain ⟨⟨ha1,ha3⟩,ha2⟩:=ha
  have ha2:b7 fs=true:=ha2
  rw[bn]
  by_cases h9:k'=9
  ·rw[if_pos h9]
   refine bT (by simpa using h9) ?_
   have h0:fs.length≠0:=by
    rcases Bool.or_eq_true _ _▸ha1 with h | h
    ·exact absurd h9 (of_decide_eq_true h)
    ·exact of_decide_eq_true h
   obtain ⟨f0,fs,rfl⟩:∃f0 fs',fs=f0::fs':=by cases fs with | nil=>exact absurd rfl h0 | cons a b=>exact ⟨a,b,rfl⟩
   have c1:(decide ((0:Int)=0)&&((decide (([]:List Nd).length=0)&&true)&&((decide ((f0::fs).length≠0)&&b7 (f0::fs))&&(decide (aK ks<aP)&&decide (aK ks≤4294967296)))))=true:=by
    rw[ha2];simp;omega
   exact aa c1 _ _
  rw[if_neg h9]
  refine bF (by simpa using h9) ?_
  by_cases h10:k'=10
  ·rw[if_pos h10]
   refine bF (by simpa using h10) ?_
   have c1:(decide ((0:Int)=0)&&((decide (([]:List Nd).length=0)&&true)&&(b7 fs&&(decide (aK ks<aP)&&decide (aK ks≤4294967296)))))=true:=by
    rw[ha2];simp;omega
   exact aa c1 _ _
  ·rw[if_neg h10]
   exact aa (by simpa using h10) _ _
end
theorem afZ (n:Nat):HcOk prog 90 (ae k6 (De n)):=by
 induction n with
 |zero=>exact HcOk.none (fn:=Tryz.f90) (by kernel_rfl) (by kernel_rfl) (by kernel_rfl) _ _ fun d out h=>by cases h
 |succ n ih=>
  have:=@af0 ⟨⟨n⟩⟩ (by rw[FuT.val];exact ih)
  rw[FuT.val] at this
  exact this
theorem aje:HcOk prog 90 (ae k6 ahr):=by
 refine HcOk.lim afZ fun d=>⟨aM d.1.2.2.1+1,fun out h=>?_⟩
 obtain ⟨hg,h⟩:=Tr.guard h
 exact (aa (by rw[hg];simp) _ _).trans h
section
variable [Inhabited FuT]
end
end
end Go.Proofs.YtomeplopmndbgaaGreat.Sym
namespace Go.Proofs.YtomeplopmndbgaaGreat.Sym
open Go
noncomputable section
abbrev oM:Io:=⟨[dS,dI,dI,dI],[],[],[Q3],none⟩
def Ke (d:oM.In):Tr oM.Res:=.ret (.ret ((.mk (d.1.1,(d.1.2.1,(d.1.2.2.1,(d.1.2.2.2.1,())))) [],()),()))
abbrev UI:List (Nat×Hc):=[]
def afm:Hd:=bM UI
def VD:Lp:=bB []
def Wg (a0:LI)(a1 a2 a3:Int):Option oM.Res:=oR ((Tre.mk (a0,a1,a2,a3,()) [],()),())
theorem adt (a0:LI)(a1 a2 a3:Int):Io.run tt afm dr VD oM Tryz.f187 ((a0,a1,a2,a3,()),())=Wg a0 a1 a2 a3:=by kernel_rfl
theorem VU:HcOk prog 187 (ae oM Ke):=by
 refine cg (cs:=UI) HcsOk.nil (lp:=VD) (fn:=Tryz.f187) oM (.done (by kernel_rfl)) Ke ?_
 rintro ⟨⟨(a:LI),(b:Int),(c:Int),(e:Int),⟨⟩⟩,⟨⟩⟩ out hw ho
 cases ho
 exact adt a b c e
abbrev jU:Io:=⟨[Bo],[],[],[Q3],none⟩
abbrev cO (s:LI)(k lo hi:Int)(e:List Fd):Fd:=Tre.mk (s,(k,(lo,(hi,())))) e
def b8 (part:List Fd):Fd:=cO [116,111,112,105,99,115] 9 0 3 [cO [116,111,112,105,99] 10 0 3 [cO [110,97,109,101] 5 0 3 [],cO [112,97,114,116,115] 9 0 3 [cO [112,97,114,116] 10 0 3 part]]]
def yO (d:jU.In):Tr jU.Res:=.ret (.ret ((b8 d.1.1,()),()))
abbrev D6:List (Nat×Hc):=[(187,ae oM Ke)]
def Q9:Hd:=bM D6
def ER:Lp:=bB []
def Kq (a0:List gD.den):Option jU.Res:=oR ((Tre.mk ([116,111,112,105,99,115],9,0,3,()) [Tre.mk ([116,111,112,105,99],10,0,3,()) [Tre.mk ([110,97,109,101],5,0,3,()) [],Tre.mk ([112,97,114,116,115],9,0,3,()) [Tre.mk ([112,97,114,116],10,0,3,()) a0]]],()),())
theorem Pl (a0:List gD.den):Io.run tt Q9 dr ER jU Tryz.f188 ((a0,()),())=Kq a0:=by kernel_rfl
theorem RR:HcOk prog 188 (ae jU yO):=by
 refine cg (cs:=D6) (.cons VU .nil) (lp:=ER) (fn:=Tryz.f188) jU (.done (by kernel_rfl)) yO ?_
 rintro ⟨⟨(a:List Fd),⟨⟩⟩,⟨⟩⟩ out hw ho
 cases ho
 exact Pl a
abbrev k5:Io:=⟨[Ql,dB],[],[],[Bo,dI],none⟩
def o6:List Fd:=[cO [116,120,110] 6 3 3 [],cO [97,99,107,115] 2 0 3 [],cO [119,97,105,116] 3 0 3 [],b8 [cO [105,110,100,101,120] 3 0 3 [],cO [114,101,99,115] 8 0 3 []]]
def o5:List Fd:=[b8 [cO [105,110,100,101,120] 3 0 3 [],cO [99,111,100,101] 2 0 3 [],cO [98,97,115,101] 4 0 3 [],cO [116,105,109,101] 4 2 3 [],cO [115,116,97,114,116] 4 3 3 []],cO [116,104,114,111,116,116,108,101] 3 1 3 []]
def ve:List Fd:=[cO [114,101,112,108,105,99,97] 3 0 3 [],cO [119,97,105,116] 3 0 3 [],cO [109,105,110] 3 0 3 [],cO [109,97,120] 3 1 3 [],cO [108,101,118,101,108] 1 2 3 [],b8 [cO [105,110,100,101,120] 3 0 3 [],cO [101,112,111,99,104] 3 3 3 [],cO [111,102,102,115,101,116] 4 0 3 [],cO [109,97,120] 3 0 3 []]]
def vd:List Fd:=[cO [116,104,114,111,116,116,108,101] 3 1 3 [],b8 [cO [105,110,100,101,120] 3 0 3 [],cO [99,111,100,101] 2 0 3 [],cO [104,105,103,104] 4 0 3 [],cO [115,116,97,98,108,101] 4 2 3 [],cO [115,116,97,114,116] 4 3 3 [],cO [114,101,99,115] 8 0 3 []]]
def vg:List Fd:=[cO [114,101,112,108,105,99,97] 3 0 3 [],cO [108,101,118,101,108] 1 2 3 [],b8 [cO [105,110,100,101,120] 3 0 3 [],cO [101,112,111,99,104] 3 3 3 [],cO [116,105,109,101] 4 0 3 [],cO [109,111,115,116] 3 0 0 []]]
def vf:List Fd:=[cO [116,104,114,111,116,116,108,101] 3 2 3 [],b8 [cO [105,110,100,101,120] 3 0 3 [],cO [99,111,100,101] 2 0 3 [],cO [111,102,102,115,101,116,115] 9 0 0 [cO [111,102,102,115,101,116] 4 0 0 []],cO [116,105,109,101] 4 1 3 [],cO [111,102,102,115,101,116] 4 1 3 [],cO [101,112,111,99,104] 3 3 3 []]]
def gC (k:Int)(r:Bool):List Fd×Int:=
 if k=0 then (if r=false then (o6,0) else (o5,0)) else if k=1 then (if r=false then (ve,0) else (vd,0)) else if k=2 then (if r=false then (vg,0) else (vf,0)) else ([],160)
def Dd (d:k5.In):Tr k5.Res:=.ret (.ret (((gC d.1.1 d.1.2.1).1,((gC d.1.1 d.1.2.1).2,())),()))
abbrev Ib:List (Nat×Hc):=[(187,ae oM Ke),(188,ae jU yO)]
def WU:Hd:=bM Ib
def IM:Lp:=bB []
def Bc (a0:Int)(a1:Bool):Option k5.Res:=bif a0 == 0 then bif !a1 then oR (([Tre.mk ([116,120,110],6,3,3,()) [],Tre.mk ([97,99,107,115],2,0,3,()) [],Tre.mk ([119,97,105,116],3,0,3,()) [],Tre.mk ([116,111,112,105,99,115],9,0,3,()) [Tre.mk ([116,111,112,105,99],10,0,3,()) [Tre.mk ([110,97,109,101],5,0,3,()) [],Tre.mk ([112,97,114,116,115],9,0,3,()) [Tre.mk ([112,97,114,116],10,0,3,()) [Tre.mk ([105,110,100,101,120],3,0,3,()) [],Tre.mk ([114,101,99,115],8,0,3,()) []]]]]],0,()),()) else bif a0 == 0 then oR (([Tre.mk ([116,111,112,105,99,115],9,0,3,()) [Tre.mk ([116,111,112,105,99],10,0,3,()) [Tre.mk ([110,97,109,101],5,0,3,()) [],Tre.mk ([112,97,114,116,115],9,0,3,()) [Tre.mk ([112,97,114,116],10,0,3,()) [Tre.mk ([105,110,100,101,120],3,0,3,()) [],Tre.mk ([99,111,100,101],2,0,3,()) [],Tre.mk ([98,97,115,101],4,0,3,()) [],Tre.mk ([116,105,109,101],4,2,3,()) [],Tre.mk ([115,116,97,114,116],4,3,3,()) []]]]],Tre.mk ([116,104,114,111,116,116,108,101],3,1,3,()) []],0,()),()) else bif a0 == 1 then bif !a1 then oR (([Tre.mk ([114,101,112,108,105,99,97],3,0,3,()) [],Tre.mk ([119,97,105,116],3,0,3,()) [],Tre.mk ([109,105,110],3,0,3,()) [],Tre.mk ([109,97,120],3,1,3,()) [],Tre.mk ([108,101,118,101,108],1,2,3,()) [],Tre.mk ([116,111,112,105,99,115],9,0,3,()) [Tre.mk ([116,111,112,105,99],10,0,3,()) [Tre.mk ([110,97,109,101],5,0,3,()) [],Tre.mk ([112,97,114,116,115],9,0,3,()) [Tre.mk ([112,97,114,116],10,0,3,()) [Tre.mk ([105,110,100,101,120],3,0,3,()) [],Tre.mk ([101,112,111,99,104],3,3,3,()) [],Tre.mk ([111,102,102,115,101,116],4,0,3,()) [],Tre.mk ([109,97,120],3,0,3,()) []]]]]],0,()),()) else bif a0 == 1 then oR (([Tre.mk ([116,104,114,111,116,116,108,101],3,1,3,()) [],Tre.mk ([116,111,112,105,99,115],9,0,3,()) [Tre.mk ([116,111,112,105,99],10,0,3,()) [Tre.mk ([110,97,109,101],5,0,3,()) [],Tre.mk ([112,97,114,116,115],9,0,3,()) [Tre.mk ([112,97,114,116],10,0,3,()) [Tre.mk ([105,110,100,101,120],3,0,3,()) [],Tre.mk ([99,111,100,101],2,0,3,()) [],Tre.mk ([104,105,103,104],4,0,3,()) [],Tre.mk ([115,116,97,98,108,101],4,2,3,()) [],Tre.mk ([115,116,97,114,116],4,3,3,()) [],Tre.mk ([114,101,99,115],8,0,3,()) []]]]]],0,()),()) else bif a0 == 2 then bif !a1 then oR (([Tre.mk ([114,101,112,108,105,99,97],3,0,3,()) [],Tre.mk ([108,101,118,101,108],1,2,3,()) [],Tre.mk ([116,111,112,105,99,115],9,0,3,()) [Tre.mk ([116,111,112,105,99],10,0,3,()) [Tre.mk ([110,97,109,101],5,0,3,()) [],Tre.mk ([112,97,114,116,115],9,0,3,()) [Tre.mk ([112,97,114,116],10,0,3,()) [Tre.mk ([105,110,100,101,120],3,0,3,()) [],Tre.mk ([101,112,111,99,104],3,3,3,()) [],Tre.mk ([116,105,109,101],4,0,3,()) [],Tre.mk ([109,111,115,116],3,0,0,()) []]]]]],0,()),()) else bif a0 == 2 then oR (([Tre.mk ([116,104,114,111,116,116,108,101],3,2,3,()) [],Tre.mk ([116,111,112,105,99,115],9,0,3,()) [Tre.mk ([116,111,112,105,99],10,0,3,()) [Tre.mk ([110,97,109,101],5,0,3,()) [],Tre.mk ([112,97,114,116,115],9,0,3,()) [Tre.mk ([112,97,114,116],10,0,3,()) [Tre.mk ([105,110,100,101,120],3,0,3,()) [],Tre.mk ([99,111,100,101],2,0,3,()) [],Tre.mk ([111,102,102,115,101,116,115],9,0,0,()) [Tre.mk ([111,102,102,115,101,116],4,0,0,()) []],Tre.mk ([116,105,109,101],4,1,3,()) [],Tre.mk ([111,102,102,115,101,116],4,1,3,()) [],Tre.mk ([101,112,111,99,104],3,3,3,()) []]]]]],0,()),()) else oR (([],160,()),()) else bif a0 == 2 then oR (([Tre.mk ([116,104,114,111,116,116,108,101],3,2,3,()) [],Tre.mk ([116,111,112,105,99,115],9,0,3,()) [Tre.mk ([116,111,112,105,99],10,0,3,()) [Tre.mk ([110,97,109,101],5,0,3,()) [],Tre.mk ([112,97,114,116,115],9,0,3,()) [Tre.mk ([112,97,114,116],10,0,3,()) [Tre.mk ([105,110,100,101,120],3,0,3,()) [],Tre.mk ([99,111,100,101],2,0,3,()) [],Tre.mk ([111,102,102,115,101,116,115],9,0,0,()) [Tre.mk ([111,102,102,115,101,116],4,0,0,()) []],Tre.mk ([116,105,109,101],4,1,3,()) [],Tre.mk ([111,102,102,115,101,116],4,1,3,()) [],Tre.mk ([101,112,111,99,104],3,3,3,()) []]]]]],0,()),()) else oR (([],160,()),()) else bif a0 == 1 then oR (([Tre.mk ([116,104,114,111,116,116,108,101],3,1,3,()) [],Tre.mk ([116,111,112,105,99,115],9,0,3,()) [Tre.mk ([116,111,112,105,99],10,0,3,()) [Tre.mk ([110,97,109,101],5,0,3,()) [],Tre.mk ([112,97,114,116,115],9,0,3,()) [Tre.mk ([112,97,114,116],10,0,3,()) [Tre.mk ([105,110,100,101,120],3,0,3,()) [],Tre.mk ([99,111,100,101],2,0,3,()) [],Tre.mk ([104,105,103,104],4,0,3,()) [],Tre.mk ([115,116,97,98,108,101],4,2,3,()) [],Tre.mk ([115,116,97,114,116],4,3,3,()) [],Tre.mk ([114,101,99,115],8,0,3,()) []]]]]],0,()),()) else bif a0 == 2 then bif !a1 then oR (([Tre.mk ([114,101,112,108,105,99,97],3,0,3,()) [],Tre.mk ([108,101,118,101,108],1,2,3,()) [],Tre.mk ([116,111,112,105,99,115],9,0,3,()) [Tre.mk ([116,111,112,105,99],10,0,3,()) [Tre.mk ([110,97,109,101],5,0,3,()) [],Tre.mk ([112,97,114,116,115],9,0,3,()) [Tre.mk ([112,97,114,116],10,0,3,()) [Tre.mk ([105,110,100,101,120],3,0,3,()) [],Tre.mk ([101,112,111,99,104],3,3,3,()) [],Tre.mk ([116,105,109,101],4,0,3,()) [],Tre.mk ([109,111,115,116],3,0,0,()) []]]]]],0,()),()) else bif a0 == 2 then oR (([Tre.mk ([116,104,114,111,116,116,108,101],3,2,3,()) [],Tre.mk ([116,111,112,105,99,115],9,0,3,()) [Tre.mk ([116,111,112,105,99],10,0,3,()) [Tre.mk ([110,97,109,101],5,0,3,()) [],Tre.mk ([112,97,114,116,115],9,0,3,()) [Tre.mk ([112,97,114,116],10,0,3,()) [Tre.mk ([105,110,100,101,120],3,0,3,()) [],Tre.mk ([99,111,100,101],2,0,3,()) [],Tre.mk ([111,102,102,115,101,116,115],9,0,0,()) [Tre.mk ([111,102,102,115,101,116],4,0,0,()) []],Tre.mk ([116,105,109,101],4,1,3,()) [],Tre.mk ([111,102,102,115,101,116],4,1,3,()) [],Tre.mk ([101,112,111,99,104],3,3,3,()) []]]]]],0,()),()) else oR (([],160,()),()) else bif a0 == 2 then oR (([Tre.mk ([116,104,114,111,116,116,108,101],3,2,3,()) [],Tre.mk ([116,111,112,105,99,115],9,0,3,()) [Tre.mk ([116,111,112,105,99],10,0,3,()) [Tre.mk ([110,97,109,101],5,0,3,()) [],Tre.mk ([112,97,114,116,115],9,0,3,()) [Tre.mk ([112,97,114,116],10,0,3,()) [Tre.mk ([105,110,100,101,120],3,0,3,()) [],Tre.mk ([99,111,100,101],2,0,3,()) [],Tre.mk ([111,102,102,115,101,116,115],9,0,0,()) [Tre.mk ([111,102,102,115,101,116],4,0,0,()) []],Tre.mk ([116,105,109,101],4,1,3,()) [],Tre.mk ([111,102,102,115,101,116],4,1,3,()) [],Tre.mk ([101,112,111,99,104],3,3,3,()) []]]]]],0,()),()) else oR (([],160,()),()) else bif a0 == 0 then oR (([Tre.mk ([116,111,112,105,99,115],9,0,3,()) [Tre.mk ([116,111,112,105,99],10,0,3,()) [Tre.mk ([110,97,109,101],5,0,3,()) [],Tre.mk ([112,97,114,116,115],9,0,3,()) [Tre.mk ([112,97,114,116],10,0,3,()) [Tre.mk ([105,110,100,101,120],3,0,3,()) [],Tre.mk ([99,111,100,101],2,0,3,()) [],Tre.mk ([98,97,115,101],4,0,3,()) [],Tre.mk ([116,105,109,101],4,2,3,()) [],Tre.mk ([115,116,97,114,116],4,3,3,()) []]]]],Tre.mk ([116,104,114,111,116,116,108,101],3,1,3,()) []],0,()),()) else bif a0 == 1 then bif !a1 then oR (([Tre.mk ([114,101,112,108,105,99,97],3,0,3,()) [],Tre.mk ([119,97,105,116],3,0,3,()) [],Tre.mk ([109,105,110],3,0,3,()) [],Tre.mk ([109,97,120],3,1,3,()) [],Tre.mk ([108,101,118,101,108],1,2,3,()) [],Tre.mk ([116,111,112,105,99,115],9,0,3,()) [Tre.mk ([116,111,112,105,99],10,0,3,()) [Tre.mk ([110,97,109,101],5,0,3,()) [],Tre.mk ([112,97,114,116,115],9,0,3,()) [Tre.mk ([112,97,114,116],10,0,3,()) [Tre.mk ([105,110,100,101,120],3,0,3,()) [],Tre.mk ([101,112,111,99,104],3,3,3,()) [],Tre.mk ([111,102,102,115,101,116],4,0,3,()) [],Tre.mk ([109,97,120],3,0,3,()) []]]]]],0,()),()) else bif a0 == 1 then oR (([Tre.mk ([116,104,114,111,116,116,108,101],3,1,3,()) [],Tre.mk ([116,111,112,105,99,115],9,0,3,()) [Tre.mk ([116,111,112,105,99],10,0,3,()) [Tre.mk ([110,97,109,101],5,0,3,()) [],Tre.mk ([112,97,114,116,115],9,0,3,()) [Tre.mk ([112,97,114,116],10,0,3,()) [Tre.mk ([105,110,100,101,120],3,0,3,()) [],Tre.mk ([99,111,100,101],2,0,3,()) [],Tre.mk ([104,105,103,104],4,0,3,()) [],Tre.mk ([115,116,97,98,108,101],4,2,3,()) [],Tre.mk ([115,116,97,114,116],4,3,3,()) [],Tre.mk ([114,101,99,115],8,0,3,()) []]]]]],0,()),()) else bif a0 == 2 then bif !a1 then oR (([Tre.mk ([114,101,112,108,105,99,97],3,0,3,()) [],Tre.mk ([108,101,118,101,108],1,2,3,()) [],Tre.mk ([116,111,112,105,99,115],9,0,3,()) [Tre.mk ([116,111,112,105,99],10,0,3,()) [Tre.mk ([110,97,109,101],5,0,3,()) [],Tre.mk ([112,97,114,116,115],9,0,3,()) [Tre.mk ([112,97,114,116],10,0,3,()) [Tre.mk ([105,110,100,101,120],3,0,3,()) [],Tre.mk ([101,112,111,99,104],3,3,3,()) [],Tre.mk ([116,105,109,101],4,0,3,()) [],Tre.mk ([109,111,115,116],3,0,0,()) []]]]]],0,()),()) else bif a0 == 2 then oR (([Tre.mk ([116,104,114,111,116,116,108,101],3,2,3,()) [],Tre.mk ([116,111,112,105,99,115],9,0,3,()) [Tre.mk ([116,111,112,105,99],10,0,3,()) [Tre.mk ([110,97,109,101],5,0,3,()) [],Tre.mk ([112,97,114,116,115],9,0,3,()) [Tre.mk ([112,97,114,116],10,0,3,()) [Tre.mk ([105,110,100,101,120],3,0,3,()) [],Tre.mk ([99,111,100,101],2,0,3,()) [],Tre.mk ([111,102,102,115,101,116,115],9,0,0,()) [Tre.mk ([111,102,102,115,101,116],4,0,0,()) []],Tre.mk ([116,105,109,101],4,1,3,()) [],Tre.mk ([111,102,102,115,101,116],4,1,3,()) [],Tre.mk ([101,112,111,99,104],3,3,3,()) []]]]]],0,()),()) else oR (([],160,()),()) else bif a0 == 2 then oR (([Tre.mk ([116,104,114,111,116,116,108,101],3,2,3,()) [],Tre.mk ([116,111,112,105,99,115],9,0,3,()) [Tre.mk ([116,111,112,105,99],10,0,3,()) [Tre.mk ([110,97,109,101],5,0,3,()) [],Tre.mk ([112,97,114,116,115],9,0,3,()) [Tre.mk ([112,97,114,116],10,0,3,()) [Tre.mk ([105,110,100,101,120],3,0,3,()) [],Tre.mk ([99,111,100,101],2,0,3,()) [],Tre.mk ([111,102,102,115,101,116,115],9,0,0,()) [Tre.mk ([111,102,102,115,101,116],4,0,0,()) []],Tre.mk ([116,105,109,101],4,1,3,()) [],Tre.mk ([111,102,102,115,101,116],4,1,3,()) [],Tre.mk ([101,112,111,99,104],3,3,3,()) []]]]]],0,()),()) else oR (([],160,()),()) else bif a0 == 1 then oR (([Tre.mk ([116,104,114,111,116,116,108,101],3,1,3,()) [],Tre.mk ([116,111,112,105,99,115],9,0,3,()) [Tre.mk ([116,111,112,105,99],10,0,3,()) [Tre.mk ([110,97,109,101],5,0,3,()) [],Tre.mk ([112,97,114,116,115],9,0,3,()) [Tre.mk ([112,97,114,116],10,0,3,()) [Tre.mk ([105,110,100,101,120],3,0,3,()) [],Tre.mk ([99,111,100,101],2,0,3,()) [],Tre.mk ([104,105,103,104],4,0,3,()) [],Tre.mk ([115,116,97,98,108,101],4,2,3,()) [],Tre.mk ([115,116,97,114,116],4,3,3,()) [],Tre.mk ([114,101,99,115],8,0,3,()) []]]]]],0,()),()) else bif a0 == 2 then bif !a1 then oR (([Tre.mk ([114,101,112,108,105,99,97],3,0,3,()) [],Tre.mk ([108,101,118,101,108],1,2,3,()) [],Tre.mk ([116,111,112,105,99,115],9,0,3,()) [Tre.mk ([116,111,112,105,99],10,0,3,()) [Tre.mk ([110,97,109,101],5,0,3,()) [],Tre.mk ([112,97,114,116,115],9,0,3,()) [Tre.mk ([112,97,114,116],10,0,3,()) [Tre.mk ([105,110,100,101,120],3,0,3,()) [],Tre.mk ([101,112,111,99,104],3,3,3,()) [],Tre.mk ([116,105,109,101],4,0,3,()) [],Tre.mk ([109,111,115,116],3,0,0,()) []]]]]],0,()),()) else bif a0 == 2 then oR (([Tre.mk ([116,104,114,111,116,116,108,101],3,2,3,()) [],Tre.mk ([116,111,112,105,99,115],9,0,3,()) [Tre.mk ([116,111,112,105,99],10,0,3,()) [Tre.mk ([110,97,109,101],5,0,3,()) [],Tre.mk ([112,97,114,116,115],9,0,3,()) [Tre.mk ([112,97,114,116],10,0,3,()) [Tre.mk ([105,110,100,101,120],3,0,3,()) [],Tre.mk ([99,111,100,101],2,0,3,()) [],Tre.mk ([111,102,102,115,101,116,115],9,0,0,()) [Tre.mk ([111,102,102,115,101,116],4,0,0,()) []],Tre.mk ([116,105,109,101],4,1,3,()) [],Tre.mk ([111,102,102,115,101,116],4,1,3,()) [],Tre.mk ([101,112,111,99,104],3,3,3,()) []]]]]],0,()),()) else oR (([],160,()),()) else bif a0 == 2 then oR (([Tre.mk ([116,104,114,111,116,116,108,101],3,2,3,()) [],Tre.mk ([116,111,112,105,99,115],9,0,3,()) [Tre.mk ([116,111,112,105,99],10,0,3,()) [Tre.mk ([110,97,109,101],5,0,3,()) [],Tre.mk ([112,97,114,116,115],9,0,3,()) [Tre.mk ([112,97,114,116],10,0,3,()) [Tre.mk ([105,110,100,101,120],3,0,3,()) [],Tre.mk ([99,111,100,101],2,0,3,()) [],Tre.mk ([111,102,102,115,101,116,115],9,0,0,()) [Tre.mk ([111,102,102,115,101,116],4,0,0,()) []],Tre.mk ([116,105,109,101],4,1,3,()) [],Tre.mk ([111,102,102,115,101,116],4,1,3,()) [],Tre.mk ([101,112,111,99,104],3,3,3,()) []]]]]],0,()),()) else oR (([],160,()),())
theorem Su (a0:Int)(a1:Bool):Io.run tt WU dr IM k5 Tryz.f89 ((a0,a1,()),())=Bc a0 a1:=by kernel_rfl
theorem Xz:HcOk prog 89 (ae k5 Dd):=by
 refine cg (cs:=Ib) (.cons VU (.cons RR .nil)) (lp:=IM) (fn:=Tryz.f89) k5 (.done (by kernel_rfl)) Dd ?_
 rintro ⟨⟨(k:Int),(r:Bool),⟨⟩⟩,⟨⟩⟩ out hw ho
 cases ho
 refine (Su k r).trans ?_
 unfold Bc
 show _=oR (((gC k r).1,((gC k r).2,())),())
 unfold gC
 by_cases h0:k=0
 ·subst h0
  cases r <;> rfl
 by_cases h1:k=1
 ·subst h1
  cases r <;> rfl
 by_cases h2:k=2
 ·subst h2
  cases r <;> rfl
 rw[if_neg h0,if_neg h1,if_neg h2]
 simp only[beq_eq_false_iff_ne.2 h0,beq_eq_false_iff_ne.2 h1,beq_eq_false_iff_ne.2 h2]
 cases r <;> rfl
theorem ad0 (k:Int)(r:Bool):(gC k r).2=0→fj (Tre.mk (([]:LI),((10:Int),((0:Int),((0:Int),())))) (gC k r).1)=true:=by
 unfold gC
 intro h
 by_cases h0:k=0
 ·subst h0
  cases r <;> (unfold fj;rfl)
 by_cases h1:k=1
 ·subst h1
  cases r <;> (unfold fj;rfl)
 by_cases h2:k=2
 ·subst h2
  cases r <;> (unfold fj;rfl)
 rw[if_neg h0,if_neg h1,if_neg h2] at h
 cases h
theorem bQ:aK []=0:=by unfold aK;rfl
theorem uy (v:Int)(l:List Nd):bS v [] l=([],true):=by rw[bS];simp
theorem YL (v:Int)(fs:List Fd):bS v fs []=([],true):=by rw[bS];simp
theorem adU (v:Int):∀(N:Nat) (f:Fd) (n:Nd),aM n≤N→aM (bn f v n).1≤aM n:=by
 intro N
 induction N with
 |zero=>intro f n h;have:=pT n;omega
 |succ N ih=>
  rintro f ⟨a,ks⟩ h
  rw[dA] at h
  rw[bn]
  have hi:∀(f:Fd) (l:List Nd),(∀k∈l,aM k≤N)→aK (cP f v l).1≤aK l:=by
   intro f l
   induction l with
   |nil=>intro _;rw[cP];exact Nat.le_refl _
   |cons k l ihl=>
    intro hk
    rw[cP,ay,ay]
    have:=ih f k (hk k (by simp))
    have:=ihl fun k' hk'=>hk k' (List.mem_cons_of_mem _ hk')
    omega
  have hz:∀(l:List Nd) (fs:List Fd),(∀k∈l,aM k≤N)→aK (bS v fs l).1≤aK l:=by
   intro l
   induction l with
   |nil=>intro fs _;rw[YL];exact Nat.le_refl _
   |cons k l ihl=>
    intro fs hk
    cases fs with
    |nil=>rw[uy];show aK []≤_;rw[bQ];exact Nat.zero_le _
    |cons f fs=>
     rw[bS,ay]
     have h1:=ih f k (hk k (by simp))
     have h2:=ihl fs fun k' hk'=>hk k' (List.mem_cons_of_mem _ hk')
     split
     ·rw[ay];omega
     ·show aK (bS v fs l).1≤_;omega
  have hks:∀k∈ks,aM k≤N:=fun k hk=>by have:=cI hk;simp only at h;omega
  split
  ·rw[dA,dA]
   have:=hi (f.kids.headD f) ks hks
   simp only[List.length_nil];omega
  split
  ·rw[dA,dA]
   have:=hz ks f.kids hks
   simp only[List.length_nil];omega
  ·exact Nat.le_refl _
abbrev sr:Io:=⟨[Ql,dB,dI,dH],[],[],[dL,dI],none⟩
def eE (k:Int)(r:Bool)(v:Int)(n:Nd):LI×Int:=if (gC k r).2≠0 then ([],(gC k r).2) else if v<0∨3<v then ([],8) else
 if (bn (Tre.mk (([]:LI),((10:Int),((0:Int),((0:Int),())))) (gC k r).1) v n).2=false then ([],7) else va (gC k r).1 v (bn (Tre.mk (([]:LI),((10:Int),((0:Int),((0:Int),())))) (gC k r).1) v n).1
def TN (d:sr.In):Tr sr.Res:=.ite (decide (8*aM d.1.2.2.2.1≤4294967296)) (.ret (.ret (((eE d.1.1 d.1.2.1 d.1.2.2.1 d.1.2.2.2.1).1,((eE d.1.1 d.1.2.1 d.1.2.2.1 d.1.2.2.2.1).2,())),()))) .no
abbrev aam:List (Nat×Hc):=[(89,ae k5 Dd),(90,ae k6 ahr),(91,ae k7 Df)]
def aiX:Hd:=bM aam
def abN:Lp:=bB []
def MQ (a0:Int)(a1:Bool)(a2:Int)(a3:Nd):Option sr.Res:=bif (gC a0 a1).2 != 0 then oR (([],(gC a0 a1).2,()),()) else bif decide (a2<0) then oR (([],8,()),()) else bif decide (3<a2) then oR (([],8,()),()) else bif fj (Tre.mk ([],10,0,0,()) (gC a0 a1).1)&&decide (aM (Tre.mk a3.1 a3.2)≤4294967296) then bif !(bn (Tre.mk ([],10,0,0,()) (gC a0 a1).1) a2 (Tre.mk a3.1 a3.2)).2 then oR (([],7,()),()) else bif decide (8*aM (Tre.mk (bn (Tre.mk ([],10,0,0,()) (gC a0 a1).1) a2 (Tre.mk a3.1 a3.2)).1.1 (bn (Tre.mk ([],10,0,0,()) (gC a0 a1).1) a2 (Tre.mk a3.1 a3.2)).1.2)≤4294967296) then oR (((va (gC a0 a1).1 a2 (Tre.mk (bn (Tre.mk ([],10,0,0,()) (gC a0 a1).1) a2 (Tre.mk a3.1 a3.2)).1.1 (bn (Tre.mk ([],10,0,0,()) (gC a0 a1).1) a2 (Tre.mk a3.1 a3.2)).1.2)).1,(va (gC a0 a1).1 a2 (Tre.mk (bn (Tre.mk ([],10,0,0,()) (gC a0 a1).1) a2 (Tre.mk a3.1 a3.2)).1.1 (bn (Tre.mk ([],10,0,0,()) (gC a0 a1).1) a2 (Tre.mk a3.1 a3.2)).1.2)).2,()),()) else none else none
theorem agK (a0:Int)(a1:Bool)(a2:Int)(a3:Nd):Io.run tt aiX dr abN sr Tryz.f37 ((a0,a1,a2,a3,()),())=MQ a0 a1 a2 a3:=by kernel_rfl
theorem acr:HcOk prog 37 (ae sr TN):=by
 refine cg (cs:=aam) (.cons Xz (.cons aje (.cons XB .nil))) (lp:=abN) (fn:=Tryz.f37) sr (.done (by kernel_rfl)) TN ?_
 rintro ⟨⟨(k:Int),(r:Bool),(v:Int),(n:Nd),⟨⟩⟩,⟨⟩⟩ out hw ho
 obtain ⟨hg,ho⟩:=Tr.guard ho
 have hb:8*aM n≤4294967296:=of_decide_eq_true hg
 cases ho
 refine (agK k r v n).trans ?_
 unfold MQ
 show _=oR (((eE k r v n).1,((eE k r v n).2,())),())
 unfold eE
 have hok:=ad0 k r
 generalize gC k r=t at hok ⊢
 obtain ⟨tb,te⟩:=t
 have hok:te=0→fj (Tre.mk (([]:LI),((10:Int),((0:Int),((0:Int),())))) tb)=true:=hok
 by_cases h1:te=0
 ·rw[if_neg (by simpa using h1)]
  refine bF (by simpa using h1) ?_
  by_cases h2:v<0
  ·rw[if_pos (.inl h2)]
   exact aa (decide_eq_true h2) _ _
  refine bF (decide_eq_false h2) ?_
  by_cases h3:3<v
  ·rw[if_pos (.inr h3)]
   exact aa (decide_eq_true h3) _ _
  refine bF (decide_eq_false h3) ?_
  rw[if_neg (by omega)]
  obtain ⟨nl,nk⟩:=n
  refine (aa (show (fj (Tre.mk (([]:LI),((10:Int),((0:Int),((0:Int),())))) tb)&&decide (aM (Tre.mk nl nk)≤4294967296))=true by rw[hok h1];simp;omega) _ _).trans ?_
  have hcw:=adU v _ (Tre.mk (([]:LI),((10:Int),((0:Int),((0:Int),())))) tb) (Tre.mk nl nk) (Nat.le_refl _)
  show (bif !(bn (Tre.mk (([]:LI),((10:Int),((0:Int),((0:Int),())))) tb) v (Tre.mk nl nk)).2 then _ else _)=_
  by_cases h4:(bn (Tre.mk (([]:LI),((10:Int),((0:Int),((0:Int),())))) tb) v (Tre.mk nl nk)).2=false
  ·rw[if_pos h4]
   exact aa (by rw[h4];rfl) _ _
  ·rw[if_neg h4]
   refine bF (by simpa using h4) ?_
   generalize (bn (Tre.mk (([]:LI),((10:Int),((0:Int),((0:Int),())))) tb) v (Tre.mk nl nk)).1=c at hcw ⊢
   obtain ⟨cl,ck⟩:=c
   exact aa (decide_eq_true (show 8*aM (Tre.mk cl ck)≤4294967296 by omega)) _ _
 ·rw[if_pos h1]
  exact aa (by simpa using h1) _ _
end
end Go.Proofs.YtomeplopmndbgaaGreat.Sym
namespace Go.Proofs.YtomeplopmndbgaaGreat.Sym
open Go
open Go.IntKind (i8 i16 i32 i64 u8 u16 u32 u64)
noncomputable section
abbrev bR:Ty:=.prod (.int .i32) (.prod (.int .i16) (.prod (.int .i64) (.prod (.int .i64) (.prod (.int .i64) .unit))))
abbrev az:Ty:=.prod .str (.prod (.sl 214 bR) .unit)
abbrev ij:Ty:=.prod (.sl 212 az) (.prod (.int .i32) .unit)
def cM (v lo hi x:Int)(n:Nat)(s:bf):bf:=if lo≤v∧v≤hi then ac x n s else s
def jX (v:Int)(p:bR.den)(s:bf):bf:=cM v 3 3 p.2.2.2.2.1 8 (cM v 2 3 p.2.2.2.1 8 (ac p.2.2.1 8 (ac p.2.1 2 (ac p.1 4 s))))
abbrev qD:Io:=⟨[.dat bR true false,.ptr 0 0],pG,[],[],none⟩
def Qu (d:qD.In):Tr qD.Res:=.ite (gi d.2.2) (.ret (.ret ((),fI d.2.2.1.2.1 (jX d.2.2.1.2.1 d.1.1 (gj d.2.2))))) .no
abbrev Uw:List (Nat×Hc):=[(98,ae cX gg),(97,ae l7 AL),(111,ae l8 AM),(95,ae iJ pr)]
def afc:Hd:=bM Uw
def Vt:Lp:=bB []
def HA (a0 a1 a2 a3 a4 a5 a6:Int)(a7:Bool)(a8:LI)(a9:Int):Option qD.Res:=bif decide (a9=130048)&&decide (a8.length≤130048) then bif decide (130048=130048)&&decide ((ac a0 4 (a6,a7,a8)).2.2.length≤130048) then bif decide (130048=130048)&&decide ((ac a1 2 (ac a0 4 (a6,a7,a8))).2.2.length≤130048) then bif decide (130048=130048)&&decide ((ac a2 8 (ac a1 2 (ac a0 4 (a6,a7,a8)))).2.2.length≤130048) then bif decide (2≤a5)&&decide (a5≤3) then bif decide (130048=130048)&&decide ((ac a2 8 (ac a1 2 (ac a0 4 (a6,a7,a8)))).2.2.length≤130048) then bif decide (130048=130048)&&decide ((ac a3 8 (ac a2 8 (ac a1 2 (ac a0 4 (a6,a7,a8))))).2.2.length≤130048) then bif decide (3≤a5)&&decide (a5≤3) then bif decide (130048=130048)&&decide ((ac a3 8 (ac a2 8 (ac a1 2 (ac a0 4 (a6,a7,a8))))).2.2.length≤130048) then oR ((),((),()),((),a5,(ac a4 8 (ac a3 8 (ac a2 8 (ac a1 2 (ac a0 4 (a6,a7,a8)))))).1,(ac a4 8 (ac a3 8 (ac a2 8 (ac a1 2 (ac a0 4 (a6,a7,a8)))))).2.1,()),((ac a4 8 (ac a3 8 (ac a2 8 (ac a1 2 (ac a0 4 (a6,a7,a8)))))).2.2,130048,()),()) else none else oR ((),((),()),((),a5,(ac a3 8 (ac a2 8 (ac a1 2 (ac a0 4 (a6,a7,a8))))).1,(ac a3 8 (ac a2 8 (ac a1 2 (ac a0 4 (a6,a7,a8))))).2.1,()),((ac a3 8 (ac a2 8 (ac a1 2 (ac a0 4 (a6,a7,a8))))).2.2,130048,()),()) else none else none else bif decide (130048=130048)&&decide ((ac a2 8 (ac a1 2 (ac a0 4 (a6,a7,a8)))).2.2.length≤130048) then bif decide (3≤a5)&&decide (a5≤3) then bif decide (130048=130048)&&decide ((ac a2 8 (ac a1 2 (ac a0 4 (a6,a7,a8)))).2.2.length≤130048) then oR ((),((),()),((),a5,(ac a4 8 (ac a2 8 (ac a1 2 (ac a0 4 (a6,a7,a8))))).1,(ac a4 8 (ac a2 8 (ac a1 2 (ac a0 4 (a6,a7,a8))))).2.1,()),((ac a4 8 (ac a2 8 (ac a1 2 (ac a0 4 (a6,a7,a8))))).2.2,130048,()),()) else none else oR ((),((),()),((),a5,(ac a2 8 (ac a1 2 (ac a0 4 (a6,a7,a8)))).1,(ac a2 8 (ac a1 2 (ac a0 4 (a6,a7,a8)))).2.1,()),((ac a2 8 (ac a1 2 (ac a0 4 (a6,a7,a8)))).2.2,130048,()),()) else none else none else none else none else none
theorem adg (a0 a1 a2 a3 a4 a5 a6:Int)(a7:Bool)(a8:LI)(a9:Int):Io.run tt afc dr Vt qD Tryz.f125 (((a0,a1,a2,a3,a4,()),(),()),((),()),((),a5,a6,a7,()),(a8,a9,()),())=HA a0 a1 a2 a3 a4 a5 a6 a7 a8 a9:=by kernel_rfl
theorem afS:HcOk prog 125 (ae qD Qu):=by
 refine cg (cs:=Uw) (.cons eb (.cons z5 (.cons z6 (.cons nH .nil)))) (lp:=Vt) (fn:=Tryz.f125) qD (.done (by kernel_rfl)) Qu ?_
 rintro ⟨⟨⟨(i:Int),(c:Int),(o:Int),(t:Int),(st:Int),⟨⟩⟩,⟨⟩,⟨⟩⟩,⟨⟨⟩,⟨⟩⟩,⟨⟨⟩,(v:Int),(e:Int),(f:Bool),⟨⟩⟩,⟨(b:LI),(m:Int),⟨⟩⟩,⟨⟩⟩ out hw ho
 obtain ⟨hg,ho⟩:=Tr.guard ho
 obtain ⟨rfl,hb⟩:=bK (v:=v) (e:=e) (f:=f) hg
 cases ho
 refine (adg i c o t st v e f b 130048).trans ?_
 unfold HA
 have hg:∀s:bf,s.2.2.length≤130048→(decide ((130048:Int)=130048)&&decide (s.2.2.length≤130048))=true:=fun s h=>by simpa using h
 have l1:=aA (s:=(e,f,b)) i 4 hb
 have l2:=aA c 2 l1
 have l3:=aA o 8 l2
 have l4:=aA t 8 l3
 show _=oR ((),fI v (jX v (i,(c,(o,(t,(st,()))))) (e,f,b)))
 unfold jX cM
 refine (aa (hg (e,f,b) hb) _ _).trans ?_
 refine (aa (hg _ l1) _ _).trans ?_
 refine (aa (hg _ l2) _ _).trans ?_
 refine (aa (hg _ l3) _ _).trans ?_
 by_cases h2:2≤v∧v≤3
 ·refine bT (by simpa using h2) ?_
  refine (aa (hg _ l3) _ _).trans ?_
  refine (aa (hg _ l4) _ _).trans ?_
  rw[if_pos h2]
  by_cases h3:3≤v∧v≤3
  ·refine bT (by simpa using h3) ?_
   refine (aa (hg _ l4) _ _).trans ?_
   rw[if_pos h3]
  ·refine bF (by simp;omega) ?_
   rw[if_neg h3]
 ·refine bF (by simp;omega) ?_
  refine (aa (hg _ l3) _ _).trans ?_
  rw[if_neg h2]
  by_cases h3:3≤v∧v≤3
  ·omega
  ·refine bF (by simp;omega) ?_
   rw[if_neg h3]
theorem iz {s:bf}(v lo hi x:Int)(n:Nat)(h:s.2.2.length≤130048):(cM v lo hi x n s).2.2.length≤130048:=by
 unfold cM
 split
 ·exact aA _ _ h
 ·exact h
theorem u9 {s:bf}(v:Int)(p:bR.den)(h:s.2.2.length≤130048):(jX v p s).2.2.length≤130048:=
 iz _ _ _ _ _ (iz _ _ _ _ _ (aA _ _ (aA _ _ (aA _ _ h))))
def Zf (st cf:Nat)(T:Ty)(sps:Int→List T.den→bf→bf)(d:(jB st cf T).In):Tr (jB st cf T).Res:=.ite (kg d.2) (.ret (.ret ((),gl d.2.1.2.1 (sps d.2.1.2.1 d.1.2.1 (kh d.2))))) .no
def jz (st cf:Nat)(T:Ty)(one:Int→T.den→bf→bf)(d:(bC st cf T).st.den):Tr (aH (bC st cf T).xs):=
 .ite (decide (d.1.2.2.1=0)&&(decide (d.1.2.1=(d.1.1.length:Int))&&(decide (d.2.2.1.2.1=130048)&&decide (d.2.2.1.1.length≤130048)))) (.ret (.ret ((),((),tJ d.2.1.1 (d.1.1.foldl (fun s x=>one d.2.1.1 x s) (d.2.1.2.1,(d.2.1.2.2.1,d.2.2.1.1))))))) .no
def AB (st cf:Nat)(T:Ty)(one:Int→T.den→bf→bf){R:Type}(h6:List T.den)(h7 h8 h9 h10:Int)(h11:Bool)(h12:LI)(h13:Int)(next:List T.den→Int→Int→Int→Int→Bool→LI→Int→Option R)(out:aH (bC st cf T).xs→Option R):Option R:=bif decide (h8<h7) then bif decide (0≤h8)&&decide (h8<(h6.length:Int)) then bif decide (h13=130048)&&decide (h12.length≤130048) then next (h6) (h7) (i64.wrap (h8+1)) (h9) ((one h9 (h6.getD h8.toNat T.zero) (h10,h11,h12)).1) ((one h9 (h6.getD h8.toNat T.zero) (h10,h11,h12)).2.1) ((one h9 (h6.getD h8.toNat T.zero) (h10,h11,h12)).2.2) (130048) else none else none else out (.ret ((),((),((h9,(h10,(h11,()))),((h12,(h13,())),((),()))))))
theorem W4 {st cf:Nat}{T:Ty}{one:Int→T.den→bf→bf}(hle:∀v x s,s.2.2.length≤130048→(one v x s).2.2.length≤130048)
  (it:Nat→List T.den→Int→Int→Int→Int→Bool→LI→Int→Option (aH (bC st cf T).xs)) (hit:∀n h6 h7 h8 h9 h10 h11 h12 h13,it (n+1) h6 h7 h8 h9 h10 h11 h12 h13=AB st cf T one h6 h7 h8 h9 h10 h11 h12 h13 (it n) some)
  {xs:List T.den} (v:Int) (hl:xs.length≤maxLen):∀(k i:Nat) (s:bf),xs.length<i+k→i≤xs.length→s.2.2.length≤130048→
  it k xs (xs.length:Int) i v s.1 s.2.1 s.2.2 130048=some (.ret ((),((),tJ v ((xs.drop i).foldl (fun s x=>one v x s) s)))):=by
 intro k
 induction k with
 |zero=>intro i s h;omega
 |succ k ih=>
  intro i s h1 h2 h3
  rw[hit]
  unfold AB
  by_cases hi:i<xs.length
  ·refine bT (decide_eq_true (show (i:Int)<(xs.length:Int) by omega)) ?_
   refine bT (by simpa using hi) ?_
   simp only[zG,aJ hi,cq hi hl]
   have g:(decide ((130048:Int)=130048)&&decide (s.2.2.length≤130048))=true:=by
    simpa using h3
   refine (aa g _ _).trans ?_
   rw[zE hi]
   exact ih (i+1) (one v xs[i] s) (by omega) (by omega) (hle v _ s h3)
  ·refine bF (by simp;omega) ?_
   rw[zI (by omega)]
   rfl
def G6 (st cf:Nat)(T:Ty)(one:Int→T.den→bf→bf)(a0:List T.den)(a1 a2:Int)(a3:Bool)(a4:LI)(a5:Int):Option (jB st cf T).Res:=bif decide (16<(a0.length:Int)) then bif decide (a5=130048)&&decide (a4.length≤130048) then oR ((),((),a1,(bU 9 (a2,a3,a4)).1,(bU 9 (a2,a3,a4)).2.1,()),((bU 9 (a2,a3,a4)).2.2,130048,()),((),()),()) else none else bif decide (a5=130048)&&decide (a4.length≤130048) then (jz st cf T one ((a0,((a0.length:Int),(0,()))),((a1,((ac (i32.wrap (a0.length:Int)) 4 (a2,a3,a4)).1,((ac (i32.wrap (a0.length:Int)) 4 (a2,a3,a4)).2.1,()))),(((ac (i32.wrap (a0.length:Int)) 4 (a2,a3,a4)).2.2,(130048,())),((),()))))).run fun y=>match y with | .ret ((),((),(x27,x28,x29,()),(x30,x31,()),(),()))=>(oR ((),((),x27,x28,x29,()),(x30,x31,()),((),()),())) else none
theorem oO {st cf f:Nat}{T:Ty}{sps:Int→List T.den→bf→bf}{one:Int→T.den→bf→bf}(hs:∀v xs s,sps v xs s=bE (one v) xs s)(hle:∀v x s,s.2.2.length≤130048→(one v x s).2.2.length≤130048)
  {cs:List (Nat×Hc)} (hcs:HcsOk prog cs) {fn:Func} (hf:prog.funcs[f]?=some fn) (hname:(fn.name == "runtime.NumGoroutine")=false) (hbody:fn.body.isNone=false)
  (hlp:bB [(5,aS (bC st cf T) (jz st cf T one))] (fB ((dc fn).getD 0 lM).2.1)=some (aS (bC st cf T) (jz st cf T one))) (h1:Nat.ble (Tt fn ((dc fn).getD 0 lM)).length 0=true) (h2:Nat.ble (dc fn).length (0+1)=true)
  (hit:∀(n:Nat) (h6:List T.den) (h7 h8 h9 h10:Int) (h11:Bool) (h12:LI) (h13:Int),il tt (bM cs) dr (bB [(5,aS (bC st cf T) (jz st cf T one))]) 3 fn ((dc fn).getD 0 lM) (n+1) ((bC st cf T).st.mk' ((h6,(h7,(h8,()))),((h9,(h10,(h11,()))),((h12,(h13,())),((),()))))) (ci (bC st cf T).xs)=
   AB st cf T one h6 h7 h8 h9 h10 h11 h12 h13 (fun h6 h7 h8 h9 h10 h11 h12 h13=>il tt (bM cs) dr (bB [(5,aS (bC st cf T) (jz st cf T one))]) 3 fn ((dc fn).getD 0 lM) n ((bC st cf T).st.mk' ((h6,(h7,(h8,()))),((h9,(h10,(h11,()))),((h12,(h13,())),((),()))))) (ci (bC st cf T).xs)) some)
  (hrun:∀(a0:List T.den) (a1 a2:Int) (a3:Bool) (a4:LI) (a5:Int),Io.run tt (bM cs) dr (bB [(5,aS (bC st cf T) (jz st cf T one))]) (jB st cf T) fn (((),a0,(),()),((),a1,a2,a3,()),(a4,a5,()),((),()),())=G6 st cf T one a0 a1 a2 a3 a4 a5):
  HcOk prog f (ae (jB st cf T) (Zf st cf T sps)):=by
 refine sf (n:=400) hm (cs:=cs) hcs (lp:=bB [(5,aS (bC st cf T) (jz st cf T one))]) (fn:=fn) hf hname hbody (jB st cf T) (.step (h0:=aS (bC st cf T) (jz st cf T one)) hlp (jh (cs:=cs) hcs (lp:=bB [(5,aS (bC st cf T) (jz st cf T one))]) (fn:=fn) (.done h1) (bC st cf T) (jz st cf T one) ?_) (.done h2)) (Zf st cf T sps) ?_
 ·rintro ⟨⟨(xs:List T.den),(n:Int),(i:Int),⟨⟩⟩,⟨⟨(v:Int),(e:Int),(f:Bool),⟨⟩⟩,⟨(b:LI),(m:Int),⟨⟩⟩,⟨⟨⟩,⟨⟩⟩⟩⟩ y hw hy
  obtain ⟨hg,hy⟩:=Tr.guard hy
  simp only[zA,zB] at hg
  obtain ⟨rfl,rfl,rfl,h4⟩:=hg
  have h4:b.length≤130048:=h4
  have hl:xs.length≤maxLen:=hw.1.1.1
  refine ⟨xs.length+1,(W4 (st:=st) (cf:=cf) hle (fun n h6 h7 h8 h9 h10 h11 h12 h13=>il tt (bM cs) dr (bB [(5,aS (bC st cf T) (jz st cf T one))]) 3 fn ((dc fn).getD 0 lM) n ((bC st cf T).st.mk' ((h6,(h7,(h8,()))),((h9,(h10,(h11,()))),((h12,(h13,())),((),()))))) (ci (bC st cf T).xs)) hit v hl (xs.length+1) 0 (e,(f,b)) (by omega) (by omega) h4).trans ?_⟩
  rw[← hy];rfl
 ·rintro ⟨⟨⟨⟩,(xs:List T.den),⟨⟩,⟨⟩⟩,⟨⟨⟩,(v:Int),(e:Int),(f:Bool),⟨⟩⟩,⟨(b:LI),(m:Int),⟨⟩⟩,⟨⟨⟩,⟨⟩⟩,⟨⟩⟩ out hw ho
  obtain ⟨hg,ho⟩:=Tr.guard ho
  obtain ⟨rfl,hb⟩:=bK (v:=v) (e:=e) (f:=f) hg
  cases ho
  refine (hrun xs v e f b 130048).trans ?_
  unfold G6
  have g:(decide ((130048:Int)=130048)&&decide (b.length≤130048))=true:=by simpa using hb
  show _=oR ((),gl v (sps v xs (e,f,b)))
  rw[hs]
  unfold bE
  by_cases h:16<(xs.length:Int)
  ·rw[if_pos h]
   refine bT (decide_eq_true h) ?_
   exact aa g _ _
  ·rw[if_neg h]
   refine bF (decide_eq_false h) ?_
   refine (aa g _ _).trans ?_
   have hw32:i32.wrap (xs.length:Int)=xs.length:=dY (by simp[eD,IntKind.min,IntKind.max,IntKind.signed,IntKind.bits];omega)
   rw[hw32]
   have c1:(decide ((0:Int)=0)&&(decide ((xs.length:Int)=(xs.length:Int))&&(decide ((130048:Int)=130048)&&decide ((ac xs.length 4 (e,f,b)).2.2.length≤130048))))=true:=by
    simpa using aA (s:=(e,f,b)) _ 4 hb
   have e1:jz st cf T one ((xs,((xs.length:Int),(0,()))),((v,((ac xs.length 4 (e,f,b)).1,((ac xs.length 4 (e,f,b)).2.1,()))),(((ac xs.length 4 (e,f,b)).2.2,(130048,())),((),()))))=
     .ite true (.ret (.ret ((),((),tJ v (xs.foldl (fun s x=>one v x s) (ac xs.length 4 (e,f,b))))))) .no:=congrArg (fun c=>Tr.ite c _ _) c1
   rw[e1]
   rfl
def pQ (v:Int)(xs:List bR.den)(s:bf):bf:=bE (jX v) xs s
abbrev xF:Io:=⟨[.ptr 0 0,.dat (.sl 214 bR) false false,.fnc 125 false [2]],mh,[],[],none⟩
def TK (d:xF.In):Tr xF.Res:=.ite (kg d.2) (.ret (.ret ((),gl d.2.1.2.1 (pQ d.2.1.2.1 d.1.2.1 (kh d.2))))) .no
abbrev aaf:List (Nat×Hc):=[(194,ae cT gq),(98,ae cX gg),(125,ae qD Qu)]
theorem ack:HcOk prog 124 (ae xF TK):=
 oO (one:=jX) (sps:=pQ) (fun _ _ _=>rfl) (fun v _ _ h3=>u9 v _ h3) (cs:=aaf) (.cons fD (.cons eb (.cons afS .nil))) (fn:=Tryz.f124) (by kernel_rfl) (by kernel_rfl) (by kernel_rfl) (by kernel_rfl) (by kernel_rfl) (by kernel_rfl) (by intros;kernel_rfl) (by intros;kernel_rfl)
def yg (v:Int)(t:az.den)(s:bf):bf:=pQ v t.2.1 (bJ t.1 s)
abbrev qE:Io:=⟨[.dat az true false,.ptr 0 0],pG,[],[],none⟩
def Qv (d:qE.In):Tr qE.Res:=.ite (gi d.2.2) (.ret (.ret ((),fI d.2.2.1.2.1 (yg d.2.2.1.2.1 d.1.1 (gj d.2.2))))) .no
abbrev Ux:List (Nat×Hc):=[(101,ae kR wG),(124,ae xF TK)]
def afd:Hd:=bM Ux
def Vu:Lp:=bB []
def HB (a0:LI)(a1:List bR.den)(a2 a3:Int)(a4:Bool)(a5:LI)(a6:Int):Option qE.Res:=bif decide (a6=130048)&&decide (a5.length≤130048) then bif decide (130048=130048)&&decide ((bJ a0 (a3,a4,a5)).2.2.length≤130048) then oR ((),((),()),((),a2,(pQ a2 a1 (bJ a0 (a3,a4,a5))).1,(pQ a2 a1 (bJ a0 (a3,a4,a5))).2.1,()),((pQ a2 a1 (bJ a0 (a3,a4,a5))).2.2,130048,()),()) else none else none
theorem adh (a0:LI)(a1:List bR.den)(a2 a3:Int)(a4:Bool)(a5:LI)(a6:Int):Io.run tt afd dr Vu qE Tryz.f123 (((a0,a1,()),(),()),((),()),((),a2,a3,a4,()),(a5,a6,()),())=HB a0 a1 a2 a3 a4 a5 a6:=by kernel_rfl
theorem afT:HcOk prog 123 (ae qE Qv):=by
 refine cg (cs:=Ux) (.cons wd (.cons ack .nil)) (lp:=Vu) (fn:=Tryz.f123) qE (.done (by kernel_rfl)) Qv ?_
 rintro ⟨⟨⟨(t:LI),(ps:List bR.den),⟨⟩⟩,⟨⟩,⟨⟩⟩,⟨⟨⟩,⟨⟩⟩,⟨⟨⟩,(v:Int),(e:Int),(f:Bool),⟨⟩⟩,⟨(b:LI),(m:Int),⟨⟩⟩,⟨⟩⟩ out hw ho
 obtain ⟨hg,ho⟩:=Tr.guard ho
 obtain ⟨rfl,hb⟩:=bK (v:=v) (e:=e) (f:=f) hg
 cases ho
 refine (adh t ps v e f b 130048).trans ?_
 unfold HB
 refine bT (by simpa using hb) ?_
 refine bT (by simpa using fc (s:=(e,f,b)) t hb) ?_
 rfl
theorem Fw {s:bf}(v:Int)(t:az.den)(h:s.2.2.length≤130048):(yg v t s).2.2.length≤130048:=cn (fun x s=>u9 v x) _ (fc _ h)
def gA (v:Int)(xs:List az.den)(s:bf):bf:=bE (yg v) xs s
abbrev xG:Io:=⟨[.ptr 0 0,.dat (.sl 212 az) false false,.fnc 123 false [2]],mh,[],[],none⟩
def TL (d:xG.In):Tr xG.Res:=.ite (kg d.2) (.ret (.ret ((),gl d.2.1.2.1 (gA d.2.1.2.1 d.1.2.1 (kh d.2))))) .no
abbrev aag:List (Nat×Hc):=[(194,ae cT gq),(98,ae cX gg),(123,ae qE Qv)]
theorem acl:HcOk prog 122 (ae xG TL):=
 oO (one:=yg) (sps:=gA) (fun _ _ _=>rfl) (fun v _ _ h3=>Fw v _ h3) (cs:=aag) (.cons fD (.cons eb (.cons afT .nil))) (fn:=Tryz.f122) (by kernel_rfl) (by kernel_rfl) (by kernel_rfl) (by kernel_rfl) (by kernel_rfl) (by kernel_rfl) (by intros;kernel_rfl) (by intros;kernel_rfl)
def rf (v:Int)(p:bR.den)(s:bf):bf:=aq v (p.2.2.2.2.1 == 0) 3 3 (aq v (p.2.2.2.1 == 0) 2 3 s)
def gB (v:Int)(ps:List bR.den)(s:bf):bf:=ps.foldl (fun s p=>rf v p s) s
def rg (v:Int)(ts:List az.den)(s:bf):bf:=ts.foldl (fun s t=>gB v t.2.1 s) s
def pk (v:Int)(m:ij.den):bf:=
 cM v 1 3 m.2.1 4 (gA v m.1 (rg v m.1 (aq v (m.2.1 == 0) 1 3 (aV v,(false,([]:LI))))))
abbrev vR:Io:=⟨[dI,.dat ij true false],[],[],[dO,dI],none⟩
def ahq (d:vR.In):Tr vR.Res:=.ret (.ret ((bD (pk d.1.1 d.1.2.1),(bm (pk d.1.1 d.1.2.1),())),()))
abbrev aah:List (Nat×Hc):=[(93,ae l9 AN),(94,ae gt mr),(95,ae iJ pr),(98,ae cX gg),(122,ae xG TL),(105,ae jF rM)]
def Q8:Hd:=bM aah
abbrev kv:Lo:=⟨⟨(.any::ce (.one (.ptr 3 0)::ce (.one (.ptr 6 0)::gE (dq (.one (.hol (.sl 212 (Ty.str.prod ((Ty.sl 214 ((Ty.int i32).prod ((Ty.int i16).prod ((Ty.int i64).prod ((Ty.int i64).prod ((Ty.int i64).prod Ty.unit)))))).prod Ty.unit))))::.one hI::.one hI::dq (.one (.hol (.sl 214 ((Ty.int i32).prod ((Ty.int i16).prod ((Ty.int i64).prod ((Ty.int i64).prod ((Ty.int i64).prod Ty.unit)))))))::.one hI::.one hI::am (gE (dq (ce []))))))))),[none,none,none,some [.hol (.sl 212 (Ty.str.prod ((Ty.sl 214 ((Ty.int i32).prod ((Ty.int i16).prod ((Ty.int i64).prod ((Ty.int i64).prod ((Ty.int i64).prod Ty.unit)))))).prod Ty.unit))),hJ],none,none,some [.ptr 12 0],none,none,none,none,none,some [.ptr 13 0,hI,hI,hL],some [.onl 5 (Ty.int u8) 6658,hI]]⟩,[(.exit 2,⟨(.any::ce (.one (.ptr 3 0)::ce (.one (.ptr 6 0)::gE (dq (.one (.hol (.sl 212 (Ty.str.prod ((Ty.sl 214 ((Ty.int i32).prod ((Ty.int i16).prod ((Ty.int i64).prod ((Ty.int i64).prod ((Ty.int i64).prod Ty.unit)))))).prod Ty.unit))))::.one hI::.one hI::.any::am (am (dq []))))))),[none,none,none,some [.hol (.sl 212 (Ty.str.prod ((Ty.sl 214 ((Ty.int i32).prod ((Ty.int i16).prod ((Ty.int i64).prod ((Ty.int i64).prod ((Ty.int i64).prod Ty.unit)))))).prod Ty.unit))),hJ],none,none,some [.ptr 12 0],none,none,none,none,none,some [.ptr 13 0,hI,hI,hL],some [.onl 5 (Ty.int u8) 6658,hI]]⟩)]⟩
abbrev ku:Lo:=⟨⟨(.any::ce (.one (.ptr 3 0)::ce (.one (.ptr 6 0)::gE (dq (.one (.hol (.sl 212 (Ty.str.prod ((Ty.sl 214 ((Ty.int i32).prod ((Ty.int i16).prod ((Ty.int i64).prod ((Ty.int i64).prod ((Ty.int i64).prod Ty.unit)))))).prod Ty.unit))))::.one hI::.one hI::.any::am (am (dq []))))))),[none,none,none,some [.hol (.sl 212 (Ty.str.prod ((Ty.sl 214 ((Ty.int i32).prod ((Ty.int i16).prod ((Ty.int i64).prod ((Ty.int i64).prod ((Ty.int i64).prod Ty.unit)))))).prod Ty.unit))),hJ],none,none,some [.ptr 12 0],none,none,none,none,none,some [.ptr 13 0,hI,hI,hL],some [.onl 5 (Ty.int u8) 6658,hI]]⟩,[(.exit 0,⟨(.any::ce (.one (.ptr 3 0)::ce (.one (.ptr 6 0)::am (am (am (dq [])))))),[none,none,none,some [.hol (.sl 212 (Ty.str.prod ((Ty.sl 214 ((Ty.int i32).prod ((Ty.int i16).prod ((Ty.int i64).prod ((Ty.int i64).prod ((Ty.int i64).prod Ty.unit)))))).prod Ty.unit))),hJ],none,none,some [.ptr 12 0],none,none,none,none,none,some [.ptr 13 0,hI,hI,hL],some [.onl 5 (Ty.int u8) 6658,hI]]⟩)]⟩
abbrev Jb (ts:List az.den)(thr v:Int)(s:bf):(List az.den×(Int×Unit))×(Unit×((Int×(Int×(Bool×Unit)))×((LI×(Int×Unit))×Unit))):=((ts,(thr,())),((),((v,(s.1,(s.2.1,()))),((s.2.2,(130048,())),()))))
def wK (d:kv.st.den):Tr (aH kv.xs):=
 .ite (decide (d.1.2.2.2.2.2.1=0)&&(decide (d.1.2.2.2.2.1=(d.1.2.2.2.1.length:Int))&&(decide (d.2.2.2.2.1.2.1=130048)&&decide (d.2.2.2.2.1.1.length≤130048)))) (.ret (.ret ((),((d.1.1,(d.1.2.1,(d.1.2.2.1,()))),Jb d.2.1.1 d.2.1.2.1 d.2.2.2.1.1 (gB d.2.2.2.1.1 d.1.2.2.2.1 (d.2.2.2.1.2.1,(d.2.2.2.1.2.2.1,d.2.2.2.2.1.1))))))) .no
def wJ (d:ku.st.den):Tr (aH ku.xs):=
 .ite (decide (d.1.2.2.1=0)&&(decide (d.1.2.1=(d.1.1.length:Int))&&(decide (d.2.2.2.2.1.2.1=130048)&&decide (d.2.2.2.2.1.1.length≤130048)))) (.ret (.ret ((),((),Jb d.2.1.1 d.2.1.2.1 d.2.2.2.1.1 (rg d.2.2.2.1.1 d.1.1 (d.2.2.2.1.2.1,(d.2.2.2.1.2.2.1,d.2.2.2.2.1.1))))))) .no
def zR:Lp:=bB [(5,aS ku wJ),(8,aS kv wK)]
def Gc {R:Type}(h13:List az.den)(h14 h15:Int)(h16:List bR.den)(h17 h18:Int)(h19:List az.den)(h20 h21 h22:Int)(h23:Bool)(h24:LI)(h25:Int)(next:List az.den→Int→Int→List bR.den→Int→Int→List az.den→Int→Int→Int→Bool→LI→Int→Option R)(out:aH kv.xs→Option R):Option R:=bif decide (h18<h17) then bif decide (0≤h18)&&decide (h18<(↑h16.length:Int)) then bif decide (h25=130048)&&decide (h24.length≤130048) then bif decide (130048=130048)&&decide ((aq h21 ((h16.getD h18.toNat (0,0,0,0,0,())).2.2.2.1 == 0) 2 3 (h22,h23,h24)).2.2.length≤130048) then next (h13) (h14) (h15) (h16) (h17) (i64.wrap (h18+1)) (h19) (h20) (h21) ((aq h21 ((h16.getD h18.toNat (0,0,0,0,0,())).2.2.2.2.1 == 0) 3 3 (aq h21 ((h16.getD h18.toNat (0,0,0,0,0,())).2.2.2.1 == 0) 2 3 (h22,h23,h24))).1) ((aq h21 ((h16.getD h18.toNat (0,0,0,0,0,())).2.2.2.2.1 == 0) 3 3 (aq h21 ((h16.getD h18.toNat (0,0,0,0,0,())).2.2.2.1 == 0) 2 3 (h22,h23,h24))).2.1) ((aq h21 ((h16.getD h18.toNat (0,0,0,0,0,())).2.2.2.2.1 == 0) 3 3 (aq h21 ((h16.getD h18.toNat (0,0,0,0,0,())).2.2.2.1 == 0) 2 3 (h22,h23,h24))).2.2) (130048) else none else none else none else out (.ret ((),((h13,(h14,(h15,()))),((h19,(h20,())),((),((h21,(h22,(h23,()))),((h24,(h25,())),())))))))
def EE (n:Nat)(h13:List az.den)(h14 h15:Int)(h16:List bR.den)(h17 h18:Int)(h19:List az.den)(h20 h21 h22:Int)(h23:Bool)(h24:LI)(h25:Int):Option (aH kv.xs):=il tt Q8 dr zR 0 Tryz.f58 (pV Tryz.f58 (db Tryz.f58 0) 0) n (kv.st.mk' ((h13,(h14,(h15,(h16,(h17,(h18,())))))),((h19,(h20,())),((),((h21,(h22,(h23,()))),((h24,(h25,())),())))))) (ci kv.xs)
theorem adJ (n:Nat)(h13:List az.den)(h14 h15:Int)(h16:List bR.den)(h17 h18:Int)(h19:List az.den)(h20 h21 h22:Int)(h23:Bool)(h24:LI)(h25:Int):EE (n+1) h13 h14 h15 h16 h17 h18 h19 h20 h21 h22 h23 h24 h25=Gc h13 h14 h15 h16 h17 h18 h19 h20 h21 h22 h23 h24 h25 (EE n) some:=by kernel_rfl
def Gb {R:Type}(h3:List az.den)(h4 h5:Int)(h6:List az.den)(h7 h8 h9:Int)(h10:Bool)(h11:LI)(h12:Int)(next:List az.den→Int→Int→List az.den→Int→Int→Int→Bool→LI→Int→Option R)(out:aH ku.xs→Option R):Option R:=bif decide (h5<h4) then bif decide (0≤h5)&&decide (h5<(↑h3.length:Int)) then (wK ((h3,(h4,(h5,((h3.getD h5.toNat ([],[],())).2.1,((↑(List.length (h3.getD h5.toNat ([],[],())).2.1):Int),(0,())))))),((h6,(h7,())),((),((h8,(h9,(h10,()))),((h11,(h12,())),())))))).run fun y=>match y with | .ret ((),((x49,x50,x51,()),(x52,x53,()),(),(x54,x55,x56,()),(x57,x58,()),()))=>(next (x49) (x50) (i64.wrap (x51+1)) (x52) (x53) (x54) (x55) (x56) (x57) (x58)) else none else out (.ret ((),((),((h6,(h7,())),((),((h8,(h9,(h10,()))),((h11,(h12,())),())))))))
def xM (n:Nat)(h3:List az.den)(h4 h5:Int)(h6:List az.den)(h7 h8 h9:Int)(h10:Bool)(h11:LI)(h12:Int):Option (aH ku.xs):=il tt Q8 dr zR 0 Tryz.f58 (db Tryz.f58 0) n (ku.st.mk' ((h3,(h4,(h5,()))),((h6,(h7,())),((),((h8,(h9,(h10,()))),((h11,(h12,())),())))))) (ci ku.xs)
theorem adI (n:Nat)(h3:List az.den)(h4 h5:Int)(h6:List az.den)(h7 h8 h9:Int)(h10:Bool)(h11:LI)(h12:Int):xM (n+1) h3 h4 h5 h6 h7 h8 h9 h10 h11 h12=Gb h3 h4 h5 h6 h7 h8 h9 h10 h11 h12 (xM n) some:=by kernel_rfl
theorem Fx {s:bf}(v:Int)(p:bR.den)(h:s.2.2.length≤130048):(rf v p s).2.2.length≤130048:=br _ _ _ _ (br _ _ _ _ h)
theorem BE {s:bf}(v:Int)(ps:List bR.den)(h:s.2.2.length≤130048):(gB v ps s).2.2.length≤130048:=iq (fun x s=>Fx v x) ps s h
theorem S4 {s:bf}(v:Int)(ts:List az.den)(h:s.2.2.length≤130048):(rg v ts s).2.2.length≤130048:=iq (one:=fun (t:az.den) (s:bf)=>gB v t.2.1 s) (fun x s h=>BE v x.2.1 h) ts s h
theorem Ro (ts:List az.den)(n i:Int)(ts':List az.den)(thr v:Int){ps:List bR.den}(hl:ps.length≤maxLen):∀(k j:Nat) (s:bf),ps.length<j+k→j≤ps.length→s.2.2.length≤130048→
  EE k ts n i ps (ps.length:Int) j ts' thr v s.1 s.2.1 s.2.2 130048=some (.ret ((),((ts,(n,(i,()))),Jb ts' thr v ((ps.drop j).foldl (fun s p=>rf v p s) s)))):=by
 intro k
 induction k with
 |zero=>intro j s h;omega
 |succ k ih=>
  intro j s h1 h2 h3
  rw[adJ]
  unfold Gc
  by_cases hi:j<ps.length
  ·refine bT (decide_eq_true (show (j:Int)<(ps.length:Int) by omega)) ?_
   refine bT (by simpa using hi) ?_
   simp only[zG,aJ hi,cq hi hl]
   refine bT (by simpa using h3) ?_
   refine bT (by simpa using br (s:=s) v (ps[j].2.2.2.1 == 0) 2 3 h3) ?_
   rw[zE hi]
   exact ih (j+1) (rf v ps[j] s) (by omega) (by omega) (Fx _ _ h3)
  ·refine bF (by simp;omega) ?_
   rw[zI (by omega)]
   rfl
theorem Rn {ts:List az.den}(ts':List az.den)(thr v:Int)(hl:ts.length≤maxLen):∀(k j:Nat) (s:bf),ts.length<j+k→j≤ts.length→s.2.2.length≤130048→
  xM k ts (ts.length:Int) j ts' thr v s.1 s.2.1 s.2.2 130048=some (.ret ((),((),Jb ts' thr v ((ts.drop j).foldl (fun s t=>gB v t.2.1 s) s)))):=by
 intro k
 induction k with
 |zero=>intro j s h;omega
 |succ k ih=>
  intro j s h1 h2 h3
  rw[adI]
  unfold Gb
  by_cases hi:j<ts.length
  ·refine bT (decide_eq_true (show (j:Int)<(ts.length:Int) by omega)) ?_
   refine bT (by simpa using hi) ?_
   simp only[zG,aJ hi]
   have c1:(decide ((0:Int)=0)&&(decide ((ts[j].2.1.length:Int)=(ts[j].2.1.length:Int))&&(decide ((130048:Int)=130048)&&decide (s.2.2.length≤130048))))=true:=by simpa using h3
   have e1:wK ((ts,((ts.length:Int),((j:Int),(ts[j].2.1,((ts[j].2.1.length:Int),(0,())))))),((ts',(thr,())),((),((v,(s.1,(s.2.1,()))),((s.2.2,(130048,())),())))))=
     .ite true (.ret (.ret ((),((ts,((ts.length:Int),((j:Int),()))),Jb ts' thr v (gB v ts[j].2.1 s))))) .no:=congrArg (fun c=>Tr.ite c _ _) c1
   rw[e1]
   show xM k ts (ts.length:Int) (i64.wrap ((j:Int)+1)) ts' thr v (gB v ts[j].2.1 s).1 (gB v ts[j].2.1 s).2.1 (gB v ts[j].2.1 s).2.2 130048=_
   rw[cq hi hl,zE hi]
   exact ih (j+1) (gB v ts[j].2.1 s) (by omega) (by omega) (BE _ _ h3)
  ·refine bF (by simp;omega) ?_
   rw[zI (by omega)]
   rfl
def ML (a0:Int)(a1:List az.den)(a2:Int):Option vR.Res:=(wJ ((a1,((↑a1.length:Int),(0,()))),((a1,(a2,())),((),((a0,((aq a0 (a2 == 0) 1 3 (aV a0,false,[])).1,((aq a0 (a2 == 0) 1 3 (aV a0,false,[])).2.1,()))),(((aq a0 (a2 == 0) 1 3 (aV a0,false,[])).2.2,(130048,())),())))))).run fun y=>match y with | .ret ((),((),(x76,x77,()),(),(x78,x79,x80,()),(x81,x82,()),()))=>(bif decide (x82=130048)&&decide (x81.length≤130048) then bif decide (130048=130048)&&decide ((gA x78 x76 (x79,x80,x81)).2.2.length≤130048) then bif decide (1≤x78)&&decide (x78≤3) then bif decide (130048=130048)&&decide ((gA x78 x76 (x79,x80,x81)).2.2.length≤130048) then bif decide (130048=130048)&&decide ((ac x77 4 (gA x78 x76 (x79,x80,x81))).2.2.length≤130048) then oR ((bD (ac x77 4 (gA x78 x76 (x79,x80,x81))),bm (ac x77 4 (gA x78 x76 (x79,x80,x81))),()),()) else none else none else bif decide (130048=130048)&&decide ((gA x78 x76 (x79,x80,x81)).2.2.length≤130048) then oR ((bD (gA x78 x76 (x79,x80,x81)),bm (gA x78 x76 (x79,x80,x81)),()),()) else none else none else none)
theorem agF (a0:Int)(a1:List az.den)(a2:Int):Io.run tt Q8 dr zR vR Tryz.f58 ((a0,(a1,a2,()),()),())=ML a0 a1 a2:=by kernel_rfl
theorem Ej:HcsOk prog aah:=.cons z7 (.cons nI (.cons nH (.cons eb (.cons acl (.cons uq .nil)))))
theorem ajb:HcOk prog 58 (ae vR ahq):=by
 refine cg Ej (lp:=zR) (fn:=Tryz.f58) vR (.step (h0:=aS ku wJ) (by kernel_rfl) (jh Ej (lp:=zR) (fn:=Tryz.f58) (.step (h0:=aS kv wK) (by kernel_rfl) (jh Ej (lp:=zR) (fn:=Tryz.f58) (.done (by kernel_rfl)) kv wK ?_) (.done (by kernel_rfl))) ku wJ ?_) (.done (by kernel_rfl))) ahq ?_
 ·rintro ⟨⟨(ts:List az.den),(n:Int),(i:Int),(ps:List bR.den),(pn:Int),(pj:Int),⟨⟩⟩,⟨⟨(ts':List az.den),(thr:Int),⟨⟩⟩,⟨⟩,⟨(v:Int),(e:Int),(f:Bool),⟨⟩⟩,⟨(b:LI),(m:Int),⟨⟩⟩,⟨⟩⟩⟩ y hw hy
  obtain ⟨hg,hy⟩:=Tr.guard hy
  simp only[zA,zB] at hg
  obtain ⟨rfl,rfl,rfl,h4⟩:=hg
  have h4:b.length≤130048:=h4
  have hl:ps.length≤maxLen:=hw.1.2.2.2.1.1
  refine ⟨ps.length+1,(Ro ts n i ts' thr v hl (ps.length+1) 0 (e,(f,b)) (by omega) (by omega) h4).trans ?_⟩
  rw[← hy];rfl
 ·rintro ⟨⟨(ts:List az.den),(n:Int),(i:Int),⟨⟩⟩,⟨⟨(ts':List az.den),(thr:Int),⟨⟩⟩,⟨⟩,⟨(v:Int),(e:Int),(f:Bool),⟨⟩⟩,⟨(b:LI),(m:Int),⟨⟩⟩,⟨⟩⟩⟩ y hw hy
  obtain ⟨hg,hy⟩:=Tr.guard hy
  simp only[zA,zB] at hg
  obtain ⟨rfl,rfl,rfl,h4⟩:=hg
  have h4:b.length≤130048:=h4
  have hl:ts.length≤maxLen:=hw.1.1.1
  refine ⟨ts.length+1,(Rn ts' thr v hl (ts.length+1) 0 (e,(f,b)) (by omega) (by omega) h4).trans ?_⟩
  rw[← hy];rfl
 ·rintro ⟨⟨(v:Int),⟨(ts:List az.den),(thr:Int),⟨⟩⟩,⟨⟩⟩,⟨⟩⟩ out hw ho
  cases ho
  refine (agF v ts thr).trans ?_
  unfold ML
  have hg:∀s:bf,s.2.2.length≤130048→(decide ((130048:Int)=130048)&&decide (s.2.2.length≤130048))=true:=fun s h=>by simpa using h
  have l0:(aq v (thr == 0) 1 3 (aV v,(false,([]:LI)))).2.2.length≤130048:=br _ _ _ _ (by simp)
  have c1:(decide ((0:Int)=0)&&(decide ((ts.length:Int)=(ts.length:Int))&&(decide ((130048:Int)=130048)&&decide ((aq v (thr == 0) 1 3 (aV v,(false,([]:LI)))).2.2.length≤130048))))=true:=by simpa using l0
  have e1:wJ ((ts,((ts.length:Int),(0,()))),((ts,(thr,())),((),((v,((aq v (thr == 0) 1 3 (aV v,(false,([]:LI)))).1,((aq v (thr == 0) 1 3 (aV v,(false,([]:LI)))).2.1,()))),(((aq v (thr == 0) 1 3 (aV v,(false,([]:LI)))).2.2,(130048,())),())))))=
    .ite true (.ret (.ret ((),((),Jb ts thr v (rg v ts (aq v (thr == 0) 1 3 (aV v,(false,([]:LI))))))))) .no:=congrArg (fun c=>Tr.ite c _ _) c1
  rw[e1]
  have l1:=S4 v ts l0
  have l2:(gA v ts (rg v ts (aq v (thr == 0) 1 3 (aV v,(false,([]:LI)))))).2.2.length≤130048:=cn (fun x s=>Fw v x) _ l1
  refine (aa (hg _ l1) _ _).trans ?_
  refine (aa (hg _ l2) _ _).trans ?_
  show _=oR ((bD (pk v (ts,(thr,()))),(bm (pk v (ts,(thr,()))),())),())
  unfold pk cM
  by_cases h:1≤v∧v≤3
  ·rw[if_pos h]
   refine (aa (show (decide (1≤v)&&decide (v≤3))=true by simpa using h) _ _).trans ?_
   refine (aa (hg _ l2) _ _).trans ?_
   exact aa (hg _ (aA _ _ l2)) _ _
  ·rw[if_neg h]
   refine (af (show (decide (1≤v)&&decide (v≤3))=false by simp;omega) _ _).trans ?_
   exact aa (hg _ l2) _ _
def ao (k:IntKind)(n:Nat)(v lo hi:Int)(b:LI)(s:aD):Int×aD:=if aQ v lo hi s.1=true then ab k n b s else (0,s)
theorem ge {k:IntKind}{n:Nat}{v lo hi:Int}{b:LI}{s:aD}(h:al b s.2=true):al b (ao k n v lo hi b s).2.2=true:=by
 unfold ao
 split
 ·exact aO _ _ h
 ·exact h
def mQ (b:LI)(s:aD):aD:=(ab .i64 8 b (ab .i16 2 b (ab .i32 4 b s).2).2).2
@[irreducible] noncomputable def kz (v:Int)(b:LI)(s:aD):bR.den×aD:=
 (((ab .i32 4 b s).1,((ab .i16 2 b (ab .i32 4 b s).2).1,((ab .i64 8 b (ab .i16 2 b (ab .i32 4 b s).2).2).1,((ao .i64 8 v 2 3 b (mQ b s)).1,((ao .i64 8 v 3 3 b (ao .i64 8 v 2 3 b (mQ b s)).2).1,()))))),(ao .i64 8 v 3 3 b (ao .i64 8 v 2 3 b (mQ b s)).2).2)
theorem ag1 {b:LI}{s:aD}(h:al b s.2=true):al b (mQ b s).2=true:=aO _ _ (aO _ _ (aO _ _ h))
theorem Fm {v:Int}{b:LI}{s:aD}(h:al b s.2=true):al b (kz v b s).2.2=true:=by
 unfold kz
 exact ge (ge (ag1 h))
abbrev qJ:Io:=⟨[.ptr 0 0],pF,[],[.dat bR true false],none⟩
def Qz (d:qJ.In):Tr qJ.Res:=.ite (al d.2.2.2.1.1 d.2.2.2.1.2.1) (.ret (.ret (((kz d.2.2.1.2.1 d.2.2.2.1.1 (cK d.2.2)).1,()),dp d.2.2.1.2.1 d.2.2.2.1.1 (kz d.2.2.1.2.1 d.2.2.2.1.1 (cK d.2.2)).2))) .no
abbrev UK:List (Nat×Hc):=[(143,ae cB ew),(142,ae lX AD),(156,ae lY AE),(140,ae iI pq)]
def afo:Hd:=bM UK
def VF:Lp:=bB []
def HM (a0 a1:Int)(a2:LI)(a3:Int):Option qJ.Res:=bif al a2 a3 then bif al a2 (ab i32 4 a2 (a1,a3)).2.2 then bif al a2 (ab i16 2 a2 (ab i32 4 a2 (a1,a3)).2).2.2 then bif aQ a0 2 3 (ab i64 8 a2 (ab i16 2 a2 (ab i32 4 a2 (a1,a3)).2).2).2.1 then bif al a2 (ab i64 8 a2 (ab i16 2 a2 (ab i32 4 a2 (a1,a3)).2).2).2.2 then bif aQ a0 3 3 (ab i64 8 a2 (ab i64 8 a2 (ab i16 2 a2 (ab i32 4 a2 (a1,a3)).2).2).2).2.1 then bif al a2 (ab i64 8 a2 (ab i64 8 a2 (ab i16 2 a2 (ab i32 4 a2 (a1,a3)).2).2).2).2.2 then oR ((((ab i32 4 a2 (a1,a3)).1,(ab i16 2 a2 (ab i32 4 a2 (a1,a3)).2).1,(ab i64 8 a2 (ab i16 2 a2 (ab i32 4 a2 (a1,a3)).2).2).1,(ab i64 8 a2 (ab i64 8 a2 (ab i16 2 a2 (ab i32 4 a2 (a1,a3)).2).2).2).1,(ab i64 8 a2 (ab i64 8 a2 (ab i64 8 a2 (ab i16 2 a2 (ab i32 4 a2 (a1,a3)).2).2).2).2).1,()),()),((),()),((),a0,(ab i64 8 a2 (ab i64 8 a2 (ab i64 8 a2 (ab i16 2 a2 (ab i32 4 a2 (a1,a3)).2).2).2).2).2.1,()),(a2,(ab i64 8 a2 (ab i64 8 a2 (ab i64 8 a2 (ab i16 2 a2 (ab i32 4 a2 (a1,a3)).2).2).2).2).2.2,()),()) else none else oR ((((ab i32 4 a2 (a1,a3)).1,(ab i16 2 a2 (ab i32 4 a2 (a1,a3)).2).1,(ab i64 8 a2 (ab i16 2 a2 (ab i32 4 a2 (a1,a3)).2).2).1,(ab i64 8 a2 (ab i64 8 a2 (ab i16 2 a2 (ab i32 4 a2 (a1,a3)).2).2).2).1,0,()),()),((),()),((),a0,(ab i64 8 a2 (ab i64 8 a2 (ab i16 2 a2 (ab i32 4 a2 (a1,a3)).2).2).2).2.1,()),(a2,(ab i64 8 a2 (ab i64 8 a2 (ab i16 2 a2 (ab i32 4 a2 (a1,a3)).2).2).2).2.2,()),()) else none else bif aQ a0 3 3 (ab i64 8 a2 (ab i16 2 a2 (ab i32 4 a2 (a1,a3)).2).2).2.1 then bif al a2 (ab i64 8 a2 (ab i16 2 a2 (ab i32 4 a2 (a1,a3)).2).2).2.2 then oR ((((ab i32 4 a2 (a1,a3)).1,(ab i16 2 a2 (ab i32 4 a2 (a1,a3)).2).1,(ab i64 8 a2 (ab i16 2 a2 (ab i32 4 a2 (a1,a3)).2).2).1,0,(ab i64 8 a2 (ab i64 8 a2 (ab i16 2 a2 (ab i32 4 a2 (a1,a3)).2).2).2).1,()),()),((),()),((),a0,(ab i64 8 a2 (ab i64 8 a2 (ab i16 2 a2 (ab i32 4 a2 (a1,a3)).2).2).2).2.1,()),(a2,(ab i64 8 a2 (ab i64 8 a2 (ab i16 2 a2 (ab i32 4 a2 (a1,a3)).2).2).2).2.2,()),()) else none else oR ((((ab i32 4 a2 (a1,a3)).1,(ab i16 2 a2 (ab i32 4 a2 (a1,a3)).2).1,(ab i64 8 a2 (ab i16 2 a2 (ab i32 4 a2 (a1,a3)).2).2).1,0,0,()),()),((),()),((),a0,(ab i64 8 a2 (ab i16 2 a2 (ab i32 4 a2 (a1,a3)).2).2).2.1,()),(a2,(ab i64 8 a2 (ab i16 2 a2 (ab i32 4 a2 (a1,a3)).2).2).2.2,()),()) else none else none else none
theorem adw (a0 a1:Int)(a2:LI)(a3:Int):Io.run tt afo dr VF qJ Tryz.f170 (((),()),((),()),((),a0,a1,()),(a2,a3,()),())=HM a0 a1 a2 a3:=by kernel_rfl
theorem af2:HcOk prog 170 (ae qJ Qz):=by
 refine cg (cs:=UK) (.cons cY (.cons zY (.cons zZ (.cons nG .nil)))) (lp:=VF) (fn:=Tryz.f170) qJ (.done (by kernel_rfl)) Qz ?_
 rintro ⟨⟨⟨⟩,⟨⟩⟩,⟨⟨⟩,⟨⟩⟩,⟨⟨⟩,(v:Int),(e:Int),⟨⟩⟩,⟨(b:LI),(p:Int),⟨⟩⟩,⟨⟩⟩ out hw ho
 obtain ⟨hg,ho⟩:=Tr.guard ho
 have hg:al b p=true:=hg
 cases ho
 refine (adw v e b p).trans ?_
 unfold HM
 show _=oR (((kz v b (e,p)).1,()),dp v b (kz v b (e,p)).2)
 unfold kz
 have g1:=aO .i32 4 (s:=(e,p)) hg
 have g2:=aO .i16 2 g1
 have g3:=aO .i64 8 g2
 refine (aa hg _ _).trans ?_
 refine (aa g1 _ _).trans ?_
 refine (aa g2 _ _).trans ?_
 show (bif aQ v 2 3 (mQ b (e,p)).1 then _ else _)=_
 have g4:al b (mQ b (e,p)).2=true:=g3
 cases h2:aQ v 2 3 (mQ b (e,p)).1
 ·have e2:ao .i64 8 v 2 3 b (mQ b (e,p))=(0,mQ b (e,p)):=by unfold ao;rw[if_neg (by rw[h2];decide)]
  rw[e2]
  show (bif aQ v 3 3 (mQ b (e,p)).1 then _ else _)=_
  cases h3:aQ v 3 3 (mQ b (e,p)).1
  ·have e3:ao .i64 8 v 3 3 b (mQ b (e,p))=(0,mQ b (e,p)):=by unfold ao;rw[if_neg (by rw[h3];decide)]
   rw[e3]
   rfl
  ·have e3:ao .i64 8 v 3 3 b (mQ b (e,p))=ab .i64 8 b (mQ b (e,p)):=by unfold ao;rw[if_pos h3]
   rw[e3]
   exact aa g4 _ _
 ·have e2:ao .i64 8 v 2 3 b (mQ b (e,p))=ab .i64 8 b (mQ b (e,p)):=by unfold ao;rw[if_pos h2]
  rw[e2]
  refine (aa g4 _ _).trans ?_
  have g5:=aO .i64 8 g4
  show (bif aQ v 3 3 (ab .i64 8 b (mQ b (e,p))).2.1 then _ else _)=_
  cases h3:aQ v 3 3 (ab .i64 8 b (mQ b (e,p))).2.1
  ·have e3:ao .i64 8 v 3 3 b (ab .i64 8 b (mQ b (e,p))).2=(0,(ab .i64 8 b (mQ b (e,p))).2):=by unfold ao;rw[if_neg (by rw[h3];decide)]
   rw[e3]
   rfl
  ·have e3:ao .i64 8 v 3 3 b (ab .i64 8 b (mQ b (e,p))).2=ab .i64 8 b (ab .i64 8 b (mQ b (e,p))).2:=by unfold ao;rw[if_pos h3]
   rw[e3]
   exact aa g5 _ _
@[irreducible] noncomputable def iu (v:Int)(b:LI)(s:aD):List bR.den×aD:=iC (kz v b) b s
theorem PQ {v:Int}{b:LI}{s:aD}(h:al b s.2=true):al b (iu v b s).2.2=true:=by
 unfold iu
 exact fH (fun s h=>Fm h) h
abbrev xI:Io:=⟨[.ptr 0 0,.fnc 170 false [2]],nF,[],[.dat (.sl 214 bR) false false],none⟩
def TQ (d:xI.In):Tr xI.Res:=.ite (al d.2.2.1.1 d.2.2.1.2.1) (.ret (.ret (((iu d.2.1.2.1 d.2.2.1.1 (d7 d.2)).1,()),iD d.2.1.2.1 d.2.2.1.1 (iu d.2.1.2.1 d.2.2.1.1 (d7 d.2)).2))) .no
abbrev aap:List (Nat×Hc):=[(143,ae cB ew),(170,ae qJ Qz)]
theorem acz:HcOk prog 169 (ae xI TQ):=
 mc (one:=kz) (sps:=iu) (fun _ _ _=>by unfold iu;rfl) (fun _ _ _ h4=>Fm h4) (cs:=aap) (.cons cY (.cons af2 .nil)) (fn:=Tryz.f169) (by kernel_rfl) (by kernel_rfl) (by kernel_rfl) (by kernel_rfl) (by kernel_rfl) (by kernel_rfl) (by intros;kernel_rfl) (by intros;kernel_rfl)
@[irreducible] noncomputable def kC (v:Int)(b:LI)(s:aD):az.den×aD:=(((bi b s).1,((iu v b (bi b s).2).1,())),(iu v b (bi b s).2).2)
theorem Fo {v:Int}{b:LI}{s:aD}(h:al b s.2=true):al b (kC v b s).2.2=true:=by
 unfold kC
 exact PQ (fa h)
abbrev qK:Io:=⟨[.ptr 0 0],pF,[],[.dat az true false],none⟩
def QA (d:qK.In):Tr qK.Res:=.ite (al d.2.2.2.1.1 d.2.2.2.1.2.1) (.ret (.ret (((kC d.2.2.1.2.1 d.2.2.2.1.1 (cK d.2.2)).1,()),dp d.2.2.1.2.1 d.2.2.2.1.1 (kC d.2.2.1.2.1 d.2.2.2.1.1 (cK d.2.2)).2))) .no
abbrev UL:List (Nat×Hc):=[(146,ae l6 AG),(169,ae xI TQ)]
def afp:Hd:=bM UL
def VG:Lp:=bB []
def HN (a0 a1:Int)(a2:LI)(a3:Int):Option qK.Res:=bif al a2 a3 then bif al a2 (bi a2 (a1,a3)).2.2 then oR ((((bi a2 (a1,a3)).1,(iu a0 a2 (bi a2 (a1,a3)).2).1,()),()),((),()),((),a0,(iu a0 a2 (bi a2 (a1,a3)).2).2.1,()),(a2,(iu a0 a2 (bi a2 (a1,a3)).2).2.2,()),()) else none else none
theorem adx (a0 a1:Int)(a2:LI)(a3:Int):Io.run tt afp dr VG qK Tryz.f168 (((),()),((),()),((),a0,a1,()),(a2,a3,()),())=HN a0 a1 a2 a3:=by kernel_rfl
theorem af3:HcOk prog 168 (ae qK QA):=by
 refine cg (cs:=UL) (.cons z4 (.cons acz .nil)) (lp:=VG) (fn:=Tryz.f168) qK (.done (by kernel_rfl)) QA ?_
 rintro ⟨⟨⟨⟩,⟨⟩⟩,⟨⟨⟩,⟨⟩⟩,⟨⟨⟩,(v:Int),(e:Int),⟨⟩⟩,⟨(b:LI),(p:Int),⟨⟩⟩,⟨⟩⟩ out hw ho
 obtain ⟨hg,ho⟩:=Tr.guard ho
 have hg:al b p=true:=hg
 cases ho
 refine (adx v e b p).trans ?_
 unfold HN
 show _=oR (((kC v b (e,p)).1,()),dp v b (kC v b (e,p)).2)
 unfold kC
 refine (aa hg _ _).trans ?_
 exact aa (fa (s:=(e,p)) hg) _ _
@[irreducible] noncomputable def bt (v:Int)(b:LI)(s:aD):List az.den×aD:=iC (kC v b) b s
theorem PR {v:Int}{b:LI}{s:aD}(h:al b s.2=true):al b (bt v b s).2.2=true:=by
 unfold bt
 exact fH (fun s h=>Fo h) h
abbrev xJ:Io:=⟨[.ptr 0 0,.fnc 168 false [2]],nF,[],[.dat (.sl 212 az) false false],none⟩
def TR (d:xJ.In):Tr xJ.Res:=.ite (al d.2.2.1.1 d.2.2.1.2.1) (.ret (.ret (((bt d.2.1.2.1 d.2.2.1.1 (d7 d.2)).1,()),iD d.2.1.2.1 d.2.2.1.1 (bt d.2.1.2.1 d.2.2.1.1 (d7 d.2)).2))) .no
abbrev aaq:List (Nat×Hc):=[(143,ae cB ew),(168,ae qK QA)]
theorem acA:HcOk prog 167 (ae xJ TR):=
 mc (one:=kC) (sps:=bt) (fun _ _ _=>by unfold bt;rfl) (fun _ _ _ h4=>Fo h4) (cs:=aaq) (.cons cY (.cons af3 .nil)) (fn:=Tryz.f167) (by kernel_rfl) (by kernel_rfl) (by kernel_rfl) (by kernel_rfl) (by kernel_rfl) (by kernel_rfl) (by intros;kernel_rfl) (by intros;kernel_rfl)
abbrev tV:Io:=⟨[.ptr 0 0,.fnc 168 false [1]],wc,[],[.dat (.sl 212 az) false false],none⟩
def Ml (d:tV.In):Tr tV.Res:=.ite (decide (d.2.1.2.2.1≠0)) (.ret (.ret ((([]:List az.den),()),d.2))) .no
abbrev Wx:List (Nat×Hc):=[(143,eX di (ae eM jO) (ae cB ew))]
theorem XF:HcOk prog 167 (ae tV Ml):=
 t4 (cs:=Wx) (.cons (bb jj cY) .nil) (fn:=Tryz.f167) (by kernel_rfl) (by kernel_rfl) (by kernel_rfl) (by kernel_rfl) (by kernel_rfl) (by kernel_rfl) (by intros;kernel_rfl) (by intros;kernel_rfl)
def ad4:ij.den:=(([]:List az.den),(0,()))
def q6 (v:Int)(b:LI):ij.den×aD:=
 (((bt v b (0,0)).1,((ao .i32 4 v 1 3 b (bt v b (0,0)).2).1,())),(ao .i32 4 v 1 3 b (bt v b (0,0)).2).2)
def eh (v:Int)(b:LI):ij.den×Int:=if 0≤v∧v≤3∧(b.length:Int)≤130048 then (if aE b (q6 v b).2=0 then ((q6 v b).1,0) else (ad4,aE b (q6 v b).2)) else (ad4,bg v)
abbrev vV:Io:=⟨[dI,dL],[],[],[.dat ij true false,dI],none⟩
def Zv (d:vV.In):Tr vV.Res:=.ret (.ret (((eh d.1.1 d.1.2.1).1,((eh d.1.1 d.1.2.1).2,())),()))
abbrev aaw:List (Nat×Hc):=[(139,eX zW (ae jE o8) (ae lZ AF)),(140,eX di (ae jD rL) (ae iI pq)),(143,eX di (ae eM jO) (ae cB ew)),(167,eX di (ae tV Ml) (ae xJ TR)),(150,eX di (ae jC rK) (ae lW AC))]
def ai3:Hd:=bM aaw
def abT:Lp:=bB []
def MX (a0:Int)(a1:LI):Option vV.Res:=bif !(decide (0≤a0)&&(decide (a0≤3)&&decide ((↑a1.length:Int)≤130048))) then bif decide (0≤a0)&&(decide (a0≤3)&&decide ((↑a1.length:Int)≤130048)) then none else bif decide (bg a0≠0) then bif decide (bg a0≠0) then bif decide (bg a0≠0) then bif bg a0 != 0 then oR ((([],0,()),bg a0,()),()) else oR ((([],0,()),0,()),()) else none else none else none else bif decide (0≤a0)&&(decide (a0≤3)&&decide ((↑a1.length:Int)≤130048)) then bif al a1 0 then bif aQ a0 1 3 (bt a0 a1 (0,0)).2.1 then bif al a1 (bt a0 a1 (0,0)).2.2 then bif aE a1 (ab i32 4 a1 (bt a0 a1 (0,0)).2).2 != 0 then oR ((([],0,()),aE a1 (ab i32 4 a1 (bt a0 a1 (0,0)).2).2,()),()) else oR ((((bt a0 a1 (0,0)).1,(ab i32 4 a1 (bt a0 a1 (0,0)).2).1,()),0,()),()) else none else bif aE a1 (bt a0 a1 (0,0)).2 != 0 then oR ((([],0,()),aE a1 (bt a0 a1 (0,0)).2,()),()) else oR ((((bt a0 a1 (0,0)).1,0,()),0,()),()) else none else none
theorem agS (a0:Int)(a1:LI):Io.run tt ai3 dr abT vV Tryz.f75 ((a0,a1,()),())=MX a0 a1:=by kernel_rfl
theorem ajg:HcOk prog 75 (ae vV Zv):=by
 refine cg (cs:=aaw) (.cons (bb up z0) (.cons (bb uo nG) (.cons (bb jj cY) (.cons (bb XF acA) (.cons (bb un zX) .nil))))) (lp:=abT) (fn:=Tryz.f75) vV (.done (by kernel_rfl)) Zv ?_
 rintro ⟨⟨(v:Int),(b:LI),⟨⟩⟩,⟨⟩⟩ out hw ho
 cases ho
 refine (agS v b).trans ?_
 unfold MX
 show _=oR (((eh v b).1,((eh v b).2,())),())
 by_cases h:0≤v∧v≤3∧(b.length:Int)≤130048
 ·have hc:(decide (0≤v)&&(decide (v≤3)&&decide ((b.length:Int)≤130048)))=true:=by simpa using h
  refine bF (by rw[hc];rfl) ?_
  refine (aa hc _ _).trans ?_
  have hg:al b 0=true:=by simp[al];omega
  unfold eh q6
  rw[if_pos h]
  have g1:al b (bt v b (0,0)).2.2=true:=PR (s:=(0,0)) hg
  refine (aa hg _ _).trans ?_
  show (bif aQ v 1 3 (bt v b (0,0)).2.1 then _ else _)=_
  cases h2:aQ v 1 3 (bt v b (0,0)).2.1
  ·have e2:ao .i32 4 v 1 3 b (bt v b (0,0)).2=(0,(bt v b (0,0)).2):=by unfold ao;rw[if_neg (by rw[h2];decide)]
   rw[e2]
   show _=oR (((if aE b (bt v b (0,0)).2=0 then _ else _:ij.den×Int).1,_),())
   by_cases hE:aE b (bt v b (0,0)).2=0
   ·rw[if_pos hE]
    exact af (show (aE b (bt v b (0,0)).2 != 0)=false by simpa using hE) _ _
   ·rw[if_neg hE]
    exact aa (show (aE b (bt v b (0,0)).2 != 0)=true by simpa using hE) _ _
  ·have e2:ao .i32 4 v 1 3 b (bt v b (0,0)).2=ab .i32 4 b (bt v b (0,0)).2:=by unfold ao;rw[if_pos h2]
   rw[e2]
   refine (aa g1 _ _).trans ?_
   by_cases hE:aE b (ab .i32 4 b (bt v b (0,0)).2).2=0
   ·rw[if_pos hE]
    exact af (by simpa using hE) _ _
   ·rw[if_neg hE]
    exact aa (by simpa using hE) _ _
 ·have hc:(decide (0≤v)&&(decide (v≤3)&&decide ((b.length:Int)≤130048)))=false:=by
   rw[Bool.eq_false_iff]
   intro h'
   simp only[zA,zB] at h'
   exact h h'
  have hn:bg v≠0:=by unfold bg;split <;> decide
  unfold eh
  rw[if_neg h]
  refine bT (by rw[hc];rfl) ?_
  refine (af hc _ _).trans ?_
  refine bT (decide_eq_true hn) ?_
  refine bT (decide_eq_true hn) ?_
  refine bT (decide_eq_true hn) ?_
  exact aa (by simpa using hn) _ _
abbrev av (k n:Int):Nd:=.mk (k,(n,(false,(([]:LI),())))) []
abbrev gd (s:LI):Nd:=.mk (5,(0,(false,(s,())))) []
abbrev ji (x:fv.den):Nd:=.mk (6,(0,(x.1,(x.2.1,())))) []
abbrev iN (x:rB.den):Nd:=.mk (8,(0,(x.1,(x.2.1,())))) []
abbrev bq (l:List Nd):Nd:=.mk (10,(0,(false,(([]:LI),())))) l
abbrev ba (l:List Nd):Nd:=.mk (9,(0,(false,(([]:LI),())))) l
theorem dQ {n:Int}(h:eD .i32 n):i64.wrap n=n:=by
 simp only[eD,IntKind.min,IntKind.max,IntKind.signed,IntKind.bits] at h
 simp at h
 exact aI (by omega) (by omega)
theorem gJ {n:Int}(h:eD .i16 n):i64.wrap n=n:=by
 simp only[eD,IntKind.min,IntKind.max,IntKind.signed,IntKind.bits] at h
 simp at h
 exact aI (by omega) (by omega)
def gp (p:cJ.den):Nd:=bq [av 3 p.1,iN p.2.1]
theorem SZ {p:cJ.den}(h:cJ.wf p):bq [av 3 (i64.wrap p.1),iN p.2.1]=gp p:=by
 rw[dQ h.1];rfl
def c6 (t:ar.den):Nd:=bq [gd t.1,ba (t.2.1.map gp)]
@[irreducible] def bv (m:ik.den):Nd:=bq [ji m.1,av 2 m.2.1,av 3 m.2.2.1,ba (m.2.2.2.1.map c6)]
theorem Jo (n:Nd):n.lab.2.2.2.1.length≤aM n:=by rw[dA];omega
theorem dC (n:Nd):aK n.kids≤aM n:=by rw[dA];omega
theorem gY (n:Nd)(i:Int):aM (aY n i)≤aM n:=by
 unfold aY
 split
 ·rename_i h
  have hlt:i.toNat<n.kids.length:=by omega
  rw[aJ hlt]
  have:=cI (List.getElem_mem hlt)
  have:=dC n
  omega
 ·have:=pT n
  have h0:=bQ
  rw[dA (Tre.mk _ _)]
  show 1+0+aK []≤aM n
  omega
def nX (x:Nd):cJ.den:=(i32.wrap (aY x 0).lab.2.1,((aY x 1).lab.2.2,()))
def ln (x:Nd):ar.den:=((aY x 0).lab.2.2.2.1,((aY x 1).kids.map nX,()))
@[irreducible] def uD (n:Nd):ik.den:=(((aY n 0).lab.2.2.1,((aY n 0).lab.2.2.2.1,())),(i16.wrap (aY n 1).lab.2.1,(i32.wrap (aY n 2).lab.2.1,((aY n 3).kids.map ln,()))))
def gn (p:bR.den):Nd:=bq [av 3 p.1,av 2 p.2.1,av 4 p.2.2.1,av 4 p.2.2.2.1,av 4 p.2.2.2.2.1]
theorem SY {p:bR.den}(h:bR.wf p):bq [av 3 (i64.wrap p.1),av 2 (i64.wrap p.2.1),av 4 p.2.2.1,av 4 p.2.2.2.1,av 4 p.2.2.2.2.1]=gn p:=by
 rw[dQ h.1,gJ h.2.1];rfl
def dX (t:az.den):Nd:=bq [gd t.1,ba (t.2.1.map gn)]
@[irreducible] def bu (m:ij.den):Nd:=bq [ba (m.1.map dX),av 3 m.2.1]
def nP (x:Nd):bR.den:=(i32.wrap (aY x 0).lab.2.1,(i16.wrap (aY x 1).lab.2.1,((aY x 2).lab.2.1,((aY x 3).lab.2.1,((aY x 4).lab.2.1,())))))
def nS (x:Nd):az.den:=((aY x 0).lab.2.2.2.1,((aY x 1).kids.map nP,()))
@[irreducible] def uC (n:Nd):ij.den:=((aY n 0).kids.map nS,(i32.wrap (aY n 1).lab.2.1,()))
abbrev iM:Io:=⟨[.dat ik true false],[],[],[dH],none⟩
def dF (l:List ar.den):Bool:=decide (l.length≤4294967296)&&l.all fun t=>decide (t.2.1.length≤4294967296)
def tz (d:iM.In):Tr iM.Res:=.ite (dF d.1.1.2.2.2.1) (.ret (.ret ((bv d.1.1,()),()))) .no
abbrev Eb:List (Nat×Hc):=[(181,ae kZ wO),(182,ae iR r4),(180,ae ma AO),(183,ae jG r5),(184,ae iS pX),(185,ae lL Co)]
def vL:Hd:=bM Eb
abbrev eU:Lo:=⟨⟨(.any::.one (.ptr 1 0)::.one (.ptr 2 0)::.one (.onl 91 ap 7)::.one hI::.one (.onl 91 ap 11)::.one hI::.any::am (am (am (am (dq (ce [])))))),[none,some [hL,.hol .str,hK,hJ,.hol (.sl 172 ar)],some [hI,hI,hL,.onl 5 (Ty.int u8) 1032,.onl 91 ap 1034]]⟩,[(.exit 2,⟨(.any::.one (.ptr 1 0)::.one (.ptr 2 0)::.one (.onl 91 ap 7)::.one hI::.one (.onl 91 ap 11)::am (am (am (am (gE []))))),[none,some [hL,.hol .str,hK,hJ,.hol (.sl 172 ar)],some [hI,hI,hL,.onl 5 (Ty.int u8) 1032,.onl 91 ap 1034]]⟩)]⟩
abbrev eT:Lo:=⟨⟨(.any::.one (.ptr 1 0)::.one (.ptr 2 0)::.one (.onl 91 ap 7)::.one hI::.any::am (am (am (am (gE []))))),[none,some [hL,.hol .str,hK,hJ,.hol (.sl 172 ar)],some [hI,hI,hL,.onl 5 (Ty.int u8) 1032,.onl 91 ap 1034]]⟩,[(.exit 0,⟨(.any::.one (.ptr 1 0)::.one (.ptr 2 0)::.one (.onl 91 ap 7)::am (am (am (am (gE (ce [])))))),[none,some [hL,.hol .str,hK,hJ,.hol (.sl 172 ar)],some [hI,hI,hL,.onl 5 (Ty.int u8) 1032,.onl 91 ap 1034]]⟩)]⟩
def ox (d:eU.st.den):Tr (aH eU.xs):=
 .ite ((decide ((0:Int)≤d.1.2.1)&&decide (d.1.2.1<(d.2.1.2.2.2.2.1.length:Int)))&&((decide (d.1.2.2.1.length=0)&&decide (d.1.2.2.2.1=0))&&decide ((d.2.1.2.2.2.2.1.getD d.1.2.1.toNat ar.zero).2.1.length≤4294967296)))
  (.ret (.ret ((),((d.1.1,(d.1.2.1,((d.2.1.2.2.2.2.1.getD d.1.2.1.toNat ar.zero).2.1.map gp,()))),(d.2.1,(d.2.2.1,())))))) .no
def ov (d:eT.st.den):Tr (aH eT.xs):=
 .ite ((decide (d.1.1.length=0)&&decide (d.1.2.1=0))&&dF d.2.1.2.2.2.2.1)
  (.ret (.ret ((),((d.2.1.2.2.2.2.1.map c6,()),(d.2.1,(d.2.2.1,())))))) .no
def ld:Lp:=bB [(4,aS eT ov),(8,aS eU ox)]
def tf {R:Type}(h17:List ap.den)(h18:Int)(h19:List ap.den)(h20:Int)(h21:Bool)(h22:LI)(h23 h24:Int)(h25:List ar.den)(h26 h27:Int)(h28:Bool)(h29:LI)(h30:List ap.den)(next:List ap.den→Int→List ap.den→Int→Bool→LI→Int→Int→List ar.den→Int→Int→Bool→LI→List ap.den→Option R)(out:aH eU.xs→Option R):Option R:=bif decide (0≤h18)&&decide (h18<(↑h25.length:Int)) then bif decide (h20<(↑(List.length (h25.getD h18.toNat ([],[],())).2.1):Int)) then bif decide (0≤h18)&&decide (h18<(↑h25.length:Int)) then bif decide (0≤h20)&&decide (h20<(↑(List.length (h25.getD h18.toNat ([],[],())).2.1):Int)) then bif decide (h19.length+1≤4294967296) then next (h17) (h18) (h19++[Tre.mk (10,0,false,[],()) [Tre.mk (3,i64.wrap (List.getD (h25.getD h18.toNat ([],[],())).2.1 h20.toNat (0,(false,[],()),())).1,false,[],()) [],Tre.mk (8,0,(List.getD (h25.getD h18.toNat ([],[],())).2.1 h20.toNat (0,(false,[],()),())).2.1) []]]) (i64.wrap (h20+1)) (h21) (h22) (h23) (h24) (h25) (h26) (h27) (h28) (h29) (h30) else none else none else none else out (.ret ((),((h17,(h18,(h19,()))),((h21,(h22,(h23,(h24,(h25,()))))),((h26,(h27,(h28,(h29,(h30,()))))),()))))) else none
def mL (n:Nat)(h17:List ap.den)(h18:Int)(h19:List ap.den)(h20:Int)(h21:Bool)(h22:LI)(h23 h24:Int)(h25:List ar.den)(h26 h27:Int)(h28:Bool)(h29:LI)(h30:List ap.den):Option (aH eU.xs):=il tt vL dr ld 0 Tryz.f84 (pV Tryz.f84 (db Tryz.f84 0) 0) n (eU.st.mk' ((h17,(h18,(h19,(h20,())))),((h21,(h22,(h23,(h24,(h25,()))))),((h26,(h27,(h28,(h29,(h30,()))))),())))) (ci eU.xs)
theorem LZ (n:Nat)(h17:List ap.den)(h18:Int)(h19:List ap.den)(h20:Int)(h21:Bool)(h22:LI)(h23 h24:Int)(h25:List ar.den)(h26 h27:Int)(h28:Bool)(h29:LI)(h30:List ap.den):mL (n+1) h17 h18 h19 h20 h21 h22 h23 h24 h25 h26 h27 h28 h29 h30=tf h17 h18 h19 h20 h21 h22 h23 h24 h25 h26 h27 h28 h29 h30 (mL n) some:=by kernel_rfl
def td {R:Type}(h5:List ap.den)(h6:Int)(h7:Bool)(h8:LI)(h9 h10:Int)(h11:List ar.den)(h12 h13:Int)(h14:Bool)(h15:LI)(h16:List ap.den)(next:List ap.den→Int→Bool→LI→Int→Int→List ar.den→Int→Int→Bool→LI→List ap.den→Option R)(out:aH eT.xs→Option R):Option R:=bif decide (h6<(↑h11.length:Int)) then (ox ((h5,(h6,([],(0,())))),((h7,(h8,(h9,(h10,(h11,()))))),((h12,(h13,(h14,(h15,(h16,()))))),())))).run fun y=>match y with | .ret ((),((x58,x59,x60,()),(x61,x62,x63,x64,x65,()),(x66,x67,x68,x69,x70,()),()))=>(bif decide (0≤x59)&&decide (x59<(↑x65.length:Int)) then bif decide (x58.length+1≤4294967296) then next (x58++[Tre.mk (10,0,false,[],()) [Tre.mk (5,0,false,(x65.getD x59.toNat ([],[],())).1,()) [],Tre.mk (9,0,false,[],()) x60]]) (i64.wrap (x59+1)) (x61) (x62) (x63) (x64) (x65) (x66) (x67) (x68) (x69) (x70) else none else none) else out (.ret ((),((h5,()),((h7,(h8,(h9,(h10,(h11,()))))),((h12,(h13,(h14,(h15,(h16,()))))),())))))
def mK (n:Nat)(h5:List ap.den)(h6:Int)(h7:Bool)(h8:LI)(h9 h10:Int)(h11:List ar.den)(h12 h13:Int)(h14:Bool)(h15:LI)(h16:List ap.den):Option (aH eT.xs):=il tt vL dr ld 0 Tryz.f84 (db Tryz.f84 0) n (eT.st.mk' ((h5,(h6,())),((h7,(h8,(h9,(h10,(h11,()))))),((h12,(h13,(h14,(h15,(h16,()))))),())))) (ci eT.xs)
theorem LY (n:Nat)(h5:List ap.den)(h6:Int)(h7:Bool)(h8:LI)(h9 h10:Int)(h11:List ar.den)(h12 h13:Int)(h14:Bool)(h15:LI)(h16:List ap.den):mK (n+1) h5 h6 h7 h8 h9 h10 h11 h12 h13 h14 h15 h16=td h5 h6 h7 h8 h9 h10 h11 h12 h13 h14 h15 h16 (mK n) some:=by kernel_rfl
theorem EM {ts:List ar.den}(hw:∀t∈ts,ar.wf t)(hl:ts.length≤maxLen){i:Nat}(hi:i<ts.length)(hp:(ts[i]).2.1.length≤4294967296)(acc:List Nd)(nz:Bool)(ns:LI)(ak wt a' b':Int)(z':Bool)(x':LI)(l':List Nd):∀(k j:Nat) (o:List Nd),(ts[i]).2.1.length<j+k→j≤(ts[i]).2.1.length→o.length≤j→
  mL k acc i o j nz ns ak wt ts a' b' z' x' l'=some (.ret ((),((acc,((i:Int),(o++((ts[i]).2.1.drop j).map gp,()))),((nz,(ns,(ak,(wt,(ts,()))))),((a',(b',(z',(x',(l',()))))),()))))):=by
 intro k
 induction k with
 |zero=>intro j o h1 h2;omega
 |succ k ih=>
  intro j o h1 h2 h3
  rw[LZ]
  unfold tf
  refine bT (by simp;omega) ?_
  have hti:=hw _ (List.getElem_mem hi)
  simp only[zG,aJ hi]
  generalize ts[i]=t at hp h1 h2 ih hti ⊢
  by_cases hj:j<t.2.1.length
  ·refine bT (decide_eq_true (show (j:Int)<(t.2.1.length:Int) by omega)) ?_
   refine bT (by simp;omega) ?_
   refine bT (by simp;omega) ?_
   refine bT (decide_eq_true (show o.length+1≤4294967296 by omega)) ?_
   have hpw:=hti.2.1.2 _ (List.getElem_mem hj)
   have ih':=ih (j+1) (o++[gp t.2.1[j]]) (by omega) (by omega) (by simp;omega)
   have hd:t.2.1.drop j=t.2.1[j]::t.2.1.drop (j+1):=zE hj
   rw[hd,aI (n:=(j:Int)+1) (by omega) (by omega)]
   have hgp:List.getD t.2.1 ((j:Int)).toNat cJ.zero=t.2.1[j]:=by simp only[zG];exact aJ hj
   refine Eq.trans ?_ (ih'.trans ?_)
   ·refine congrArg (fun x=>mL k acc i (o++[x]) _ nz ns ak wt ts a' b' z' x' l') ?_
    show bq [av 3 (i64.wrap (List.getD t.2.1 ((j:Int)).toNat cJ.zero).1),iN (List.getD t.2.1 ((j:Int)).toNat cJ.zero).2.1]=_
    rw[hgp]
    exact SZ hpw
   ·simp only[zL,zK,zM]
  ·refine bF (decide_eq_false (show ¬(j:Int)<(t.2.1.length:Int) by omega)) ?_
   rw[zI (by omega)]
   simp
theorem EL {ts:List ar.den}(hw:∀t∈ts,ar.wf t)(hl:ts.length≤maxLen)(hs:dF ts=true)(nz:Bool)(ns:LI)(ak wt a' b':Int)(z':Bool)(x':LI)(l':List Nd):∀(k j:Nat) (o:List Nd),ts.length<j+k→j≤ts.length→o.length≤j→
  mK k o j nz ns ak wt ts a' b' z' x' l'=some (.ret ((),((o++(ts.drop j).map c6,()),((nz,(ns,(ak,(wt,(ts,()))))),((a',(b',(z',(x',(l',()))))),()))))):=by
 intro k
 have hs1:=(zA _ _▸hs).1
 have hs2:=(zA _ _▸hs).2
 have hs1:ts.length≤4294967296:=of_decide_eq_true hs1
 induction k with
 |zero=>intro j o h1 h2;omega
 |succ k ih=>
  intro j o h1 h2 h3
  rw[LY]
  unfold td
  by_cases hj:j<ts.length
  ·refine bT (decide_eq_true (show (j:Int)<(ts.length:Int) by omega)) ?_
   have hgp:ts.getD ((j:Int)).toNat ar.zero=ts[j]:=by simp only[zG];exact aJ hj
   have hpl:(ts[j]).2.1.length≤4294967296:=of_decide_eq_true (List.all_eq_true.1 hs2 _ (List.getElem_mem hj))
   have c8:((decide ((0:Int)≤(j:Int))&&decide ((j:Int)<(ts.length:Int)))&&((decide (([]:List Nd).length=0)&&decide ((0:Int)=0))&&decide ((ts.getD ((j:Int)).toNat ar.zero).2.1.length≤4294967296)))=true:=by
    rw[hgp];simp;omega
   refine (aa c8 _ _).trans ?_
   refine bT (by simp;omega) ?_
   refine bT (decide_eq_true (show o.length+1≤4294967296 by omega)) ?_
   rw[aI (n:=(j:Int)+1) (by omega) (by omega)]
   have ih':=ih (j+1) (o++[c6 ts[j]]) (by omega) (by omega) (by simp;omega)
   have hd:ts.drop j=ts[j]::ts.drop (j+1):=zE hj
   rw[hd]
   refine Eq.trans ?_ (ih'.trans ?_)
   ·refine congrArg (fun x=>mK k (o++[x]) _ nz ns ak wt ts a' b' z' x' l') ?_
    show (bq [gd (ts.getD ((j:Int)).toNat ar.zero).1,ba ((ts.getD ((j:Int)).toNat ar.zero).2.1.map gp)])=_
    rw[hgp];rfl
   ·simp only[zL,zK,zM]
  ·refine bF (decide_eq_false (show ¬(j:Int)<(ts.length:Int) by omega)) ?_
   rw[zI (by omega)]
   simp
def xl (a0:Bool)(a1:LI)(a2 a3:Int)(a4:List ar.den):Option iM.Res:=(ov (([],(0,())),((a0,(a1,(a2,(a3,(a4,()))))),((0,(0,(false,([],([],()))))),())))).run fun y=>match y with | .ret ((),((x94,()),(x95,x96,x97,x98,x99,()),(x100,x101,x102,x103,x104,()),()))=>(oR ((Tre.mk (10,0,false,[],()) [Tre.mk (6,0,x95,x96,()) [],Tre.mk (2,i64.wrap x97,false,[],()) [],Tre.mk (3,i64.wrap x98,false,[],()) [],Tre.mk (9,0,false,[],()) x94],()),()))
theorem Pn (a0:Bool)(a1:LI)(a2 a3:Int)(a4:List ar.den):Io.run tt vL dr ld iM Tryz.f84 ((((a0,a1,()),a2,a3,a4,()),()),())=xl a0 a1 a2 a3 a4:=by kernel_rfl
theorem qj:HcsOk prog Eb:=.cons we (.cons Ab (.cons Ac (.cons uu (.cons q4 (.cons O3 .nil)))))
theorem E2:HcOk prog 84 (ae iM tz):=by
 refine cg qj (lp:=ld) (fn:=Tryz.f84) iM (.step (h0:=aS eT ov) (by kernel_rfl) (jh qj (lp:=ld) (fn:=Tryz.f84) (.step (h0:=aS eU ox) (by kernel_rfl) (jh qj (lp:=ld) (fn:=Tryz.f84) (.done (by kernel_rfl)) eU ox ?_) (.done (by kernel_rfl))) eT ov ?_) (.done (by kernel_rfl))) tz ?_
 ·rintro ⟨⟨(acc:List Nd),(i:Int),(o:List Nd),(j:Int),⟨⟩⟩,⟨⟨(nz:Bool),(ns:LI),(ak:Int),(wt:Int),(ts:List ar.den),⟨⟩⟩,⟨(a':Int),(b':Int),(z':Bool),(x':LI),(l':List Nd),⟨⟩⟩,⟨⟩⟩⟩ y hw hy
  obtain ⟨hg,hy⟩:=Tr.guard hy
  simp only[zA,zB] at hg
  obtain ⟨⟨h1,h2⟩,⟨h3,h4⟩,h5⟩:=hg
  have h1:0≤i:=h1
  have h2:i<(ts.length:Int):=h2
  have h3:o=[]:=zF h3
  have h4:j=0:=h4
  obtain ⟨i,rfl⟩:=eK h1
  subst h3
  subst h4
  have hi:i<ts.length:=by omega
  have hgp:ts.getD ((i:Int)).toNat ar.zero=ts[i]:=by simp only[zG];exact aJ hi
  have h5:(ts.getD ((i:Int)).toNat ar.zero).2.1.length≤4294967296:=h5
  rw[hgp] at h5
  have hwt:ts.length≤maxLen∧∀t∈ts,ar.wf t:=by have:=hw.2.1.2.2.2.2.1;exact this
  refine ⟨(ts[i]).2.1.length+1,(EM hwt.2 hwt.1 hi h5 acc nz ns ak wt a' b' z' x' l' ((ts[i]).2.1.length+1) 0 [] (by omega) (by omega) (by simp)).trans ?_⟩
  rw[← hy,← hgp,List.drop_zero]
  rfl
 ·rintro ⟨⟨(o:List Nd),(j:Int),⟨⟩⟩,⟨⟨(nz:Bool),(ns:LI),(ak:Int),(wt:Int),(ts:List ar.den),⟨⟩⟩,⟨(a':Int),(b':Int),(z':Bool),(x':LI),(l':List Nd),⟨⟩⟩,⟨⟩⟩⟩ y hw hy
  obtain ⟨hg,hy⟩:=Tr.guard hy
  simp only[zA,zB] at hg
  obtain ⟨⟨h3,h4⟩,h5⟩:=hg
  have h3:o=[]:=zF h3
  have h4:j=0:=h4
  have h5:dF ts=true:=h5
  subst h3
  subst h4
  have hwt:ts.length≤maxLen∧∀t∈ts,ar.wf t:=by have:=hw.2.1.2.2.2.2.1;exact this
  refine ⟨ts.length+1,(EL hwt.2 hwt.1 h5 nz ns ak wt a' b' z' x' l' (ts.length+1) 0 [] (by omega) (by omega) (by simp)).trans ?_⟩
  rw[← hy,List.drop_zero]
  rfl
 ·rintro ⟨⟨⟨⟨(nz:Bool),(ns:LI),⟨⟩⟩,(ak:Int),(wt:Int),(ts:List ar.den),⟨⟩⟩,⟨⟩⟩,⟨⟩⟩ out hw ho
  obtain ⟨hg,ho⟩:=Tr.guard ho
  have hg:dF ts=true:=hg
  cases ho
  refine (Pn nz ns ak wt ts).trans ?_
  unfold xl
  have c1:((decide (([]:List Nd).length=0)&&decide ((0:Int)=0))&&dF ts)=true:=by rw[hg];rfl
  refine (aa c1 _ _).trans ?_
  show _=oR ((bv ((nz,(ns,())),(ak,(wt,(ts,())))),()),())
  unfold bv
  have h1:i64.wrap ak=ak:=gJ hw.1.1.2.1
  have h2:i64.wrap wt=wt:=dQ hw.1.1.2.2.1
  show oR ((bq [ji (nz,(ns,())),av 2 (i64.wrap ak),av 3 (i64.wrap wt),ba (ts.map c6)],()),())=_
  rw[h1,h2]
abbrev nE:Io:=⟨[dH],[],[],[.dat ik true false],none⟩
def Kl (d:nE.In):Tr nE.Res:=.ite (decide (aM d.1.1≤4294967296)) (.ret (.ret ((uD d.1.1,()),()))) .no
abbrev NF:List (Nat×Hc):=[(164,ae rD Mj),(163,ae j5 wN),(165,ae iQ rY)]
def Er:Hd:=bM NF
abbrev fQ:Lo:=⟨⟨(ce (.one (.ptr 2 0)::.one (.ptr 3 0)::.one (.hol (.sl 91 ap))::.one hI::.one (.ptr 6 0)::.one (.hol (.sl 91 ap))::.one hI::.any::am (am (am (am (ce [])))))),[none,none,some [hL,.hol .str,hK,hJ,.onl 172 ar 1034],some [hL,.hol .str,hK,hJ,.onl 172 ar 1546],none,none,some [.hol .str,.onl 178 cJ 3076]]⟩,[(.exit 2,⟨(ce (.one (.ptr 2 0)::.one (.ptr 3 0)::.one (.hol (.sl 91 ap))::.one hI::.one (.ptr 6 0)::.any::am (am (am (am (dq [])))))),[none,none,some [hL,.hol .str,hK,hJ,.onl 172 ar 1034],some [hL,.hol .str,hK,hJ,.onl 172 ar 1546],none,none,some [.hol .str,.onl 178 cJ 3076]]⟩)]⟩
abbrev gR:Lo:=⟨⟨(ce (.one (.ptr 2 0)::.one (.ptr 3 0)::.one (.hol (.sl 91 ap))::.one hI::am (am (am (am (dq (ce []))))))),[none,none,some [hL,.hol .str,hK,hJ,.onl 172 ar 1034],some [hL,.hol .str,hK,hJ,.onl 172 ar 1546]]⟩,[(.exit 0,⟨(ce (.one (.ptr 2 0)::.one (.ptr 3 0)::am (am (am (am (gE [])))))),[none,none,some [hL,.hol .str,hK,hJ,.onl 172 ar 1034],some [hL,.hol .str,hK,hJ,.onl 172 ar 1546]]⟩)]⟩
def p4 (d:fQ.st.den):Tr (aH fQ.xs):=
 .ite ((decide (d.1.2.2.2.1=0)&&decide (d.2.2.2.1.2.1.length=0))&&decide (aK d.1.2.2.1≤4294967296))
  (.ret (.ret ((),((d.1.1,(d.1.2.1,())),(d.2.1,(d.2.2.1,((d.2.2.2.1.1,(d.1.2.2.1.map nX,())),()))))))) .no
def tB (d:gR.st.den):Tr (aH gR.xs):=
 .ite ((decide (d.1.2.1=0)&&decide (d.2.2.1.2.2.2.2.1.length=0))&&decide (aK d.1.1≤4294967296))
  (.ret (.ret ((),((),(d.2.1,((d.2.2.1.1,(d.2.2.1.2.1,(d.2.2.1.2.2.1,(d.2.2.1.2.2.2.1,(d.1.1.map ln,()))))),())))))) .no
def pA:Lp:=bB [(5,aS gR tB),(10,aS fQ p4)]
def vn {R:Type}(h13:List (Nd))(h14:Int)(h15:List (Nd))(h16:Int)(h17:Bool)(h18:LI)(h19 h20:Int)(h21:List ar.den)(h22:Bool)(h23:LI)(h24 h25:Int)(h26:List ar.den)(h27:LI)(h28:List cJ.den)(next:List (Nd)→Int→List (Nd)→Int→Bool→LI→Int→Int→List ar.den→Bool→LI→Int→Int→List ar.den→LI→List cJ.den→Option R)(out:aH fQ.xs→Option R):Option R:=bif decide (h16<(↑h15.length:Int)) then bif decide (0≤h16)&&decide (h16<(↑h15.length:Int)) then bif decide (0≤h16)&&decide (h16<(↑h15.length:Int)) then bif decide (List.length (aY (Tre.mk (h15.getD h16.toNat (Tre.mk (0,0,false,[],()) [])).1 (h15.getD h16.toNat (Tre.mk (0,0,false,[],()) [])).2) 1).1.2.2.2.1≤4294967296) then bif decide (h28.length+1≤4294967296) then next (h13) (h14) (h15) (i64.wrap (h16+1)) (h17) (h18) (h19) (h20) (h21) (h22) (h23) (h24) (h25) (h26) (h27) (h28++[(i32.wrap (aY (Tre.mk (h15.getD h16.toNat (Tre.mk (0,0,false,[],()) [])).1 (h15.getD h16.toNat (Tre.mk (0,0,false,[],()) [])).2) 0).1.2.1,(aY (Tre.mk (h15.getD h16.toNat (Tre.mk (0,0,false,[],()) [])).1 (h15.getD h16.toNat (Tre.mk (0,0,false,[],()) [])).2) 1).1.2.2,())]) else none else none else none else none else out (.ret ((),((h13,(h14,())),((h17,(h18,(h19,(h20,(h21,()))))),((h22,(h23,(h24,(h25,(h26,()))))),((h27,(h28,())),()))))))
def sD (n:Nat)(h13:List (Nd))(h14:Int)(h15:List (Nd))(h16:Int)(h17:Bool)(h18:LI)(h19 h20:Int)(h21:List ar.den)(h22:Bool)(h23:LI)(h24 h25:Int)(h26:List ar.den)(h27:LI)(h28:List cJ.den):Option (aH fQ.xs):=il tt Er dr pA 0 Tryz.f71 (pV Tryz.f71 (db Tryz.f71 0) 0) n (fQ.st.mk' ((h13,(h14,(h15,(h16,())))),((h17,(h18,(h19,(h20,(h21,()))))),((h22,(h23,(h24,(h25,(h26,()))))),((h27,(h28,())),()))))) (ci fQ.xs)
theorem Px (n:Nat)(h13:List (Nd))(h14:Int)(h15:List (Nd))(h16:Int)(h17:Bool)(h18:LI)(h19 h20:Int)(h21:List ar.den)(h22:Bool)(h23:LI)(h24 h25:Int)(h26:List ar.den)(h27:LI)(h28:List cJ.den):sD (n+1) h13 h14 h15 h16 h17 h18 h19 h20 h21 h22 h23 h24 h25 h26 h27 h28=vn h13 h14 h15 h16 h17 h18 h19 h20 h21 h22 h23 h24 h25 h26 h27 h28 (sD n) some:=by kernel_rfl
def yx {R:Type}(h1:List (Nd))(h2:Int)(h3:Bool)(h4:LI)(h5 h6:Int)(h7:List ar.den)(h8:Bool)(h9:LI)(h10 h11:Int)(h12:List ar.den)(next:List (Nd)→Int→Bool→LI→Int→Int→List ar.den→Bool→LI→Int→Int→List ar.den→Option R)(out:aH gR.xs→Option R):Option R:=bif decide (h2<(↑h1.length:Int)) then bif decide (0≤h2)&&decide (h2<(↑h1.length:Int)) then bif decide (0≤h2)&&decide (h2<(↑h1.length:Int)) then (p4 ((h1,(h2,((aY (Tre.mk (h1.getD h2.toNat (Tre.mk (0,0,false,[],()) [])).1 (h1.getD h2.toNat (Tre.mk (0,0,false,[],()) [])).2) 1).2,(0,())))),((h3,(h4,(h5,(h6,(h7,()))))),((h8,(h9,(h10,(h11,(h12,()))))),(((aY (Tre.mk (h1.getD h2.toNat (Tre.mk (0,0,false,[],()) [])).1 (h1.getD h2.toNat (Tre.mk (0,0,false,[],()) [])).2) 0).1.2.2.2.1,([],())),()))))).run fun y=>match y with | .ret ((),((x59,x60,()),(x61,x62,x63,x64,x65,()),(x66,x67,x68,x69,x70,()),(x71,x72,()),()))=>(bif decide (x70.length+1≤4294967296) then next (x59) (i64.wrap (x60+1)) (x61) (x62) (x63) (x64) (x65) (x66) (x67) (x68) (x69) (x70++[(x71,x72,())]) else none) else none else none else out (.ret ((),((),((h3,(h4,(h5,(h6,(h7,()))))),((h8,(h9,(h10,(h11,(h12,()))))),())))))
def v6 (n:Nat)(h1:List (Nd))(h2:Int)(h3:Bool)(h4:LI)(h5 h6:Int)(h7:List ar.den)(h8:Bool)(h9:LI)(h10 h11:Int)(h12:List ar.den):Option (aH gR.xs):=il tt Er dr pA 0 Tryz.f71 (db Tryz.f71 0) n (gR.st.mk' ((h1,(h2,())),((h3,(h4,(h5,(h6,(h7,()))))),((h8,(h9,(h10,(h11,(h12,()))))),())))) (ci gR.xs)
theorem SM (n:Nat)(h1:List (Nd))(h2:Int)(h3:Bool)(h4:LI)(h5 h6:Int)(h7:List ar.den)(h8:Bool)(h9:LI)(h10 h11:Int)(h12:List ar.den):v6 (n+1) h1 h2 h3 h4 h5 h6 h7 h8 h9 h10 h11 h12=yx h1 h2 h3 h4 h5 h6 h7 h8 h9 h10 h11 h12 (v6 n) some:=by kernel_rfl
theorem Gv {ps:List Nd}(hb:aK ps≤4294967296)(dc:List Nd)(i:Int)(nz0:Bool)(ns0:LI)(ak0 wt0:Int)(ts0:List ar.den)(nz:Bool)(ns:LI)(ak wt:Int)(ts:List ar.den)(tn:LI):∀(k j:Nat) (o:List cJ.den),ps.length<j+k→j≤ps.length→o.length≤j→
  sD k dc i ps j nz0 ns0 ak0 wt0 ts0 nz ns ak wt ts tn o=some (.ret ((),((dc,(i,())),((nz0,(ns0,(ak0,(wt0,(ts0,()))))),((nz,(ns,(ak,(wt,(ts,()))))),((tn,(o++(ps.drop j).map nX,())),())))))):=by
 intro k
 have hlen:=dG ps
 induction k with
 |zero=>intro j o h1 h2;omega
 |succ k ih=>
  intro j o h1 h2 h3
  rw[Px]
  unfold vn
  by_cases hj:j<ps.length
  ·refine bT (decide_eq_true (show (j:Int)<(ps.length:Int) by omega)) ?_
   have hmem:=cI (List.getElem_mem hj)
   have ih':=ih (j+1) (o++[nX ps[j]]) (by omega) (by omega) (by simp;omega)
   have hd:ps.drop j=ps[j]::ps.drop (j+1):=zE hj
   rw[hd,aI (n:=(j:Int)+1) (by omega) (by omega)]
   simp only[zG,aJ hj]
   generalize ps[j]=u at hmem ih' ⊢
   obtain ⟨ul,uk⟩:=u
   refine bT (by simp;omega) ?_
   refine bT (by simp;omega) ?_
   refine bT (decide_eq_true (show (aY (Tre.mk ul uk) 1).lab.2.2.2.1.length≤4294967296 by have:=gY (Tre.mk ul uk) 1;have:=Jo (aY (Tre.mk ul uk) 1);omega)) ?_
   refine bT (decide_eq_true (show o.length+1≤4294967296 by omega)) ?_
   refine ih'.trans ?_
   simp only[zL,zK,zM]
  ·refine bF (decide_eq_false (show ¬(j:Int)<(ps.length:Int) by omega)) ?_
   rw[zI (by omega)]
   simp
theorem La {nds:List Nd}(hb:aK nds≤4294967296)(nz0:Bool)(ns0:LI)(ak0 wt0:Int)(ts0:List ar.den)(nz:Bool)(ns:LI)(ak wt:Int):∀(k j:Nat) (ts:List ar.den),nds.length<j+k→j≤nds.length→ts.length≤j→
  v6 k nds j nz0 ns0 ak0 wt0 ts0 nz ns ak wt ts=some (.ret ((),((),((nz0,(ns0,(ak0,(wt0,(ts0,()))))),((nz,(ns,(ak,(wt,(ts++(nds.drop j).map ln,()))))),()))))):=by
 intro k
 have hlen:=dG nds
 induction k with
 |zero=>intro j o h1 h2;omega
 |succ k ih=>
  intro j ts h1 h2 h3
  rw[SM]
  unfold yx
  by_cases hj:j<nds.length
  ·refine bT (decide_eq_true (show (j:Int)<(nds.length:Int) by omega)) ?_
   have hmem:=cI (List.getElem_mem hj)
   have ih':=ih (j+1) (ts++[ln nds[j]]) (by omega) (by omega) (by simp;omega)
   have hd:nds.drop j=nds[j]::nds.drop (j+1):=zE hj
   rw[hd]
   simp only[zG,aJ hj]
   generalize nds[j]=u at hmem ih' ⊢
   obtain ⟨ul,uk⟩:=u
   refine bT (by simp;omega) ?_
   refine bT (by simp;omega) ?_
   have hw1:=gY (Tre.mk ul uk) 1
   have hw2:=dC (aY (Tre.mk ul uk) 1)
   have cA:((decide ((0:Int)=0)&&decide (([]:List cJ.den).length=0))&&decide (aK (aY (Tre.mk ul uk) 1).kids≤4294967296))=true:=by simp;omega
   refine (aa cA _ _).trans ?_
   refine bT (decide_eq_true (show ts.length+1≤4294967296 by omega)) ?_
   rw[aI (n:=(j:Int)+1) (by omega) (by omega)]
   refine ih'.trans ?_
   simp only[zL,zK,zM]
  ·refine bF (decide_eq_false (show ¬(j:Int)<(nds.length:Int) by omega)) ?_
   rw[zI (by omega)]
   simp
def DW (a0:Nd):Option nE.Res:=(tB (((aY (Tre.mk a0.1 a0.2) 3).2,(0,())),((false,([],(0,(0,([],()))))),(((aY (Tre.mk a0.1 a0.2) 0).1.2.2.1,((aY (Tre.mk a0.1 a0.2) 0).1.2.2.2.1,(i16.wrap (aY (Tre.mk a0.1 a0.2) 1).1.2.1,(i32.wrap (aY (Tre.mk a0.1 a0.2) 2).1.2.1,([],()))))),())))).run fun y=>match y with | .ret ((),((),(x95,x96,x97,x98,x99,()),(x100,x101,x102,x103,x104,()),()))=>(oR ((((x100,x101,()),x102,x103,x104,()),()),()))
theorem Yp (a0:Nd):Io.run tt Er dr pA nE Tryz.f71 ((a0,()),())=DW a0:=by kernel_rfl
theorem vJ:HcsOk prog NF:=.cons I5 (.cons I6 (.cons z9 .nil))
theorem acD:HcOk prog 71 (ae nE Kl):=by
 refine cg vJ (lp:=pA) (fn:=Tryz.f71) nE (.step (h0:=aS gR tB) (by kernel_rfl) (jh vJ (lp:=pA) (fn:=Tryz.f71) (.step (h0:=aS fQ p4) (by kernel_rfl) (jh vJ (lp:=pA) (fn:=Tryz.f71) (.done (by kernel_rfl)) fQ p4 ?_) (.done (by kernel_rfl))) gR tB ?_) (.done (by kernel_rfl))) Kl ?_
 ·rintro ⟨⟨(dc:List Nd),(i:Int),(ps:List Nd),(j:Int),⟨⟩⟩,⟨⟨(nz0:Bool),(ns0:LI),(ak0:Int),(wt0:Int),(ts0:List ar.den),⟨⟩⟩,⟨(nz:Bool),(ns:LI),(ak:Int),(wt:Int),(ts:List ar.den),⟨⟩⟩,⟨(tn:LI),(o:List cJ.den),⟨⟩⟩,⟨⟩⟩⟩ y hw hy
  obtain ⟨hg,hy⟩:=Tr.guard hy
  simp only[zA,zB] at hg
  obtain ⟨⟨h1,h2⟩,h3⟩:=hg
  have h1:j=0:=h1
  have h2:o=[]:=zF h2
  have h3:aK ps≤4294967296:=h3
  subst h1
  subst h2
  refine ⟨ps.length+1,(Gv h3 dc i nz0 ns0 ak0 wt0 ts0 nz ns ak wt ts tn (ps.length+1) 0 [] (by omega) (by omega) (by simp)).trans ?_⟩
  rw[← hy,List.drop_zero]
  rfl
 ·rintro ⟨⟨(nds:List Nd),(j:Int),⟨⟩⟩,⟨⟨(nz0:Bool),(ns0:LI),(ak0:Int),(wt0:Int),(ts0:List ar.den),⟨⟩⟩,⟨(nz:Bool),(ns:LI),(ak:Int),(wt:Int),(ts:List ar.den),⟨⟩⟩,⟨⟩⟩⟩ y hw hy
  obtain ⟨hg,hy⟩:=Tr.guard hy
  simp only[zA,zB] at hg
  obtain ⟨⟨h1,h2⟩,h3⟩:=hg
  have h1:j=0:=h1
  have h2:ts=[]:=zF h2
  have h3:aK nds≤4294967296:=h3
  subst h1
  subst h2
  refine ⟨nds.length+1,(La h3 nz0 ns0 ak0 wt0 ts0 nz ns ak wt (nds.length+1) 0 [] (by omega) (by omega) (by simp)).trans ?_⟩
  rw[← hy,List.drop_zero]
  rfl
 ·rintro ⟨⟨(n:Nd),⟨⟩⟩,⟨⟩⟩ out hw ho
  obtain ⟨hg,ho⟩:=Tr.guard ho
  have hg:aM n≤4294967296:=of_decide_eq_true hg
  cases ho
  refine (Yp n).trans ?_
  unfold DW
  obtain ⟨nl,nk⟩:=n
  have hw1:=gY (Tre.mk nl nk) 3
  have hw2:=dC (aY (Tre.mk nl nk) 3)
  have c1:((decide ((0:Int)=0)&&decide (([]:List ar.den).length=0))&&decide (aK (aY (Tre.mk nl nk) 3).kids≤4294967296))=true:=by simp;omega
  refine (aa c1 _ _).trans ?_
  show _=oR ((uD (Tre.mk nl nk),()),())
  unfold uD
  rfl
abbrev iL:Io:=⟨[.dat ij true false],[],[],[dH],none⟩
def dE (l:List az.den):Bool:=decide (l.length≤4294967296)&&l.all fun t=>decide (t.2.1.length≤4294967296)
def tw (d:iL.In):Tr iL.Res:=.ite (dE d.1.1.1) (.ret (.ret ((bu d.1.1,()),()))) .no
abbrev Ea:List (Nat×Hc):=[(181,ae kZ wO),(182,ae iR r4),(180,ae ma AO),(183,ae jG r5),(184,ae iS pX),(185,ae lL Co)]
def vK:Hd:=bM Ea
abbrev eS:Lo:=⟨⟨(.any::.one (.ptr 1 0)::.one (.ptr 2 0)::.one (.onl 91 ap 7)::.one hI::.one (.onl 91 ap 11)::.one hI::am (am (am (am (gE (dq [])))))),[none,some [.hol (.sl 212 az),hJ],some [hI,hI,hL,.onl 5 (Ty.int u8) 1032,.onl 91 ap 1034]]⟩,[(.exit 2,⟨(.any::.one (.ptr 1 0)::.one (.ptr 2 0)::.one (.onl 91 ap 7)::.one hI::.one (.onl 91 ap 11)::.any::am (am (am (am (gE (dq [])))))),[none,some [.hol (.sl 212 az),hJ],some [hI,hI,hL,.onl 5 (Ty.int u8) 1032,.onl 91 ap 1034]]⟩)]⟩
abbrev eR:Lo:=⟨⟨(.any::.one (.ptr 1 0)::.one (.ptr 2 0)::.one (.onl 91 ap 7)::.one hI::am (am (am (am (gE (dq (ce []))))))),[none,some [.hol (.sl 212 az),hJ],some [hI,hI,hL,.onl 5 (Ty.int u8) 1032,.onl 91 ap 1034]]⟩,[(.exit 0,⟨(.any::.one (.ptr 1 0)::.one (.ptr 2 0)::.one (.onl 91 ap 7)::.any::am (am (am (am (gE (dq (ce []))))))),[none,some [.hol (.sl 212 az),hJ],some [hI,hI,hL,.onl 5 (Ty.int u8) 1032,.onl 91 ap 1034]]⟩)]⟩
def ou (d:eS.st.den):Tr (aH eS.xs):=
 .ite ((decide ((0:Int)≤d.1.2.1)&&decide (d.1.2.1<(d.2.1.1.length:Int)))&&((decide (d.1.2.2.1.length=0)&&decide (d.1.2.2.2.1=0))&&decide ((d.2.1.1.getD d.1.2.1.toNat az.zero).2.1.length≤4294967296)))
  (.ret (.ret ((),((d.1.1,(d.1.2.1,((d.2.1.1.getD d.1.2.1.toNat az.zero).2.1.map gn,()))),(d.2.1,(d.2.2.1,())))))) .no
def oq (d:eR.st.den):Tr (aH eR.xs):=
 .ite ((decide (d.1.1.length=0)&&decide (d.1.2.1=0))&&dE d.2.1.1)
  (.ret (.ret ((),((d.2.1.1.map dX,()),(d.2.1,(d.2.2.1,())))))) .no
def lc:Lp:=bB [(4,aS eR oq),(8,aS eS ou)]
def tc {R:Type}(h11:List ap.den)(h12:Int)(h13:List ap.den)(h14:Int)(h15:List az.den)(h16 h17 h18:Int)(h19:Bool)(h20:LI)(h21:List ap.den)(next:List ap.den→Int→List ap.den→Int→List az.den→Int→Int→Int→Bool→LI→List ap.den→Option R)(out:aH eS.xs→Option R):Option R:=bif decide (0≤h12)&&decide (h12<(↑h15.length:Int)) then bif decide (h14<(↑(List.length (h15.getD h12.toNat ([],[],())).2.1):Int)) then bif decide (0≤h12)&&decide (h12<(↑h15.length:Int)) then bif decide (0≤h14)&&decide (h14<(↑(List.length (h15.getD h12.toNat ([],[],())).2.1):Int)) then bif decide (h13.length+1≤4294967296) then next (h11) (h12) (h13++[Tre.mk (10,0,false,[],()) [Tre.mk (3,i64.wrap (List.getD (h15.getD h12.toNat ([],[],())).2.1 h14.toNat (0,0,0,0,0,())).1,false,[],()) [],Tre.mk (2,i64.wrap (List.getD (h15.getD h12.toNat ([],[],())).2.1 h14.toNat (0,0,0,0,0,())).2.1,false,[],()) [],Tre.mk (4,(List.getD (h15.getD h12.toNat ([],[],())).2.1 h14.toNat (0,0,0,0,0,())).2.2.1,false,[],()) [],Tre.mk (4,(List.getD (h15.getD h12.toNat ([],[],())).2.1 h14.toNat (0,0,0,0,0,())).2.2.2.1,false,[],()) [],Tre.mk (4,(List.getD (h15.getD h12.toNat ([],[],())).2.1 h14.toNat (0,0,0,0,0,())).2.2.2.2.1,false,[],()) []]]) (i64.wrap (h14+1)) (h15) (h16) (h17) (h18) (h19) (h20) (h21) else none else none else none else out (.ret ((),((h11,(h12,(h13,()))),((h15,(h16,())),((h17,(h18,(h19,(h20,(h21,()))))),()))))) else none
def mJ (n:Nat)(h11:List ap.den)(h12:Int)(h13:List ap.den)(h14:Int)(h15:List az.den)(h16 h17 h18:Int)(h19:Bool)(h20:LI)(h21:List ap.den):Option (aH eS.xs):=il tt vK dr lc 0 Tryz.f119 (pV Tryz.f119 (db Tryz.f119 0) 0) n (eS.st.mk' ((h11,(h12,(h13,(h14,())))),((h15,(h16,())),((h17,(h18,(h19,(h20,(h21,()))))),())))) (ci eS.xs)
theorem LX (n:Nat)(h11:List ap.den)(h12:Int)(h13:List ap.den)(h14:Int)(h15:List az.den)(h16 h17 h18:Int)(h19:Bool)(h20:LI)(h21:List ap.den):mJ (n+1) h11 h12 h13 h14 h15 h16 h17 h18 h19 h20 h21=tc h11 h12 h13 h14 h15 h16 h17 h18 h19 h20 h21 (mJ n) some:=by kernel_rfl
def ta {R:Type}(h2:List ap.den)(h3:Int)(h4:List az.den)(h5 h6 h7:Int)(h8:Bool)(h9:LI)(h10:List ap.den)(next:List ap.den→Int→List az.den→Int→Int→Int→Bool→LI→List ap.den→Option R)(out:aH eR.xs→Option R):Option R:=bif decide (h3<(↑h4.length:Int)) then (ou ((h2,(h3,([],(0,())))),((h4,(h5,())),((h6,(h7,(h8,(h9,(h10,()))))),())))).run fun y=>match y with | .ret ((),((x43,x44,x45,()),(x46,x47,()),(x48,x49,x50,x51,x52,()),()))=>(bif decide (0≤x44)&&decide (x44<(↑x46.length:Int)) then bif decide (x43.length+1≤4294967296) then next (x43++[Tre.mk (10,0,false,[],()) [Tre.mk (5,0,false,(x46.getD x44.toNat ([],[],())).1,()) [],Tre.mk (9,0,false,[],()) x45]]) (i64.wrap (x44+1)) (x46) (x47) (x48) (x49) (x50) (x51) (x52) else none else none) else out (.ret ((),((h2,()),((h4,(h5,())),((h6,(h7,(h8,(h9,(h10,()))))),())))))
def mI (n:Nat)(h2:List ap.den)(h3:Int)(h4:List az.den)(h5 h6 h7:Int)(h8:Bool)(h9:LI)(h10:List ap.den):Option (aH eR.xs):=il tt vK dr lc 0 Tryz.f119 (db Tryz.f119 0) n (eR.st.mk' ((h2,(h3,())),((h4,(h5,())),((h6,(h7,(h8,(h9,(h10,()))))),())))) (ci eR.xs)
theorem LW (n:Nat)(h2:List ap.den)(h3:Int)(h4:List az.den)(h5 h6 h7:Int)(h8:Bool)(h9:LI)(h10:List ap.den):mI (n+1) h2 h3 h4 h5 h6 h7 h8 h9 h10=ta h2 h3 h4 h5 h6 h7 h8 h9 h10 (mI n) some:=by kernel_rfl
theorem EK {ts:List az.den}(hw:∀t∈ts,az.wf t)(hl:ts.length≤maxLen){i:Nat}(hi:i<ts.length)(hp:(ts[i]).2.1.length≤4294967296)(acc:List Nd)(th a' b':Int)(z':Bool)(x':LI)(l':List Nd):∀(k j:Nat) (o:List Nd),(ts[i]).2.1.length<j+k→j≤(ts[i]).2.1.length→o.length≤j→
  mJ k acc i o j ts th a' b' z' x' l'=some (.ret ((),((acc,((i:Int),(o++((ts[i]).2.1.drop j).map gn,()))),((ts,(th,())),((a',(b',(z',(x',(l',()))))),()))))):=by
 intro k
 induction k with
 |zero=>intro j o h1 h2;omega
 |succ k ih=>
  intro j o h1 h2 h3
  rw[LX]
  unfold tc
  refine bT (by simp;omega) ?_
  have hti:=hw _ (List.getElem_mem hi)
  simp only[zG,aJ hi]
  generalize ts[i]=t at hp h1 h2 ih hti ⊢
  by_cases hj:j<t.2.1.length
  ·refine bT (decide_eq_true (show (j:Int)<(t.2.1.length:Int) by omega)) ?_
   refine bT (by simp;omega) ?_
   refine bT (by simp;omega) ?_
   refine bT (decide_eq_true (show o.length+1≤4294967296 by omega)) ?_
   have hpw:=hti.2.1.2 _ (List.getElem_mem hj)
   have ih':=ih (j+1) (o++[gn t.2.1[j]]) (by omega) (by omega) (by simp;omega)
   have hd:t.2.1.drop j=t.2.1[j]::t.2.1.drop (j+1):=zE hj
   rw[hd,aI (n:=(j:Int)+1) (by omega) (by omega)]
   have hgp:List.getD t.2.1 ((j:Int)).toNat bR.zero=t.2.1[j]:=by simp only[zG];exact aJ hj
   refine Eq.trans ?_ (ih'.trans ?_)
   ·refine congrArg (fun x=>mJ k acc i (o++[x]) _ ts th a' b' z' x' l') ?_
    show bq [av 3 (i64.wrap (List.getD t.2.1 ((j:Int)).toNat bR.zero).1),av 2 (i64.wrap (List.getD t.2.1 ((j:Int)).toNat bR.zero).2.1),av 4 (List.getD t.2.1 ((j:Int)).toNat bR.zero).2.2.1,av 4 (List.getD t.2.1 ((j:Int)).toNat bR.zero).2.2.2.1,av 4 (List.getD t.2.1 ((j:Int)).toNat bR.zero).2.2.2.2.1]=_
    rw[hgp]
    exact SY hpw
   ·simp only[zL,zK,zM]
  ·refine bF (decide_eq_false (show ¬(j:Int)<(t.2.1.length:Int) by omega)) ?_
   rw[zI (by omega)]
   simp
theorem EJ {ts:List az.den}(hw:∀t∈ts,az.wf t)(hl:ts.length≤maxLen)(hs:dE ts=true)(th a' b':Int)(z':Bool)(x':LI)(l':List Nd):∀(k j:Nat) (o:List Nd),ts.length<j+k→j≤ts.length→o.length≤j→
  mI k o j ts th a' b' z' x' l'=some (.ret ((),((o++(ts.drop j).map dX,()),((ts,(th,())),((a',(b',(z',(x',(l',()))))),()))))):=by
 intro k
 have hs1:=(zA _ _▸hs).1
 have hs2:=(zA _ _▸hs).2
 have hs1:ts.length≤4294967296:=of_decide_eq_true hs1
 induction k with
 |zero=>intro j o h1 h2;omega
 |succ k ih=>
  intro j o h1 h2 h3
  rw[LW]
  unfold ta
  by_cases hj:j<ts.length
  ·refine bT (decide_eq_true (show (j:Int)<(ts.length:Int) by omega)) ?_
   have hgp:ts.getD ((j:Int)).toNat az.zero=ts[j]:=by simp only[zG];exact aJ hj
   have hpl:(ts[j]).2.1.length≤4294967296:=of_decide_eq_true (List.all_eq_true.1 hs2 _ (List.getElem_mem hj))
   have c8:((decide ((0:Int)≤(j:Int))&&decide ((j:Int)<(ts.length:Int)))&&((decide (([]:List Nd).length=0)&&decide ((0:Int)=0))&&decide ((ts.getD ((j:Int)).toNat az.zero).2.1.length≤4294967296)))=true:=by
    rw[hgp];simp;omega
   refine (aa c8 _ _).trans ?_
   refine bT (by simp;omega) ?_
   refine bT (decide_eq_true (show o.length+1≤4294967296 by omega)) ?_
   rw[aI (n:=(j:Int)+1) (by omega) (by omega)]
   have ih':=ih (j+1) (o++[dX ts[j]]) (by omega) (by omega) (by simp;omega)
   have hd:ts.drop j=ts[j]::ts.drop (j+1):=zE hj
   rw[hd]
   refine Eq.trans ?_ (ih'.trans ?_)
   ·refine congrArg (fun x=>mI k (o++[x]) _ ts th a' b' z' x' l') ?_
    show (bq [gd (ts.getD ((j:Int)).toNat az.zero).1,ba ((ts.getD ((j:Int)).toNat az.zero).2.1.map gn)])=_
    rw[hgp];rfl
   ·simp only[zL,zK,zM]
  ·refine bF (decide_eq_false (show ¬(j:Int)<(ts.length:Int) by omega)) ?_
   rw[zI (by omega)]
   simp
def xk (a0:List az.den)(a1:Int):Option iL.Res:=(oq (([],(0,())),((a0,(a1,())),((0,(0,(false,([],([],()))))),())))).run fun y=>match y with | .ret ((),((x70,()),(x71,x72,()),(x73,x74,x75,x76,x77,()),()))=>(oR ((Tre.mk (10,0,false,[],()) [Tre.mk (9,0,false,[],()) x70,Tre.mk (3,i64.wrap x72,false,[],()) []],()),()))
theorem Pm (a0:List az.den)(a1:Int):Io.run tt vK dr lc iL Tryz.f119 (((a0,a1,()),()),())=xk a0 a1:=by kernel_rfl
theorem qi:HcsOk prog Ea:=.cons we (.cons Ab (.cons Ac (.cons uu (.cons q4 (.cons O3 .nil)))))
theorem E1:HcOk prog 119 (ae iL tw):=by
 refine cg qi (lp:=lc) (fn:=Tryz.f119) iL (.step (h0:=aS eR oq) (by kernel_rfl) (jh qi (lp:=lc) (fn:=Tryz.f119) (.step (h0:=aS eS ou) (by kernel_rfl) (jh qi (lp:=lc) (fn:=Tryz.f119) (.done (by kernel_rfl)) eS ou ?_) (.done (by kernel_rfl))) eR oq ?_) (.done (by kernel_rfl))) tw ?_
 ·rintro ⟨⟨(acc:List Nd),(i:Int),(o:List Nd),(j:Int),⟨⟩⟩,⟨⟨(ts:List az.den),(th:Int),⟨⟩⟩,⟨(a':Int),(b':Int),(z':Bool),(x':LI),(l':List Nd),⟨⟩⟩,⟨⟩⟩⟩ y hw hy
  obtain ⟨hg,hy⟩:=Tr.guard hy
  simp only[zA,zB] at hg
  obtain ⟨⟨h1,h2⟩,⟨h3,h4⟩,h5⟩:=hg
  have h1:0≤i:=h1
  have h2:i<(ts.length:Int):=h2
  have h3:o=[]:=zF h3
  have h4:j=0:=h4
  obtain ⟨i,rfl⟩:=eK h1
  subst h3
  subst h4
  have hi:i<ts.length:=by omega
  have hgp:ts.getD ((i:Int)).toNat az.zero=ts[i]:=by simp only[zG];exact aJ hi
  have h5:(ts.getD ((i:Int)).toNat az.zero).2.1.length≤4294967296:=h5
  rw[hgp] at h5
  have hwt:ts.length≤maxLen∧∀t∈ts,az.wf t:=by have:=hw.2.1.1;exact this
  refine ⟨(ts[i]).2.1.length+1,(EK hwt.2 hwt.1 hi h5 acc th a' b' z' x' l' ((ts[i]).2.1.length+1) 0 [] (by omega) (by omega) (by simp)).trans ?_⟩
  rw[← hy,← hgp,List.drop_zero]
  rfl
 ·rintro ⟨⟨(o:List Nd),(j:Int),⟨⟩⟩,⟨⟨(ts:List az.den),(th:Int),⟨⟩⟩,⟨(a':Int),(b':Int),(z':Bool),(x':LI),(l':List Nd),⟨⟩⟩,⟨⟩⟩⟩ y hw hy
  obtain ⟨hg,hy⟩:=Tr.guard hy
  simp only[zA,zB] at hg
  obtain ⟨⟨h3,h4⟩,h5⟩:=hg
  have h3:o=[]:=zF h3
  have h4:j=0:=h4
  have h5:dE ts=true:=h5
  subst h3
  subst h4
  have hwt:ts.length≤maxLen∧∀t∈ts,az.wf t:=by have:=hw.2.1.1;exact this
  refine ⟨ts.length+1,(EJ hwt.2 hwt.1 h5 th a' b' z' x' l' (ts.length+1) 0 [] (by omega) (by omega) (by simp)).trans ?_⟩
  rw[← hy,List.drop_zero]
  rfl
 ·rintro ⟨⟨⟨(ts:List az.den),(th:Int),⟨⟩⟩,⟨⟩⟩,⟨⟩⟩ out hw ho
  obtain ⟨hg,ho⟩:=Tr.guard ho
  have hg:dE ts=true:=hg
  cases ho
  refine (Pm ts th).trans ?_
  unfold xk
  have c1:((decide (([]:List Nd).length=0)&&decide ((0:Int)=0))&&dE ts)=true:=by rw[hg];rfl
  refine (aa c1 _ _).trans ?_
  show _=oR ((bu (ts,(th,())),()),())
  unfold bu
  have h1:i64.wrap th=th:=dQ hw.1.1.2.1
  show oR ((bq [ba (ts.map dX),av 3 (i64.wrap th)],()),())=_
  rw[h1]
abbrev nD:Io:=⟨[dH],[],[],[.dat ij true false],none⟩
def Kk (d:nD.In):Tr nD.Res:=.ite (decide (aM d.1.1≤4294967296)) (.ret (.ret ((uC d.1.1,()),()))) .no
abbrev NE:List (Nat×Hc):=[(164,ae rD Mj),(163,ae j5 wN),(165,ae iQ rY)]
def Ep:Hd:=bM NE
abbrev fP:Lo:=⟨⟨(ce (.one (.ptr 2 0)::.one (.ptr 3 0)::.one (.hol (.sl 91 ap))::.one hI::.one (.ptr 6 0)::.one (.hol (.sl 91 ap))::.one hI::.any::am (am (am (am (gE [])))))),[none,none,some [.onl 212 az 1026,hJ],some [.onl 212 az 1538,hJ],none,none,some [.hol .str,.onl 214 bR 3076]]⟩,[(.exit 2,⟨(ce (.one (.ptr 2 0)::.one (.ptr 3 0)::.one (.hol (.sl 91 ap))::.one hI::.one (.ptr 6 0)::.any::am (am (am (am (gE (ce []))))))),[none,none,some [.onl 212 az 1026,hJ],some [.onl 212 az 1538,hJ],none,none,some [.hol .str,.onl 214 bR 3076]]⟩)]⟩
abbrev gQ:Lo:=⟨⟨(ce (.one (.ptr 2 0)::.one (.ptr 3 0)::.one (.hol (.sl 91 ap))::.one hI::am (am (am (am (gE (dq []))))))),[none,none,some [.onl 212 az 1026,hJ],some [.onl 212 az 1538,hJ]]⟩,[(.exit 0,⟨(ce (.one (.ptr 2 0)::.one (.ptr 3 0)::am (am (am (am (gE (dq (ce [])))))))),[none,none,some [.onl 212 az 1026,hJ],some [.onl 212 az 1538,hJ]]⟩)]⟩
def pZ (d:fP.st.den):Tr (aH fP.xs):=
 .ite ((decide (d.1.2.2.2.1=0)&&decide (d.2.2.2.1.2.1.length=0))&&decide (aK d.1.2.2.1≤4294967296))
  (.ret (.ret ((),((d.1.1,(d.1.2.1,())),(d.2.1,(d.2.2.1,((d.2.2.2.1.1,(d.1.2.2.1.map nP,())),()))))))) .no
def tA (d:gQ.st.den):Tr (aH gQ.xs):=
 .ite ((decide (d.1.2.1=0)&&decide (d.2.2.1.1.length=0))&&decide (aK d.1.1≤4294967296))
  (.ret (.ret ((),((),(d.2.1,((d.1.1.map nS,(d.2.2.1.2.1,())),())))))) .no
def pz:Lp:=bB [(5,aS gQ tA),(10,aS fP pZ)]
def vm {R:Type}(h7:List (Nd))(h8:Int)(h9:List (Nd))(h10:Int)(h11:List az.den)(h12:Int)(h13:List az.den)(h14:Int)(h15:LI)(h16:List bR.den)(next:List (Nd)→Int→List (Nd)→Int→List az.den→Int→List az.den→Int→LI→List bR.den→Option R)(out:aH fP.xs→Option R):Option R:=bif decide (h10<(↑h9.length:Int)) then bif decide (0≤h10)&&decide (h10<(↑h9.length:Int)) then bif decide (h16.length+1≤4294967296) then next (h7) (h8) (h9) (i64.wrap (h10+1)) (h11) (h12) (h13) (h14) (h15) (h16++[(i32.wrap (aY (Tre.mk (h9.getD h10.toNat (Tre.mk (0,0,false,[],()) [])).1 (h9.getD h10.toNat (Tre.mk (0,0,false,[],()) [])).2) 0).1.2.1,i16.wrap (aY (Tre.mk (h9.getD h10.toNat (Tre.mk (0,0,false,[],()) [])).1 (h9.getD h10.toNat (Tre.mk (0,0,false,[],()) [])).2) 1).1.2.1,(aY (Tre.mk (h9.getD h10.toNat (Tre.mk (0,0,false,[],()) [])).1 (h9.getD h10.toNat (Tre.mk (0,0,false,[],()) [])).2) 2).1.2.1,(aY (Tre.mk (h9.getD h10.toNat (Tre.mk (0,0,false,[],()) [])).1 (h9.getD h10.toNat (Tre.mk (0,0,false,[],()) [])).2) 3).1.2.1,(aY (Tre.mk (h9.getD h10.toNat (Tre.mk (0,0,false,[],()) [])).1 (h9.getD h10.toNat (Tre.mk (0,0,false,[],()) [])).2) 4).1.2.1,())]) else none else none else out (.ret ((),((h7,(h8,())),((h11,(h12,())),((h13,(h14,())),((h15,(h16,())),()))))))
def sC (n:Nat)(h7:List (Nd))(h8:Int)(h9:List (Nd))(h10:Int)(h11:List az.den)(h12:Int)(h13:List az.den)(h14:Int)(h15:LI)(h16:List bR.den):Option (aH fP.xs):=il tt Ep dr pz 0 Tryz.f78 (pV Tryz.f78 (db Tryz.f78 0) 0) n (fP.st.mk' ((h7,(h8,(h9,(h10,())))),((h11,(h12,())),((h13,(h14,())),((h15,(h16,())),()))))) (ci fP.xs)
theorem Pw (n:Nat)(h7:List (Nd))(h8:Int)(h9:List (Nd))(h10:Int)(h11:List az.den)(h12:Int)(h13:List az.den)(h14:Int)(h15:LI)(h16:List bR.den):sC (n+1) h7 h8 h9 h10 h11 h12 h13 h14 h15 h16=vm h7 h8 h9 h10 h11 h12 h13 h14 h15 h16 (sC n) some:=by kernel_rfl
def yw {R:Type}(h1:List (Nd))(h2:Int)(h3:List az.den)(h4:Int)(h5:List az.den)(h6:Int)(next:List (Nd)→Int→List az.den→Int→List az.den→Int→Option R)(out:aH gQ.xs→Option R):Option R:=bif decide (h2<(↑h1.length:Int)) then bif decide (0≤h2)&&decide (h2<(↑h1.length:Int)) then bif decide (0≤h2)&&decide (h2<(↑h1.length:Int)) then (pZ ((h1,(h2,((aY (Tre.mk (h1.getD h2.toNat (Tre.mk (0,0,false,[],()) [])).1 (h1.getD h2.toNat (Tre.mk (0,0,false,[],()) [])).2) 1).2,(0,())))),((h3,(h4,())),((h5,(h6,())),(((aY (Tre.mk (h1.getD h2.toNat (Tre.mk (0,0,false,[],()) [])).1 (h1.getD h2.toNat (Tre.mk (0,0,false,[],()) [])).2) 0).1.2.2.2.1,([],())),()))))).run fun y=>match y with | .ret ((),((x35,x36,()),(x37,x38,()),(x39,x40,()),(x41,x42,()),()))=>(bif decide (x39.length+1≤4294967296) then next (x35) (i64.wrap (x36+1)) (x37) (x38) (x39++[(x41,x42,())]) (x40) else none) else none else none else out (.ret ((),((),((h3,(h4,())),((h5,(h6,())),())))))
def v5 (n:Nat)(h1:List (Nd))(h2:Int)(h3:List az.den)(h4:Int)(h5:List az.den)(h6:Int):Option (aH gQ.xs):=il tt Ep dr pz 0 Tryz.f78 (db Tryz.f78 0) n (gQ.st.mk' ((h1,(h2,())),((h3,(h4,())),((h5,(h6,())),())))) (ci gQ.xs)
theorem SL (n:Nat)(h1:List (Nd))(h2:Int)(h3:List az.den)(h4:Int)(h5:List az.den)(h6:Int):v5 (n+1) h1 h2 h3 h4 h5 h6=yw h1 h2 h3 h4 h5 h6 (v5 n) some:=by kernel_rfl
theorem Gu {ps:List Nd}(hb:aK ps≤4294967296)(dc:List Nd)(i:Int)(ts0:List az.den)(th0:Int)(ts:List az.den)(th:Int)(tn:LI):∀(k j:Nat) (o:List bR.den),ps.length<j+k→j≤ps.length→o.length≤j→
  sC k dc i ps j ts0 th0 ts th tn o=some (.ret ((),((dc,(i,())),((ts0,(th0,())),((ts,(th,())),((tn,(o++(ps.drop j).map nP,())),())))))):=by
 intro k
 have hlen:=dG ps
 induction k with
 |zero=>intro j o h1 h2;omega
 |succ k ih=>
  intro j o h1 h2 h3
  rw[Pw]
  unfold vm
  by_cases hj:j<ps.length
  ·refine bT (decide_eq_true (show (j:Int)<(ps.length:Int) by omega)) ?_
   have hmem:=cI (List.getElem_mem hj)
   have ih':=ih (j+1) (o++[nP ps[j]]) (by omega) (by omega) (by simp;omega)
   have hd:ps.drop j=ps[j]::ps.drop (j+1):=zE hj
   rw[hd,aI (n:=(j:Int)+1) (by omega) (by omega)]
   simp only[zG,aJ hj]
   generalize ps[j]=u at hmem ih' ⊢
   obtain ⟨ul,uk⟩:=u
   refine bT (by simp;omega) ?_
   refine bT (decide_eq_true (show o.length+1≤4294967296 by omega)) ?_
   refine ih'.trans ?_
   simp only[zL,zK,zM]
  ·refine bF (decide_eq_false (show ¬(j:Int)<(ps.length:Int) by omega)) ?_
   rw[zI (by omega)]
   simp
theorem K9 {nds:List Nd}(hb:aK nds≤4294967296)(ts0:List az.den)(th0 th:Int):∀(k j:Nat) (ts:List az.den),nds.length<j+k→j≤nds.length→ts.length≤j→
  v5 k nds j ts0 th0 ts th=some (.ret ((),((),((ts0,(th0,())),((ts++(nds.drop j).map nS,(th,())),()))))):=by
 intro k
 have hlen:=dG nds
 induction k with
 |zero=>intro j o h1 h2;omega
 |succ k ih=>
  intro j ts h1 h2 h3
  rw[SL]
  unfold yw
  by_cases hj:j<nds.length
  ·refine bT (decide_eq_true (show (j:Int)<(nds.length:Int) by omega)) ?_
   have hmem:=cI (List.getElem_mem hj)
   have ih':=ih (j+1) (ts++[nS nds[j]]) (by omega) (by omega) (by simp;omega)
   have hd:nds.drop j=nds[j]::nds.drop (j+1):=zE hj
   rw[hd]
   simp only[zG,aJ hj]
   generalize nds[j]=u at hmem ih' ⊢
   obtain ⟨ul,uk⟩:=u
   refine bT (by simp;omega) ?_
   refine bT (by simp;omega) ?_
   have hw1:=gY (Tre.mk ul uk) 1
   have hw2:=dC (aY (Tre.mk ul uk) 1)
   have cA:((decide ((0:Int)=0)&&decide (([]:List bR.den).length=0))&&decide (aK (aY (Tre.mk ul uk) 1).kids≤4294967296))=true:=by simp;omega
   refine (aa cA _ _).trans ?_
   refine bT (decide_eq_true (show ts.length+1≤4294967296 by omega)) ?_
   rw[aI (n:=(j:Int)+1) (by omega) (by omega)]
   refine ih'.trans ?_
   simp only[zL,zK,zM]
  ·refine bF (decide_eq_false (show ¬(j:Int)<(nds.length:Int) by omega)) ?_
   rw[zI (by omega)]
   simp
def DV (a0:Nd):Option nD.Res:=(tA (((aY (Tre.mk a0.1 a0.2) 0).2,(0,())),(([],(0,())),(([],(i32.wrap (aY (Tre.mk a0.1 a0.2) 1).1.2.1,())),())))).run fun y=>match y with | .ret ((),((),(x53,x54,()),(x55,x56,()),()))=>(oR (((x55,x56,()),()),()))
theorem Yo (a0:Nd):Io.run tt Ep dr pz nD Tryz.f78 ((a0,()),())=DV a0:=by kernel_rfl
theorem vI:HcsOk prog NE:=.cons I5 (.cons I6 (.cons z9 .nil))
theorem acC:HcOk prog 78 (ae nD Kk):=by
 refine cg vI (lp:=pz) (fn:=Tryz.f78) nD (.step (h0:=aS gQ tA) (by kernel_rfl) (jh vI (lp:=pz) (fn:=Tryz.f78) (.step (h0:=aS fP pZ) (by kernel_rfl) (jh vI (lp:=pz) (fn:=Tryz.f78) (.done (by kernel_rfl)) fP pZ ?_) (.done (by kernel_rfl))) gQ tA ?_) (.done (by kernel_rfl))) Kk ?_
 ·rintro ⟨⟨(dc:List Nd),(i:Int),(ps:List Nd),(j:Int),⟨⟩⟩,⟨⟨(ts0:List az.den),(th0:Int),⟨⟩⟩,⟨(ts:List az.den),(th:Int),⟨⟩⟩,⟨(tn:LI),(o:List bR.den),⟨⟩⟩,⟨⟩⟩⟩ y hw hy
  obtain ⟨hg,hy⟩:=Tr.guard hy
  simp only[zA,zB] at hg
  obtain ⟨⟨h1,h2⟩,h3⟩:=hg
  have h1:j=0:=h1
  have h2:o=[]:=zF h2
  have h3:aK ps≤4294967296:=h3
  subst h1
  subst h2
  refine ⟨ps.length+1,(Gu h3 dc i ts0 th0 ts th tn (ps.length+1) 0 [] (by omega) (by omega) (by simp)).trans ?_⟩
  rw[← hy,List.drop_zero]
  rfl
 ·rintro ⟨⟨(nds:List Nd),(j:Int),⟨⟩⟩,⟨⟨(ts0:List az.den),(th0:Int),⟨⟩⟩,⟨(ts:List az.den),(th:Int),⟨⟩⟩,⟨⟩⟩⟩ y hw hy
  obtain ⟨hg,hy⟩:=Tr.guard hy
  simp only[zA,zB] at hg
  obtain ⟨⟨h1,h2⟩,h3⟩:=hg
  have h1:j=0:=h1
  have h2:ts=[]:=zF h2
  have h3:aK nds≤4294967296:=h3
  subst h1
  subst h2
  refine ⟨nds.length+1,(K9 h3 ts0 th0 th (nds.length+1) 0 [] (by omega) (by omega) (by simp)).trans ?_⟩
  rw[← hy,List.drop_zero]
  rfl
 ·rintro ⟨⟨(n:Nd),⟨⟩⟩,⟨⟩⟩ out hw ho
  obtain ⟨hg,ho⟩:=Tr.guard ho
  have hg:aM n≤4294967296:=of_decide_eq_true hg
  cases ho
  refine (Yo n).trans ?_
  unfold DV
  obtain ⟨nl,nk⟩:=n
  have hw1:=gY (Tre.mk nl nk) 0
  have hw2:=dC (aY (Tre.mk nl nk) 0)
  have c1:((decide ((0:Int)=0)&&decide (([]:List az.den).length=0))&&decide (aK (aY (Tre.mk nl nk) 0).kids≤4294967296))=true:=by simp;omega
  refine (aa c1 _ _).trans ?_
  show _=oR ((uC (Tre.mk nl nk),()),())
  unfold uC
  rfl
end
end Go.Proofs.YtomeplopmndbgaaGreat.Sym
namespace Go.Proofs.YtomeplopmndbgaaGreat.Sym
open Go
open Go.IntKind (i8 i16 i32 i64 u8 u16 u32 u64)
noncomputable section
theorem gr {n:Int}(h:eD .i32 n):i32.wrap n=n:=by
 simp only[eD,IntKind.min,IntKind.max,IntKind.signed,IntKind.bits] at h
 exact dY (by simp[eD,IntKind.min,IntKind.max,IntKind.signed,IntKind.bits];simpa using h)
theorem K2 {n:Int}(h:eD .i16 n):i16.wrap n=n:=by
 simp only[eD,IntKind.min,IntKind.max,IntKind.signed,IntKind.bits] at h
 exact dY (by simp[eD,IntKind.min,IntKind.max,IntKind.signed,IntKind.bits];simpa using h)
theorem e9 {α:Type}{f:α→α}{l:List α}(h:∀x∈l,f x=x):l.map f=l:=by
 conv=>rhs;rw[← List.map_id l]
 exact List.map_congr_left h
theorem GI {p:cJ.den}(h:cJ.wf p):nX (gp p)=p:=by
 obtain ⟨a,⟨z,x,⟨⟩⟩,⟨⟩⟩:=p
 show (i32.wrap a,_,_)=_
 rw[gr h.1];rfl
theorem FG {t:ar.den}(h:ar.wf t):ln (c6 t)=t:=by
 obtain ⟨n,l,⟨⟩⟩:=t
 show (n,((l.map gp).map nX,()))=_
 rw[List.map_map,e9 (f:=nX ∘ gp) (l:=l) fun p hp=>GI (h.2.1.2 p hp)]
theorem rj {m:ik.den}(h:ik.wf m):uD (bv m)=m:=by
 obtain ⟨⟨z,s,⟨⟩⟩,a,w,l,⟨⟩⟩:=m
 unfold uD bv
 show ((z,(s,())),(i16.wrap a,(i32.wrap w,((l.map c6).map ln,()))))=_
 rw[K2 (n:=a) h.2.1,gr (n:=w) h.2.2.1,List.map_map,e9 (f:=ln ∘ c6) (l:=l) fun t ht=>FG (h.2.2.2.1.2 t ht)]
theorem GG {p:bR.den}(h:bR.wf p):nP (gn p)=p:=by
 obtain ⟨a,b,c,d,e,⟨⟩⟩:=p
 show (i32.wrap a,(i16.wrap b,_))=_
 rw[gr h.1,K2 h.2.1];rfl
theorem GH {t:az.den}(h:az.wf t):nS (dX t)=t:=by
 obtain ⟨n,l,⟨⟩⟩:=t
 show (n,((l.map gn).map nP,()))=_
 rw[List.map_map,e9 (f:=nP ∘ gn) (l:=l) fun p hp=>GG (h.2.1.2 p hp)]
theorem rh {m:ij.den}(h:ij.wf m):uC (bu m)=m:=by
 obtain ⟨l,w,⟨⟩⟩:=m
 unfold uC bu
 show ((l.map dX).map nS,(i32.wrap w,()))=_
 rw[gr (n:=w) h.2.1,List.map_map,e9 (f:=nS ∘ dX) (l:=l) fun t ht=>GH (h.1.2 t ht)]
open Classical in
def kL {α:Type}(a b:α):Bool:=if a=b then true else false
theorem m3 {α:Type}{a b:α}:kL a b=true↔a=b:=by unfold kL;split <;> simp_all
abbrev jW:Io:=⟨[.dat ik true false],[],[],[.dat ik true false],none⟩
def yQ (d:jW.In):Tr jW.Res:=.ite (dF d.1.1.2.2.2.1&&decide (aM (bv d.1.1)≤4294967296)) (.ret (.ret ((d.1.1,()),()))) .no
abbrev Ed:List (Nat×Hc):=[(84,ae iM tz),(83,ae fC vx),(71,ae nE Kl)]
def Rf:Hd:=bM Ed
def ET:Lp:=bB []
def xn (a0:Bool)(a1:LI)(a2 a3:Int)(a4:List ar.den):Option jW.Res:=bif dF a4 then bif decide (aM (Tre.mk (bv ((a0,a1,()),a2,a3,a4,())).1 (bv ((a0,a1,()),a2,a3,a4,())).2)≤4294967296) then bif decide (aM (Tre.mk (bv ((a0,a1,()),a2,a3,a4,())).1 (bv ((a0,a1,()),a2,a3,a4,())).2)≤4294967296) then oR ((uD (Tre.mk (bv ((a0,a1,()),a2,a3,a4,())).1 (bv ((a0,a1,()),a2,a3,a4,())).2),()),()) else none else none else none
theorem Pp (a0:Bool)(a1:LI)(a2 a3:Int)(a4:List ar.den):Io.run tt Rf dr ET jW Tryz.f30 ((((a0,a1,()),a2,a3,a4,()),()),())=xn a0 a1 a2 a3 a4:=by kernel_rfl
theorem RW:HcOk prog 30 (ae jW yQ):=by
 refine cg (cs:=Ed) (.cons E2 (.cons uv (.cons acD .nil))) (lp:=ET) (fn:=Tryz.f30) jW (.done (by kernel_rfl)) yQ ?_
 rintro ⟨⟨m,⟨⟩⟩,⟨⟩⟩ out hw ho
 obtain ⟨hg,ho⟩:=Tr.guard ho
 simp only[zA,zB] at hg
 obtain ⟨h1,h2⟩:=hg
 have h1:dF m.2.2.2.1=true:=h1
 have h2:aM (bv m)≤4294967296:=h2
 cases ho
 have hf:=rj (m:=m) hw.1.1
 obtain ⟨⟨nz,ns,⟨⟩⟩,ak,wt,ts,⟨⟩⟩:=m
 refine (Pp nz ns ak wt ts).trans ?_
 unfold xn
 generalize bv ((nz,(ns,())),(ak,(wt,(ts,()))))=n at h2 hf ⊢
 obtain ⟨nl,nk⟩:=n
 refine (aa h1 _ _).trans ?_
 refine bT (decide_eq_true h2) ?_
 refine bT (decide_eq_true h2) ?_
 exact congrArg (fun x=>oR ((x,()),())) hf
@[irreducible] noncomputable def cZ (v:Int)(m:ik.den):LI×Int:=eE 0 false v (bv m)
abbrev jV:Io:=⟨[.dat ij true false],[],[],[.dat ij true false],none⟩
def yP (d:jV.In):Tr jV.Res:=.ite (dE d.1.1.1&&decide (aM (bu d.1.1)≤4294967296)) (.ret (.ret ((d.1.1,()),()))) .no
abbrev Ec:List (Nat×Hc):=[(119,ae iL tw),(83,ae fC vx),(78,ae nD Kk)]
def Re:Hd:=bM Ec
def ES:Lp:=bB []
def xm (a0:List az.den)(a1:Int):Option jV.Res:=bif dE a0 then bif decide (aM (Tre.mk (bu (a0,a1,())).1 (bu (a0,a1,())).2)≤4294967296) then bif decide (aM (Tre.mk (bu (a0,a1,())).1 (bu (a0,a1,())).2)≤4294967296) then oR ((uC (Tre.mk (bu (a0,a1,())).1 (bu (a0,a1,())).2),()),()) else none else none else none
theorem Po (a0:List az.den)(a1:Int):Io.run tt Re dr ES jV Tryz.f55 (((a0,a1,()),()),())=xm a0 a1:=by kernel_rfl
theorem RV:HcOk prog 55 (ae jV yP):=by
 refine cg (cs:=Ec) (.cons E1 (.cons uv (.cons acC .nil))) (lp:=ES) (fn:=Tryz.f55) jV (.done (by kernel_rfl)) yP ?_
 rintro ⟨⟨m,⟨⟩⟩,⟨⟩⟩ out hw ho
 obtain ⟨hg,ho⟩:=Tr.guard ho
 simp only[zA,zB] at hg
 obtain ⟨h1,h2⟩:=hg
 have h1:dE m.1=true:=h1
 have h2:aM (bu m)≤4294967296:=h2
 cases ho
 have hf:=rh (m:=m) hw.1.1
 obtain ⟨ts,th,⟨⟩⟩:=m
 refine (Po ts th).trans ?_
 unfold xm
 generalize bu (ts,(th,()))=n at h2 hf ⊢
 obtain ⟨nl,nk⟩:=n
 refine (aa h1 _ _).trans ?_
 refine bT (decide_eq_true h2) ?_
 refine bT (decide_eq_true h2) ?_
 exact congrArg (fun x=>oR ((x,()),())) hf
@[irreducible] noncomputable def dx (v:Int)(m:ij.den):LI×Int:=eE 0 true v (bu m)
end
end Go.Proofs.YtomeplopmndbgaaGreat.Sym
