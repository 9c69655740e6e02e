/- call: what is written is read back. -/
import Derived.Test.YtomeplopmndbgaaGreatQ8

set_option linter.unusedVariables false
set_option linter.unusedSimpArgs false
namespace Go.Proofs.YtomeplopmndbgaaGreat.Sym
open Go
open Go.IntKind (i8 i16 i32 i64 u8 u16 u32 u64)
noncomputable section
theorem uB {b rest:LI}{x:Int}{n p:Nat}(hp:p≤b.length)(h:b.drop p=aB x n++rest):an b (p:Int) n=(fp (aB x n),(((p+n:Nat):Int),0)):=by
 obtain ⟨h1,h2⟩:=kf hp h
 rw[bj] at h1
 unfold an
 rw[if_neg (by omega)]
 have:((b.drop ((p:Int)).toNat).take n)=aB x n:=by
  rw[zG,h]
  have:=List.take_left (l₁:=aB x n) (l₂:=rest)
  rw[bj] at this
  exact this
 rw[this]
 simp
theorem tI {b r rest:LI}{p:Nat}(hp:p≤b.length)(h:b.drop p=r++rest):p+r.length≤b.length∧b.drop (p+r.length)=rest:=kf hp h
theorem ag4 {b rest s:LI}{p:Nat}(hp:p≤b.length)(h:b.drop p=s++rest):aT b (p:Int) s.length=(s,(((p+s.length:Nat):Int),0)):=by
 obtain ⟨h1,h2⟩:=kf hp h
 unfold aT
 rw[if_neg (by omega),if_neg (by omega),zG,zG,h,List.take_left]
 simp
theorem adQ {b rest:LI}{p:Nat}{n:fv.den}(hn:lN n=0)(hp:p≤b.length)(h:b.drop p=eY n++rest):gG b p=(n,(((p+(eY n).length:Nat):Int),0)):=by
 obtain ⟨z,s,⟨⟩⟩:=n
 have hs:s.length≤255:=by
  have hc:lN (z,(s,()))=0:=hn
  unfold lN at hc
  split at hc
  ·cases hc
  ·split at hc
   ·cases hc
   ·split at hc
    ·cases hc
    ·rename_i h3;exact Nat.le_of_not_lt h3
 cases z with
 |true=>
  have hs0:s=[]:=by
   unfold lN at hn
   by_cases h0:s=[]
   ·exact h0
   ·rw[if_pos ⟨rfl,h0⟩] at hn;cases hn
  subst hs0
  have e:eY (true,(([]:LI),()))=aB (-1) 2:=by unfold eY;rw[if_pos rfl]
  have h:b.drop p=eY (true,(([]:LI),()))++rest:=h
  show gG b p=((true,(([]:LI),())),(((p+(eY (true,(([]:LI),()))).length:Nat):Int),0))
  rw[e] at h ⊢
  have hr:=uB hp h
  have hw:i16.wrap (fp (aB (-1) 2)) = -1:=fz (by simp[eD,IntKind.min,IntKind.max,IntKind.signed,IntKind.bits])
  have hr':an b (p:Int) 2=(fp (aB (-1) 2),(((p+2:Nat):Int),0)):=hr
  rw[bj]
  unfold gG
  rw[hr']
  dsimp only
  rw[hw,if_neg (by decide),if_pos rfl]
 |false=>
  have e:eY (false,(s,()))=aB s.length 2++s:=by unfold eY;rw[if_neg (show ¬ false=true by decide)]
  have h:b.drop p=eY (false,(s,()))++rest:=h
  show gG b p=((false,(s,())),(((p+(eY (false,(s,()))).length:Nat):Int),0))
  rw[e] at h ⊢
  rw[zK] at h
  have hr:=uB hp h
  have hr':an b (p:Int) 2=(fp (aB s.length 2),(((p+2:Nat):Int),0)):=hr
  obtain ⟨g1,g2⟩:=tI hp h
  rw[bj] at g1 g2
  have ht:=ag4 g1 g2
  have hw:i16.wrap (fp (aB s.length 2))=s.length:=fz (by simp[eD,IntKind.min,IntKind.max,IntKind.signed,IntKind.bits];omega)
  unfold gG
  rw[hr']
  dsimp only
  rw[hw,ht,if_neg (by decide),if_neg (by omega),if_neg (by omega),if_neg (by omega)]
  dsimp only
  rw[if_neg (by decide),hn,zH,bj]
  rw[show p+2+s.length=p+(2+s.length) by omega]
theorem agY {k v co:Int}{n:fv.den}{y:LI}(hk:eD .i16 k)(hv:eD .i16 v)(hc:eD .i32 co)(hn:lN n=0)(hh:fE k v=0):
  bN (o3 k v co n++y) 0=((k,(v,(co,n))),(((o3 k v co n).length:Int),0)):=by
 generalize hb:o3 k v co n++y=b
 have h0:b.drop 0=aB k 2++(aB v 2++(aB co 4++(eY n++y))):=by rw[← hb];unfold o3;simp
 have r0:an b 0 2=(fp (aB k 2),(2,0)):=uB (p:=0) (Nat.zero_le _) h0
 obtain ⟨p1,h1⟩:=tI (Nat.zero_le _) h0
 rw[bj] at p1 h1
 have r1:an b 2 2=(fp (aB v 2),(4,0)):=uB (p:=2) p1 h1
 obtain ⟨p2,h2⟩:=tI p1 h1
 rw[bj] at p2 h2
 have r2:an b 4 4=(fp (aB co 4),(8,0)):=uB (p:=4) p2 h2
 obtain ⟨p3,h3⟩:=tI p2 h2
 rw[bj] at p3 h3
 have r3:gG b 8=(n,(((8+(eY n).length:Nat):Int),0)):=adQ (p:=8) hn p3 h3
 have hl:(o3 k v co n).length=8+(eY n).length:=by unfold o3;simp only[zH,bj];omega
 unfold bN
 rw[r0]
 dsimp only
 rw[if_neg (by decide),r1]
 dsimp only
 rw[if_neg (by decide),r2]
 dsimp only
 rw[if_neg (by decide),r3]
 dsimp only
 rw[if_neg (by decide),fz hk,fz hv,bA hc,hh,hl]
theorem V0 {m:ik.den}(h:GJ m=true):m=XL:=by
 obtain ⟨⟨(z:Bool),(s:LI),⟨⟩⟩,(a:Int),(w:Int),(ts:List ar.den),⟨⟩⟩:=m
 have h:(((z == false)&&(decide (s=[])&&true))&&((a == 0)&&((w == 0)&&((ts.length:Int) == 0))))=true:=h
 simp only[zA,beq_iff_eq,zB] at h
 obtain ⟨⟨rfl,rfl,_⟩,rfl,rfl,h⟩:=h
 obtain rfl:ts=[]:=zF (by omega)
 rfl
theorem UU {m:bO.den}(h:Fv m=true):m=fq0:=by
 obtain ⟨(a:Int),(b:Int),(c:Int),(d:Int),(e:Int),(ts:List ai.den),⟨⟩⟩:=m
 have h:((a == 0)&&((b == 0)&&((c == 0)&&((d == 0)&&((e == 0)&&((ts.length:Int) == 0))))))=true:=h
 simp only[zA,beq_iff_eq] at h
 obtain ⟨rfl,rfl,rfl,rfl,rfl,h⟩:=h
 obtain rfl:ts=[]:=zF (by omega)
 rfl
theorem VJ {m:bX.den}(h:An m=true):m=oq0:=by
 obtain ⟨(a:Int),(b:Int),(ts:List ah.den),⟨⟩⟩:=m
 have h:((a == 0)&&((b == 0)&&((ts.length:Int) == 0)))=true:=h
 simp only[zA,beq_iff_eq] at h
 obtain ⟨rfl,rfl,h⟩:=h
 obtain rfl:ts=[]:=zF (by omega)
 rfl
theorem Pa {m:ij.den}(h:sU m=true):m=LS:=by
 obtain ⟨(us:List az.den),(a:Int),⟨⟩⟩:=m
 have h:((a == 0)&&((us.length:Int) == 0))=true:=h
 simp only[zA,beq_iff_eq] at h
 obtain ⟨rfl,h⟩:=h
 obtain rfl:us=[]:=zF (by omega)
 rfl
theorem NO {m:bW.den}(h:sR m=true):m=fr0:=by
 obtain ⟨(a:Int),(ts:List aj.den),⟨⟩⟩:=m
 have h:((a == 0)&&((ts.length:Int) == 0))=true:=h
 simp only[zA,beq_iff_eq] at h
 obtain ⟨rfl,h⟩:=h
 obtain rfl:ts=[]:=zF (by omega)
 rfl
theorem OP {m:bY.den}(h:sT m=true):m=or0:=by
 obtain ⟨(a:Int),(ts:List ag.den),⟨⟩⟩:=m
 have h:((a == 0)&&((ts.length:Int) == 0))=true:=h
 simp only[zA,beq_iff_eq] at h
 obtain ⟨rfl,h⟩:=h
 obtain rfl:ts=[]:=zF (by omega)
 rfl
theorem Wj {c:da.den}(hc:da.wf c)(hb:cH c.2.2.2.2.1.2.2.2.1=true)(h:(dN c).2=0):gy (dN c).1=(c,0):=by
 unfold dN at h ⊢
 by_cases h1:fE c.1 c.2.1=0
 rotate_left
 ·rw[if_pos h1] at h;exact absurd h h1
 rw[if_neg (not_not_intro h1)] at h ⊢
 by_cases h2:lN c.2.2.2.1=0
 rotate_left
 ·rw[if_pos h2] at h;exact absurd h h2
 rw[if_neg (not_not_intro h2)] at h ⊢
 by_cases h3:rH c=false
 ·rw[if_pos h3] at h;cases h
 rw[if_neg h3] at h ⊢
 by_cases h4:(o1 c).2=0
 rotate_left
 ·rw[if_pos h4] at h;exact absurd h h4
 rw[if_neg (not_not_intro h4)]
 have h3:rH c=true:=by simpa using h3
 obtain ⟨k,v,co,n,q,f,l,⟨⟩⟩:=c
 have w1:eD .i16 k:=hc.1
 have w2:eD .i16 v:=hc.2.1
 have w3:eD .i32 co:=hc.2.2.1
 have wq:ik.wf q:=hc.2.2.2.2.1
 have wf:bO.wf f:=hc.2.2.2.2.2.1
 have wl:bX.wf l:=hc.2.2.2.2.2.2.1
 have h1:fE k v=0:=h1
 have h2:lN n=0:=h2
 have hb:cH q.2.2.2.1=true:=hb
 have h3:((GJ q || (k == 0))&&((Fv f || (k == 1))&&(An l || (k == 2))))=true:=h3
 have h4:(if k=0 then cZ v q else if k=1 then e7 v f else eI v l).2=0:=h4
 show gy (o3 k v co n++(if k=0 then cZ v q else if k=1 then e7 v f else eI v l).1)=((k,(v,(co,(n,(q,(f,(l,()))))))),0)
 generalize hy:(if k=0 then cZ v q else if k=1 then e7 v f else eI v l)=y at h4 ⊢
 have hbg:=agY (y:=y.1) w1 w2 w3 h2 h1
 unfold gy
 rw[hbg]
 dsimp only
 rw[zG,List.drop_left,if_neg (by decide)]
 simp only[zA,Bool.or_eq_true,beq_iff_eq] at h3
 obtain ⟨z1,z2,z3⟩:=h3
 rcases pO h1 with rfl | rfl | rfl
 ·have zf:=UU (z2.resolve_right (by decide))
  have zl:=VJ (z3.resolve_right (by decide))
  rw[if_pos rfl] at hy
  subst hy
  rw[if_pos rfl,(acN wq hb h4).1]
  dsimp only
  rw[if_neg (by decide),zf,zl]
 ·have zq:=V0 (z1.resolve_right (by decide))
  have zl:=VJ (z3.resolve_right (by decide))
  rw[if_neg (by decide),if_pos rfl] at hy
  subst hy
  rw[if_neg (by decide),if_pos rfl,(aeJ wf h4).1]
  dsimp only
  rw[if_neg (by decide),zq,zl]
 ·have zq:=V0 (z1.resolve_right (by decide))
  have zf:=UU (z2.resolve_right (by decide))
  rw[if_neg (by decide),if_neg (by decide)] at hy
  subst hy
  rw[if_neg (by decide),if_neg (by decide),(af8 wl h4).1]
  dsimp only
  rw[if_neg (by decide),zq,zf]
theorem RZ {c:dn.den}(hc:dn.wf c)(hb:dD c.2.2.2.2.1.2.1=true)(h:(cp c).2=0):gf c.1 c.2.1 (cp c).1=(c,0):=by
 unfold cp at h ⊢
 by_cases h1:fE c.1 c.2.1=0
 rotate_left
 ·rw[if_pos h1] at h;exact absurd h h1
 rw[if_neg (not_not_intro h1)] at h ⊢
 by_cases h3:pi c=false
 ·rw[if_pos h3] at h;cases h
 rw[if_neg h3] at h ⊢
 by_cases h4:(o4 c).2=0
 rotate_left
 ·rw[if_pos h4] at h;exact absurd h h4
 rw[if_neg (not_not_intro h4)]
 have h3:pi c=true:=by simpa using h3
 obtain ⟨k,v,co,q,f,l,⟨⟩⟩:=c
 have w3:eD .i32 co:=hc.2.2.1
 have wq:ij.wf q:=hc.2.2.2.1
 have wf:bW.wf f:=hc.2.2.2.2.1
 have wl:bY.wf l:=hc.2.2.2.2.2.1
 have h1:fE k v=0:=h1
 have hb:dD f.2.1=true:=hb
 have h3:(((k == 0) || sU q)&&(((k == 1) || sR f)&&((k == 2) || sT l)))=true:=h3
 have h4:(if k=0 then dx v q else if k=1 then f7 v f else fF v l).2=0:=h4
 show gf k v (aB co 4++(if k=0 then dx v q else if k=1 then f7 v f else fF v l).1)=((k,(v,(co,(q,(f,(l,())))))),0)
 generalize hy:(if k=0 then dx v q else if k=1 then f7 v f else fF v l)=y at h4 ⊢
 have r0:an (aB co 4++y.1) 0 4=(fp (aB co 4),(4,0)):=uB (p:=0) (Nat.zero_le _) rfl
 have d0:List.drop 4 (aB co 4++y.1)=y.1:=by
  have:=List.drop_left (l₁:=aB co 4) (l₂:=y.1)
  rw[bj] at this
  exact this
 unfold gf
 rw[if_neg (not_not_intro h1),r0]
 dsimp only
 rw[if_neg (by decide),show Int.toNat 4=4 by rfl,d0,bA w3]
 simp only[zA,Bool.or_eq_true,beq_iff_eq] at h3
 obtain ⟨z1,z2,z3⟩:=h3
 rcases pO h1 with rfl | rfl | rfl
 ·have zf:=NO (z2.resolve_left (by decide))
  have zl:=OP (z3.resolve_left (by decide))
  rw[if_pos rfl] at hy
  subst hy
  rw[if_pos rfl,(acL wq h4).1]
  dsimp only
  rw[if_neg (by decide),zf,zl]
 ·have zq:=Pa (z1.resolve_left (by decide))
  have zl:=OP (z3.resolve_left (by decide))
  rw[if_neg (by decide),if_pos rfl] at hy
  subst hy
  rw[if_neg (by decide),if_pos rfl,(aeN wf hb h4).1]
  dsimp only
  rw[if_neg (by decide),zq,zl]
 ·have zq:=Pa (z1.resolve_left (by decide))
  have zf:=NO (z2.resolve_left (by decide))
  rw[if_neg (by decide),if_neg (by decide)] at hy
  subst hy
  rw[if_neg (by decide),if_neg (by decide),(aga wl h4).1]
  dsimp only
  rw[if_neg (by decide),zq,zf]
theorem Wm {c:da.den}(h:(dN c).2≠0):(dN c).1=[]:=by
 unfold dN at h ⊢
 split
 ·rfl
 ·split
  ·rfl
  ·split
   ·rfl
   ·split
    ·rfl
    ·rename_i h1 h2 h3 h4
     rw[if_neg h1,if_neg h2,if_neg h3,if_neg h4] at h
     exact absurd rfl h
theorem R6 {c:dn.den}(h:(cp c).2≠0):(cp c).1=[]:=by
 unfold cp at h ⊢
 split
 ·rfl
 ·split
  ·rfl
  ·split
   ·rfl
   ·rename_i h1 h2 h3
    rw[if_neg h1,if_neg h2,if_neg h3] at h
    exact absurd rfl h
theorem Wl (c:da.den):(dN c).1.length≤140000:=by
 rw[MY]
 unfold mP
 have hy:(eE c.1 false c.2.1 (aG c c.1)).1.length≤130048:=ej _ _ _ _
 split
 ·simp
 ·split
  ·simp
  ·rename_i h
   split
   ·split
    ·simp
    ·have hn:(eY c.2.2.2.1).length≤257:=by
      unfold eY
      split
      ·rw[bj];omega
      ·have hc:lN c.2.2.2.1=0:=Classical.byContradiction fun h'=>h h'
       have:c.2.2.2.1.2.1.length≤255:=by
        unfold lN at hc
        split at hc
        ·cases hc
        ·split at hc
         ·cases hc
         ·split at hc
          ·cases hc
          ·rename_i h3;exact Nat.le_of_not_lt h3
       rw[zH,bj];omega
     unfold o3
     simp only[zH,bj]
     omega
   ·simp
theorem R5 (c:dn.den):(cp c).1.length≤140000:=by
 rw[Jd]
 unfold lC
 have hy:(eE c.1 true c.2.1 (aN c c.1)).1.length≤130048:=ej _ _ _ _
 split
 ·simp
 ·split
  ·split
   ·simp
   ·simp only[zH,bj]
    omega
  ·simp
end
end Go.Proofs.YtomeplopmndbgaaGreat.Sym
namespace Go.Proofs.YtomeplopmndbgaaGreat.Sym
open Go
noncomputable section
abbrev lx:Io:=⟨[.dat da true false,.dat dn true false],[],[],[dB],none⟩
def JO (d:lx.In):Tr lx.Res:=.ite (FE d.1.1&&FF d.1.2.1) (.ret (.ret ((true,()),()))) .no
abbrev T7:List (Nat×Hc):=[(8,ae nd JT),(9,ae nw J7),(10,ae qF Qw),(11,ae sn TC),(20,ae sm TB),(14,ae j3 C8),(16,ae kX C9),(17,ae nv J6),(18,ae oA JS),(22,ae oz JR),(12,ae iK yM)]
def aeR:Hd:=bM T7
def U6:Lp:=bB []
def G8 (a0 a1 a2:Int)(a3:Bool)(a4:LI)(a5:Bool)(a6:LI)(a7 a8:Int)(a9:List ar.den)(a10 a11 a12 a13 a14:Int)(a15:List ai.den)(a16 a17:Int)(a18:List ah.den)(a19 a20 a21:Int)(a22:List az.den)(a23 a24:Int)(a25:List aj.den)(a26:Int)(a27:List ag.den):Option lx.Res:=bif V6 (a0,a1,a2,(a3,a4,()),((a5,a6,()),a7,a8,a9,()),(a10,a11,a12,a13,a14,a15,()),(a16,a17,a18,()),()) then bif cH a9 then bif (dN (a0,a1,a2,(a3,a4,()),((a5,a6,()),a7,a8,a9,()),(a10,a11,a12,a13,a14,a15,()),(a16,a17,a18,()),())).2 != 0 then bif cL (a0,a1,a2,(a3,a4,()),((a5,a6,()),a7,a8,a9,()),(a10,a11,a12,a13,a14,a15,()),(a16,a17,a18,()),())&&decide (8*aM (aG (a0,a1,a2,(a3,a4,()),((a5,a6,()),a7,a8,a9,()),(a10,a11,a12,a13,a14,a15,()),(a16,a17,a18,()),()) a0)≤4294967296) then bif (mP (a0,a1,a2,(a3,a4,()),((a5,a6,()),a7,a8,a9,()),(a10,a11,a12,a13,a14,a15,()),(a16,a17,a18,()),())).2 == 0 then oR ((false,()),()) else bif (↑(dN (a0,a1,a2,(a3,a4,()),((a5,a6,()),a7,a8,a9,()),(a10,a11,a12,a13,a14,a15,()),(a16,a17,a18,()),())).1.length:Int) != 0 then oR ((false,()),()) else bif Jj (a19,a20,a21,(a22,a23,()),(a24,a25,()),(a26,a27,()),()) then bif dD a25 then bif (cp (a19,a20,a21,(a22,a23,()),(a24,a25,()),(a26,a27,()),())).2 != 0 then bif cr (a19,a20,a21,(a22,a23,()),(a24,a25,()),(a26,a27,()),())&&decide (8*aM (aN (a19,a20,a21,(a22,a23,()),(a24,a25,()),(a26,a27,()),()) a19)≤4294967296) then bif (lC (a19,a20,a21,(a22,a23,()),(a24,a25,()),(a26,a27,()),())).2 != 0 then oR (((↑(cp (a19,a20,a21,(a22,a23,()),(a24,a25,()),(a26,a27,()),())).1.length:Int) == 0,()),()) else oR ((false,()),()) else none else bif decide ((cp (a19,a20,a21,(a22,a23,()),(a24,a25,()),(a26,a27,()),())).1.length≤4294960000) then bif (gf a19 a20 (cp (a19,a20,a21,(a22,a23,()),(a24,a25,()),(a26,a27,()),())).1).2 == 0 then bif cr (gf a19 a20 (cp (a19,a20,a21,(a22,a23,()),(a24,a25,()),(a26,a27,()),())).1).1&&cr (a19,a20,a21,(a22,a23,()),(a24,a25,()),(a26,a27,()),()) then oR ((kL (gf a19 a20 (cp (a19,a20,a21,(a22,a23,()),(a24,a25,()),(a26,a27,()),())).1).1 (a19,a20,a21,(a22,a23,()),(a24,a25,()),(a26,a27,()),()),()),()) else none else oR ((false,()),()) else none else none else none else none else bif decide ((dN (a0,a1,a2,(a3,a4,()),((a5,a6,()),a7,a8,a9,()),(a10,a11,a12,a13,a14,a15,()),(a16,a17,a18,()),())).1.length≤4294960000) then bif (gy (dN (a0,a1,a2,(a3,a4,()),((a5,a6,()),a7,a8,a9,()),(a10,a11,a12,a13,a14,a15,()),(a16,a17,a18,()),())).1).2 != 0 then oR ((false,()),()) else bif cL (gy (dN (a0,a1,a2,(a3,a4,()),((a5,a6,()),a7,a8,a9,()),(a10,a11,a12,a13,a14,a15,()),(a16,a17,a18,()),())).1).1&&cL (a0,a1,a2,(a3,a4,()),((a5,a6,()),a7,a8,a9,()),(a10,a11,a12,a13,a14,a15,()),(a16,a17,a18,()),()) then bif !kL (gy (dN (a0,a1,a2,(a3,a4,()),((a5,a6,()),a7,a8,a9,()),(a10,a11,a12,a13,a14,a15,()),(a16,a17,a18,()),())).1).1 (a0,a1,a2,(a3,a4,()),((a5,a6,()),a7,a8,a9,()),(a10,a11,a12,a13,a14,a15,()),(a16,a17,a18,()),()) then oR ((false,()),()) else bif Jj (a19,a20,a21,(a22,a23,()),(a24,a25,()),(a26,a27,()),()) then bif dD a25 then bif (cp (a19,a20,a21,(a22,a23,()),(a24,a25,()),(a26,a27,()),())).2 != 0 then bif cr (a19,a20,a21,(a22,a23,()),(a24,a25,()),(a26,a27,()),())&&decide (8*aM (aN (a19,a20,a21,(a22,a23,()),(a24,a25,()),(a26,a27,()),()) a19)≤4294967296) then bif (lC (a19,a20,a21,(a22,a23,()),(a24,a25,()),(a26,a27,()),())).2 != 0 then oR (((↑(cp (a19,a20,a21,(a22,a23,()),(a24,a25,()),(a26,a27,()),())).1.length:Int) == 0,()),()) else oR ((false,()),()) else none else bif decide ((cp (a19,a20,a21,(a22,a23,()),(a24,a25,()),(a26,a27,()),())).1.length≤4294960000) then bif (gf a19 a20 (cp (a19,a20,a21,(a22,a23,()),(a24,a25,()),(a26,a27,()),())).1).2 == 0 then bif cr (gf a19 a20 (cp (a19,a20,a21,(a22,a23,()),(a24,a25,()),(a26,a27,()),())).1).1&&cr (a19,a20,a21,(a22,a23,()),(a24,a25,()),(a26,a27,()),()) then oR ((kL (gf a19 a20 (cp (a19,a20,a21,(a22,a23,()),(a24,a25,()),(a26,a27,()),())).1).1 (a19,a20,a21,(a22,a23,()),(a24,a25,()),(a26,a27,()),()),()),()) else none else oR ((false,()),()) else none else none else none else none else none else none else none
theorem acP (a0 a1 a2:Int)(a3:Bool)(a4:LI)(a5:Bool)(a6:LI)(a7 a8:Int)(a9:List ar.den)(a10 a11 a12 a13 a14:Int)(a15:List ai.den)(a16 a17:Int)(a18:List ah.den)(a19 a20 a21:Int)(a22:List az.den)(a23 a24:Int)(a25:List aj.den)(a26:Int)(a27:List ag.den):Io.run tt aeR dr U6 lx Tryz.f6 (((a0,a1,a2,(a3,a4,()),((a5,a6,()),a7,a8,a9,()),(a10,a11,a12,a13,a14,a15,()),(a16,a17,a18,()),()),(a19,a20,a21,(a22,a23,()),(a24,a25,()),(a26,a27,()),()),()),())=G8 a0 a1 a2 a3 a4 a5 a6 a7 a8 a9 a10 a11 a12 a13 a14 a15 a16 a17 a18 a19 a20 a21 a22 a23 a24 a25 a26 a27:=by kernel_rfl
theorem afG:HcOk prog 6 (ae lx JO):=by
 refine cg (cs:=T7) (.cons ab3 (.cons acn (.cons afV (.cons ab2 (.cons ab1 (.cons Xu (.cons Xv (.cons acm (.cons VO (.cons VN (.cons RQ .nil))))))))))) (lp:=U6) (fn:=Tryz.f6) lx (.done (by kernel_rfl)) JO ?_
 rintro ⟨⟨⟨(k:Int),(v:Int),(co:Int),⟨(cz:Bool),(cs:LI),⟨⟩⟩,⟨⟨(nz:Bool),(ns:LI),⟨⟩⟩,(ak:Int),(wt:Int),(ts:List ar.den),⟨⟩⟩,⟨(fr:Int),(fw:Int),(fm:Int),(fx:Int),(fl:Int),(ft:List ai.den),⟨⟩⟩,⟨(lr:Int),(ll:Int),(lt:List ah.den),⟨⟩⟩,⟨⟩⟩,⟨(k2:Int),(v2:Int),(co2:Int),⟨(us:List az.den),(th:Int),⟨⟩⟩,⟨(fr2:Int),(ft2:List aj.den),⟨⟩⟩,⟨(lr2:Int),(lt2:List ag.den),⟨⟩⟩,⟨⟩⟩,⟨⟩⟩,⟨⟩⟩ out hw ho
 obtain ⟨hg,ho⟩:=Tr.guard ho
 cases ho
 have hmq:=hw.1.1
 have hmp:=hw.1.2.1
 refine (acP k v co cz cs nz ns ak wt ts fr fw fm fx fl ft lr ll lt k2 v2 co2 us th fr2 ft2 lr2 lt2).trans ?_
 unfold G8
 have hg:(FE (k,(v,(co,((cz,(cs,())),(((nz,(ns,())),(ak,(wt,(ts,())))),((fr,(fw,(fm,(fx,(fl,(ft,())))))),((lr,(ll,(lt,()))),())))))))&&FF (k2,(v2,(co2,((us,(th,())),((fr2,(ft2,())),((lr2,(lt2,())),())))))))=true:=hg
 have hmq:da.wf (k,(v,(co,((cz,(cs,())),(((nz,(ns,())),(ak,(wt,(ts,())))),((fr,(fw,(fm,(fx,(fl,(ft,())))))),((lr,(ll,(lt,()))),()))))))):=hmq
 have hmp:dn.wf (k2,(v2,(co2,((us,(th,())),((fr2,(ft2,())),((lr2,(lt2,())),())))))):=hmp
 generalize hQ:(k,(v,(co,((cz,(cs,())),(((nz,(ns,())),(ak,(wt,(ts,())))),((fr,(fw,(fm,(fx,(fl,(ft,())))))),((lr,(ll,(lt,()))),())))))))=Q at hg hmq ⊢
 generalize hR:(k2,(v2,(co2,((us,(th,())),((fr2,(ft2,())),((lr2,(lt2,())),()))))))=R at hg hmp ⊢
 have hts:ts=Q.2.2.2.2.1.2.2.2.1:=by rw[← hQ]
 have hk:k=Q.1:=by rw[← hQ]
 have hft:ft2=R.2.2.2.2.1.2.1:=by rw[← hR]
 have hk2:k2=R.1:=by rw[← hR]
 have hv2:v2=R.2.1:=by rw[← hR]
 unfold FE FF at hg
 simp only[zA,zB] at hg
 obtain ⟨⟨g1,g2,g3,g4⟩,h1,h2,h3,h4⟩:=hg
 rw[hts,hk,hft,hk2,hv2,← MY Q,← Jd R]
 have g4:=decide_eq_true g4
 have h4:=decide_eq_true h4
 have g6:decide ((dN Q).1.length≤4294960000)=true:=decide_eq_true (Nat.le_trans (Wl Q) (by decide))
 have h6:decide ((cp R).1.length≤4294960000)=true:=decide_eq_true (Nat.le_trans (R5 R) (by decide))
 have g7:kL Q Q=true:=m3.2 rfl
 have h7:kL R R=true:=m3.2 rfl
 have n0:((((([]:LI).length:Nat):Int)) != 0)=false:=rfl
 have n1:((((([]:LI).length:Nat):Int)) == 0)=true:=rfl
 have key:∀x:Option lx.Res,(bif Jj R then bif dD R.2.2.2.2.1.2.1 then bif (cp R).2 != 0 then bif cr R&&decide (8*aM (aN R R.1)≤4294967296) then bif (cp R).2 != 0 then oR (((((cp R).1.length:Nat):Int) == 0,()),()) else oR ((false,()),()) else none else bif decide ((cp R).1.length≤4294960000) then bif (gf R.1 R.2.1 (cp R).1).2 == 0 then bif cr (gf R.1 R.2.1 (cp R).1).1&&cr R then oR ((kL (gf R.1 R.2.1 (cp R).1).1 R,()),()) else none else oR ((false,()),()) else none else none else none:Option lx.Res)=oR ((true,()),()):=by
  intro _
  by_cases hr:(cp R).2=0
  ·have e:=RZ hmp h1 hr
   simp only[h1,h2,h3,h6,hr,e,h7,cond_true,cond_false,bne_self_eq_false,Bool.and_self,beq_self_eq_true]
  ·have hr':((cp R).2 != 0)=true:=by simpa using hr
   have hn:=R6 hr
   simp only[h1,h2,h3,h4,hr',hn,n1,cond_true,cond_false,Bool.and_self]
 by_cases hq:(dN Q).2=0
 ·have e:=Wj hmq g1 hq
  simp only[g1,g2,g3,g6,hq,e,g7,cond_true,cond_false,bne_self_eq_false,Bool.not_true,Bool.and_self]
  exact key none
 ·have hq':((dN Q).2 != 0)=true:=by simpa using hq
  have hq2:((dN Q).2 == 0)=false:=by simpa using hq
  have hn:=Wm hq
  simp only[g1,g2,g3,g4,hq',hq2,hn,n0,cond_true,cond_false,Bool.and_self]
  exact key none
end
end Go.Proofs.YtomeplopmndbgaaGreat.Sym
