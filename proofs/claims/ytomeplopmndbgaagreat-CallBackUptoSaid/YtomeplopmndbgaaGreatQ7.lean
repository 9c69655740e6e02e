/- fetch.DecodeRep: what it reads. -/
import Derived.Test.YtomeplopmndbgaaGreatQ6

set_option linter.unusedVariables false
set_option linter.unusedSimpArgs false
namespace Go.Proofs.YtomeplopmndbgaaGreat.Sym
open Go
open Go.IntKind (i8 i16 i32 i64 u8 u16 u32 u64)
noncomputable section
@[irreducible] noncomputable def n4 (v:Int)(b:LI)(s:aD):aU.den×aD:=
 (((ab .i32 4 b s).1,((ab .i16 2 b (ab .i32 4 b s).2).1,((ab .i64 8 b (ab .i16 2 b (ab .i32 4 b s).2).2).1,((ao .i64 8 v 2 3 b (ab .i64 8 b (ab .i16 2 b (ab .i32 4 b s).2).2).2).1,((ao .i64 8 v 3 3 b (ao .i64 8 v 2 3 b (ab .i64 8 b (ab .i16 2 b (ab .i32 4 b s).2).2).2).2).1,((cm b (ao .i64 8 v 3 3 b (ao .i64 8 v 2 3 b (ab .i64 8 b (ab .i16 2 b (ab .i32 4 b s).2).2).2).2).2).1,())))))),(cm b (ao .i64 8 v 3 3 b (ao .i64 8 v 2 3 b (ab .i64 8 b (ab .i16 2 b (ab .i32 4 b s).2).2).2).2).2).2)
theorem Jw {v:Int}{b:LI}{s:aD}(h:al b s.2=true):al b (n4 v b s).2.2=true:=by
 unfold n4
 exact lj (ge (ge (aO _ _ (aO _ _ (aO _ _ (h))))))
abbrev kO:Io:=⟨[.ptr 0 0],pF,[],[.dat aU true false],none⟩
def CW (d:kO.In):Tr kO.Res:=.ite (al d.2.2.2.1.1 d.2.2.2.1.2.1) (.ret (.ret (((n4 d.2.2.1.2.1 d.2.2.2.1.1 (cK d.2.2)).1,()),dp d.2.2.1.2.1 d.2.2.2.1.1 (n4 d.2.2.1.2.1 d.2.2.2.1.1 (cK d.2.2)).2))) .no
abbrev HW:List (Nat×Hc):=[(149,ae oB JU),(142,ae lX AD),(143,ae cB ew),(156,ae lY AE),(140,ae iI pq)]
def WG:Hd:=bM HW
def Iy:Lp:=bB []
def AV (a0 a1:Int)(a2:LI)(a3:Int):Option kO.Res:=bif al a2 a3 then bif al a2 (ab i32 4 a2 (a1,a3)).2.2 then bif al a2 (ab i16 2 a2 (ab i32 4 a2 (a1,a3)).2).2.2 then bif aQ a0 2 3 (ab i64 8 a2 (ab i16 2 a2 (ab i32 4 a2 (a1,a3)).2).2).2.1 then bif al a2 (ab i64 8 a2 (ab i16 2 a2 (ab i32 4 a2 (a1,a3)).2).2).2.2 then bif aQ a0 3 3 (ab i64 8 a2 (ab i64 8 a2 (ab i16 2 a2 (ab i32 4 a2 (a1,a3)).2).2).2).2.1 then bif al a2 (ab i64 8 a2 (ab i64 8 a2 (ab i16 2 a2 (ab i32 4 a2 (a1,a3)).2).2).2).2.2 then bif al a2 (ab i64 8 a2 (ab i64 8 a2 (ab i64 8 a2 (ab i16 2 a2 (ab i32 4 a2 (a1,a3)).2).2).2).2).2.2 then oR ((((ab i32 4 a2 (a1,a3)).1,(ab i16 2 a2 (ab i32 4 a2 (a1,a3)).2).1,(ab i64 8 a2 (ab i16 2 a2 (ab i32 4 a2 (a1,a3)).2).2).1,(ab i64 8 a2 (ab i64 8 a2 (ab i16 2 a2 (ab i32 4 a2 (a1,a3)).2).2).2).1,(ab i64 8 a2 (ab i64 8 a2 (ab i64 8 a2 (ab i16 2 a2 (ab i32 4 a2 (a1,a3)).2).2).2).2).1,(cm a2 (ab i64 8 a2 (ab i64 8 a2 (ab i64 8 a2 (ab i16 2 a2 (ab i32 4 a2 (a1,a3)).2).2).2).2).2).1,()),()),((),()),((),a0,(cm a2 (ab i64 8 a2 (ab i64 8 a2 (ab i64 8 a2 (ab i16 2 a2 (ab i32 4 a2 (a1,a3)).2).2).2).2).2).2.1,()),(a2,(cm a2 (ab i64 8 a2 (ab i64 8 a2 (ab i64 8 a2 (ab i16 2 a2 (ab i32 4 a2 (a1,a3)).2).2).2).2).2).2.2,()),()) else none else none else bif al a2 (ab i64 8 a2 (ab i64 8 a2 (ab i16 2 a2 (ab i32 4 a2 (a1,a3)).2).2).2).2.2 then oR ((((ab i32 4 a2 (a1,a3)).1,(ab i16 2 a2 (ab i32 4 a2 (a1,a3)).2).1,(ab i64 8 a2 (ab i16 2 a2 (ab i32 4 a2 (a1,a3)).2).2).1,(ab i64 8 a2 (ab i64 8 a2 (ab i16 2 a2 (ab i32 4 a2 (a1,a3)).2).2).2).1,0,(cm a2 (ab i64 8 a2 (ab i64 8 a2 (ab i16 2 a2 (ab i32 4 a2 (a1,a3)).2).2).2).2).1,()),()),((),()),((),a0,(cm a2 (ab i64 8 a2 (ab i64 8 a2 (ab i16 2 a2 (ab i32 4 a2 (a1,a3)).2).2).2).2).2.1,()),(a2,(cm a2 (ab i64 8 a2 (ab i64 8 a2 (ab i16 2 a2 (ab i32 4 a2 (a1,a3)).2).2).2).2).2.2,()),()) else none else none else bif aQ a0 3 3 (ab i64 8 a2 (ab i16 2 a2 (ab i32 4 a2 (a1,a3)).2).2).2.1 then bif al a2 (ab i64 8 a2 (ab i16 2 a2 (ab i32 4 a2 (a1,a3)).2).2).2.2 then bif al a2 (ab i64 8 a2 (ab i64 8 a2 (ab i16 2 a2 (ab i32 4 a2 (a1,a3)).2).2).2).2.2 then oR ((((ab i32 4 a2 (a1,a3)).1,(ab i16 2 a2 (ab i32 4 a2 (a1,a3)).2).1,(ab i64 8 a2 (ab i16 2 a2 (ab i32 4 a2 (a1,a3)).2).2).1,0,(ab i64 8 a2 (ab i64 8 a2 (ab i16 2 a2 (ab i32 4 a2 (a1,a3)).2).2).2).1,(cm a2 (ab i64 8 a2 (ab i64 8 a2 (ab i16 2 a2 (ab i32 4 a2 (a1,a3)).2).2).2).2).1,()),()),((),()),((),a0,(cm a2 (ab i64 8 a2 (ab i64 8 a2 (ab i16 2 a2 (ab i32 4 a2 (a1,a3)).2).2).2).2).2.1,()),(a2,(cm a2 (ab i64 8 a2 (ab i64 8 a2 (ab i16 2 a2 (ab i32 4 a2 (a1,a3)).2).2).2).2).2.2,()),()) else none else none else bif al a2 (ab i64 8 a2 (ab i16 2 a2 (ab i32 4 a2 (a1,a3)).2).2).2.2 then oR ((((ab i32 4 a2 (a1,a3)).1,(ab i16 2 a2 (ab i32 4 a2 (a1,a3)).2).1,(ab i64 8 a2 (ab i16 2 a2 (ab i32 4 a2 (a1,a3)).2).2).1,0,0,(cm a2 (ab i64 8 a2 (ab i16 2 a2 (ab i32 4 a2 (a1,a3)).2).2).2).1,()),()),((),()),((),a0,(cm a2 (ab i64 8 a2 (ab i16 2 a2 (ab i32 4 a2 (a1,a3)).2).2).2).2.1,()),(a2,(cm a2 (ab i64 8 a2 (ab i16 2 a2 (ab i32 4 a2 (a1,a3)).2).2).2).2.2,()),()) else none else none else none else none
theorem Sd (a0 a1:Int)(a2:LI)(a3:Int):Io.run tt WG dr Iy kO Tryz.f174 (((),()),((),()),((),a0,a1,()),(a2,a3,()),())=AV a0 a1 a2 a3:=by kernel_rfl
theorem Xg:HcOk prog 174 (ae kO CW):=by
 refine cg (cs:=HW) (.cons VP (.cons zY (.cons cY (.cons zZ (.cons nG .nil))))) (lp:=Iy) (fn:=Tryz.f174) kO (.done (by kernel_rfl)) CW ?_
 rintro ⟨⟨⟨⟩,⟨⟩⟩,⟨⟨⟩,⟨⟩⟩,⟨⟨⟩,(v:Int),(e:Int),⟨⟩⟩,⟨(b:LI),(p:Int),⟨⟩⟩,⟨⟩⟩ out hw ho
 obtain ⟨hg,ho⟩:=Tr.guard ho
 have hg:al b p=true:=hg
 cases ho
 refine (Sd v e b p).trans ?_
 unfold AV
 show _=oR (((n4 v b (e,p)).1,()),dp v b (n4 v b (e,p)).2)
 unfold n4
 have hg:al b ((e,p):aD).2=true:=hg
 refine (aa hg _ _).trans ?_
 have g0:al b (ab .i32 4 b ((e,p):aD)).2.2=true:=aO .i32 4 (s:=((e,p):aD)) hg
 refine (aa g0 _ _).trans ?_
 have g1:al b (ab .i16 2 b (ab .i32 4 b ((e,p):aD)).2).2.2=true:=aO .i16 2 (s:=(ab .i32 4 b ((e,p):aD)).2) g0
 refine (aa g1 _ _).trans ?_
 have g2:al b (ab .i64 8 b (ab .i16 2 b (ab .i32 4 b ((e,p):aD)).2).2).2.2=true:=aO .i64 8 (s:=(ab .i16 2 b (ab .i32 4 b ((e,p):aD)).2).2) g1
 show (bif aQ v 2 3 (ab .i64 8 b (ab .i16 2 b (ab .i32 4 b ((e,p):aD)).2).2).2.1 then _ else _)=_
 cases h3:aQ v 2 3 (ab .i64 8 b (ab .i16 2 b (ab .i32 4 b ((e,p):aD)).2).2).2.1
 ·have e3:ao .i64 8 v 2 3 b (ab .i64 8 b (ab .i16 2 b (ab .i32 4 b ((e,p):aD)).2).2).2=(0,(ab .i64 8 b (ab .i16 2 b (ab .i32 4 b ((e,p):aD)).2).2).2):=by unfold ao;rw[if_neg (by rw[h3];decide)]
  rw[e3]
  show (bif aQ v 3 3 (ab .i64 8 b (ab .i16 2 b (ab .i32 4 b ((e,p):aD)).2).2).2.1 then _ else _)=_
  cases hf4:aQ v 3 3 (ab .i64 8 b (ab .i16 2 b (ab .i32 4 b ((e,p):aD)).2).2).2.1
  ·have ef4:ao .i64 8 v 3 3 b (ab .i64 8 b (ab .i16 2 b (ab .i32 4 b ((e,p):aD)).2).2).2=(0,(ab .i64 8 b (ab .i16 2 b (ab .i32 4 b ((e,p):aD)).2).2).2):=by unfold ao;rw[if_neg (by rw[hf4];decide)]
   rw[ef4]
   refine (aa g2 _ _).trans ?_
   have gff5:al b (cm b (ab .i64 8 b (ab .i16 2 b (ab .i32 4 b ((e,p):aD)).2).2).2).2.2=true:=lj (s:=(ab .i64 8 b (ab .i16 2 b (ab .i32 4 b ((e,p):aD)).2).2).2) g2
   rfl
  ·have ef4:ao .i64 8 v 3 3 b (ab .i64 8 b (ab .i16 2 b (ab .i32 4 b ((e,p):aD)).2).2).2=ab .i64 8 b (ab .i64 8 b (ab .i16 2 b (ab .i32 4 b ((e,p):aD)).2).2).2:=by unfold ao;rw[if_pos hf4]
   rw[ef4]
   refine (aa g2 _ _).trans ?_
   have gf4:al b (ab .i64 8 b (ab .i64 8 b (ab .i16 2 b (ab .i32 4 b ((e,p):aD)).2).2).2).2.2=true:=aO .i64 8 (s:=(ab .i64 8 b (ab .i16 2 b (ab .i32 4 b ((e,p):aD)).2).2).2) g2
   refine (aa gf4 _ _).trans ?_
   have gft5:al b (cm b (ab .i64 8 b (ab .i64 8 b (ab .i16 2 b (ab .i32 4 b ((e,p):aD)).2).2).2).2).2.2=true:=lj (s:=(ab .i64 8 b (ab .i64 8 b (ab .i16 2 b (ab .i32 4 b ((e,p):aD)).2).2).2).2) gf4
   rfl
 ·have e3:ao .i64 8 v 2 3 b (ab .i64 8 b (ab .i16 2 b (ab .i32 4 b ((e,p):aD)).2).2).2=ab .i64 8 b (ab .i64 8 b (ab .i16 2 b (ab .i32 4 b ((e,p):aD)).2).2).2:=by unfold ao;rw[if_pos h3]
  rw[e3]
  refine (aa g2 _ _).trans ?_
  have g3:al b (ab .i64 8 b (ab .i64 8 b (ab .i16 2 b (ab .i32 4 b ((e,p):aD)).2).2).2).2.2=true:=aO .i64 8 (s:=(ab .i64 8 b (ab .i16 2 b (ab .i32 4 b ((e,p):aD)).2).2).2) g2
  show (bif aQ v 3 3 (ab .i64 8 b (ab .i64 8 b (ab .i16 2 b (ab .i32 4 b ((e,p):aD)).2).2).2).2.1 then _ else _)=_
  cases ht4:aQ v 3 3 (ab .i64 8 b (ab .i64 8 b (ab .i16 2 b (ab .i32 4 b ((e,p):aD)).2).2).2).2.1
  ·have et4:ao .i64 8 v 3 3 b (ab .i64 8 b (ab .i64 8 b (ab .i16 2 b (ab .i32 4 b ((e,p):aD)).2).2).2).2=(0,(ab .i64 8 b (ab .i64 8 b (ab .i16 2 b (ab .i32 4 b ((e,p):aD)).2).2).2).2):=by unfold ao;rw[if_neg (by rw[ht4];decide)]
   rw[et4]
   refine (aa g3 _ _).trans ?_
   have gtf5:al b (cm b (ab .i64 8 b (ab .i64 8 b (ab .i16 2 b (ab .i32 4 b ((e,p):aD)).2).2).2).2).2.2=true:=lj (s:=(ab .i64 8 b (ab .i64 8 b (ab .i16 2 b (ab .i32 4 b ((e,p):aD)).2).2).2).2) g3
   rfl
  ·have et4:ao .i64 8 v 3 3 b (ab .i64 8 b (ab .i64 8 b (ab .i16 2 b (ab .i32 4 b ((e,p):aD)).2).2).2).2=ab .i64 8 b (ab .i64 8 b (ab .i64 8 b (ab .i16 2 b (ab .i32 4 b ((e,p):aD)).2).2).2).2:=by unfold ao;rw[if_pos ht4]
   rw[et4]
   refine (aa g3 _ _).trans ?_
   have gt4:al b (ab .i64 8 b (ab .i64 8 b (ab .i64 8 b (ab .i16 2 b (ab .i32 4 b ((e,p):aD)).2).2).2).2).2.2=true:=aO .i64 8 (s:=(ab .i64 8 b (ab .i64 8 b (ab .i16 2 b (ab .i32 4 b ((e,p):aD)).2).2).2).2) g3
   refine (aa gt4 _ _).trans ?_
   have gtt5:al b (cm b (ab .i64 8 b (ab .i64 8 b (ab .i64 8 b (ab .i16 2 b (ab .i32 4 b ((e,p):aD)).2).2).2).2).2).2.2=true:=lj (s:=(ab .i64 8 b (ab .i64 8 b (ab .i64 8 b (ab .i16 2 b (ab .i32 4 b ((e,p):aD)).2).2).2).2).2) gt4
   rfl
@[irreducible] noncomputable def jL (v:Int)(b:LI)(s:aD):List aU.den×aD:=iC (n4 v b) b s
theorem Tl {v:Int}{b:LI}{s:aD}(h:al b s.2=true):al b (jL v b s).2.2=true:=by
 unfold jL
 exact fH (fun s h=>Jw h) h
abbrev qo:Io:=⟨[.ptr 0 0,.fnc 174 false [2]],nF,[],[.dat (.sl 223 aU) false false],none⟩
def GO (d:qo.In):Tr qo.Res:=.ite (al d.2.2.1.1 d.2.2.1.2.1) (.ret (.ret (((jL d.2.1.2.1 d.2.2.1.1 (d7 d.2)).1,()),iD d.2.1.2.1 d.2.2.1.1 (jL d.2.1.2.1 d.2.2.1.1 (d7 d.2)).2))) .no
abbrev QT:List (Nat×Hc):=[(143,ae cB ew),(174,ae kO CW)]
theorem RF:HcOk prog 173 (ae qo GO):=
 mc (one:=n4) (sps:=jL) (fun _ _ _=>by unfold jL;rfl) (fun _ _ _ h4=>Jw h4) (cs:=QT) (.cons cY (.cons Xg .nil)) (fn:=Tryz.f173) (by kernel_rfl) (by kernel_rfl) (by kernel_rfl) (by kernel_rfl) (by kernel_rfl) (by kernel_rfl) (by intros;kernel_rfl) (by intros;kernel_rfl)
@[irreducible] noncomputable def n5 (v:Int)(b:LI)(s:aD):aj.den×aD:=(((bi b s).1,((jL v b (bi b s).2).1,())),(jL v b (bi b s).2).2)
theorem Jy {v:Int}{b:LI}{s:aD}(h:al b s.2=true):al b (n5 v b s).2.2=true:=by
 unfold n5
 exact Tl (fa h)
abbrev jR:Io:=⟨[.ptr 0 0],pF,[],[.dat aj true false],none⟩
def yJ (d:jR.In):Tr jR.Res:=.ite (al d.2.2.2.1.1 d.2.2.2.1.2.1) (.ret (.ret (((n5 d.2.2.1.2.1 d.2.2.2.1.1 (cK d.2.2)).1,()),dp d.2.2.1.2.1 d.2.2.2.1.1 (n5 d.2.2.1.2.1 d.2.2.2.1.1 (cK d.2.2)).2))) .no
abbrev D0:List (Nat×Hc):=[(146,ae l6 AG),(173,ae qo GO)]
def Q5:Hd:=bM D0
def EO:Lp:=bB []
def xf (a0 a1:Int)(a2:LI)(a3:Int):Option jR.Res:=bif al a2 a3 then bif al a2 (bi a2 (a1,a3)).2.2 then oR ((((bi a2 (a1,a3)).1,(jL a0 a2 (bi a2 (a1,a3)).2).1,()),()),((),()),((),a0,(jL a0 a2 (bi a2 (a1,a3)).2).2.1,()),(a2,(jL a0 a2 (bi a2 (a1,a3)).2).2.2,()),()) else none else none
theorem Pg (a0 a1:Int)(a2:LI)(a3:Int):Io.run tt Q5 dr EO jR Tryz.f172 (((),()),((),()),((),a0,a1,()),(a2,a3,()),())=xf a0 a1 a2 a3:=by kernel_rfl
theorem RG:HcOk prog 172 (ae jR yJ):=by
 refine cg (cs:=D0) (.cons z4 (.cons RF .nil)) (lp:=EO) (fn:=Tryz.f172) jR (.done (by kernel_rfl)) yJ ?_
 rintro ⟨⟨⟨⟩,⟨⟩⟩,⟨⟨⟩,⟨⟩⟩,⟨⟨⟩,(v:Int),(e:Int),⟨⟩⟩,⟨(b:LI),(p:Int),⟨⟩⟩,⟨⟩⟩ out hw ho
 obtain ⟨hg,ho⟩:=Tr.guard ho
 have hg:al b p=true:=hg
 cases ho
 refine (Pg v e b p).trans ?_
 unfold xf
 show _=oR (((n5 v b (e,p)).1,()),dp v b (n5 v b (e,p)).2)
 unfold n5
 refine (aa hg _ _).trans ?_
 exact aa (fa (s:=(e,p)) hg) _ _
@[irreducible] noncomputable def de (v:Int)(b:LI)(s:aD):List aj.den×aD:=iC (n5 v b) b s
theorem FX {v:Int}{b:LI}{s:aD}(h:al b s.2=true):al b (de v b s).2.2=true:=by
 unfold de
 exact fH (fun s h=>Jy h) h
abbrev oE:Io:=⟨[.ptr 0 0,.fnc 172 false [2]],nF,[],[.dat (.sl 221 aj) false false],none⟩
def CX (d:oE.In):Tr oE.Res:=.ite (al d.2.2.1.1 d.2.2.1.2.1) (.ret (.ret (((de d.2.1.2.1 d.2.2.1.1 (d7 d.2)).1,()),iD d.2.1.2.1 d.2.2.1.1 (de d.2.1.2.1 d.2.2.1.1 (d7 d.2)).2))) .no
abbrev Na:List (Nat×Hc):=[(143,ae cB ew),(172,ae jR yJ)]
theorem OV:HcOk prog 171 (ae oE CX):=
 mc (one:=n5) (sps:=de) (fun _ _ _=>by unfold de;rfl) (fun _ _ _ h4=>Jy h4) (cs:=Na) (.cons cY (.cons RG .nil)) (fn:=Tryz.f171) (by kernel_rfl) (by kernel_rfl) (by kernel_rfl) (by kernel_rfl) (by kernel_rfl) (by kernel_rfl) (by intros;kernel_rfl) (by intros;kernel_rfl)
abbrev mD:Io:=⟨[.ptr 0 0,.fnc 172 false [1]],wc,[],[.dat (.sl 221 aj) false false],none⟩
def AI (d:mD.In):Tr mD.Res:=.ite (decide (d.2.1.2.2.1≠0)) (.ret (.ret ((([]:List aj.den),()),d.2))) .no
abbrev Ku:List (Nat×Hc):=[(143,eX di (ae eM jO) (ae cB ew))]
theorem LD:HcOk prog 171 (ae mD AI):=
 t4 (cs:=Ku) (.cons (bb jj cY) .nil) (fn:=Tryz.f171) (by kernel_rfl) (by kernel_rfl) (by kernel_rfl) (by kernel_rfl) (by kernel_rfl) (by kernel_rfl) (by intros;kernel_rfl) (by intros;kernel_rfl)
def ah6:bW.den:=(0,(([]:List aj.den),()))
def ru (v:Int)(b:LI)(s:aD):bW.den×aD:=
 (((ao .i32 4 v 1 3 b s).1,((de v b (ao .i32 4 v 1 3 b s).2).1,())),(de v b (ao .i32 4 v 1 3 b s).2).2)
def lS (v:Int)(b:LI):bW.den×Int:=if 0≤v∧v≤3∧(b.length:Int)≤130048 then (if aE b (ru v b (0,0)).2=0 then ((ru v b (0,0)).1,0) else (ah6,aE b (ru v b (0,0)).2)) else (ah6,bg v)
abbrev ng:Io:=⟨[dI,dL],[],[],[.dat bW true false,dI],none⟩
def JX (d:ng.In):Tr ng.Res:=.ret (.ret (((lS d.1.1 d.1.2.1).1,((lS d.1.1 d.1.2.1).2,())),()))
abbrev M9:List (Nat×Hc):=[(139,eX zW (ae jE o8) (ae lZ AF)),(140,eX di (ae jD rL) (ae iI pq)),(143,eX di (ae eM jO) (ae cB ew)),(171,eX di (ae mD AI) (ae oE CX)),(150,eX di (ae jC rK) (ae lW AC))]
def aaP:Hd:=bM M9
def Oq:Lp:=bB []
def Dt (a0:Int)(a1:LI):Option ng.Res:=bif !(decide (0≤a0)&&(decide (a0≤3)&&decide ((↑a1.length:Int)≤130048))) then bif decide (0≤a0)&&(decide (a0≤3)&&decide ((↑a1.length:Int)≤130048)) then none else bif decide (bg a0≠0) then bif decide (bg a0≠0) then bif decide (bg a0≠0) then bif bg a0 != 0 then oR (((0,[],()),bg a0,()),()) else oR (((0,[],()),0,()),()) else none else none else none else bif decide (0≤a0)&&(decide (a0≤3)&&decide ((↑a1.length:Int)≤130048)) then bif aQ a0 1 3 0 then bif al a1 0 then bif al a1 (an a1 0 4).2.1 then bif aE a1 (de a0 a1 ((an a1 0 4).2.2,(an a1 0 4).2.1)).2 != 0 then oR (((0,[],()),aE a1 (de a0 a1 ((an a1 0 4).2.2,(an a1 0 4).2.1)).2,()),()) else oR (((i32.wrap (an a1 0 4).1,(de a0 a1 ((an a1 0 4).2.2,(an a1 0 4).2.1)).1,()),0,()),()) else none else none else bif al a1 0 then bif aE a1 (de a0 a1 (0,0)).2 != 0 then oR (((0,[],()),aE a1 (de a0 a1 (0,0)).2,()),()) else oR (((0,(de a0 a1 (0,0)).1,()),0,()),()) else none else none
theorem XT (a0:Int)(a1:LI):Io.run tt aaP dr Oq ng Tryz.f76 ((a0,a1,()),())=Dt a0 a1:=by kernel_rfl
theorem ab6:HcOk prog 76 (ae ng JX):=by
 refine cg (cs:=M9) (.cons (bb up z0) (.cons (bb uo nG) (.cons (bb jj cY) (.cons (bb LD OV) (.cons (bb un zX) .nil))))) (lp:=Oq) (fn:=Tryz.f76) ng (.done (by kernel_rfl)) JX ?_
 rintro ⟨⟨(v:Int),(b:LI),⟨⟩⟩,⟨⟩⟩ out hw ho
 cases ho
 refine (XT v b).trans ?_
 unfold Dt
 show _=oR (((lS v b).1,((lS v b).2,())),())
 by_cases h:0≤v∧v≤3∧(b.length:Int)≤130048
 ·have hc:(decide (0≤v)&&(decide (v≤3)&&decide ((b.length:Int)≤130048)))=true:=by simpa using h
  refine bF (by rw[hc];rfl) ?_
  refine (aa hc _ _).trans ?_
  have hg:al b ((0,0):aD).2=true:=by simp[al];omega
  unfold lS ru
  rw[if_pos h]
  show (bif aQ v 1 3 ((0,0):aD).1 then _ else _)=_
  cases h0:aQ v 1 3 ((0,0):aD).1
  ·have e0:ao .i32 4 v 1 3 b ((0,0):aD)=(0,((0,0):aD)):=by unfold ao;rw[if_neg (by rw[h0];decide)]
   rw[e0]
   refine (aa hg _ _).trans ?_
   have gf1:al b (de v b ((0,0):aD)).2.2=true:=FX (s:=((0,0):aD)) hg
   show _=oR (((if aE b (de v b ((0,0):aD)).2=0 then _ else _:bW.den×Int).1,_),())
   by_cases hE:aE b (de v b ((0,0):aD)).2=0
   ·rw[if_pos hE]
    exact af (show (aE b (de v b ((0,0):aD)).2 != 0)=false by simpa using hE) _ _
   ·rw[if_neg hE]
    exact aa (show (aE b (de v b ((0,0):aD)).2 != 0)=true by simpa using hE) _ _
  ·have e0:ao .i32 4 v 1 3 b ((0,0):aD)=ab .i32 4 b ((0,0):aD):=by unfold ao;rw[if_pos h0]
   rw[e0]
   refine (aa hg _ _).trans ?_
   have g0:al b (ab .i32 4 b ((0,0):aD)).2.2=true:=aO .i32 4 (s:=((0,0):aD)) hg
   refine (aa g0 _ _).trans ?_
   have gt1:al b (de v b (ab .i32 4 b ((0,0):aD)).2).2.2=true:=FX (s:=(ab .i32 4 b ((0,0):aD)).2) g0
   show _=oR (((if aE b (de v b (ab .i32 4 b ((0,0):aD)).2).2=0 then _ else _:bW.den×Int).1,_),())
   by_cases hE:aE b (de v b (ab .i32 4 b ((0,0):aD)).2).2=0
   ·rw[if_pos hE]
    exact af (show (aE b (de v b (ab .i32 4 b ((0,0):aD)).2).2 != 0)=false by simpa using hE) _ _
   ·rw[if_neg hE]
    exact aa (show (aE b (de v b (ab .i32 4 b ((0,0):aD)).2).2 != 0)=true by simpa using hE) _ _
 ·have hc:(decide (0≤v)&&(decide (v≤3)&&decide ((b.length:Int)≤130048)))=false:=by
   rw[Bool.eq_false_iff]
   intro h'
   simp only[zA,zB] at h'
   exact h h'
  have hn:bg v≠0:=by unfold bg;split <;> decide
  unfold lS
  rw[if_neg h]
  refine bT (by rw[hc];rfl) ?_
  refine (af hc _ _).trans ?_
  repeat refine bT (decide_eq_true hn) ?_
  exact aa (by simpa using hn) _ _
def mm (p:aU.den):Nd:=bq [av 3 p.1,av 2 p.2.1,av 4 p.2.2.1,av 4 p.2.2.2.1,av 4 p.2.2.2.2.1,iN p.2.2.2.2.2.1]
theorem ad7 {p:aU.den}(h:aU.wf p):bq [av 3 (i64.wrap p.1),av 2 (i64.wrap p.2.1),av 4 p.2.2.1,av 4 p.2.2.2.1,av 4 p.2.2.2.2.1,iN p.2.2.2.2.2.1]=mm p:=by
 rw[dQ (n:=p.1) h.1,gJ (n:=p.2.1) h.2.1];rfl
def ie (t:aj.den):Nd:=bq [gd t.1,ba (t.2.1.map mm)]
@[irreducible] def ca (m:bW.den):Nd:=bq [av 3 m.1,ba (m.2.1.map ie)]
def FV (x:Nd):aU.den:=(i32.wrap (aY x 0).lab.2.1,(i16.wrap (aY x 1).lab.2.1,((aY x 2).lab.2.1,((aY x 3).lab.2.1,((aY x 4).lab.2.1,((aY x 5).lab.2.2,()))))))
def wu (x:Nd):aj.den:=((aY x 0).lab.2.2.2.1,((aY x 1).kids.map FV,()))
@[irreducible] def As (n:Nd):bW.den:=(i32.wrap (aY n 0).lab.2.1,((aY n 1).kids.map wu,()))
theorem Tk {p:aU.den}(h:aU.wf p):FV (mm p)=p:=by
 obtain ⟨(ix:Int),(cd:Int),(hi:Int),(st:Int),(sa:Int),⟨(rcz:Bool),(rcx:LI),⟨⟩⟩,⟨⟩⟩:=p
 show (i32.wrap ix,(i16.wrap cd,(hi,(st,(sa,((rcz,(rcx,())),()))))))=_
 rw[gr (n:=ix) h.1,K2 (n:=cd) h.2.1]
 try rfl
theorem Qc {t:aj.den}(h:aj.wf t):wu (ie t)=t:=by
 obtain ⟨n,l,⟨⟩⟩:=t
 show (n,((l.map mm).map FV,()))=_
 rw[List.map_map,e9 (f:=FV ∘ mm) (l:=l) fun p hp=>Tk (h.2.1.2 p hp)]
theorem s6 {m:bW.den}(h:bW.wf m):As (ca m)=m:=by
 obtain ⟨(th:Int),(ts:List aj.den),⟨⟩⟩:=m
 unfold As ca
 show (i32.wrap th,((ts.map ie).map wu,()))=_
 rw[gr (n:=th) h.1,List.map_map,e9 (f:=wu ∘ ie) (l:=ts) fun t ht=>Qc (h.2.1.2 t ht)]
abbrev j7:Io:=⟨[.dat bW true false],[],[],[dH],none⟩
def eG (l:List aj.den):Bool:=decide (l.length≤4294967296)&&l.all fun t=>decide (t.2.1.length≤4294967296)
def wX (d:j7.In):Tr j7.Res:=.ite (eG d.1.1.2.1) (.ret (.ret ((ca d.1.1,()),()))) .no
abbrev Ig:List (Nat×Hc):=[(181,ae kZ wO),(180,ae ma AO),(183,ae jG r5),(184,ae iS pX),(182,ae iR r4)]
def zg:Hd:=bM Ig
abbrev fU:Lo:=⟨⟨(.any::.one (.ptr 1 0)::.one (.ptr 2 0)::.one (.onl 91 ap 7)::.one hI::.one (.onl 91 ap 11)::.one hI::.any::am (am (am (am (gE (dq (ce []))))))),[none,some [hJ,.hol (.sl 221 aj)],some [hI,hI,hL,.onl 5 (Ty.int u8) 1032,.onl 91 ap 1034]]⟩,[(.exit 2,⟨(.any::.one (.ptr 1 0)::.one (.ptr 2 0)::.one (.onl 91 ap 7)::.one hI::.one (.onl 91 ap 11)::am (am (am (am (am []))))),[none,some [hJ,.hol (.sl 221 aj)],some [hI,hI,hL,.onl 5 (Ty.int u8) 1032,.onl 91 ap 1034]]⟩)]⟩
abbrev fT:Lo:=⟨⟨(.any::.one (.ptr 1 0)::.one (.ptr 2 0)::.one (.onl 91 ap 7)::.one hI::.any::am (am (am (am (am []))))),[none,some [hJ,.hol (.sl 221 aj)],some [hI,hI,hL,.onl 5 (Ty.int u8) 1032,.onl 91 ap 1034]]⟩,[(.exit 0,⟨(.any::.one (.ptr 1 0)::.one (.ptr 2 0)::.one (.onl 91 ap 7)::am (am (am (am (am (ce [])))))),[none,some [hJ,.hol (.sl 221 aj)],some [hI,hI,hL,.onl 5 (Ty.int u8) 1032,.onl 91 ap 1034]]⟩)]⟩
def p8 (d:fU.st.den):Tr (aH fU.xs):=
 .ite ((decide ((0:Int)≤d.1.2.1)&&decide (d.1.2.1<(d.2.1.2.1.length:Int)))&&((decide (d.1.2.2.1.length=0)&&decide (d.1.2.2.2.1=0))&&decide ((d.2.1.2.1.getD d.1.2.1.toNat aj.zero).2.1.length≤4294967296)))
  (.ret (.ret ((),((d.1.1,(d.1.2.1,((d.2.1.2.1.getD d.1.2.1.toNat aj.zero).2.1.map mm,()))),(d.2.1,(d.2.2.1,())))))) .no
def p7 (d:fT.st.den):Tr (aH fT.xs):=
 .ite ((decide (d.1.1.length=0)&&decide (d.1.2.1=0))&&eG d.2.1.2.1)
  (.ret (.ret ((),((d.2.1.2.1.map ie,()),(d.2.1,(d.2.2.1,())))))) .no
def mZ:Lp:=bB [(4,aS fT p7),(8,aS fU p8)]
def vr {R:Type}(h11:List ap.den)(h12:Int)(h13:List ap.den)(h14 h15:Int)(h16:List aj.den)(h17 h18:Int)(h19:Bool)(h20:LI)(h21:List ap.den)(next:List ap.den→Int→List ap.den→Int→Int→List aj.den→Int→Int→Bool→LI→List ap.den→Option R)(out:aH fU.xs→Option R):Option R:=bif decide (0≤h12)&&decide (h12<(↑h16.length:Int)) then bif decide (h14<(↑(List.length (h16.getD h12.toNat ([],[],())).2.1):Int)) then bif decide (0≤h12)&&decide (h12<(↑h16.length:Int)) then bif decide (0≤h14)&&decide (h14<(↑(List.length (h16.getD h12.toNat ([],[],())).2.1):Int)) then bif decide (h13.length+1≤4294967296) then next (h11) (h12) (h13++[Tre.mk (10,0,false,[],()) [Tre.mk (3,i64.wrap (List.getD (h16.getD h12.toNat ([],[],())).2.1 h14.toNat (0,0,0,0,0,(false,[],()),())).1,false,[],()) [],Tre.mk (2,i64.wrap (List.getD (h16.getD h12.toNat ([],[],())).2.1 h14.toNat (0,0,0,0,0,(false,[],()),())).2.1,false,[],()) [],Tre.mk (4,(List.getD (h16.getD h12.toNat ([],[],())).2.1 h14.toNat (0,0,0,0,0,(false,[],()),())).2.2.1,false,[],()) [],Tre.mk (4,(List.getD (h16.getD h12.toNat ([],[],())).2.1 h14.toNat (0,0,0,0,0,(false,[],()),())).2.2.2.1,false,[],()) [],Tre.mk (4,(List.getD (h16.getD h12.toNat ([],[],())).2.1 h14.toNat (0,0,0,0,0,(false,[],()),())).2.2.2.2.1,false,[],()) [],Tre.mk (8,0,(List.getD (h16.getD h12.toNat ([],[],())).2.1 h14.toNat (0,0,0,0,0,(false,[],()),())).2.2.2.2.2.1) []]]) (i64.wrap (h14+1)) (h15) (h16) (h17) (h18) (h19) (h20) (h21) else none else none else none else out (.ret ((),((h11,(h12,(h13,()))),((h15,(h16,())),((h17,(h18,(h19,(h20,(h21,()))))),()))))) else none
def oU (n:Nat)(h11:List ap.den)(h12:Int)(h13:List ap.den)(h14 h15:Int)(h16:List aj.den)(h17 h18:Int)(h19:Bool)(h20:LI)(h21:List ap.den):Option (aH fU.xs):=il tt zg dr mZ 0 Tryz.f120 (pV Tryz.f120 (db Tryz.f120 0) 0) n (fU.st.mk' ((h11,(h12,(h13,(h14,())))),((h15,(h16,())),((h17,(h18,(h19,(h20,(h21,()))))),())))) (ci fU.xs)
theorem PB (n:Nat)(h11:List ap.den)(h12:Int)(h13:List ap.den)(h14 h15:Int)(h16:List aj.den)(h17 h18:Int)(h19:Bool)(h20:LI)(h21:List ap.den):oU (n+1) h11 h12 h13 h14 h15 h16 h17 h18 h19 h20 h21=vr h11 h12 h13 h14 h15 h16 h17 h18 h19 h20 h21 (oU n) some:=by kernel_rfl
def vq {R:Type}(h2:List ap.den)(h3 h4:Int)(h5:List aj.den)(h6 h7:Int)(h8:Bool)(h9:LI)(h10:List ap.den)(next:List ap.den→Int→Int→List aj.den→Int→Int→Bool→LI→List ap.den→Option R)(out:aH fT.xs→Option R):Option R:=bif decide (h3<(↑h5.length:Int)) then (p8 ((h2,(h3,([],(0,())))),((h4,(h5,())),((h6,(h7,(h8,(h9,(h10,()))))),())))).run fun y=>match y with | .ret ((),((x43,x44,x45,()),(x46,x47,()),(x48,x49,x50,x51,x52,()),()))=>(bif decide (0≤x44)&&decide (x44<(↑x47.length:Int)) then bif decide (x43.length+1≤4294967296) then next (x43++[Tre.mk (10,0,false,[],()) [Tre.mk (5,0,false,(x47.getD x44.toNat ([],[],())).1,()) [],Tre.mk (9,0,false,[],()) x45]]) (i64.wrap (x44+1)) (x46) (x47) (x48) (x49) (x50) (x51) (x52) else none else none) else out (.ret ((),((h2,()),((h4,(h5,())),((h6,(h7,(h8,(h9,(h10,()))))),())))))
def oT (n:Nat)(h2:List ap.den)(h3 h4:Int)(h5:List aj.den)(h6 h7:Int)(h8:Bool)(h9:LI)(h10:List ap.den):Option (aH fT.xs):=il tt zg dr mZ 0 Tryz.f120 (db Tryz.f120 0) n (fT.st.mk' ((h2,(h3,())),((h4,(h5,())),((h6,(h7,(h8,(h9,(h10,()))))),())))) (ci fT.xs)
theorem PA (n:Nat)(h2:List ap.den)(h3 h4:Int)(h5:List aj.den)(h6 h7:Int)(h8:Bool)(h9:LI)(h10:List ap.den):oT (n+1) h2 h3 h4 h5 h6 h7 h8 h9 h10=vq h2 h3 h4 h5 h6 h7 h8 h9 h10 (oT n) some:=by kernel_rfl
theorem Gz {ts:List aj.den}(hw:∀t∈ts,aj.wf t)(hl:ts.length≤maxLen){i:Nat}(hi:i<ts.length)(hp:(ts[i]).2.1.length≤4294967296)(acc:List Nd)(th a' b':Int)(z':Bool)(x':LI)(l':List Nd):∀(k j:Nat) (o:List Nd),(ts[i]).2.1.length<j+k→j≤(ts[i]).2.1.length→o.length≤j→
  oU k acc i o j th ts a' b' z' x' l'=some (.ret ((),((acc,((i:Int),(o++((ts[i]).2.1.drop j).map mm,()))),((th,(ts,())),((a',(b',(z',(x',(l',()))))),()))))):=by
 intro k
 induction k with
 |zero=>intro j o h1 h2;omega
 |succ k ih=>
  intro j o h1 h2 h3
  rw[PB]
  unfold vr
  refine bT (by simp;omega) ?_
  have hti:=hw _ (List.getElem_mem hi)
  simp only[zG,aJ hi]
  generalize ts[i]=t at hp h1 h2 ih hti ⊢
  by_cases hj:j<t.2.1.length
  ·refine bT (decide_eq_true (show (j:Int)<(t.2.1.length:Int) by omega)) ?_
   refine bT (by simp;omega) ?_
   refine bT (by simp;omega) ?_
   refine bT (decide_eq_true (show o.length+1≤4294967296 by omega)) ?_
   have hpw:=hti.2.1.2 _ (List.getElem_mem hj)
   have ih':=ih (j+1) (o++[mm t.2.1[j]]) (by omega) (by omega) (by simp;omega)
   have hd:t.2.1.drop j=t.2.1[j]::t.2.1.drop (j+1):=zE hj
   rw[hd,aI (n:=(j:Int)+1) (by omega) (by omega)]
   have hgp:List.getD t.2.1 ((j:Int)).toNat aU.zero=t.2.1[j]:=by simp only[zG];exact aJ hj
   refine Eq.trans ?_ (ih'.trans ?_)
   ·refine congrArg (fun x=>oU k acc i (o++[x]) _ th ts a' b' z' x' l') ?_
    show bq [av 3 (i64.wrap (List.getD t.2.1 ((j:Int)).toNat aU.zero).1),av 2 (i64.wrap (List.getD t.2.1 ((j:Int)).toNat aU.zero).2.1),av 4 (List.getD t.2.1 ((j:Int)).toNat aU.zero).2.2.1,av 4 (List.getD t.2.1 ((j:Int)).toNat aU.zero).2.2.2.1,av 4 (List.getD t.2.1 ((j:Int)).toNat aU.zero).2.2.2.2.1,iN (List.getD t.2.1 ((j:Int)).toNat aU.zero).2.2.2.2.2.1]=_
    rw[hgp]
    exact ad7 hpw
   ·simp only[zL,zK,zM]
  ·refine bF (decide_eq_false (show ¬(j:Int)<(t.2.1.length:Int) by omega)) ?_
   rw[zI (by omega)]
   simp
theorem Gy {ts:List aj.den}(hw:∀t∈ts,aj.wf t)(hl:ts.length≤maxLen)(hs:eG ts=true)(th a' b':Int)(z':Bool)(x':LI)(l':List Nd):∀(k j:Nat) (o:List Nd),ts.length<j+k→j≤ts.length→o.length≤j→
  oT k o j th ts a' b' z' x' l'=some (.ret ((),((o++(ts.drop j).map ie,()),((th,(ts,())),((a',(b',(z',(x',(l',()))))),()))))):=by
 intro k
 have hs1:=(zA _ _▸hs).1
 have hs2:=(zA _ _▸hs).2
 have hs1:ts.length≤4294967296:=of_decide_eq_true hs1
 induction k with
 |zero=>intro j o h1 h2;omega
 |succ k ih=>
  intro j o h1 h2 h3
  rw[PA]
  unfold vq
  by_cases hj:j<ts.length
  ·refine bT (decide_eq_true (show (j:Int)<(ts.length:Int) by omega)) ?_
   have hgp:ts.getD ((j:Int)).toNat aj.zero=ts[j]:=by simp only[zG];exact aJ hj
   have hpl:(ts[j]).2.1.length≤4294967296:=of_decide_eq_true (List.all_eq_true.1 hs2 _ (List.getElem_mem hj))
   have c8:((decide ((0:Int)≤(j:Int))&&decide ((j:Int)<(ts.length:Int)))&&((decide (([]:List Nd).length=0)&&decide ((0:Int)=0))&&decide ((ts.getD ((j:Int)).toNat aj.zero).2.1.length≤4294967296)))=true:=by
    rw[hgp];simp;omega
   refine (aa c8 _ _).trans ?_
   refine bT (by simp;omega) ?_
   refine bT (decide_eq_true (show o.length+1≤4294967296 by omega)) ?_
   rw[aI (n:=(j:Int)+1) (by omega) (by omega)]
   have ih':=ih (j+1) (o++[ie ts[j]]) (by omega) (by omega) (by simp;omega)
   have hd:ts.drop j=ts[j]::ts.drop (j+1):=zE hj
   rw[hd]
   refine Eq.trans ?_ (ih'.trans ?_)
   ·refine congrArg (fun x=>oT k (o++[x]) _ th ts a' b' z' x' l') ?_
    show (bq [gd (ts.getD ((j:Int)).toNat aj.zero).1,ba ((ts.getD ((j:Int)).toNat aj.zero).2.1.map mm)])=_
    rw[hgp];rfl
   ·simp only[zL,zK,zM]
  ·refine bF (decide_eq_false (show ¬(j:Int)<(ts.length:Int) by omega)) ?_
   rw[zI (by omega)]
   simp
def Bh (a0:Int)(a1:List aj.den):Option j7.Res:=(p7 (([],(0,())),((a0,(a1,())),((0,(0,(false,([],([],()))))),())))).run fun y=>match y with | .ret ((),((x70,()),(x71,x72,()),(x73,x74,x75,x76,x77,()),()))=>(oR ((Tre.mk (10,0,false,[],()) [Tre.mk (3,i64.wrap x71,false,[],()) [],Tre.mk (9,0,false,[],()) x70],()),()))
theorem Sz (a0:Int)(a1:List aj.den):Io.run tt zg dr mZ j7 Tryz.f120 (((a0,a1,()),()),())=Bh a0 a1:=by kernel_rfl
theorem sh:HcsOk prog Ig:=.cons we (.cons Ac (.cons uu (.cons q4 (.cons Ab .nil))))
theorem I8:HcOk prog 120 (ae j7 wX):=by
 refine cg sh (lp:=mZ) (fn:=Tryz.f120) j7 (.step (h0:=aS fT p7) (by kernel_rfl) (jh sh (lp:=mZ) (fn:=Tryz.f120) (.step (h0:=aS fU p8) (by kernel_rfl) (jh sh (lp:=mZ) (fn:=Tryz.f120) (.done (by kernel_rfl)) fU p8 ?_) (.done (by kernel_rfl))) fT p7 ?_) (.done (by kernel_rfl))) wX ?_
 ·rintro ⟨⟨(acc:List Nd),(i:Int),(o:List Nd),(j:Int),⟨⟩⟩,⟨⟨(th:Int),(ts:List aj.den),⟨⟩⟩,⟨(a':Int),(b':Int),(z':Bool),(x':LI),(l':List Nd),⟨⟩⟩,⟨⟩⟩⟩ y hw hy
  obtain ⟨hg,hy⟩:=Tr.guard hy
  simp only[zA,zB] at hg
  obtain ⟨⟨h1,h2⟩,⟨h3,h4⟩,h5⟩:=hg
  have h1:0≤i:=h1
  have h2:i<(ts.length:Int):=h2
  have h3:o=[]:=zF h3
  have h4:j=0:=h4
  obtain ⟨i,rfl⟩:=eK h1
  subst h3
  subst h4
  have hi:i<ts.length:=by omega
  have hgp:ts.getD ((i:Int)).toNat aj.zero=ts[i]:=by simp only[zG];exact aJ hi
  have h5:(ts.getD ((i:Int)).toNat aj.zero).2.1.length≤4294967296:=h5
  rw[hgp] at h5
  have hwt:ts.length≤maxLen∧∀t∈ts,aj.wf t:=by have:=hw.2.1.2.1;exact this
  refine ⟨(ts[i]).2.1.length+1,(Gz hwt.2 hwt.1 hi h5 acc th a' b' z' x' l' ((ts[i]).2.1.length+1) 0 [] (by omega) (by omega) (by simp)).trans ?_⟩
  rw[← hy,← hgp,List.drop_zero]
  rfl
 ·rintro ⟨⟨(o:List Nd),(j:Int),⟨⟩⟩,⟨⟨(th:Int),(ts:List aj.den),⟨⟩⟩,⟨(a':Int),(b':Int),(z':Bool),(x':LI),(l':List Nd),⟨⟩⟩,⟨⟩⟩⟩ y hw hy
  obtain ⟨hg,hy⟩:=Tr.guard hy
  simp only[zA,zB] at hg
  obtain ⟨⟨h3,h4⟩,h5⟩:=hg
  have h3:o=[]:=zF h3
  have h4:j=0:=h4
  have h5:eG ts=true:=h5
  subst h3
  subst h4
  have hwt:ts.length≤maxLen∧∀t∈ts,aj.wf t:=by have:=hw.2.1.2.1;exact this
  refine ⟨ts.length+1,(Gy hwt.2 hwt.1 h5 th a' b' z' x' l' (ts.length+1) 0 [] (by omega) (by omega) (by simp)).trans ?_⟩
  rw[← hy,List.drop_zero]
  rfl
 ·rintro ⟨⟨⟨(th:Int),(ts:List aj.den),⟨⟩⟩,⟨⟩⟩,⟨⟩⟩ out hw ho
  obtain ⟨hg,ho⟩:=Tr.guard ho
  have hg:eG ts=true:=hg
  cases ho
  refine (Sz th ts).trans ?_
  unfold Bh
  have c1:((decide (([]:List Nd).length=0)&&decide ((0:Int)=0))&&eG ts)=true:=by rw[hg];rfl
  refine (aa c1 _ _).trans ?_
  show _=oR ((ca (th,(ts,())),()),())
  unfold ca
  have hth:i64.wrap th=th:=dQ hw.1.1.1
  show oR ((bq [av 3 (i64.wrap th),ba (ts.map ie)],()),())=_
  rw[hth]
abbrev qO:Io:=⟨[dH],[],[],[.dat bW true false],none⟩
def QC (d:qO.In):Tr qO.Res:=.ite (decide (aM d.1.1≤4294967296)) (.ret (.ret ((As d.1.1,()),()))) .no
abbrev UO:List (Nat×Hc):=[(164,ae rD Mj),(165,ae iQ rY)]
def KY:Hd:=bM UO
abbrev gT:Lo:=⟨⟨(ce (.one (.ptr 2 0)::.one (.ptr 3 0)::.one (.hol (.sl 91 ap))::.one hI::.one (.ptr 6 0)::.one (.hol (.sl 91 ap))::.one hI::.any::am (am (am (am (gE (dq []))))))),[none,none,some [hJ,.onl 221 aj 1028],some [hJ,.onl 221 aj 1540],none,none,some [.hol .str,.onl 223 aU 3076]]⟩,[(.exit 2,⟨(ce (.one (.ptr 2 0)::.one (.ptr 3 0)::.one (.hol (.sl 91 ap))::.one hI::.one (.ptr 6 0)::.any::am (am (am (am (gE (dq (ce [])))))))),[none,none,some [hJ,.onl 221 aj 1028],some [hJ,.onl 221 aj 1540],none,none,some [.hol .str,.onl 223 aU 3076]]⟩)]⟩
abbrev je:Lo:=⟨⟨(ce (.one (.ptr 2 0)::.one (.ptr 3 0)::.one (.hol (.sl 91 ap))::.one hI::am (am (am (am (am [])))))),[none,none,some [hJ,.onl 221 aj 1028],some [hJ,.onl 221 aj 1540]]⟩,[(.exit 0,⟨(ce (.one (.ptr 2 0)::.one (.ptr 3 0)::am (am (am (am (am (ce []))))))),[none,none,some [hJ,.onl 221 aj 1028],some [hJ,.onl 221 aj 1540]]⟩)]⟩
def tD (d:gT.st.den):Tr (aH gT.xs):=
 .ite ((decide (d.1.2.2.2.1=0)&&decide (d.2.2.2.1.2.1.length=0))&&decide (aK d.1.2.2.1≤4294967296))
  (.ret (.ret ((),((d.1.1,(d.1.2.1,())),(d.2.1,(d.2.2.1,((d.2.2.2.1.1,(d.1.2.2.1.map FV,())),()))))))) .no
def wY (d:je.st.den):Tr (aH je.xs):=
 .ite ((decide (d.1.2.1=0)&&decide (d.2.2.1.2.1.length=0))&&decide (aK d.1.1≤4294967296))
  (.ret (.ret ((),((),(d.2.1,((d.2.2.1.1,(d.1.1.map wu,())),())))))) .no
def uf:Lp:=bB [(5,aS je wY),(10,aS gT tD)]
def yz {R:Type}(h7:List (Nd))(h8:Int)(h9:List (Nd))(h10 h11:Int)(h12:List aj.den)(h13:Int)(h14:List aj.den)(h15:LI)(h16:List aU.den)(next:List (Nd)→Int→List (Nd)→Int→Int→List aj.den→Int→List aj.den→LI→List aU.den→Option R)(out:aH gT.xs→Option R):Option R:=bif decide (h10<(↑h9.length:Int)) then bif decide (0≤h10)&&decide (h10<(↑h9.length:Int)) then bif decide (List.length (aY (Tre.mk (h9.getD h10.toNat (Tre.mk (0,0,false,[],()) [])).1 (h9.getD h10.toNat (Tre.mk (0,0,false,[],()) [])).2) 5).1.2.2.2.1≤4294967296) then bif decide (h16.length+1≤4294967296) then next (h7) (h8) (h9) (i64.wrap (h10+1)) (h11) (h12) (h13) (h14) (h15) (h16++[(i32.wrap (aY (Tre.mk (h9.getD h10.toNat (Tre.mk (0,0,false,[],()) [])).1 (h9.getD h10.toNat (Tre.mk (0,0,false,[],()) [])).2) 0).1.2.1,i16.wrap (aY (Tre.mk (h9.getD h10.toNat (Tre.mk (0,0,false,[],()) [])).1 (h9.getD h10.toNat (Tre.mk (0,0,false,[],()) [])).2) 1).1.2.1,(aY (Tre.mk (h9.getD h10.toNat (Tre.mk (0,0,false,[],()) [])).1 (h9.getD h10.toNat (Tre.mk (0,0,false,[],()) [])).2) 2).1.2.1,(aY (Tre.mk (h9.getD h10.toNat (Tre.mk (0,0,false,[],()) [])).1 (h9.getD h10.toNat (Tre.mk (0,0,false,[],()) [])).2) 3).1.2.1,(aY (Tre.mk (h9.getD h10.toNat (Tre.mk (0,0,false,[],()) [])).1 (h9.getD h10.toNat (Tre.mk (0,0,false,[],()) [])).2) 4).1.2.1,(aY (Tre.mk (h9.getD h10.toNat (Tre.mk (0,0,false,[],()) [])).1 (h9.getD h10.toNat (Tre.mk (0,0,false,[],()) [])).2) 5).1.2.2,())]) else none else none else none else out (.ret ((),((h7,(h8,())),((h11,(h12,())),((h13,(h14,())),((h15,(h16,())),()))))))
def v8 (n:Nat)(h7:List (Nd))(h8:Int)(h9:List (Nd))(h10 h11:Int)(h12:List aj.den)(h13:Int)(h14:List aj.den)(h15:LI)(h16:List aU.den):Option (aH gT.xs):=il tt KY dr uf 0 Tryz.f79 (pV Tryz.f79 (db Tryz.f79 0) 0) n (gT.st.mk' ((h7,(h8,(h9,(h10,())))),((h11,(h12,())),((h13,(h14,())),((h15,(h16,())),()))))) (ci gT.xs)
theorem SO (n:Nat)(h7:List (Nd))(h8:Int)(h9:List (Nd))(h10 h11:Int)(h12:List aj.den)(h13:Int)(h14:List aj.den)(h15:LI)(h16:List aU.den):v8 (n+1) h7 h8 h9 h10 h11 h12 h13 h14 h15 h16=yz h7 h8 h9 h10 h11 h12 h13 h14 h15 h16 (v8 n) some:=by kernel_rfl
def B3 {R:Type}(h1:List (Nd))(h2 h3:Int)(h4:List aj.den)(h5:Int)(h6:List aj.den)(next:List (Nd)→Int→Int→List aj.den→Int→List aj.den→Option R)(out:aH je.xs→Option R):Option R:=bif decide (h2<(↑h1.length:Int)) then bif decide (0≤h2)&&decide (h2<(↑h1.length:Int)) then bif decide (0≤h2)&&decide (h2<(↑h1.length:Int)) then (tD ((h1,(h2,((aY (Tre.mk (h1.getD h2.toNat (Tre.mk (0,0,false,[],()) [])).1 (h1.getD h2.toNat (Tre.mk (0,0,false,[],()) [])).2) 1).2,(0,())))),((h3,(h4,())),((h5,(h6,())),(((aY (Tre.mk (h1.getD h2.toNat (Tre.mk (0,0,false,[],()) [])).1 (h1.getD h2.toNat (Tre.mk (0,0,false,[],()) [])).2) 0).1.2.2.2.1,([],())),()))))).run fun y=>match y with | .ret ((),((x35,x36,()),(x37,x38,()),(x39,x40,()),(x41,x42,()),()))=>(bif decide (x40.length+1≤4294967296) then next (x35) (i64.wrap (x36+1)) (x37) (x38) (x39) (x40++[(x41,x42,())]) else none) else none else none else out (.ret ((),((),((h3,(h4,())),((h5,(h6,())),())))))
def zO (n:Nat)(h1:List (Nd))(h2 h3:Int)(h4:List aj.den)(h5:Int)(h6:List aj.den):Option (aH je.xs):=il tt KY dr uf 0 Tryz.f79 (db Tryz.f79 0) n (je.st.mk' ((h1,(h2,())),((h3,(h4,())),((h5,(h6,())),())))) (ci je.xs)
theorem YH (n:Nat)(h1:List (Nd))(h2 h3:Int)(h4:List aj.den)(h5:Int)(h6:List aj.den):zO (n+1) h1 h2 h3 h4 h5 h6=B3 h1 h2 h3 h4 h5 h6 (zO n) some:=by kernel_rfl
theorem Lc {ps:List Nd}(hb:aK ps≤4294967296)(dc:List Nd)(i th0:Int)(ts0:List aj.den)(th:Int)(ts:List aj.den)(tn:LI):∀(k j:Nat) (o:List aU.den),ps.length<j+k→j≤ps.length→o.length≤j→
  v8 k dc i ps j th0 ts0 th ts tn o=some (.ret ((),((dc,(i,())),((th0,(ts0,())),((th,(ts,())),((tn,(o++(ps.drop j).map FV,())),())))))):=by
 intro k
 have hlen:=dG ps
 induction k with
 |zero=>intro j o h1 h2;omega
 |succ k ih=>
  intro j o h1 h2 h3
  rw[SO]
  unfold yz
  by_cases hj:j<ps.length
  ·refine bT (decide_eq_true (show (j:Int)<(ps.length:Int) by omega)) ?_
   have hmem:=cI (List.getElem_mem hj)
   have ih':=ih (j+1) (o++[FV ps[j]]) (by omega) (by omega) (by simp;omega)
   have hd:ps.drop j=ps[j]::ps.drop (j+1):=zE hj
   rw[hd,aI (n:=(j:Int)+1) (by omega) (by omega)]
   simp only[zG,aJ hj]
   generalize ps[j]=u at hmem ih' ⊢
   obtain ⟨ul,uk⟩:=u
   refine bT (by simp;omega) ?_
   refine bT (decide_eq_true (show (aY (Tre.mk ul uk) 5).lab.2.2.2.1.length≤4294967296 by have:=gY (Tre.mk ul uk) 5;have:=Jo (aY (Tre.mk ul uk) 5);omega)) ?_
   refine bT (decide_eq_true (show o.length+1≤4294967296 by omega)) ?_
   refine ih'.trans ?_
   simp only[zL,zK,zM]
  ·refine bF (decide_eq_false (show ¬(j:Int)<(ps.length:Int) by omega)) ?_
   rw[zI (by omega)]
   simp
theorem Og {nds:List Nd}(hb:aK nds≤4294967296)(th0:Int)(ts0:List aj.den)(th:Int):∀(k j:Nat) (ts:List aj.den),nds.length<j+k→j≤nds.length→ts.length≤j→
  zO k nds j th0 ts0 th ts=some (.ret ((),((),((th0,(ts0,())),((th,(ts++(nds.drop j).map wu,())),()))))):=by
 intro k
 have hlen:=dG nds
 induction k with
 |zero=>intro j o h1 h2;omega
 |succ k ih=>
  intro j ts h1 h2 h3
  rw[YH]
  unfold B3
  by_cases hj:j<nds.length
  ·refine bT (decide_eq_true (show (j:Int)<(nds.length:Int) by omega)) ?_
   have hmem:=cI (List.getElem_mem hj)
   have ih':=ih (j+1) (ts++[wu nds[j]]) (by omega) (by omega) (by simp;omega)
   have hd:nds.drop j=nds[j]::nds.drop (j+1):=zE hj
   rw[hd]
   simp only[zG,aJ hj]
   generalize nds[j]=u at hmem ih' ⊢
   obtain ⟨ul,uk⟩:=u
   refine bT (by simp;omega) ?_
   refine bT (by simp;omega) ?_
   have hw1:=gY (Tre.mk ul uk) 1
   have hw2:=dC (aY (Tre.mk ul uk) 1)
   have cA:((decide ((0:Int)=0)&&decide (([]:List aU.den).length=0))&&decide (aK (aY (Tre.mk ul uk) 1).kids≤4294967296))=true:=by simp;omega
   refine (aa cA _ _).trans ?_
   refine bT (decide_eq_true (show ts.length+1≤4294967296 by omega)) ?_
   rw[aI (n:=(j:Int)+1) (by omega) (by omega)]
   refine ih'.trans ?_
   simp only[zL,zK,zM]
  ·refine bF (decide_eq_false (show ¬(j:Int)<(nds.length:Int) by omega)) ?_
   rw[zI (by omega)]
   simp
def HP (a0:Nd):Option qO.Res:=(wY (((aY (Tre.mk a0.1 a0.2) 1).2,(0,())),((0,([],())),((i32.wrap (aY (Tre.mk a0.1 a0.2) 0).1.2.1,([],())),())))).run fun y=>match y with | .ret ((),((),(x53,x54,()),(x55,x56,()),()))=>(oR (((x55,x56,()),()),()))
theorem adA (a0:Nd):Io.run tt KY dr uf qO Tryz.f79 ((a0,()),())=HP a0:=by kernel_rfl
theorem zb:HcsOk prog UO:=.cons I5 (.cons z9 .nil)
theorem af5:HcOk prog 79 (ae qO QC):=by
 refine cg zb (lp:=uf) (fn:=Tryz.f79) qO (.step (h0:=aS je wY) (by kernel_rfl) (jh zb (lp:=uf) (fn:=Tryz.f79) (.step (h0:=aS gT tD) (by kernel_rfl) (jh zb (lp:=uf) (fn:=Tryz.f79) (.done (by kernel_rfl)) gT tD ?_) (.done (by kernel_rfl))) je wY ?_) (.done (by kernel_rfl))) QC ?_
 ·rintro ⟨⟨(dc:List Nd),(i:Int),(ps:List Nd),(j:Int),⟨⟩⟩,⟨⟨(th0:Int),(ts0:List aj.den),⟨⟩⟩,⟨(th:Int),(ts:List aj.den),⟨⟩⟩,⟨(tn:LI),(o:List aU.den),⟨⟩⟩,⟨⟩⟩⟩ y hw hy
  obtain ⟨hg,hy⟩:=Tr.guard hy
  simp only[zA,zB] at hg
  obtain ⟨⟨h1,h2⟩,h3⟩:=hg
  have h1:j=0:=h1
  have h2:o=[]:=zF h2
  have h3:aK ps≤4294967296:=h3
  subst h1
  subst h2
  refine ⟨ps.length+1,(Lc h3 dc i th0 ts0 th ts tn (ps.length+1) 0 [] (by omega) (by omega) (by simp)).trans ?_⟩
  rw[← hy,List.drop_zero]
  rfl
 ·rintro ⟨⟨(nds:List Nd),(j:Int),⟨⟩⟩,⟨⟨(th0:Int),(ts0:List aj.den),⟨⟩⟩,⟨(th:Int),(ts:List aj.den),⟨⟩⟩,⟨⟩⟩⟩ y hw hy
  obtain ⟨hg,hy⟩:=Tr.guard hy
  simp only[zA,zB] at hg
  obtain ⟨⟨h1,h2⟩,h3⟩:=hg
  have h1:j=0:=h1
  have h2:ts=[]:=zF h2
  have h3:aK nds≤4294967296:=h3
  subst h1
  subst h2
  refine ⟨nds.length+1,(Og h3 th0 ts0 th (nds.length+1) 0 [] (by omega) (by omega) (by simp)).trans ?_⟩
  rw[← hy,List.drop_zero]
  rfl
 ·rintro ⟨⟨(n:Nd),⟨⟩⟩,⟨⟩⟩ out hw ho
  obtain ⟨hg,ho⟩:=Tr.guard ho
  have hg:aM n≤4294967296:=of_decide_eq_true hg
  cases ho
  refine (adA n).trans ?_
  unfold HP
  obtain ⟨nl,nk⟩:=n
  have hw1:=gY (Tre.mk nl nk) 1
  have hw2:=dC (aY (Tre.mk nl nk) 1)
  have c1:((decide ((0:Int)=0)&&decide (([]:List aj.den).length=0))&&decide (aK (aY (Tre.mk nl nk) 1).kids≤4294967296))=true:=by simp;omega
  refine (aa c1 _ _).trans ?_
  show _=oR ((As (Tre.mk nl nk),()),())
  unfold As
  rfl
abbrev k9:Io:=⟨[.dat bW true false],[],[],[.dat bW true false],none⟩
def Dh (d:k9.In):Tr k9.Res:=.ite (eG d.1.1.2.1&&decide (aM (ca d.1.1)≤4294967296)) (.ret (.ret ((d.1.1,()),()))) .no
abbrev Ih:List (Nat×Hc):=[(120,ae j7 wX),(83,ae fC vx),(79,ae qO QC)]
def WX:Hd:=bM Ih
def IP:Lp:=bB []
def Bi (a0:Int)(a1:List aj.den):Option k9.Res:=bif eG a1 then bif decide (aM (Tre.mk (ca (a0,a1,())).1 (ca (a0,a1,())).2)≤4294967296) then bif decide (aM (Tre.mk (ca (a0,a1,())).1 (ca (a0,a1,())).2)≤4294967296) then oR ((As (Tre.mk (ca (a0,a1,())).1 (ca (a0,a1,())).2),()),()) else none else none else none
theorem SA (a0:Int)(a1:List aj.den):Io.run tt WX dr IP k9 Tryz.f56 (((a0,a1,()),()),())=Bi a0 a1:=by kernel_rfl
theorem XH:HcOk prog 56 (ae k9 Dh):=by
 refine cg (cs:=Ih) (.cons I8 (.cons uv (.cons af5 .nil))) (lp:=IP) (fn:=Tryz.f56) k9 (.done (by kernel_rfl)) Dh ?_
 rintro ⟨⟨m,⟨⟩⟩,⟨⟩⟩ out hw ho
 obtain ⟨hg,ho⟩:=Tr.guard ho
 simp only[zA,zB] at hg
 obtain ⟨h1,h2⟩:=hg
 have h1:eG m.2.1=true:=h1
 have h2:aM (ca m)≤4294967296:=h2
 cases ho
 have hf:=s6 (m:=m) hw.1.1
 obtain ⟨th,ts,⟨⟩⟩:=m
 refine (SA th ts).trans ?_
 unfold Bi
 generalize ca (th,(ts,()))=n at h2 hf ⊢
 obtain ⟨nl,nk⟩:=n
 refine (aa h1 _ _).trans ?_
 refine bT (decide_eq_true h2) ?_
 refine bT (decide_eq_true h2) ?_
 exact congrArg (fun x=>oR ((x,()),())) hf
@[irreducible] noncomputable def f7 (v:Int)(m:bW.den):LI×Int:=eE 1 true v (ca m)
end
end Go.Proofs.YtomeplopmndbgaaGreat.Sym
namespace Go.Proofs.YtomeplopmndbgaaGreat.Sym
open Go
noncomputable section
def aek (v:Int)(p:aU.den):LI×Int:=aZ (aB p.1 4,0) (aZ (aB p.2.1 2,0) (aZ (aB p.2.2.1 8,0) (aZ (if 2≤v∧v≤3 then (aB p.2.2.2.1 8,0) else ([],0)) (aZ (if 3≤v∧v≤3 then (aB p.2.2.2.2.1 8,0) else ([],0)) (aZ (Fj p.2.2.2.2.2.1) (([],0)))))))
def ael (v:Int)(t:aj.den):LI×Int:=aZ (lP t.1) (aZ (du (aek v) t.2.1) ([],0))
def Cg (v:Int)(m:bW.den):LI×Int:=aZ (if 1≤v∧v≤3 then (aB m.1 4,0) else ([],0)) (aZ (du (ael v) m.2.1) (([],0)))
theorem Wri.frP (v:Int)(p:aU.den)(h:aeM p=true):Wri (aek v p) (pl v p):=(Wri.put p.1 4).seq ((Wri.put p.2.1 2).seq ((Wri.put p.2.2.1 8).seq ((Wri.hasE v 2 3 p.2.2.2.1 8).seq ((Wri.hasE v 3 3 p.2.2.2.2.1 8).seq ((Wri.blob p.2.2.2.2.2.1 (of_decide_eq_true h)).seq (Wri.nop))))))
theorem Wri.frT (v:Int)(t:aj.den)(h:NN t=true):Wri (ael v t) (FW v t):=(Wri.str _).seq ((Wri.items fun p hp=>Wri.frP v p (List.all_eq_true.1 h p hp)).seq Wri.nop)
abbrev aiu:Fd:=cO [112,97,114,116] 10 0 3 [cO [105,110,100,101,120] 3 0 3 [],cO [99,111,100,101] 2 0 3 [],cO [104,105,103,104] 4 0 3 [],cO [115,116,97,98,108,101] 4 2 3 [],cO [115,116,97,114,116] 4 3 3 [],cO [114,101,99,115] 8 0 3 []]
abbrev aj1:Fd:=cO [116,111,112,105,99] 10 0 3 [cO [110,97,109,101] 5 0 3 [],cO [112,97,114,116,115] 9 0 3 [aiu]]
theorem ag9 {v:Int}{p:aU.den}(hv:0≤v∧v≤3)(h:aU.wf p):uE aiu v (mm p)=aek v p:=by
 unfold mm aek
 rw[jJ,bc (ax hv.1 hv.2),bc (ax hv.1 hv.2),bc (ax hv.1 hv.2),kF,kF,bc (ax hv.1 hv.2),cv,bG (by decide) (w:=4) rfl (bV h.1),bG (by decide) (w:=2) rfl (nR h.2.1),bG (by decide) (w:=8) rfl (fq p.2.2.1),bG (by decide) (w:=8) rfl (fq p.2.2.2.1),bG (by decide) (w:=8) rfl (fq p.2.2.2.2.1),FJ]
 try rfl
theorem aha {v:Int}{t:aj.den}(hv:0≤v∧v≤3)(h:aj.wf t):uE aj1 v (ie t)=ael v t:=by
 unfold ie ael
 rw[jJ,bc (ax hv.1 hv.2),bc (ax hv.1 hv.2),cv,pS,fu,cw fun p hp=>ag9 hv (h.2.1.2 p hp)]
def pJ (v:Int)(p:aU.den):Bool:=(if 2≤v∧v≤3 then true else (p.2.2.2.1 == 0))&&((if 3≤v∧v≤3 then true else (p.2.2.2.2.1 == 0)))
theorem YO {v:Int}{p:aU.den}(hv:0≤v∧v≤3):(bn aiu v (mm p)).2=pJ v p:=by
 unfold mm pJ
 rw[fG,bd (ax hv.1 hv.2),bd (ax hv.1 hv.2),bd (ax hv.1 hv.2),dl,dl,bd (ax hv.1 hv.2),dk,aL (by decide) (by decide),aL (by decide) (by decide),aL (by decide) (by decide),aL (by decide) (by decide),aL (by decide) (by decide),aL (by decide) (by decide),bh,bh]
 simp only[Bool.true_and,Bool.and_true]
theorem YP {v:Int}{t:aj.den}(hv:0≤v∧v≤3):(bn aj1 v (ie t)).2=t.2.1.all (pJ v):=by
 unfold ie
 rw[fG,bd (ax hv.1 hv.2),bd (ax hv.1 hv.2),dk,aL (by decide) (by decide),dh]
 simp only[YO hv,Bool.true_and,Bool.and_true]
theorem FL (m:bW.den):er vd [av 3 m.1,ba (m.2.1.map ie)]:=by
 unfold vd b8
 refine au (aF (by decide) (by decide)) (au ?_ cj)
 refine cN _ _ fun t=>dK rfl (au (aF (by decide) (by decide)) (au ?_ cj))
 exact cN _ _ fun p=>dK rfl (au (aF (by decide) (by decide)) (au (aF (by decide) (by decide)) (au (aF (by decide) (by decide)) (au (aF (by decide) (by decide)) (au (aF (by decide) (by decide)) (au (aF (by decide) (by decide)) cj))))))
def uT (v:Int)(m:bW.den):Bool:=(if 1≤v∧v≤3 then true else (m.1 == 0))&&((m.2.1.all fun t=>t.2.1.all (pJ v)))
theorem Y3 {e v:Int}{p:aU.den}:ws v p (e,(false,([]:LI)))=(iF e (pJ v p),(false,[])):=by
 unfold ws pJ
 rw[cS,cS,c7]
theorem FU {v:Int}:∀{ps:List aU.den} {e:Int},jm v ps (e,(false,([]:LI)))=(iF e (ps.all (pJ v)),(false,[]))
 |[],e=>by rw[List.all_nil,iA];rfl
 |p::ps,e=>by
  show jm v ps (ws v p (e,(false,[])))=_
  rw[Y3,FU,c7,List.all_cons]
theorem Jv {v:Int}:∀{ts:List aj.den} {e:Int},Ar v ts (e,(false,([]:LI)))=(iF e (ts.all fun t=>t.2.1.all (pJ v)),(false,[]))
 |[],e=>by rw[List.all_nil,iA];rfl
 |t::ts,e=>by
  show Ar v ts (jm v t.2.1 (e,(false,[])))=_
  rw[FU,Jv,c7,List.all_cons]
theorem ahG {v:Int}{m:bW.den}(hv:0≤v∧v≤3):(bS v vd [av 3 m.1,ba (m.2.1.map ie)]).2=uT v m:=by
 unfold vd b8 uT
 rw[dl,bd (ax hv.1 hv.2),dk,aL (by decide) (by decide),dh,bh]
 simp only[YP hv,Bool.true_and,Bool.and_true,Bool.and_assoc]
theorem aid {v:Int}{m:bW.den}(hv:0≤v∧v≤3)(hm:bW.wf m):cG v vd [av 3 m.1,ba (m.2.1.map ie)]=Cg v m:=by
 unfold vd b8 Cg
 rw[kF,bc (ax hv.1 hv.2),cv,bG (by decide) (w:=4) rfl (bV hm.1),fu,cw fun t ht=>aha hv (hm.2.1.2 t ht)]
 try rfl
theorem aiy {v:Int}{m:bW.den}(hm:bW.wf m)(hok:dD m.2.1=true):(bD (yn v m),bm (yn v m))=f7 v m:=by
 unfold f7 ca
 rw[jI (t:=vd) rfl PM rfl (FL m)]
 unfold yn
 rw[cS,Jv,c7]
 have hr:Wri (Cg v m) _:=(Wri.hasE v 1 3 m.1 4).seq ((Wri.items fun t ht=>Wri.frT v t (List.all_eq_true.1 hok t ht)).seq (Wri.nop))
 refine (hr.done _).trans ?_
 unfold aV
 by_cases hv:v<0∨3<v
 ·rw[if_pos hv,if_pos hv]
  exact if_pos (by simp[iF])
 rw[if_neg hv,if_neg hv]
 have hv':0≤v∧v≤3:=by omega
 rw[ahG hv',aid hv' hm]
 show (if iF 0 (uT v m)≠0 then _ else _)=_
 cases hz:uT v m
 ·exact (if_pos (by decide)).trans (show ([],iF 0 (uT v m))=_ by rw[hz];rfl)
 ·exact (if_neg (by decide)).trans (if_neg (by decide)).symm
abbrev xB:Io:=qu
def TF (d:xB.In):Tr xB.Res:=.ite (dD d.1.2.1.2.1) (.ret (.ret (((f7 d.1.1 d.1.2.1).1,((f7 d.1.1 d.1.2.1).2,())),()))) .no
theorem aca:HcOk prog 59 (ae xB TF):=by
 refine HcOk.weakW afL ?_
 rintro ⟨⟨(v:Int),m,⟨⟩⟩,⟨⟩⟩ y hw hy
 obtain ⟨hg,hy⟩:=Tr.guard hy
 refine (aa hg _ _).trans ?_
 rw[← hy]
 have h:=aiy (v:=v) (m:=m) hw.1.2.1 hg
 show oR ((bD (yn v m),(bm (yn v m),())),())=oR (((f7 v m).1,((f7 v m).2,())),())
 rw[← h]
theorem I0 {v:Int}{p:aU.den}(h:pJ v p=true):(¬(2≤v∧v≤3)→p.2.2.2.1=0)∧(¬(3≤v∧v≤3)→p.2.2.2.2.1=0):=by
 unfold pJ at h
 simp only[zA] at h
 exact ⟨fun hv=>by have h1:=h.1;rw[if_neg hv] at h1;simpa using h1,fun hv=>by have h1:=h.2;rw[if_neg hv] at h1;simpa using h1⟩
theorem IZ {v:Int}{m:bW.den}(h:uT v m=true):(¬(1≤v∧v≤3)→m.1=0)∧(m.2.1.all fun t=>t.2.1.all (pJ v))=true:=by
 unfold uT at h
 simp only[zA] at h
 exact ⟨fun hv=>by have h1:=h.1;rw[if_neg hv] at h1;simpa using h1,h.2⟩
theorem Rd.frP {b:LI}{p:aU.den}{v:Int}(h:aU.wf p)(hk:pJ v p=true)(hb:p.2.2.2.2.2.1.2.1.length≤2147483647):Rd b p (aek v p) (n4 v b):=
 (Rd.seq (fun a r=>(a,r)) (Rd.num (bA h.1)) (Rd.seq (fun a r=>(a,r)) (Rd.num (fz h.2.1)) (Rd.seq (fun a r=>(a,r)) (Rd.num (fA h.2.2.1)) (Rd.seq (fun a r=>(a,r)) (Rd.opt (fA h.2.2.2.1) (I0 hk).1) (Rd.seq (fun a r=>(a,r)) (Rd.opt (fA h.2.2.2.2.1) (I0 hk).2) (Rd.seq (fun a r=>(a,r)) (Rd.blo p.2.2.2.2.2.1 hb) (Rd.nop b ()))))))).congr fun s=>by unfold n4;rfl
theorem Rd.frT {b:LI}{t:aj.den}{v:Int}(h:aj.wf t)(hk:t.2.1.all (pJ v)=true)(hb:NN t=true):Rd b t (ael v t) (n5 v b):=
 (Rd.seq (fun a r=>(a,r)) (Rd.txt t.1) (Rd.seq (fun a r=>(a,r)) (Rd.list fun p hp=>Rd.frP (h.2.1.2 p hp) (List.all_eq_true.1 hk p hp) (of_decide_eq_true (List.all_eq_true.1 hb p hp))) (Rd.nop b ()))).congr fun s=>by unfold n5 jL;rfl
theorem Rd.frM {b:LI}{m:bW.den}{v:Int}(h:bW.wf m)(hk0:uT v m=true)(hb:dD m.2.1=true):Rd b m (Cg v m) (ru v b):=
 have hk:=(IZ hk0).2
 (Rd.seq (fun a r=>(a,r)) (Rd.opt (bA h.1) (IZ hk0).1) (Rd.seq (fun a r=>(a,r)) (Rd.list fun t ht=>Rd.frT (h.2.1.2 t ht) (List.all_eq_true.1 hk t ht) (List.all_eq_true.1 hb t ht)) (Rd.nop b ()))).congr fun s=>by unfold ru de;rfl
theorem aaG {v:Int}{m:bW.den}(hm:bW.wf m)(h:(f7 v m).2=0):0≤v∧v≤3∧uT v m=true∧(Cg v m).2=0∧(f7 v m).1=(Cg v m).1∧(f7 v m).1.length≤130048:=by
 have hlen:(f7 v m).1.length≤130048:=by unfold f7;exact ej _ _ _ _
 unfold f7 ca at h hlen ⊢
 rw[jI (t:=vd) rfl PM rfl (FL m)] at h hlen ⊢
 by_cases hv:v<0∨3<v
 ·rw[if_pos hv] at h;cases h
 rw[if_neg hv] at h hlen ⊢
 have hv':0≤v∧v≤3:=by omega
 rw[ahG hv',aid hv' hm] at h hlen ⊢
 generalize hz:uT v m=z at h hlen ⊢
 cases z with
 |false=>rw[if_pos rfl] at h;cases h
 |true=>
  rw[if_neg (by decide)] at h hlen ⊢
  by_cases h1:(Cg v m).2=0
  ·rw[if_neg (by simpa using h1)] at h hlen ⊢
   by_cases h2:130048<(Cg v m).1.length
   ·rw[if_pos h2] at h;cases h
   ·rw[if_neg h2] at h hlen ⊢
    exact ⟨hv'.1,hv'.2,rfl,h1,rfl,hlen⟩
  ·rw[if_pos h1] at h
   exact absurd h h1
theorem aeN {v:Int}{m:bW.den}(hm:bW.wf m)(hb:dD m.2.1=true)(h:(f7 v m).2=0):
  lS v (f7 v m).1=(m,0)∧(lS v ((f7 v m).1.take ((f7 v m).1.length - 1))).2=1:=by
 obtain ⟨h1,h2,h3,h4,h5,h6⟩:=aaG hm h
 rw[h5] at h6 ⊢
 generalize hr:(Cg v m).1=r at h6 ⊢
 have hne:r≠[]:=by
  intro e
  have h4c:=h4
  have hl':(Cg v m).1.length=0:=by rw[hr,e];rfl
  unfold Cg at h4c hl'
  have s0:=cy h4c
  have l0:=congrArg List.length s0.2.2
  rw[zH] at l0
  have s1:=cy s0.2.1
  have l1:=congrArg List.length s1.2.2
  rw[zH] at l1
  have h8:=nL s1.1
  omega
 refine ⟨?_,?_⟩
 ·have key:=(Rd.frM (b:=r) hm h3 hb h4).full 0 [] (Nat.zero_le _) (by rw[hr];simp)
  have key:ru v r (0,0)=(m,(0,((0+(Cg v m).1.length:Nat):Int))):=key
  rw[hr] at key
  unfold lS
  rw[if_pos ⟨h1,h2,by omega⟩,key]
  have he:aE r (0,((0+r.length:Nat):Int))=0:=by
   unfold aE sQ
   rw[if_pos rfl,if_neg (by omega)]
  rw[if_pos he]
 ·obtain ⟨t,ht,htr⟩:=m6 hne
  have key:=(Rd.frM (b:=r.take (r.length - 1)) hm h3 hb h4).short 0 t (Nat.zero_le _) ht (by rw[hr];exact htr)
  have key:(ru v (r.take (r.length - 1)) (0,0)).2.1=1:=key
  unfold lS
  rw[if_pos ⟨h1,h2,by rw[List.length_take];omega⟩]
  have he:aE (r.take (r.length - 1)) (ru v (r.take (r.length - 1)) (0,0)).2=1:=by
   unfold aE
   rw[if_neg (by rw[key];decide)];exact key
  rw[he,if_neg (by decide)]
def Ta (m:bO.den):Bool:=eF m.2.2.2.2.2.1&&decide (8*aM (b9 m)≤4294967296)
def Tb (m:bW.den):Bool:=dD m.2.1&&(eG m.2.1&&decide (8*aM (ca m)≤4294967296))
theorem UR (p:aW.den):ga aW p=4:=rfl
theorem KE (t:ai.den):ga ai t=(t.1.length+1)+(((t.2.1.map (ga aW)).sum+1)+0):=rfl
theorem aeB (m:bO.den):ga bO m=1+(1+(1+(1+(1+(((m.2.2.2.2.2.1.map (ga ai)).sum+1)+(0)))))):=rfl
theorem ajA (p:aW.den):aM (mj p)≤3*ga aW p:=by
 rw[UR]
 show aM (bq [av 3 p.1,av 3 p.2.2.1,av 4 p.2.1,av 3 p.2.2.2.1])≤_
 rw[dV,ay,ay,ay,ay,bQ,bo,bo,bo,bo]
 omega
theorem ajB (t:ai.den):aM (hY t)≤3*ga ai t:=by
 have h:=jq (T:=aW) (F:=mj) (c:=3) (l:=t.2.1) fun p _=>ajA p
 rw[KE]
 show aM (bq [gd t.1,ba (t.2.1.map mj)])≤_
 rw[dV,ay,ay,bQ,m5,fe]
 omega
theorem aeK {m:bO.den}(h:ga bO m≤1048576):Ta m=true:=by
 have h1:=jq (T:=ai) (F:=hY) (c:=3) (l:=m.2.2.2.2.2.1) fun t _=>ajB t
 have h2:=jp (T:=ai) (fun t=>by rw[KE];omega) m.2.2.2.2.2.1
 rw[aeB] at h
 have hp:∀t∈m.2.2.2.2.2.1,t.2.1.length≤1048576:=fun t htm=>by
  have a1:=lD (T:=ai) htm
  rw[KE] at a1
  have a2:=jp (T:=aW) (fun p=>by rw[UR];omega) t.2.1
  omega
 unfold Ta
 simp only[zA,zB]
 refine ⟨?_,?_⟩
 ·unfold eF
  simp only[zA,zB]
  refine ⟨by omega,List.all_eq_true.2 fun t htm=>decide_eq_true ?_⟩
  have:=hp t htm
  omega
 ·unfold b9
  show 8*aM (bq [av 3 m.1,av 3 m.2.1,av 3 m.2.2.1,av 3 m.2.2.2.1,av 1 m.2.2.2.2.1,ba (m.2.2.2.2.2.1.map hY)])≤_
  rw[dV,ay,ay,ay,ay,ay,ay,bQ,bo,bo,bo,bo,bo,fe]
  omega
theorem KF (p:aU.den):ga aU p=p.2.2.2.2.2.1.2.1.length+7:=by
 show 1+(1+(1+(1+(1+((1+(ga bs p.2.2.2.2.2.1.2.1+0))+0)))))=_
 rw[aay];omega
theorem KG (t:aj.den):ga aj t=(t.1.length+1)+(((t.2.1.map (ga aU)).sum+1)+0):=rfl
theorem aeC (m:bW.den):ga bW m=1+(((m.2.1.map (ga aj)).sum+1)+(0)):=rfl
theorem ajC (p:aU.den):aM (mm p)≤3*ga aU p:=by
 rw[KF]
 show aM (bq [av 3 p.1,av 2 p.2.1,av 4 p.2.2.1,av 4 p.2.2.2.1,av 4 p.2.2.2.2.1,iN p.2.2.2.2.2.1])≤_
 rw[dV,ay,ay,ay,ay,ay,ay,bQ,bo,bo,bo,bo,bo,BL]
 omega
theorem ajD (t:aj.den):aM (ie t)≤3*ga aj t:=by
 have h:=jq (T:=aU) (F:=mm) (c:=3) (l:=t.2.1) fun p _=>ajC p
 rw[KG]
 show aM (bq [gd t.1,ba (t.2.1.map mm)])≤_
 rw[dV,ay,ay,bQ,m5,fe]
 omega
theorem aeO {m:bW.den}(h:ga bW m≤1048576):Tb m=true:=by
 have h1:=jq (T:=aj) (F:=ie) (c:=3) (l:=m.2.1) fun t _=>ajD t
 have h2:=jp (T:=aj) (fun t=>by rw[KG];omega) m.2.1
 rw[aeC] at h
 have hp:∀t∈m.2.1,t.2.1.length≤1048576∧∀p∈t.2.1,p.2.2.2.2.2.1.2.1.length≤1048576:=fun t htm=>by
  have a1:=lD (T:=aj) htm
  rw[KG] at a1
  have a2:=jp (T:=aU) (fun p=>by rw[KF];omega) t.2.1
  refine ⟨by omega,fun p hp=>?_⟩
  have a3:=lD (T:=aU) hp
  rw[KF] at a3
  omega
 unfold Tb
 simp only[zA,zB]
 refine ⟨?_,?_,?_⟩
 ·refine List.all_eq_true.2 fun t htm=>List.all_eq_true.2 fun p hpm=>decide_eq_true ?_
  have:=(hp t htm).2 p hpm
  omega
 ·unfold eG
  simp only[zA,zB]
  refine ⟨by omega,List.all_eq_true.2 fun t htm=>decide_eq_true ?_⟩
  have:=(hp t htm).1
  omega
 ·unfold ca
  show 8*aM (bq [av 3 m.1,ba (m.2.1.map ie)])≤_
  rw[dV,ay,ay,bQ,bo,fe]
  omega
end
end Go.Proofs.YtomeplopmndbgaaGreat.Sym
namespace Go.Proofs.YtomeplopmndbgaaGreat.Sym
open Go
open Go.IntKind (i8 i16 i32 i64 u8 u16 u32 u64)
noncomputable section
abbrev aX:Ty:=.prod (.int .i32) (.prod (.int .i32) (.prod (.int .i64) (.prod (.int .i32) .unit)))
abbrev ah:Ty:=.prod .str (.prod (.sl 198 aX) .unit)
abbrev bX:Ty:=.prod (.int .i32) (.prod (.int .i8) (.prod (.sl 196 ah) .unit))
def pm (v:Int)(p:aX.den)(s:bf):bf:=cM v 0 0 p.2.2.2.1 4 (ac p.2.2.1 8 (cM v 3 3 p.2.1 4 (ac p.1 4 (s))))
theorem JC {s:bf}(v:Int)(p:aX.den)(h:s.2.2.length≤130048):(pm v p s).2.2.length≤130048:=
 iz _ _ _ _ _ (aA _ _ (iz _ _ _ _ _ (aA _ _ (h))))
abbrev nq:Io:=⟨[.dat aX true false,.ptr 0 0],pG,[],[],none⟩
def J3 (d:nq.In):Tr nq.Res:=.ite (gi d.2.2) (.ret (.ret ((),fI d.2.2.1.2.1 (pm d.2.2.1.2.1 d.1.1 (gj d.2.2))))) .no
abbrev Nl:List (Nat×Hc):=[(98,ae cX gg),(111,ae l8 AM),(95,ae iJ pr)]
def aaW:Hd:=bM Nl
def Oy:Lp:=bB []
def DB (a0 a1 a2 a3 a4 a5:Int)(a6:Bool)(a7:LI)(a8:Int):Option nq.Res:=bif decide (a8=130048)&&decide (a7.length≤130048) then bif decide (130048=130048)&&decide ((ac a0 4 (a5,a6,a7)).2.2.length≤130048) then bif decide (3≤a4)&&decide (a4≤3) then bif decide (130048=130048)&&decide ((ac a0 4 (a5,a6,a7)).2.2.length≤130048) then bif decide (130048=130048)&&decide ((ac a1 4 (ac a0 4 (a5,a6,a7))).2.2.length≤130048) then bif decide (130048=130048)&&decide ((ac a2 8 (ac a1 4 (ac a0 4 (a5,a6,a7)))).2.2.length≤130048) then bif decide (0≤a4)&&decide (a4≤0) then bif decide (130048=130048)&&decide ((ac a2 8 (ac a1 4 (ac a0 4 (a5,a6,a7)))).2.2.length≤130048) then oR ((),((),()),((),a4,(ac a3 4 (ac a2 8 (ac a1 4 (ac a0 4 (a5,a6,a7))))).1,(ac a3 4 (ac a2 8 (ac a1 4 (ac a0 4 (a5,a6,a7))))).2.1,()),((ac a3 4 (ac a2 8 (ac a1 4 (ac a0 4 (a5,a6,a7))))).2.2,130048,()),()) else none else oR ((),((),()),((),a4,(ac a2 8 (ac a1 4 (ac a0 4 (a5,a6,a7)))).1,(ac a2 8 (ac a1 4 (ac a0 4 (a5,a6,a7)))).2.1,()),((ac a2 8 (ac a1 4 (ac a0 4 (a5,a6,a7)))).2.2,130048,()),()) else none else none else none else bif decide (130048=130048)&&decide ((ac a0 4 (a5,a6,a7)).2.2.length≤130048) then bif decide (130048=130048)&&decide ((ac a2 8 (ac a0 4 (a5,a6,a7))).2.2.length≤130048) then bif decide (0≤a4)&&decide (a4≤0) then bif decide (130048=130048)&&decide ((ac a2 8 (ac a0 4 (a5,a6,a7))).2.2.length≤130048) then oR ((),((),()),((),a4,(ac a3 4 (ac a2 8 (ac a0 4 (a5,a6,a7)))).1,(ac a3 4 (ac a2 8 (ac a0 4 (a5,a6,a7)))).2.1,()),((ac a3 4 (ac a2 8 (ac a0 4 (a5,a6,a7)))).2.2,130048,()),()) else none else oR ((),((),()),((),a4,(ac a2 8 (ac a0 4 (a5,a6,a7))).1,(ac a2 8 (ac a0 4 (a5,a6,a7))).2.1,()),((ac a2 8 (ac a0 4 (a5,a6,a7))).2.2,130048,()),()) else none else none else none else none
theorem X1 (a0 a1 a2 a3 a4 a5:Int)(a6:Bool)(a7:LI)(a8:Int):Io.run tt aaW dr Oy nq Tryz.f115 (((a0,a1,a2,a3,()),(),()),((),()),((),a4,a5,a6,()),(a7,a8,()),())=DB a0 a1 a2 a3 a4 a5 a6 a7 a8:=by kernel_rfl
theorem acg:HcOk prog 115 (ae nq J3):=by
 refine cg (cs:=Nl) (.cons eb (.cons z6 (.cons nH .nil))) (lp:=Oy) (fn:=Tryz.f115) nq (.done (by kernel_rfl)) J3 ?_
 rintro ⟨⟨⟨(ix:Int),(ep:Int),(ti:Int),(mo:Int),⟨⟩⟩,⟨⟩,⟨⟩⟩,⟨⟨⟩,⟨⟩⟩,⟨⟨⟩,(v:Int),(e:Int),(f:Bool),⟨⟩⟩,⟨(b:LI),(m:Int),⟨⟩⟩,⟨⟩⟩ out hw ho
 obtain ⟨hg,ho⟩:=Tr.guard ho
 obtain ⟨rfl,hb⟩:=bK (v:=v) (e:=e) (f:=f) hg
 cases ho
 refine (X1 ix ep ti mo v e f b 130048).trans ?_
 unfold DB
 have hg:∀s:bf,s.2.2.length≤130048→(decide ((130048:Int)=130048)&&decide (s.2.2.length≤130048))=true:=fun s h=>by simpa using h
 have hb:(e,(f,b)).2.2.length≤130048:=hb
 show _=oR ((),fI v (pm v (ix,(ep,(ti,(mo,())))) (e,f,b)))
 refine (aa (hg _ hb) _ _).trans ?_
 have l0_1:=aA ix 4 hb
 refine (aa (hg _ l0_1) _ _).trans ?_
 by_cases h1_1:3≤v∧v≤3
 ·refine bT (by simpa using h1_1) ?_
  refine (aa (hg _ l0_1) _ _).trans ?_
  have l1_1:=aA ep 4 l0_1
  refine (aa (hg _ l1_1) _ _).trans ?_
  have l2_2:=aA ti 8 l1_1
  refine (aa (hg _ l2_2) _ _).trans ?_
  by_cases h3_2:0≤v∧v≤0
  ·refine bT (by simpa using h3_2) ?_
   refine (aa (hg _ l2_2) _ _).trans ?_
   have l3_2:=aA mo 4 l2_2
   simp only[pm,bL h1_1,bL h3_2]
  ·refine (af (Bool.eq_false_iff.2 fun h'=>h3_2 (by simpa using h')) _ _).trans ?_
   simp only[pm,bL h1_1,bk h3_2]
 ·refine (af (Bool.eq_false_iff.2 fun h'=>h1_1 (by simpa using h')) _ _).trans ?_
  refine (aa (hg _ l0_1) _ _).trans ?_
  have l2_2:=aA ti 8 l0_1
  refine (aa (hg _ l2_2) _ _).trans ?_
  by_cases h3_2:0≤v∧v≤0
  ·refine bT (by simpa using h3_2) ?_
   refine (aa (hg _ l2_2) _ _).trans ?_
   have l3_2:=aA mo 4 l2_2
   simp only[pm,bk h1_1,bL h3_2]
  ·refine (af (Bool.eq_false_iff.2 fun h'=>h3_2 (by simpa using h')) _ _).trans ?_
   simp only[pm,bk h1_1,bk h3_2]
def uI (v:Int)(xs:List aX.den)(s:bf):bf:=bE (pm v) xs s
abbrev tR:Io:=⟨[.ptr 0 0,.dat (.sl 198 aX) false false,.fnc 115 false [2]],mh,[],[],none⟩
def Mg (d:tR.In):Tr tR.Res:=.ite (kg d.2) (.ret (.ret ((),gl d.2.1.2.1 (uI d.2.1.2.1 d.1.2.1 (kh d.2))))) .no
abbrev Wt:List (Nat×Hc):=[(194,ae cT gq),(98,ae cX gg),(115,ae nq J3)]
theorem Xo:HcOk prog 114 (ae tR Mg):=
 oO (one:=pm) (sps:=uI) (fun _ _ _=>rfl) (fun v _ _ h3=>JC v _ h3) (cs:=Wt) (.cons fD (.cons eb (.cons acg .nil))) (fn:=Tryz.f114) (by kernel_rfl) (by kernel_rfl) (by kernel_rfl) (by kernel_rfl) (by kernel_rfl) (by kernel_rfl) (by intros;kernel_rfl) (by intros;kernel_rfl)
def F2 (v:Int)(t:ah.den)(s:bf):bf:=uI v t.2.1 (bJ t.1 s)
abbrev kU:Io:=⟨[.dat ah true false,.ptr 0 0],pG,[],[],none⟩
def C5 (d:kU.In):Tr kU.Res:=.ite (gi d.2.2) (.ret (.ret ((),fI d.2.2.1.2.1 (F2 d.2.2.1.2.1 d.1.1 (gj d.2.2))))) .no
abbrev H1:List (Nat×Hc):=[(101,ae kR wG),(114,ae tR Mg)]
def WL:Hd:=bM H1
def ID:Lp:=bB []
def A4 (a0:LI)(a1:List aX.den)(a2 a3:Int)(a4:Bool)(a5:LI)(a6:Int):Option kU.Res:=bif decide (a6=130048)&&decide (a5.length≤130048) then bif decide (130048=130048)&&decide ((bJ a0 (a3,a4,a5)).2.2.length≤130048) then oR ((),((),()),((),a2,(uI a2 a1 (bJ a0 (a3,a4,a5))).1,(uI a2 a1 (bJ a0 (a3,a4,a5))).2.1,()),((uI a2 a1 (bJ a0 (a3,a4,a5))).2.2,130048,()),()) else none else none
theorem Sk (a0:LI)(a1:List aX.den)(a2 a3:Int)(a4:Bool)(a5:LI)(a6:Int):Io.run tt WL dr ID kU Tryz.f113 (((a0,a1,()),(),()),((),()),((),a2,a3,a4,()),(a5,a6,()),())=A4 a0 a1 a2 a3 a4 a5 a6:=by kernel_rfl
theorem Xp:HcOk prog 113 (ae kU C5):=by
 refine cg (cs:=H1) (.cons wd (.cons Xo .nil)) (lp:=ID) (fn:=Tryz.f113) kU (.done (by kernel_rfl)) C5 ?_
 rintro ⟨⟨⟨(t:LI),(ps:List aX.den),⟨⟩⟩,⟨⟩,⟨⟩⟩,⟨⟨⟩,⟨⟩⟩,⟨⟨⟩,(v:Int),(e:Int),(f:Bool),⟨⟩⟩,⟨(b:LI),(m:Int),⟨⟩⟩,⟨⟩⟩ out hw ho
 obtain ⟨hg,ho⟩:=Tr.guard ho
 obtain ⟨rfl,hb⟩:=bK (v:=v) (e:=e) (f:=f) hg
 cases ho
 refine (Sk t ps v e f b 130048).trans ?_
 unfold A4
 refine bT (by simpa using hb) ?_
 refine bT (by simpa using fc (s:=(e,f,b)) t hb) ?_
 rfl
theorem Ax {s:bf}(v:Int)(t:ah.den)(h:s.2.2.length≤130048):(F2 v t s).2.2.length≤130048:=cn (fun x s=>JC v x) _ (fc _ h)
def mS (v:Int)(xs:List ah.den)(s:bf):bf:=bE (F2 v) xs s
abbrev qy:Io:=⟨[.ptr 0 0,.dat (.sl 196 ah) false false,.fnc 113 false [2]],mh,[],[],none⟩
def GT (d:qy.In):Tr qy.Res:=.ite (kg d.2) (.ret (.ret ((),gl d.2.1.2.1 (mS d.2.1.2.1 d.1.2.1 (kh d.2))))) .no
abbrev QY:List (Nat×Hc):=[(194,ae cT gq),(98,ae cX gg),(113,ae kU C5)]
theorem RN:HcOk prog 112 (ae qy GT):=
 oO (one:=F2) (sps:=mS) (fun _ _ _=>rfl) (fun v _ _ h3=>Ax v _ h3) (cs:=QY) (.cons fD (.cons eb (.cons Xp .nil))) (fn:=Tryz.f112) (by kernel_rfl) (by kernel_rfl) (by kernel_rfl) (by kernel_rfl) (by kernel_rfl) (by kernel_rfl) (by intros;kernel_rfl) (by intros;kernel_rfl)
def wv (v:Int)(p:aX.den)(s:bf):bf:=aq v (p.2.2.2.1 == 0) 0 0 (aq v (p.2.1 == 0) 3 3 (s))
def jn (v:Int)(ps:List aX.den)(s:bf):bf:=ps.foldl (fun s p=>wv v p s) s
def Av (v:Int)(ts:List ah.den)(s:bf):bf:=ts.foldl (fun s t=>jn v t.2.1 s) s
def yo (v:Int)(m:bX.den):bf:=mS v m.2.2.1 (cM v 2 3 m.2.1 1 (ac m.1 4 (Av v m.2.2.1 (aq v (m.2.1 == 0) 2 3 (aV v,(false,([]:LI)))))))
abbrev qx:Io:=⟨[dI,.dat bX true false],[],[],[dO,dI],none⟩
def Zm (d:qx.In):Tr qx.Res:=.ret (.ret ((bD (yo d.1.1 d.1.2.1),(bm (yo d.1.1 d.1.2.1),())),()))
abbrev Ur:List (Nat×Hc):=[(93,ae l9 AN),(94,ae gt mr),(95,ae iJ pr),(98,ae cX gg),(106,ae Bw aeu),(112,ae qy GT),(105,ae jF rM)]
def KU:Hd:=bM Ur
abbrev i3:Lo:=⟨⟨(.any::ce (.one (.ptr 3 0)::ce (.one (.ptr 6 0)::gE (dq (.one (.hol (.sl 196 ah))::.one hI::.one hI::dq (.one (.hol (.sl 198 aX))::.one hI::.one hI::am (am (ce [])))))))),[none,none,none,some [hJ,.hol (.int i8),.hol (.sl 196 ah)],none,none,some [.ptr 12 0],none,none,none,none,none,some [.ptr 13 0,hI,hI,hL],some [.onl 5 (Ty.int u8) 6658,hI]]⟩,[(.exit 2,⟨(.any::ce (.one (.ptr 3 0)::ce (.one (.ptr 6 0)::gE (dq (.one (.hol (.sl 196 ah))::.one hI::.one hI::.any::am (am (gE []))))))),[none,none,none,some [hJ,.hol (.int i8),.hol (.sl 196 ah)],none,none,some [.ptr 12 0],none,none,none,none,none,some [.ptr 13 0,hI,hI,hL],some [.onl 5 (Ty.int u8) 6658,hI]]⟩)]⟩
abbrev iZ:Lo:=⟨⟨(.any::ce (.one (.ptr 3 0)::ce (.one (.ptr 6 0)::gE (dq (.one (.hol (.sl 196 ah))::.one hI::.one hI::.any::am (am (gE []))))))),[none,none,none,some [hJ,.hol (.int i8),.hol (.sl 196 ah)],none,none,some [.ptr 12 0],none,none,none,none,none,some [.ptr 13 0,hI,hI,hL],some [.onl 5 (Ty.int u8) 6658,hI]]⟩,[(.exit 0,⟨(.any::ce (.one (.ptr 3 0)::ce (.one (.ptr 6 0)::am (am (am (gE [])))))),[none,none,none,some [hJ,.hol (.int i8),.hol (.sl 196 ah)],none,none,some [.ptr 12 0],none,none,none,none,none,some [.ptr 13 0,hI,hI,hL],some [.onl 5 (Ty.int u8) 6658,hI]]⟩)]⟩
abbrev Ah (re' lv':Int)(ts':List ah.den)(v:Int)(s:bf):(Int×(Int×(List ah.den×Unit)))×(Unit×((Int×(Int×(Bool×Unit)))×((LI×(Int×Unit))×Unit))):=((re',(lv',(ts',()))),((),((v,(s.1,(s.2.1,()))),((s.2.2,(130048,())),()))))
def rU (d:i3.st.den):Tr (aH i3.xs):=
 .ite (decide (d.1.2.2.2.2.2.1=0)&&(decide (d.1.2.2.2.2.1=(d.1.2.2.2.1.length:Int))&&(decide (d.2.2.2.2.1.2.1=130048)&&decide (d.2.2.2.2.1.1.length≤130048)))) (.ret (.ret ((),((d.1.1,(d.1.2.1,(d.1.2.2.1,()))),Ah d.2.1.1 d.2.1.2.1 d.2.1.2.2.1 d.2.2.2.1.1 (jn d.2.2.2.1.1 d.1.2.2.2.1 (d.2.2.2.1.2.1,(d.2.2.2.1.2.2.1,d.2.2.2.2.1.1))))))) .no
def rT (d:iZ.st.den):Tr (aH iZ.xs):=
 .ite (decide (d.1.2.2.1=0)&&(decide (d.1.2.1=(d.1.1.length:Int))&&(decide (d.2.2.2.2.1.2.1=130048)&&decide (d.2.2.2.2.1.1.length≤130048)))) (.ret (.ret ((),((),Ah d.2.1.1 d.2.1.2.1 d.2.1.2.2.1 d.2.2.2.1.1 (Av d.2.2.2.1.1 d.1.1 (d.2.2.2.1.2.1,(d.2.2.2.1.2.2.1,d.2.2.2.2.1.1))))))) .no
def t7:Lp:=bB [(5,aS iZ rT),(8,aS i3 rU)]
def BT {R:Type}(h15:List ah.den)(h16 h17:Int)(h18:List aX.den)(h19 h20 h21 h22:Int)(h23:List ah.den)(h24 h25:Int)(h26:Bool)(h27:LI)(h28:Int)(next:List ah.den→Int→Int→List aX.den→Int→Int→Int→Int→List ah.den→Int→Int→Bool→LI→Int→Option R)(out:aH i3.xs→Option R):Option R:=bif decide (h20<h19) then bif decide (0≤h20)&&decide (h20<(↑h18.length:Int)) then bif decide (h28=130048)&&decide (h27.length≤130048) then bif decide (130048=130048)&&decide ((aq h24 ((h18.getD h20.toNat (0,0,0,0,())).2.1 == 0) 3 3 (h25,h26,h27)).2.2.length≤130048) then next (h15) (h16) (h17) (h18) (h19) (i64.wrap (h20+1)) (h21) (h22) (h23) (h24) ((aq h24 ((h18.getD h20.toNat (0,0,0,0,())).2.2.2.1 == 0) 0 0 (aq h24 ((h18.getD h20.toNat (0,0,0,0,())).2.1 == 0) 3 3 (h25,h26,h27))).1) ((aq h24 ((h18.getD h20.toNat (0,0,0,0,())).2.2.2.1 == 0) 0 0 (aq h24 ((h18.getD h20.toNat (0,0,0,0,())).2.1 == 0) 3 3 (h25,h26,h27))).2.1) ((aq h24 ((h18.getD h20.toNat (0,0,0,0,())).2.2.2.1 == 0) 0 0 (aq h24 ((h18.getD h20.toNat (0,0,0,0,())).2.1 == 0) 3 3 (h25,h26,h27))).2.2) (130048) else none else none else none else out (.ret ((),((h15,(h16,(h17,()))),((h21,(h22,(h23,()))),((),((h24,(h25,(h26,()))),((h27,(h28,())),())))))))
def zp (n:Nat)(h15:List ah.den)(h16 h17:Int)(h18:List aX.den)(h19 h20 h21 h22:Int)(h23:List ah.den)(h24 h25:Int)(h26:Bool)(h27:LI)(h28:Int):Option (aH i3.xs):=il tt KU dr t7 0 Tryz.f45 (pV Tryz.f45 (db Tryz.f45 0) 0) n (i3.st.mk' ((h15,(h16,(h17,(h18,(h19,(h20,())))))),((h21,(h22,(h23,()))),((),((h24,(h25,(h26,()))),((h27,(h28,())),())))))) (ci i3.xs)
theorem Yx (n:Nat)(h15:List ah.den)(h16 h17:Int)(h18:List aX.den)(h19 h20 h21 h22:Int)(h23:List ah.den)(h24 h25:Int)(h26:Bool)(h27:LI)(h28:Int):zp (n+1) h15 h16 h17 h18 h19 h20 h21 h22 h23 h24 h25 h26 h27 h28=BT h15 h16 h17 h18 h19 h20 h21 h22 h23 h24 h25 h26 h27 h28 (zp n) some:=by kernel_rfl
def BS {R:Type}(h4:List ah.den)(h5 h6 h7 h8:Int)(h9:List ah.den)(h10 h11:Int)(h12:Bool)(h13:LI)(h14:Int)(next:List ah.den→Int→Int→Int→Int→List ah.den→Int→Int→Bool→LI→Int→Option R)(out:aH iZ.xs→Option R):Option R:=bif decide (h6<h5) then bif decide (0≤h6)&&decide (h6<(↑h4.length:Int)) then (rU ((h4,(h5,(h6,((h4.getD h6.toNat ([],[],())).2.1,((↑(List.length (h4.getD h6.toNat ([],[],())).2.1):Int),(0,())))))),((h7,(h8,(h9,()))),((),((h10,(h11,(h12,()))),((h13,(h14,())),())))))).run fun y=>match y with | .ret ((),((x54,x55,x56,()),(x57,x58,x59,()),(),(x60,x61,x62,()),(x63,x64,()),()))=>(next (x54) (x55) (i64.wrap (x56+1)) (x57) (x58) (x59) (x60) (x61) (x62) (x63) (x64)) else none else out (.ret ((),((),((h7,(h8,(h9,()))),((),((h10,(h11,(h12,()))),((h13,(h14,())),())))))))
def tY (n:Nat)(h4:List ah.den)(h5 h6 h7 h8:Int)(h9:List ah.den)(h10 h11:Int)(h12:Bool)(h13:LI)(h14:Int):Option (aH iZ.xs):=il tt KU dr t7 0 Tryz.f45 (db Tryz.f45 0) n (iZ.st.mk' ((h4,(h5,(h6,()))),((h7,(h8,(h9,()))),((),((h10,(h11,(h12,()))),((h13,(h14,())),())))))) (ci iZ.xs)
theorem Yw (n:Nat)(h4:List ah.den)(h5 h6 h7 h8:Int)(h9:List ah.den)(h10 h11:Int)(h12:Bool)(h13:LI)(h14:Int):tY (n+1) h4 h5 h6 h7 h8 h9 h10 h11 h12 h13 h14=BS h4 h5 h6 h7 h8 h9 h10 h11 h12 h13 h14 (tY n) some:=by kernel_rfl
theorem Jz {s:bf}(v:Int)(p:aX.den)(h:s.2.2.length≤130048):(wv v p s).2.2.length≤130048:=br _ _ _ _ (br _ _ _ _ h)
theorem FY {s:bf}(v:Int)(ps:List aX.den)(h:s.2.2.length≤130048):(jn v ps s).2.2.length≤130048:=iq (fun x s=>Jz v x) ps s h
theorem Y6 {s:bf}(v:Int)(ts:List ah.den)(h:s.2.2.length≤130048):(Av v ts s).2.2.length≤130048:=iq (one:=fun (t:ah.den) (s:bf)=>jn v t.2.1 s) (fun x s h=>FY v x.2.1 h) ts s h
theorem N5 (us:List ah.den)(n i re' lv':Int)(ts':List ah.den)(v:Int){ps:List aX.den}(hl:ps.length≤maxLen):∀(k j:Nat) (s:bf),ps.length<j+k→j≤ps.length→s.2.2.length≤130048→
  zp k us n i ps (ps.length:Int) j re' lv' ts' v s.1 s.2.1 s.2.2 130048=some (.ret ((),((us,(n,(i,()))),Ah re' lv' ts' v ((ps.drop j).foldl (fun s p=>wv v p s) s)))):=by
 intro k
 have hg:∀s:bf,s.2.2.length≤130048→(decide ((130048:Int)=130048)&&decide (s.2.2.length≤130048))=true:=fun s h=>by simpa using h
 induction k with
 |zero=>intro j s h;omega
 |succ k ih=>
  intro j s h1 h2 q0
  rw[Yx]
  unfold BT
  by_cases hi:j<ps.length
  ·refine bT (decide_eq_true (show (j:Int)<(ps.length:Int) by omega)) ?_
   refine bT (by simpa using hi) ?_
   simp only[zG,aJ hi,cq hi hl]
   refine (aa (hg _ q0) _ _).trans ?_
   have q1:=br (s:=s) v (ps[j].2.1 == 0) 3 3 q0
   refine (aa (hg _ q1) _ _).trans ?_
   have q2:=br (s:=aq v (ps[j].2.1 == 0) 3 3 s) v (ps[j].2.2.2.1 == 0) 0 0 q1
   rw[zE hi]
   exact ih (j+1) (wv v ps[j] s) (by omega) (by omega) (Jz _ _ q0)
  ·refine bF (by simp;omega) ?_
   rw[zI (by omega)]
   rfl
theorem N4 {us:List ah.den}(re' lv':Int)(ts':List ah.den)(v:Int)(hl:us.length≤maxLen):∀(k j:Nat) (s:bf),us.length<j+k→j≤us.length→s.2.2.length≤130048→
  tY k us (us.length:Int) j re' lv' ts' v s.1 s.2.1 s.2.2 130048=some (.ret ((),((),Ah re' lv' ts' v ((us.drop j).foldl (fun s t=>jn v t.2.1 s) s)))):=by
 intro k
 induction k with
 |zero=>intro j s h;omega
 |succ k ih=>
  intro j s h1 h2 h3
  rw[Yw]
  unfold BS
  by_cases hi:j<us.length
  ·refine bT (decide_eq_true (show (j:Int)<(us.length:Int) by omega)) ?_
   refine bT (by simpa using hi) ?_
   simp only[zG,aJ hi]
   have c1:(decide ((0:Int)=0)&&(decide ((us[j].2.1.length:Int)=(us[j].2.1.length:Int))&&(decide ((130048:Int)=130048)&&decide (s.2.2.length≤130048))))=true:=by simpa using h3
   have e1:rU ((us,((us.length:Int),((j:Int),(us[j].2.1,((us[j].2.1.length:Int),(0,())))))),((re',(lv',(ts',()))),((),((v,(s.1,(s.2.1,()))),((s.2.2,(130048,())),())))))=
     .ite true (.ret (.ret ((),((us,((us.length:Int),((j:Int),()))),Ah re' lv' ts' v (jn v us[j].2.1 s))))) .no:=congrArg (fun c=>Tr.ite c _ _) c1
   rw[e1]
   show tY k us (us.length:Int) (i64.wrap ((j:Int)+1)) re' lv' ts' v (jn v us[j].2.1 s).1 (jn v us[j].2.1 s).2.1 (jn v us[j].2.1 s).2.2 130048=_
   rw[cq hi hl,zE hi]
   exact ih (j+1) (jn v us[j].2.1 s) (by omega) (by omega) (FY _ _ h3)
  ·refine bF (by simp;omega) ?_
   rw[zI (by omega)]
   rfl
def Hv (a0 a1 a2:Int)(a3:List ah.den):Option qx.Res:=(rT ((a3,((↑a3.length:Int),(0,()))),((a1,(a2,(a3,()))),((),((a0,((aq a0 (a2 == 0) 2 3 (aV a0,false,[])).1,((aq a0 (a2 == 0) 2 3 (aV a0,false,[])).2.1,()))),(((aq a0 (a2 == 0) 2 3 (aV a0,false,[])).2.2,(130048,())),())))))).run fun y=>match y with | .ret ((),((),(x84,x85,x86,()),(),(x87,x88,x89,()),(x90,x91,()),()))=>(bif decide (x91=130048)&&decide (x90.length≤130048) then bif decide (130048=130048)&&decide ((ac x84 4 (x88,x89,x90)).2.2.length≤130048) then bif decide (2≤x87)&&decide (x87≤3) then bif decide (130048=130048)&&decide ((ac x84 4 (x88,x89,x90)).2.2.length≤130048) then bif decide (130048=130048)&&decide ((ac x85 1 (ac x84 4 (x88,x89,x90))).2.2.length≤130048) then bif decide (130048=130048)&&decide ((mS x87 x86 (ac x85 1 (ac x84 4 (x88,x89,x90)))).2.2.length≤130048) then oR ((bD (mS x87 x86 (ac x85 1 (ac x84 4 (x88,x89,x90)))),bm (mS x87 x86 (ac x85 1 (ac x84 4 (x88,x89,x90)))),()),()) else none else none else none else bif decide (130048=130048)&&decide ((ac x84 4 (x88,x89,x90)).2.2.length≤130048) then bif decide (130048=130048)&&decide ((mS x87 x86 (ac x84 4 (x88,x89,x90))).2.2.length≤130048) then oR ((bD (mS x87 x86 (ac x84 4 (x88,x89,x90))),bm (mS x87 x86 (ac x84 4 (x88,x89,x90))),()),()) else none else none else none else none)
theorem ada (a0 a1 a2:Int)(a3:List ah.den):Io.run tt KU dr t7 qx Tryz.f45 ((a0,(a1,a2,a3,()),()),())=Hv a0 a1 a2 a3:=by kernel_rfl
theorem y8:HcsOk prog Ur:=.cons z7 (.cons nI (.cons nH (.cons eb (.cons ah0 (.cons RN (.cons uq .nil))))))
theorem afM:HcOk prog 45 (ae qx Zm):=by
 refine cg y8 (lp:=t7) (fn:=Tryz.f45) qx (.step (h0:=aS iZ rT) (by kernel_rfl) (jh y8 (lp:=t7) (fn:=Tryz.f45) (.step (h0:=aS i3 rU) (by kernel_rfl) (jh y8 (lp:=t7) (fn:=Tryz.f45) (.done (by kernel_rfl)) i3 rU ?_) (.done (by kernel_rfl))) iZ rT ?_) (.done (by kernel_rfl))) Zm ?_
 ·rintro ⟨⟨(us:List ah.den),(n:Int),(i:Int),(ps:List aX.den),(pn:Int),(pj:Int),⟨⟩⟩,⟨⟨(re':Int),(lv':Int),(ts':List ah.den),⟨⟩⟩,⟨⟩,⟨(v:Int),(e:Int),(f:Bool),⟨⟩⟩,⟨(b:LI),(m:Int),⟨⟩⟩,⟨⟩⟩⟩ y hw hy
  obtain ⟨hg,hy⟩:=Tr.guard hy
  simp only[zA,zB] at hg
  obtain ⟨rfl,rfl,rfl,h4⟩:=hg
  have h4:b.length≤130048:=h4
  have hl:ps.length≤maxLen:=hw.1.2.2.2.1.1
  refine ⟨ps.length+1,(N5 us n i re' lv' ts' v hl (ps.length+1) 0 (e,(f,b)) (by omega) (by omega) h4).trans ?_⟩
  rw[← hy];rfl
 ·rintro ⟨⟨(us:List ah.den),(n:Int),(i:Int),⟨⟩⟩,⟨⟨(re':Int),(lv':Int),(ts':List ah.den),⟨⟩⟩,⟨⟩,⟨(v:Int),(e:Int),(f:Bool),⟨⟩⟩,⟨(b:LI),(m:Int),⟨⟩⟩,⟨⟩⟩⟩ y hw hy
  obtain ⟨hg,hy⟩:=Tr.guard hy
  simp only[zA,zB] at hg
  obtain ⟨rfl,rfl,rfl,h4⟩:=hg
  have h4:b.length≤130048:=h4
  have hl:us.length≤maxLen:=hw.1.1.1
  refine ⟨us.length+1,(N4 re' lv' ts' v hl (us.length+1) 0 (e,(f,b)) (by omega) (by omega) h4).trans ?_⟩
  rw[← hy];rfl
 ·rintro ⟨⟨(v:Int),⟨(re:Int),(lv:Int),(ts:List ah.den),⟨⟩⟩,⟨⟩⟩,⟨⟩⟩ out hw ho
  cases ho
  refine (ada v re lv ts).trans ?_
  unfold Hv
  have hg:∀s:bf,s.2.2.length≤130048→(decide ((130048:Int)=130048)&&decide (s.2.2.length≤130048))=true:=fun s h=>by simpa using h
  have q0:(aV v,(false,([]:LI))).2.2.length≤130048:=by simp
  have q1:=br (s:=(aV v,(false,([]:LI)))) v (lv == 0) 2 3 q0
  have c1:(decide ((0:Int)=0)&&(decide ((ts.length:Int)=(ts.length:Int))&&(decide ((130048:Int)=130048)&&decide ((aq v (lv == 0) 2 3 (aV v,(false,([]:LI)))).2.2.length≤130048))))=true:=by simpa using q1
  have e1:rT ((ts,((ts.length:Int),(0,()))),((re,(lv,(ts,()))),((),((v,((aq v (lv == 0) 2 3 (aV v,(false,([]:LI)))).1,((aq v (lv == 0) 2 3 (aV v,(false,([]:LI)))).2.1,()))),(((aq v (lv == 0) 2 3 (aV v,(false,([]:LI)))).2.2,(130048,())),())))))=
    .ite true (.ret (.ret ((),((),Ah re lv ts v (Av v ts (aq v (lv == 0) 2 3 (aV v,(false,([]:LI))))))))) .no:=congrArg (fun c=>Tr.ite c _ _) c1
  rw[e1]
  have r0:=Y6 v ts q1
  refine (aa (hg _ r0) _ _).trans ?_
  have l0_0:=aA re 4 r0
  refine (aa (hg _ l0_0) _ _).trans ?_
  by_cases h1_0:2≤v∧v≤3
  ·refine bT (by simpa using h1_0) ?_
   refine (aa (hg _ l0_0) _ _).trans ?_
   have l1_0:=aA lv 1 l0_0
   refine (aa (hg _ l1_0) _ _).trans ?_
   have l2_1:=cn (fun x s=>Ax v x) ts l1_0
   refine (aa (hg _ l2_1) _ _).trans ?_
   simp only[yo,bL h1_0]
  ·refine (af (Bool.eq_false_iff.2 fun h'=>h1_0 (by simpa using h')) _ _).trans ?_
   refine (aa (hg _ l0_0) _ _).trans ?_
   have l2_1:=cn (fun x s=>Ax v x) ts l0_0
   refine (aa (hg _ l2_1) _ _).trans ?_
   simp only[yo,bk h1_0]
@[irreducible] noncomputable def n6 (v:Int)(b:LI)(s:aD):aX.den×aD:=
 (((ab .i32 4 b s).1,((ao .i32 4 v 3 3 b (ab .i32 4 b s).2).1,((ab .i64 8 b (ao .i32 4 v 3 3 b (ab .i32 4 b s).2).2).1,((ao .i32 4 v 0 0 b (ab .i64 8 b (ao .i32 4 v 3 3 b (ab .i32 4 b s).2).2).2).1,())))),(ao .i32 4 v 0 0 b (ab .i64 8 b (ao .i32 4 v 3 3 b (ab .i32 4 b s).2).2).2).2)
theorem JB {v:Int}{b:LI}{s:aD}(h:al b s.2=true):al b (n6 v b s).2.2=true:=by
 unfold n6
 exact ge (aO _ _ (ge (aO _ _ (h))))
abbrev kP:Io:=⟨[.ptr 0 0],pF,[],[.dat aX true false],none⟩
def CY (d:kP.In):Tr kP.Res:=.ite (al d.2.2.2.1.1 d.2.2.2.1.2.1) (.ret (.ret (((n6 d.2.2.1.2.1 d.2.2.2.1.1 (cK d.2.2)).1,()),dp d.2.2.1.2.1 d.2.2.2.1.1 (n6 d.2.2.1.2.1 d.2.2.2.1.1 (cK d.2.2)).2))) .no
abbrev HX:List (Nat×Hc):=[(143,ae cB ew),(156,ae lY AE),(140,ae iI pq)]
def WH:Hd:=bM HX
def Iz:Lp:=bB []
def AW (a0 a1:Int)(a2:LI)(a3:Int):Option kP.Res:=bif al a2 a3 then bif aQ a0 3 3 (ab i32 4 a2 (a1,a3)).2.1 then bif al a2 (ab i32 4 a2 (a1,a3)).2.2 then bif al a2 (ab i32 4 a2 (ab i32 4 a2 (a1,a3)).2).2.2 then bif aQ a0 0 0 (ab i64 8 a2 (ab i32 4 a2 (ab i32 4 a2 (a1,a3)).2).2).2.1 then bif al a2 (ab i64 8 a2 (ab i32 4 a2 (ab i32 4 a2 (a1,a3)).2).2).2.2 then oR ((((ab i32 4 a2 (a1,a3)).1,(ab i32 4 a2 (ab i32 4 a2 (a1,a3)).2).1,(ab i64 8 a2 (ab i32 4 a2 (ab i32 4 a2 (a1,a3)).2).2).1,(ab i32 4 a2 (ab i64 8 a2 (ab i32 4 a2 (ab i32 4 a2 (a1,a3)).2).2).2).1,()),()),((),()),((),a0,(ab i32 4 a2 (ab i64 8 a2 (ab i32 4 a2 (ab i32 4 a2 (a1,a3)).2).2).2).2.1,()),(a2,(ab i32 4 a2 (ab i64 8 a2 (ab i32 4 a2 (ab i32 4 a2 (a1,a3)).2).2).2).2.2,()),()) else none else oR ((((ab i32 4 a2 (a1,a3)).1,(ab i32 4 a2 (ab i32 4 a2 (a1,a3)).2).1,(ab i64 8 a2 (ab i32 4 a2 (ab i32 4 a2 (a1,a3)).2).2).1,0,()),()),((),()),((),a0,(ab i64 8 a2 (ab i32 4 a2 (ab i32 4 a2 (a1,a3)).2).2).2.1,()),(a2,(ab i64 8 a2 (ab i32 4 a2 (ab i32 4 a2 (a1,a3)).2).2).2.2,()),()) else none else none else bif al a2 (ab i32 4 a2 (a1,a3)).2.2 then bif aQ a0 0 0 (ab i64 8 a2 (ab i32 4 a2 (a1,a3)).2).2.1 then bif al a2 (ab i64 8 a2 (ab i32 4 a2 (a1,a3)).2).2.2 then oR ((((ab i32 4 a2 (a1,a3)).1,0,(ab i64 8 a2 (ab i32 4 a2 (a1,a3)).2).1,(ab i32 4 a2 (ab i64 8 a2 (ab i32 4 a2 (a1,a3)).2).2).1,()),()),((),()),((),a0,(ab i32 4 a2 (ab i64 8 a2 (ab i32 4 a2 (a1,a3)).2).2).2.1,()),(a2,(ab i32 4 a2 (ab i64 8 a2 (ab i32 4 a2 (a1,a3)).2).2).2.2,()),()) else none else oR ((((ab i32 4 a2 (a1,a3)).1,0,(ab i64 8 a2 (ab i32 4 a2 (a1,a3)).2).1,0,()),()),((),()),((),a0,(ab i64 8 a2 (ab i32 4 a2 (a1,a3)).2).2.1,()),(a2,(ab i64 8 a2 (ab i32 4 a2 (a1,a3)).2).2.2,()),()) else none else none
theorem Se (a0 a1:Int)(a2:LI)(a3:Int):Io.run tt WH dr Iz kP Tryz.f160 (((),()),((),()),((),a0,a1,()),(a2,a3,()),())=AW a0 a1 a2 a3:=by kernel_rfl
theorem Xh:HcOk prog 160 (ae kP CY):=by
 refine cg (cs:=HX) (.cons cY (.cons zZ (.cons nG .nil))) (lp:=Iz) (fn:=Tryz.f160) kP (.done (by kernel_rfl)) CY ?_
 rintro ⟨⟨⟨⟩,⟨⟩⟩,⟨⟨⟩,⟨⟩⟩,⟨⟨⟩,(v:Int),(e:Int),⟨⟩⟩,⟨(b:LI),(p:Int),⟨⟩⟩,⟨⟩⟩ out hw ho
 obtain ⟨hg,ho⟩:=Tr.guard ho
 have hg:al b p=true:=hg
 cases ho
 refine (Se v e b p).trans ?_
 unfold AW
 show _=oR (((n6 v b (e,p)).1,()),dp v b (n6 v b (e,p)).2)
 unfold n6
 have hg:al b ((e,p):aD).2=true:=hg
 refine (aa hg _ _).trans ?_
 have g0:al b (ab .i32 4 b ((e,p):aD)).2.2=true:=aO .i32 4 (s:=((e,p):aD)) hg
 show (bif aQ v 3 3 (ab .i32 4 b ((e,p):aD)).2.1 then _ else _)=_
 cases h1:aQ v 3 3 (ab .i32 4 b ((e,p):aD)).2.1
 ·have e1:ao .i32 4 v 3 3 b (ab .i32 4 b ((e,p):aD)).2=(0,(ab .i32 4 b ((e,p):aD)).2):=by unfold ao;rw[if_neg (by rw[h1];decide)]
  rw[e1]
  refine (aa g0 _ _).trans ?_
  have gf2:al b (ab .i64 8 b (ab .i32 4 b ((e,p):aD)).2).2.2=true:=aO .i64 8 (s:=(ab .i32 4 b ((e,p):aD)).2) g0
  show (bif aQ v 0 0 (ab .i64 8 b (ab .i32 4 b ((e,p):aD)).2).2.1 then _ else _)=_
  cases hf3:aQ v 0 0 (ab .i64 8 b (ab .i32 4 b ((e,p):aD)).2).2.1
  ·have ef3:ao .i32 4 v 0 0 b (ab .i64 8 b (ab .i32 4 b ((e,p):aD)).2).2=(0,(ab .i64 8 b (ab .i32 4 b ((e,p):aD)).2).2):=by unfold ao;rw[if_neg (by rw[hf3];decide)]
   rw[ef3]
   rfl
  ·have ef3:ao .i32 4 v 0 0 b (ab .i64 8 b (ab .i32 4 b ((e,p):aD)).2).2=ab .i32 4 b (ab .i64 8 b (ab .i32 4 b ((e,p):aD)).2).2:=by unfold ao;rw[if_pos hf3]
   rw[ef3]
   refine (aa gf2 _ _).trans ?_
   have gf3:al b (ab .i32 4 b (ab .i64 8 b (ab .i32 4 b ((e,p):aD)).2).2).2.2=true:=aO .i32 4 (s:=(ab .i64 8 b (ab .i32 4 b ((e,p):aD)).2).2) gf2
   rfl
 ·have e1:ao .i32 4 v 3 3 b (ab .i32 4 b ((e,p):aD)).2=ab .i32 4 b (ab .i32 4 b ((e,p):aD)).2:=by unfold ao;rw[if_pos h1]
  rw[e1]
  refine (aa g0 _ _).trans ?_
  have g1:al b (ab .i32 4 b (ab .i32 4 b ((e,p):aD)).2).2.2=true:=aO .i32 4 (s:=(ab .i32 4 b ((e,p):aD)).2) g0
  refine (aa g1 _ _).trans ?_
  have gt2:al b (ab .i64 8 b (ab .i32 4 b (ab .i32 4 b ((e,p):aD)).2).2).2.2=true:=aO .i64 8 (s:=(ab .i32 4 b (ab .i32 4 b ((e,p):aD)).2).2) g1
  show (bif aQ v 0 0 (ab .i64 8 b (ab .i32 4 b (ab .i32 4 b ((e,p):aD)).2).2).2.1 then _ else _)=_
  cases ht3:aQ v 0 0 (ab .i64 8 b (ab .i32 4 b (ab .i32 4 b ((e,p):aD)).2).2).2.1
  ·have et3:ao .i32 4 v 0 0 b (ab .i64 8 b (ab .i32 4 b (ab .i32 4 b ((e,p):aD)).2).2).2=(0,(ab .i64 8 b (ab .i32 4 b (ab .i32 4 b ((e,p):aD)).2).2).2):=by unfold ao;rw[if_neg (by rw[ht3];decide)]
   rw[et3]
   rfl
  ·have et3:ao .i32 4 v 0 0 b (ab .i64 8 b (ab .i32 4 b (ab .i32 4 b ((e,p):aD)).2).2).2=ab .i32 4 b (ab .i64 8 b (ab .i32 4 b (ab .i32 4 b ((e,p):aD)).2).2).2:=by unfold ao;rw[if_pos ht3]
   rw[et3]
   refine (aa gt2 _ _).trans ?_
   have gt3:al b (ab .i32 4 b (ab .i64 8 b (ab .i32 4 b (ab .i32 4 b ((e,p):aD)).2).2).2).2.2=true:=aO .i32 4 (s:=(ab .i64 8 b (ab .i32 4 b (ab .i32 4 b ((e,p):aD)).2).2).2) gt2
   rfl
@[irreducible] noncomputable def jM (v:Int)(b:LI)(s:aD):List aX.den×aD:=iC (n6 v b) b s
theorem Tn {v:Int}{b:LI}{s:aD}(h:al b s.2=true):al b (jM v b s).2.2=true:=by
 unfold jM
 exact fH (fun s h=>JB h) h
abbrev qp:Io:=⟨[.ptr 0 0,.fnc 160 false [2]],nF,[],[.dat (.sl 198 aX) false false],none⟩
def GP (d:qp.In):Tr qp.Res:=.ite (al d.2.2.1.1 d.2.2.1.2.1) (.ret (.ret (((jM d.2.1.2.1 d.2.2.1.1 (d7 d.2)).1,()),iD d.2.1.2.1 d.2.2.1.1 (jM d.2.1.2.1 d.2.2.1.1 (d7 d.2)).2))) .no
abbrev QU:List (Nat×Hc):=[(143,ae cB ew),(160,ae kP CY)]
theorem RH:HcOk prog 159 (ae qp GP):=
 mc (one:=n6) (sps:=jM) (fun _ _ _=>by unfold jM;rfl) (fun _ _ _ h4=>JB h4) (cs:=QU) (.cons cY (.cons Xh .nil)) (fn:=Tryz.f159) (by kernel_rfl) (by kernel_rfl) (by kernel_rfl) (by kernel_rfl) (by kernel_rfl) (by kernel_rfl) (by intros;kernel_rfl) (by intros;kernel_rfl)
@[irreducible] noncomputable def n7 (v:Int)(b:LI)(s:aD):ah.den×aD:=(((bi b s).1,((jM v b (bi b s).2).1,())),(jM v b (bi b s).2).2)
theorem JD {v:Int}{b:LI}{s:aD}(h:al b s.2=true):al b (n7 v b s).2.2=true:=by
 unfold n7
 exact Tn (fa h)
abbrev jS:Io:=⟨[.ptr 0 0],pF,[],[.dat ah true false],none⟩
def yK (d:jS.In):Tr jS.Res:=.ite (al d.2.2.2.1.1 d.2.2.2.1.2.1) (.ret (.ret (((n7 d.2.2.1.2.1 d.2.2.2.1.1 (cK d.2.2)).1,()),dp d.2.2.1.2.1 d.2.2.2.1.1 (n7 d.2.2.1.2.1 d.2.2.2.1.1 (cK d.2.2)).2))) .no
abbrev D1:List (Nat×Hc):=[(146,ae l6 AG),(159,ae qp GP)]
def Q6:Hd:=bM D1
def EP:Lp:=bB []
def xg (a0 a1:Int)(a2:LI)(a3:Int):Option jS.Res:=bif al a2 a3 then bif al a2 (bi a2 (a1,a3)).2.2 then oR ((((bi a2 (a1,a3)).1,(jM a0 a2 (bi a2 (a1,a3)).2).1,()),()),((),()),((),a0,(jM a0 a2 (bi a2 (a1,a3)).2).2.1,()),(a2,(jM a0 a2 (bi a2 (a1,a3)).2).2.2,()),()) else none else none
theorem Ph (a0 a1:Int)(a2:LI)(a3:Int):Io.run tt Q6 dr EP jS Tryz.f158 (((),()),((),()),((),a0,a1,()),(a2,a3,()),())=xg a0 a1 a2 a3:=by kernel_rfl
theorem RI:HcOk prog 158 (ae jS yK):=by
 refine cg (cs:=D1) (.cons z4 (.cons RH .nil)) (lp:=EP) (fn:=Tryz.f158) jS (.done (by kernel_rfl)) yK ?_
 rintro ⟨⟨⟨⟩,⟨⟩⟩,⟨⟨⟩,⟨⟩⟩,⟨⟨⟩,(v:Int),(e:Int),⟨⟩⟩,⟨(b:LI),(p:Int),⟨⟩⟩,⟨⟩⟩ out hw ho
 obtain ⟨hg,ho⟩:=Tr.guard ho
 have hg:al b p=true:=hg
 cases ho
 refine (Ph v e b p).trans ?_
 unfold xg
 show _=oR (((n7 v b (e,p)).1,()),dp v b (n7 v b (e,p)).2)
 unfold n7
 refine (aa hg _ _).trans ?_
 exact aa (fa (s:=(e,p)) hg) _ _
@[irreducible] noncomputable def df (v:Int)(b:LI)(s:aD):List ah.den×aD:=iC (n7 v b) b s
theorem F3 {v:Int}{b:LI}{s:aD}(h:al b s.2=true):al b (df v b s).2.2=true:=by
 unfold df
 exact fH (fun s h=>JD h) h
abbrev oF:Io:=⟨[.ptr 0 0,.fnc 158 false [2]],nF,[],[.dat (.sl 196 ah) false false],none⟩
def CZ (d:oF.In):Tr oF.Res:=.ite (al d.2.2.1.1 d.2.2.1.2.1) (.ret (.ret (((df d.2.1.2.1 d.2.2.1.1 (d7 d.2)).1,()),iD d.2.1.2.1 d.2.2.1.1 (df d.2.1.2.1 d.2.2.1.1 (d7 d.2)).2))) .no
abbrev Nc:List (Nat×Hc):=[(143,ae cB ew),(158,ae jS yK)]
theorem OX:HcOk prog 157 (ae oF CZ):=
 mc (one:=n7) (sps:=df) (fun _ _ _=>by unfold df;rfl) (fun _ _ _ h4=>JD h4) (cs:=Nc) (.cons cY (.cons RI .nil)) (fn:=Tryz.f157) (by kernel_rfl) (by kernel_rfl) (by kernel_rfl) (by kernel_rfl) (by kernel_rfl) (by kernel_rfl) (by intros;kernel_rfl) (by intros;kernel_rfl)
abbrev mE:Io:=⟨[.ptr 0 0,.fnc 158 false [1]],wc,[],[.dat (.sl 196 ah) false false],none⟩
def AJ (d:mE.In):Tr mE.Res:=.ite (decide (d.2.1.2.2.1≠0)) (.ret (.ret ((([]:List ah.den),()),d.2))) .no
abbrev Kv:List (Nat×Hc):=[(143,eX di (ae eM jO) (ae cB ew))]
theorem LE:HcOk prog 157 (ae mE AJ):=
 t4 (cs:=Kv) (.cons (bb jj cY) .nil) (fn:=Tryz.f157) (by kernel_rfl) (by kernel_rfl) (by kernel_rfl) (by kernel_rfl) (by kernel_rfl) (by kernel_rfl) (by intros;kernel_rfl) (by intros;kernel_rfl)
def ah7:bX.den:=(0,(0,(([]:List ah.den),())))
def rx (v:Int)(b:LI)(s:aD):bX.den×aD:=
 (((ab .i32 4 b s).1,((ao .i8 1 v 2 3 b (ab .i32 4 b s).2).1,((df v b (ao .i8 1 v 2 3 b (ab .i32 4 b s).2).2).1,()))),(df v b (ao .i8 1 v 2 3 b (ab .i32 4 b s).2).2).2)
def lT (v:Int)(b:LI):bX.den×Int:=if 0≤v∧v≤3∧(b.length:Int)≤130048 then (if aE b (rx v b (0,0)).2=0 then ((rx v b (0,0)).1,0) else (ah7,aE b (rx v b (0,0)).2)) else (ah7,bg v)
abbrev nh:Io:=⟨[dI,dL],[],[],[.dat bX true false,dI],none⟩
def JY (d:nh.In):Tr nh.Res:=.ret (.ret (((lT d.1.1 d.1.2.1).1,((lT d.1.1 d.1.2.1).2,())),()))
abbrev Nb:List (Nat×Hc):=[(139,eX zW (ae jE o8) (ae lZ AF)),(140,eX di (ae jD rL) (ae iI pq)),(143,eX di (ae eM jO) (ae cB ew)),(151,eX di (ae so TD) (ae Bv aet)),(157,eX di (ae mE AJ) (ae oF CZ)),(150,eX di (ae jC rK) (ae lW AC))]
def aaQ:Hd:=bM Nb
def Or:Lp:=bB []
def Du (a0:Int)(a1:LI):Option nh.Res:=bif !(decide (0≤a0)&&(decide (a0≤3)&&decide ((↑a1.length:Int)≤130048))) then bif decide (0≤a0)&&(decide (a0≤3)&&decide ((↑a1.length:Int)≤130048)) then none else bif decide (bg a0≠0) then bif decide (bg a0≠0) then bif decide (bg a0≠0) then bif decide (bg a0≠0) then bif bg a0 != 0 then oR (((0,0,[],()),bg a0,()),()) else oR (((0,0,[],()),0,()),()) else none else none else none else none else bif decide (0≤a0)&&(decide (a0≤3)&&decide ((↑a1.length:Int)≤130048)) then bif al a1 0 then bif aQ a0 2 3 (an a1 0 4).2.2 then bif al a1 (an a1 0 4).2.1 then bif al a1 (ab i8 1 a1 ((an a1 0 4).2.2,(an a1 0 4).2.1)).2.2 then bif aE a1 (df a0 a1 (ab i8 1 a1 ((an a1 0 4).2.2,(an a1 0 4).2.1)).2).2 != 0 then oR (((0,0,[],()),aE a1 (df a0 a1 (ab i8 1 a1 ((an a1 0 4).2.2,(an a1 0 4).2.1)).2).2,()),()) else oR (((i32.wrap (an a1 0 4).1,(ab i8 1 a1 ((an a1 0 4).2.2,(an a1 0 4).2.1)).1,(df a0 a1 (ab i8 1 a1 ((an a1 0 4).2.2,(an a1 0 4).2.1)).2).1,()),0,()),()) else none else none else bif al a1 (an a1 0 4).2.1 then bif aE a1 (df a0 a1 ((an a1 0 4).2.2,(an a1 0 4).2.1)).2 != 0 then oR (((0,0,[],()),aE a1 (df a0 a1 ((an a1 0 4).2.2,(an a1 0 4).2.1)).2,()),()) else oR (((i32.wrap (an a1 0 4).1,0,(df a0 a1 ((an a1 0 4).2.2,(an a1 0 4).2.1)).1,()),0,()),()) else none else none else none
theorem XU (a0:Int)(a1:LI):Io.run tt aaQ dr Or nh Tryz.f67 ((a0,a1,()),())=Du a0 a1:=by kernel_rfl
theorem ab7:HcOk prog 67 (ae nh JY):=by
 refine cg (cs:=Nb) (.cons (bb up z0) (.cons (bb uo nG) (.cons (bb jj cY) (.cons (bb ab4 ahZ) (.cons (bb LE OX) (.cons (bb un zX) .nil)))))) (lp:=Or) (fn:=Tryz.f67) nh (.done (by kernel_rfl)) JY ?_
 rintro ⟨⟨(v:Int),(b:LI),⟨⟩⟩,⟨⟩⟩ out hw ho
 cases ho
 refine (XU v b).trans ?_
 unfold Du
 show _=oR (((lT v b).1,((lT v b).2,())),())
 by_cases h:0≤v∧v≤3∧(b.length:Int)≤130048
 ·have hc:(decide (0≤v)&&(decide (v≤3)&&decide ((b.length:Int)≤130048)))=true:=by simpa using h
  refine bF (by rw[hc];rfl) ?_
  refine (aa hc _ _).trans ?_
  have hg:al b ((0,0):aD).2=true:=by simp[al];omega
  unfold lT rx
  rw[if_pos h]
  refine (aa hg _ _).trans ?_
  have g0:al b (ab .i32 4 b ((0,0):aD)).2.2=true:=aO .i32 4 (s:=((0,0):aD)) hg
  show (bif aQ v 2 3 (ab .i32 4 b ((0,0):aD)).2.1 then _ else _)=_
  cases h1:aQ v 2 3 (ab .i32 4 b ((0,0):aD)).2.1
  ·have e1:ao .i8 1 v 2 3 b (ab .i32 4 b ((0,0):aD)).2=(0,(ab .i32 4 b ((0,0):aD)).2):=by unfold ao;rw[if_neg (by rw[h1];decide)]
   rw[e1]
   refine (aa g0 _ _).trans ?_
   have gf2:al b (df v b (ab .i32 4 b ((0,0):aD)).2).2.2=true:=F3 (s:=(ab .i32 4 b ((0,0):aD)).2) g0
   show _=oR (((if aE b (df v b (ab .i32 4 b ((0,0):aD)).2).2=0 then _ else _:bX.den×Int).1,_),())
   by_cases hE:aE b (df v b (ab .i32 4 b ((0,0):aD)).2).2=0
   ·rw[if_pos hE]
    exact af (show (aE b (df v b (ab .i32 4 b ((0,0):aD)).2).2 != 0)=false by simpa using hE) _ _
   ·rw[if_neg hE]
    exact aa (show (aE b (df v b (ab .i32 4 b ((0,0):aD)).2).2 != 0)=true by simpa using hE) _ _
  ·have e1:ao .i8 1 v 2 3 b (ab .i32 4 b ((0,0):aD)).2=ab .i8 1 b (ab .i32 4 b ((0,0):aD)).2:=by unfold ao;rw[if_pos h1]
   rw[e1]
   refine (aa g0 _ _).trans ?_
   have g1:al b (ab .i8 1 b (ab .i32 4 b ((0,0):aD)).2).2.2=true:=aO .i8 1 (s:=(ab .i32 4 b ((0,0):aD)).2) g0
   refine (aa g1 _ _).trans ?_
   have gt2:al b (df v b (ab .i8 1 b (ab .i32 4 b ((0,0):aD)).2).2).2.2=true:=F3 (s:=(ab .i8 1 b (ab .i32 4 b ((0,0):aD)).2).2) g1
   show _=oR (((if aE b (df v b (ab .i8 1 b (ab .i32 4 b ((0,0):aD)).2).2).2=0 then _ else _:bX.den×Int).1,_),())
   by_cases hE:aE b (df v b (ab .i8 1 b (ab .i32 4 b ((0,0):aD)).2).2).2=0
   ·rw[if_pos hE]
    exact af (show (aE b (df v b (ab .i8 1 b (ab .i32 4 b ((0,0):aD)).2).2).2 != 0)=false by simpa using hE) _ _
   ·rw[if_neg hE]
    exact aa (show (aE b (df v b (ab .i8 1 b (ab .i32 4 b ((0,0):aD)).2).2).2 != 0)=true by simpa using hE) _ _
 ·have hc:(decide (0≤v)&&(decide (v≤3)&&decide ((b.length:Int)≤130048)))=false:=by
   rw[Bool.eq_false_iff]
   intro h'
   simp only[zA,zB] at h'
   exact h h'
  have hn:bg v≠0:=by unfold bg;split <;> decide
  unfold lT
  rw[if_neg h]
  refine bT (by rw[hc];rfl) ?_
  refine (af hc _ _).trans ?_
  repeat refine bT (decide_eq_true hn) ?_
  exact aa (by simpa using hn) _ _
def mp (p:aX.den):Nd:=bq [av 3 p.1,av 3 p.2.1,av 4 p.2.2.1,av 3 p.2.2.2.1]
theorem ad8 {p:aX.den}(h:aX.wf p):bq [av 3 (i64.wrap p.1),av 3 (i64.wrap p.2.1),av 4 p.2.2.1,av 3 (i64.wrap p.2.2.2.1)]=mp p:=by
 rw[dQ (n:=p.1) h.1,dQ (n:=p.2.1) h.2.1,dQ (n:=p.2.2.2.1) h.2.2.2.1];rfl
def ig (t:ah.den):Nd:=bq [gd t.1,ba (t.2.1.map mp)]
@[irreducible] def cb (m:bX.den):Nd:=bq [av 3 m.1,av 1 m.2.1,ba (m.2.2.1.map ig)]
def F1 (x:Nd):aX.den:=(i32.wrap (aY x 0).lab.2.1,(i32.wrap (aY x 1).lab.2.1,((aY x 2).lab.2.1,(i32.wrap (aY x 3).lab.2.1,()))))
def ww (x:Nd):ah.den:=((aY x 0).lab.2.2.2.1,((aY x 1).kids.map F1,()))
@[irreducible] def Aw (n:Nd):bX.den:=(i32.wrap (aY n 0).lab.2.1,(i8.wrap (aY n 1).lab.2.1,((aY n 2).kids.map ww,())))
theorem Tm {p:aX.den}(h:aX.wf p):F1 (mp p)=p:=by
 obtain ⟨(ix:Int),(ep:Int),(ti:Int),(mo:Int),⟨⟩⟩:=p
 show (i32.wrap ix,(i32.wrap ep,(ti,(i32.wrap mo,()))))=_
 rw[gr (n:=ix) h.1,gr (n:=ep) h.2.1,gr (n:=mo) h.2.2.2.1]
 try rfl
theorem Qd {t:ah.den}(h:ah.wf t):ww (ig t)=t:=by
 obtain ⟨n,l,⟨⟩⟩:=t
 show (n,((l.map mp).map F1,()))=_
 rw[List.map_map,e9 (f:=F1 ∘ mp) (l:=l) fun p hp=>Tm (h.2.1.2 p hp)]
theorem s7 {m:bX.den}(h:bX.wf m):Aw (cb m)=m:=by
 obtain ⟨(re:Int),(lv:Int),(ts:List ah.den),⟨⟩⟩:=m
 unfold Aw cb
 show (i32.wrap re,(i8.wrap lv,((ts.map ig).map ww,())))=_
 rw[gr (n:=re) h.1,ahP (n:=lv) h.2.1,List.map_map,e9 (f:=ww ∘ ig) (l:=ts) fun t ht=>Qd (h.2.2.1.2 t ht)]
abbrev j8:Io:=⟨[.dat bX true false],[],[],[dH],none⟩
def eH (l:List ah.den):Bool:=decide (l.length≤4294967296)&&l.all fun t=>decide (t.2.1.length≤4294967296)
def wZ (d:j8.In):Tr j8.Res:=.ite (eH d.1.1.2.2.1) (.ret (.ret ((cb d.1.1,()),()))) .no
abbrev Ii:List (Nat×Hc):=[(181,ae kZ wO),(180,ae ma AO),(183,ae jG r5),(184,ae iS pX)]
def zh:Hd:=bM Ii
abbrev fW:Lo:=⟨⟨(.any::.one (.ptr 1 0)::.one (.ptr 2 0)::.one (.onl 91 ap 7)::.one hI::.one (.onl 91 ap 11)::.one hI::am (am (am (am (gE (dq (ce []))))))),[none,some [hJ,.hol (.int i8),.hol (.sl 196 ah)],some [hI,hI,hL,.onl 5 (Ty.int u8) 1032,.onl 91 ap 1034]]⟩,[(.exit 2,⟨(.any::.one (.ptr 1 0)::.one (.ptr 2 0)::.one (.onl 91 ap 7)::.one hI::.one (.onl 91 ap 11)::.any::am (am (am (am (gE (dq (ce []))))))),[none,some [hJ,.hol (.int i8),.hol (.sl 196 ah)],some [hI,hI,hL,.onl 5 (Ty.int u8) 1032,.onl 91 ap 1034]]⟩)]⟩
abbrev fV:Lo:=⟨⟨(.any::.one (.ptr 1 0)::.one (.ptr 2 0)::.one (.onl 91 ap 7)::.one hI::am (am (am (am (am []))))),[none,some [hJ,.hol (.int i8),.hol (.sl 196 ah)],some [hI,hI,hL,.onl 5 (Ty.int u8) 1032,.onl 91 ap 1034]]⟩,[(.exit 0,⟨(.any::.one (.ptr 1 0)::.one (.ptr 2 0)::.one (.onl 91 ap 7)::.any::am (am (am (am (am []))))),[none,some [hJ,.hol (.int i8),.hol (.sl 196 ah)],some [hI,hI,hL,.onl 5 (Ty.int u8) 1032,.onl 91 ap 1034]]⟩)]⟩
def qa (d:fW.st.den):Tr (aH fW.xs):=
 .ite ((decide ((0:Int)≤d.1.2.1)&&decide (d.1.2.1<(d.2.1.2.2.1.length:Int)))&&((decide (d.1.2.2.1.length=0)&&decide (d.1.2.2.2.1=0))&&decide ((d.2.1.2.2.1.getD d.1.2.1.toNat ah.zero).2.1.length≤4294967296)))
  (.ret (.ret ((),((d.1.1,(d.1.2.1,((d.2.1.2.2.1.getD d.1.2.1.toNat ah.zero).2.1.map mp,()))),(d.2.1,(d.2.2.1,())))))) .no
def p9 (d:fV.st.den):Tr (aH fV.xs):=
 .ite ((decide (d.1.1.length=0)&&decide (d.1.2.1=0))&&eH d.2.1.2.2.1)
  (.ret (.ret ((),((d.2.1.2.2.1.map ig,()),(d.2.1,(d.2.2.1,())))))) .no
def m0:Lp:=bB [(4,aS fV p9),(8,aS fW qa)]
def vu {R:Type}(h13:List ap.den)(h14:Int)(h15:List ap.den)(h16 h17 h18:Int)(h19:List ah.den)(h20 h21:Int)(h22:Bool)(h23:LI)(h24:List ap.den)(next:List ap.den→Int→List ap.den→Int→Int→Int→List ah.den→Int→Int→Bool→LI→List ap.den→Option R)(out:aH fW.xs→Option R):Option R:=bif decide (0≤h14)&&decide (h14<(↑h19.length:Int)) then bif decide (h16<(↑(List.length (h19.getD h14.toNat ([],[],())).2.1):Int)) then bif decide (0≤h14)&&decide (h14<(↑h19.length:Int)) then bif decide (0≤h16)&&decide (h16<(↑(List.length (h19.getD h14.toNat ([],[],())).2.1):Int)) then bif decide (h15.length+1≤4294967296) then next (h13) (h14) (h15++[Tre.mk (10,0,false,[],()) [Tre.mk (3,i64.wrap (List.getD (h19.getD h14.toNat ([],[],())).2.1 h16.toNat (0,0,0,0,())).1,false,[],()) [],Tre.mk (3,i64.wrap (List.getD (h19.getD h14.toNat ([],[],())).2.1 h16.toNat (0,0,0,0,())).2.1,false,[],()) [],Tre.mk (4,(List.getD (h19.getD h14.toNat ([],[],())).2.1 h16.toNat (0,0,0,0,())).2.2.1,false,[],()) [],Tre.mk (3,i64.wrap (List.getD (h19.getD h14.toNat ([],[],())).2.1 h16.toNat (0,0,0,0,())).2.2.2.1,false,[],()) []]]) (i64.wrap (h16+1)) (h17) (h18) (h19) (h20) (h21) (h22) (h23) (h24) else none else none else none else out (.ret ((),((h13,(h14,(h15,()))),((h17,(h18,(h19,()))),((h20,(h21,(h22,(h23,(h24,()))))),()))))) else none
def oW (n:Nat)(h13:List ap.den)(h14:Int)(h15:List ap.den)(h16 h17 h18:Int)(h19:List ah.den)(h20 h21:Int)(h22:Bool)(h23:LI)(h24:List ap.den):Option (aH fW.xs):=il tt zh dr m0 0 Tryz.f86 (pV Tryz.f86 (db Tryz.f86 0) 0) n (fW.st.mk' ((h13,(h14,(h15,(h16,())))),((h17,(h18,(h19,()))),((h20,(h21,(h22,(h23,(h24,()))))),())))) (ci fW.xs)
theorem PD (n:Nat)(h13:List ap.den)(h14:Int)(h15:List ap.den)(h16 h17 h18:Int)(h19:List ah.den)(h20 h21:Int)(h22:Bool)(h23:LI)(h24:List ap.den):oW (n+1) h13 h14 h15 h16 h17 h18 h19 h20 h21 h22 h23 h24=vu h13 h14 h15 h16 h17 h18 h19 h20 h21 h22 h23 h24 (oW n) some:=by kernel_rfl
def vt {R:Type}(h3:List ap.den)(h4 h5 h6:Int)(h7:List ah.den)(h8 h9:Int)(h10:Bool)(h11:LI)(h12:List ap.den)(next:List ap.den→Int→Int→Int→List ah.den→Int→Int→Bool→LI→List ap.den→Option R)(out:aH fV.xs→Option R):Option R:=bif decide (h4<(↑h7.length:Int)) then (qa ((h3,(h4,([],(0,())))),((h5,(h6,(h7,()))),((h8,(h9,(h10,(h11,(h12,()))))),())))).run fun y=>match y with | .ret ((),((x48,x49,x50,()),(x51,x52,x53,()),(x54,x55,x56,x57,x58,()),()))=>(bif decide (0≤x49)&&decide (x49<(↑x53.length:Int)) then bif decide (x48.length+1≤4294967296) then next (x48++[Tre.mk (10,0,false,[],()) [Tre.mk (5,0,false,(x53.getD x49.toNat ([],[],())).1,()) [],Tre.mk (9,0,false,[],()) x50]]) (i64.wrap (x49+1)) (x51) (x52) (x53) (x54) (x55) (x56) (x57) (x58) else none else none) else out (.ret ((),((h3,()),((h5,(h6,(h7,()))),((h8,(h9,(h10,(h11,(h12,()))))),())))))
def oV (n:Nat)(h3:List ap.den)(h4 h5 h6:Int)(h7:List ah.den)(h8 h9:Int)(h10:Bool)(h11:LI)(h12:List ap.den):Option (aH fV.xs):=il tt zh dr m0 0 Tryz.f86 (db Tryz.f86 0) n (fV.st.mk' ((h3,(h4,())),((h5,(h6,(h7,()))),((h8,(h9,(h10,(h11,(h12,()))))),())))) (ci fV.xs)
theorem PC (n:Nat)(h3:List ap.den)(h4 h5 h6:Int)(h7:List ah.den)(h8 h9:Int)(h10:Bool)(h11:LI)(h12:List ap.den):oV (n+1) h3 h4 h5 h6 h7 h8 h9 h10 h11 h12=vt h3 h4 h5 h6 h7 h8 h9 h10 h11 h12 (oV n) some:=by kernel_rfl
theorem GB {ts:List ah.den}(hw:∀t∈ts,ah.wf t)(hl:ts.length≤maxLen){i:Nat}(hi:i<ts.length)(hp:(ts[i]).2.1.length≤4294967296)(acc:List Nd)(re lv a' b':Int)(z':Bool)(x':LI)(l':List Nd):∀(k j:Nat) (o:List Nd),(ts[i]).2.1.length<j+k→j≤(ts[i]).2.1.length→o.length≤j→
  oW k acc i o j re lv ts a' b' z' x' l'=some (.ret ((),((acc,((i:Int),(o++((ts[i]).2.1.drop j).map mp,()))),((re,(lv,(ts,()))),((a',(b',(z',(x',(l',()))))),()))))):=by
 intro k
 induction k with
 |zero=>intro j o h1 h2;omega
 |succ k ih=>
  intro j o h1 h2 h3
  rw[PD]
  unfold vu
  refine bT (by simp;omega) ?_
  have hti:=hw _ (List.getElem_mem hi)
  simp only[zG,aJ hi]
  generalize ts[i]=t at hp h1 h2 ih hti ⊢
  by_cases hj:j<t.2.1.length
  ·refine bT (decide_eq_true (show (j:Int)<(t.2.1.length:Int) by omega)) ?_
   refine bT (by simp;omega) ?_
   refine bT (by simp;omega) ?_
   refine bT (decide_eq_true (show o.length+1≤4294967296 by omega)) ?_
   have hpw:=hti.2.1.2 _ (List.getElem_mem hj)
   have ih':=ih (j+1) (o++[mp t.2.1[j]]) (by omega) (by omega) (by simp;omega)
   have hd:t.2.1.drop j=t.2.1[j]::t.2.1.drop (j+1):=zE hj
   rw[hd,aI (n:=(j:Int)+1) (by omega) (by omega)]
   have hgp:List.getD t.2.1 ((j:Int)).toNat aX.zero=t.2.1[j]:=by simp only[zG];exact aJ hj
   refine Eq.trans ?_ (ih'.trans ?_)
   ·refine congrArg (fun x=>oW k acc i (o++[x]) _ re lv ts a' b' z' x' l') ?_
    show bq [av 3 (i64.wrap (List.getD t.2.1 ((j:Int)).toNat aX.zero).1),av 3 (i64.wrap (List.getD t.2.1 ((j:Int)).toNat aX.zero).2.1),av 4 (List.getD t.2.1 ((j:Int)).toNat aX.zero).2.2.1,av 3 (i64.wrap (List.getD t.2.1 ((j:Int)).toNat aX.zero).2.2.2.1)]=_
    rw[hgp]
    exact ad8 hpw
   ·simp only[zL,zK,zM]
  ·refine bF (decide_eq_false (show ¬(j:Int)<(t.2.1.length:Int) by omega)) ?_
   rw[zI (by omega)]
   simp
theorem GA {ts:List ah.den}(hw:∀t∈ts,ah.wf t)(hl:ts.length≤maxLen)(hs:eH ts=true)(re lv a' b':Int)(z':Bool)(x':LI)(l':List Nd):∀(k j:Nat) (o:List Nd),ts.length<j+k→j≤ts.length→o.length≤j→
  oV k o j re lv ts a' b' z' x' l'=some (.ret ((),((o++(ts.drop j).map ig,()),((re,(lv,(ts,()))),((a',(b',(z',(x',(l',()))))),()))))):=by
 intro k
 have hs1:=(zA _ _▸hs).1
 have hs2:=(zA _ _▸hs).2
 have hs1:ts.length≤4294967296:=of_decide_eq_true hs1
 induction k with
 |zero=>intro j o h1 h2;omega
 |succ k ih=>
  intro j o h1 h2 h3
  rw[PC]
  unfold vt
  by_cases hj:j<ts.length
  ·refine bT (decide_eq_true (show (j:Int)<(ts.length:Int) by omega)) ?_
   have hgp:ts.getD ((j:Int)).toNat ah.zero=ts[j]:=by simp only[zG];exact aJ hj
   have hpl:(ts[j]).2.1.length≤4294967296:=of_decide_eq_true (List.all_eq_true.1 hs2 _ (List.getElem_mem hj))
   have c8:((decide ((0:Int)≤(j:Int))&&decide ((j:Int)<(ts.length:Int)))&&((decide (([]:List Nd).length=0)&&decide ((0:Int)=0))&&decide ((ts.getD ((j:Int)).toNat ah.zero).2.1.length≤4294967296)))=true:=by
    rw[hgp];simp;omega
   refine (aa c8 _ _).trans ?_
   refine bT (by simp;omega) ?_
   refine bT (decide_eq_true (show o.length+1≤4294967296 by omega)) ?_
   rw[aI (n:=(j:Int)+1) (by omega) (by omega)]
   have ih':=ih (j+1) (o++[ig ts[j]]) (by omega) (by omega) (by simp;omega)
   have hd:ts.drop j=ts[j]::ts.drop (j+1):=zE hj
   rw[hd]
   refine Eq.trans ?_ (ih'.trans ?_)
   ·refine congrArg (fun x=>oV k (o++[x]) _ re lv ts a' b' z' x' l') ?_
    show (bq [gd (ts.getD ((j:Int)).toNat ah.zero).1,ba ((ts.getD ((j:Int)).toNat ah.zero).2.1.map mp)])=_
    rw[hgp];rfl
   ·simp only[zL,zK,zM]
  ·refine bF (decide_eq_false (show ¬(j:Int)<(ts.length:Int) by omega)) ?_
   rw[zI (by omega)]
   simp
def Bj (a0 a1:Int)(a2:List ah.den):Option j8.Res:=(p9 (([],(0,())),((a0,(a1,(a2,()))),((0,(0,(false,([],([],()))))),())))).run fun y=>match y with | .ret ((),((x78,()),(x79,x80,x81,()),(x82,x83,x84,x85,x86,()),()))=>(oR ((Tre.mk (10,0,false,[],()) [Tre.mk (3,i64.wrap x79,false,[],()) [],Tre.mk (1,i64.wrap x80,false,[],()) [],Tre.mk (9,0,false,[],()) x78],()),()))
theorem SB (a0 a1:Int)(a2:List ah.den):Io.run tt zh dr m0 j8 Tryz.f86 (((a0,a1,a2,()),()),())=Bj a0 a1 a2:=by kernel_rfl
theorem si:HcsOk prog Ii:=.cons we (.cons Ac (.cons uu (.cons q4 .nil)))
theorem I9:HcOk prog 86 (ae j8 wZ):=by
 refine cg si (lp:=m0) (fn:=Tryz.f86) j8 (.step (h0:=aS fV p9) (by kernel_rfl) (jh si (lp:=m0) (fn:=Tryz.f86) (.step (h0:=aS fW qa) (by kernel_rfl) (jh si (lp:=m0) (fn:=Tryz.f86) (.done (by kernel_rfl)) fW qa ?_) (.done (by kernel_rfl))) fV p9 ?_) (.done (by kernel_rfl))) wZ ?_
 ·rintro ⟨⟨(acc:List Nd),(i:Int),(o:List Nd),(j:Int),⟨⟩⟩,⟨⟨(re:Int),(lv:Int),(ts:List ah.den),⟨⟩⟩,⟨(a':Int),(b':Int),(z':Bool),(x':LI),(l':List Nd),⟨⟩⟩,⟨⟩⟩⟩ y hw hy
  obtain ⟨hg,hy⟩:=Tr.guard hy
  simp only[zA,zB] at hg
  obtain ⟨⟨h1,h2⟩,⟨h3,h4⟩,h5⟩:=hg
  have h1:0≤i:=h1
  have h2:i<(ts.length:Int):=h2
  have h3:o=[]:=zF h3
  have h4:j=0:=h4
  obtain ⟨i,rfl⟩:=eK h1
  subst h3
  subst h4
  have hi:i<ts.length:=by omega
  have hgp:ts.getD ((i:Int)).toNat ah.zero=ts[i]:=by simp only[zG];exact aJ hi
  have h5:(ts.getD ((i:Int)).toNat ah.zero).2.1.length≤4294967296:=h5
  rw[hgp] at h5
  have hwt:ts.length≤maxLen∧∀t∈ts,ah.wf t:=by have:=hw.2.1.2.2.1;exact this
  refine ⟨(ts[i]).2.1.length+1,(GB hwt.2 hwt.1 hi h5 acc re lv a' b' z' x' l' ((ts[i]).2.1.length+1) 0 [] (by omega) (by omega) (by simp)).trans ?_⟩
  rw[← hy,← hgp,List.drop_zero]
  rfl
 ·rintro ⟨⟨(o:List Nd),(j:Int),⟨⟩⟩,⟨⟨(re:Int),(lv:Int),(ts:List ah.den),⟨⟩⟩,⟨(a':Int),(b':Int),(z':Bool),(x':LI),(l':List Nd),⟨⟩⟩,⟨⟩⟩⟩ y hw hy
  obtain ⟨hg,hy⟩:=Tr.guard hy
  simp only[zA,zB] at hg
  obtain ⟨⟨h3,h4⟩,h5⟩:=hg
  have h3:o=[]:=zF h3
  have h4:j=0:=h4
  have h5:eH ts=true:=h5
  subst h3
  subst h4
  have hwt:ts.length≤maxLen∧∀t∈ts,ah.wf t:=by have:=hw.2.1.2.2.1;exact this
  refine ⟨ts.length+1,(GA hwt.2 hwt.1 h5 re lv a' b' z' x' l' (ts.length+1) 0 [] (by omega) (by omega) (by simp)).trans ?_⟩
  rw[← hy,List.drop_zero]
  rfl
 ·rintro ⟨⟨⟨(re:Int),(lv:Int),(ts:List ah.den),⟨⟩⟩,⟨⟩⟩,⟨⟩⟩ out hw ho
  obtain ⟨hg,ho⟩:=Tr.guard ho
  have hg:eH ts=true:=hg
  cases ho
  refine (SB re lv ts).trans ?_
  unfold Bj
  have c1:((decide (([]:List Nd).length=0)&&decide ((0:Int)=0))&&eH ts)=true:=by rw[hg];rfl
  refine (aa c1 _ _).trans ?_
  show _=oR ((cb (re,(lv,(ts,()))),()),())
  unfold cb
  have hre:i64.wrap re=re:=dQ hw.1.1.1
  have hlv:i64.wrap lv=lv:=abf hw.1.1.2.1
  show oR ((bq [av 3 (i64.wrap re),av 1 (i64.wrap lv),ba (ts.map ig)],()),())=_
  rw[hre,hlv]
abbrev qP:Io:=⟨[dH],[],[],[.dat bX true false],none⟩
def QD (d:qP.In):Tr qP.Res:=.ite (decide (aM d.1.1≤4294967296)) (.ret (.ret ((Aw d.1.1,()),()))) .no
abbrev UP:List (Nat×Hc):=[(164,ae rD Mj)]
def KZ:Hd:=bM UP
abbrev gU:Lo:=⟨⟨(ce (.one (.ptr 2 0)::.one (.ptr 3 0)::.one (.hol (.sl 91 ap))::.one hI::.one (.ptr 6 0)::.one (.hol (.sl 91 ap))::.one hI::am (am (am (am (am (ce []))))))),[none,none,some [hJ,.hol (.int i8),.onl 196 ah 1030],some [hJ,.hol (.int i8),.onl 196 ah 1542],none,none,some [.hol .str,.onl 198 aX 3076]]⟩,[(.exit 2,⟨(ce (.one (.ptr 2 0)::.one (.ptr 3 0)::.one (.hol (.sl 91 ap))::.one hI::.one (.ptr 6 0)::am (am (am (am (am (dq []))))))),[none,none,some [hJ,.hol (.int i8),.onl 196 ah 1030],some [hJ,.hol (.int i8),.onl 196 ah 1542],none,none,some [.hol .str,.onl 198 aX 3076]]⟩)]⟩
abbrev jf:Lo:=⟨⟨(ce (.one (.ptr 2 0)::.one (.ptr 3 0)::.one (.hol (.sl 91 ap))::.one hI::.any::am (am (am (am (am (dq []))))))),[none,none,some [hJ,.hol (.int i8),.onl 196 ah 1030],some [hJ,.hol (.int i8),.onl 196 ah 1542]]⟩,[(.exit 0,⟨(ce (.one (.ptr 2 0)::.one (.ptr 3 0)::.any::am (am (am (am (am (dq (ce [])))))))),[none,none,some [hJ,.hol (.int i8),.onl 196 ah 1030],some [hJ,.hol (.int i8),.onl 196 ah 1542]]⟩)]⟩
def tE (d:gU.st.den):Tr (aH gU.xs):=
 .ite ((decide (d.1.2.2.2.1=0)&&decide (d.2.2.2.1.2.1.length=0))&&decide (aK d.1.2.2.1≤4294967296))
  (.ret (.ret ((),((d.1.1,(d.1.2.1,())),(d.2.1,(d.2.2.1,((d.2.2.2.1.1,(d.1.2.2.1.map F1,())),()))))))) .no
def w4 (d:jf.st.den):Tr (aH jf.xs):=
 .ite ((decide (d.1.2.1=0)&&decide (d.2.2.1.2.2.1.length=0))&&decide (aK d.1.1≤4294967296))
  (.ret (.ret ((),((),(d.2.1,((d.2.2.1.1,(d.2.2.1.2.1,(d.1.1.map ww,()))),())))))) .no
def ug:Lp:=bB [(5,aS jf w4),(10,aS gU tE)]
def yA {R:Type}(h9:List (Nd))(h10:Int)(h11:List (Nd))(h12 h13 h14:Int)(h15:List ah.den)(h16 h17:Int)(h18:List ah.den)(h19:LI)(h20:List aX.den)(next:List (Nd)→Int→List (Nd)→Int→Int→Int→List ah.den→Int→Int→List ah.den→LI→List aX.den→Option R)(out:aH gU.xs→Option R):Option R:=bif decide (h12<(↑h11.length:Int)) then bif decide (0≤h12)&&decide (h12<(↑h11.length:Int)) then bif decide (0≤h12)&&decide (h12<(↑h11.length:Int)) then bif decide (0≤h12)&&decide (h12<(↑h11.length:Int)) then bif decide (0≤h12)&&decide (h12<(↑h11.length:Int)) then bif decide (h20.length+1≤4294967296) then next (h9) (h10) (h11) (i64.wrap (h12+1)) (h13) (h14) (h15) (h16) (h17) (h18) (h19) (h20++[(i32.wrap (aY (Tre.mk (h11.getD h12.toNat (Tre.mk (0,0,false,[],()) [])).1 (h11.getD h12.toNat (Tre.mk (0,0,false,[],()) [])).2) 0).1.2.1,i32.wrap (aY (Tre.mk (h11.getD h12.toNat (Tre.mk (0,0,false,[],()) [])).1 (h11.getD h12.toNat (Tre.mk (0,0,false,[],()) [])).2) 1).1.2.1,(aY (Tre.mk (h11.getD h12.toNat (Tre.mk (0,0,false,[],()) [])).1 (h11.getD h12.toNat (Tre.mk (0,0,false,[],()) [])).2) 2).1.2.1,i32.wrap (aY (Tre.mk (h11.getD h12.toNat (Tre.mk (0,0,false,[],()) [])).1 (h11.getD h12.toNat (Tre.mk (0,0,false,[],()) [])).2) 3).1.2.1,())]) else none else none else none else none else none else out (.ret ((),((h9,(h10,())),((h13,(h14,(h15,()))),((h16,(h17,(h18,()))),((h19,(h20,())),()))))))
def v9 (n:Nat)(h9:List (Nd))(h10:Int)(h11:List (Nd))(h12 h13 h14:Int)(h15:List ah.den)(h16 h17:Int)(h18:List ah.den)(h19:LI)(h20:List aX.den):Option (aH gU.xs):=il tt KZ dr ug 0 Tryz.f73 (pV Tryz.f73 (db Tryz.f73 0) 0) n (gU.st.mk' ((h9,(h10,(h11,(h12,())))),((h13,(h14,(h15,()))),((h16,(h17,(h18,()))),((h19,(h20,())),()))))) (ci gU.xs)
theorem SP (n:Nat)(h9:List (Nd))(h10:Int)(h11:List (Nd))(h12 h13 h14:Int)(h15:List ah.den)(h16 h17:Int)(h18:List ah.den)(h19:LI)(h20:List aX.den):v9 (n+1) h9 h10 h11 h12 h13 h14 h15 h16 h17 h18 h19 h20=yA h9 h10 h11 h12 h13 h14 h15 h16 h17 h18 h19 h20 (v9 n) some:=by kernel_rfl
def B4 {R:Type}(h1:List (Nd))(h2 h3 h4:Int)(h5:List ah.den)(h6 h7:Int)(h8:List ah.den)(next:List (Nd)→Int→Int→Int→List ah.den→Int→Int→List ah.den→Option R)(out:aH jf.xs→Option R):Option R:=bif decide (h2<(↑h1.length:Int)) then bif decide (0≤h2)&&decide (h2<(↑h1.length:Int)) then bif decide (0≤h2)&&decide (h2<(↑h1.length:Int)) then (tE ((h1,(h2,((aY (Tre.mk (h1.getD h2.toNat (Tre.mk (0,0,false,[],()) [])).1 (h1.getD h2.toNat (Tre.mk (0,0,false,[],()) [])).2) 1).2,(0,())))),((h3,(h4,(h5,()))),((h6,(h7,(h8,()))),(((aY (Tre.mk (h1.getD h2.toNat (Tre.mk (0,0,false,[],()) [])).1 (h1.getD h2.toNat (Tre.mk (0,0,false,[],()) [])).2) 0).1.2.2.2.1,([],())),()))))).run fun y=>match y with | .ret ((),((x43,x44,()),(x45,x46,x47,()),(x48,x49,x50,()),(x51,x52,()),()))=>(bif decide (x50.length+1≤4294967296) then next (x43) (i64.wrap (x44+1)) (x45) (x46) (x47) (x48) (x49) (x50++[(x51,x52,())]) else none) else none else none else out (.ret ((),((),((h3,(h4,(h5,()))),((h6,(h7,(h8,()))),())))))
def zP (n:Nat)(h1:List (Nd))(h2 h3 h4:Int)(h5:List ah.den)(h6 h7:Int)(h8:List ah.den):Option (aH jf.xs):=il tt KZ dr ug 0 Tryz.f73 (db Tryz.f73 0) n (jf.st.mk' ((h1,(h2,())),((h3,(h4,(h5,()))),((h6,(h7,(h8,()))),())))) (ci jf.xs)
theorem YI (n:Nat)(h1:List (Nd))(h2 h3 h4:Int)(h5:List ah.den)(h6 h7:Int)(h8:List ah.den):zP (n+1) h1 h2 h3 h4 h5 h6 h7 h8=B4 h1 h2 h3 h4 h5 h6 h7 h8 (zP n) some:=by kernel_rfl
theorem Ld {ps:List Nd}(hb:aK ps≤4294967296)(dc:List Nd)(i re0 lv0:Int)(ts0:List ah.den)(re lv:Int)(ts:List ah.den)(tn:LI):∀(k j:Nat) (o:List aX.den),ps.length<j+k→j≤ps.length→o.length≤j→
  v9 k dc i ps j re0 lv0 ts0 re lv ts tn o=some (.ret ((),((dc,(i,())),((re0,(lv0,(ts0,()))),((re,(lv,(ts,()))),((tn,(o++(ps.drop j).map F1,())),())))))):=by
 intro k
 have hlen:=dG ps
 induction k with
 |zero=>intro j o h1 h2;omega
 |succ k ih=>
  intro j o h1 h2 h3
  rw[SP]
  unfold yA
  by_cases hj:j<ps.length
  ·refine bT (decide_eq_true (show (j:Int)<(ps.length:Int) by omega)) ?_
   have hmem:=cI (List.getElem_mem hj)
   have ih':=ih (j+1) (o++[F1 ps[j]]) (by omega) (by omega) (by simp;omega)
   have hd:ps.drop j=ps[j]::ps.drop (j+1):=zE hj
   rw[hd,aI (n:=(j:Int)+1) (by omega) (by omega)]
   simp only[zG,aJ hj]
   generalize ps[j]=u at hmem ih' ⊢
   obtain ⟨ul,uk⟩:=u
   refine bT (by simp;omega) ?_
   refine bT (by simp;omega) ?_
   refine bT (by simp;omega) ?_
   refine bT (by simp;omega) ?_
   refine bT (decide_eq_true (show o.length+1≤4294967296 by omega)) ?_
   refine ih'.trans ?_
   simp only[zL,zK,zM]
  ·refine bF (decide_eq_false (show ¬(j:Int)<(ps.length:Int) by omega)) ?_
   rw[zI (by omega)]
   simp
theorem Oh {nds:List Nd}(hb:aK nds≤4294967296)(re0 lv0:Int)(ts0:List ah.den)(re lv:Int):∀(k j:Nat) (ts:List ah.den),nds.length<j+k→j≤nds.length→ts.length≤j→
  zP k nds j re0 lv0 ts0 re lv ts=some (.ret ((),((),((re0,(lv0,(ts0,()))),((re,(lv,(ts++(nds.drop j).map ww,()))),()))))):=by
 intro k
 have hlen:=dG nds
 induction k with
 |zero=>intro j o h1 h2;omega
 |succ k ih=>
  intro j ts h1 h2 h3
  rw[YI]
  unfold B4
  by_cases hj:j<nds.length
  ·refine bT (decide_eq_true (show (j:Int)<(nds.length:Int) by omega)) ?_
   have hmem:=cI (List.getElem_mem hj)
   have ih':=ih (j+1) (ts++[ww nds[j]]) (by omega) (by omega) (by simp;omega)
   have hd:nds.drop j=nds[j]::nds.drop (j+1):=zE hj
   rw[hd]
   simp only[zG,aJ hj]
   generalize nds[j]=u at hmem ih' ⊢
   obtain ⟨ul,uk⟩:=u
   refine bT (by simp;omega) ?_
   refine bT (by simp;omega) ?_
   have hw1:=gY (Tre.mk ul uk) 1
   have hw2:=dC (aY (Tre.mk ul uk) 1)
   have cA:((decide ((0:Int)=0)&&decide (([]:List aX.den).length=0))&&decide (aK (aY (Tre.mk ul uk) 1).kids≤4294967296))=true:=by simp;omega
   refine (aa cA _ _).trans ?_
   refine bT (decide_eq_true (show ts.length+1≤4294967296 by omega)) ?_
   rw[aI (n:=(j:Int)+1) (by omega) (by omega)]
   refine ih'.trans ?_
   simp only[zL,zK,zM]
  ·refine bF (decide_eq_false (show ¬(j:Int)<(nds.length:Int) by omega)) ?_
   rw[zI (by omega)]
   simp
def HQ (a0:Nd):Option qP.Res:=(w4 (((aY (Tre.mk a0.1 a0.2) 2).2,(0,())),((0,(0,([],()))),((i32.wrap (aY (Tre.mk a0.1 a0.2) 0).1.2.1,(i8.wrap (aY (Tre.mk a0.1 a0.2) 1).1.2.1,([],()))),())))).run fun y=>match y with | .ret ((),((),(x67,x68,x69,()),(x70,x71,x72,()),()))=>(oR (((x70,x71,x72,()),()),()))
theorem adB (a0:Nd):Io.run tt KZ dr ug qP Tryz.f73 ((a0,()),())=HQ a0:=by kernel_rfl
theorem zc:HcsOk prog UP:=.cons I5 .nil
theorem af6:HcOk prog 73 (ae qP QD):=by
 refine cg zc (lp:=ug) (fn:=Tryz.f73) qP (.step (h0:=aS jf w4) (by kernel_rfl) (jh zc (lp:=ug) (fn:=Tryz.f73) (.step (h0:=aS gU tE) (by kernel_rfl) (jh zc (lp:=ug) (fn:=Tryz.f73) (.done (by kernel_rfl)) gU tE ?_) (.done (by kernel_rfl))) jf w4 ?_) (.done (by kernel_rfl))) QD ?_
 ·rintro ⟨⟨(dc:List Nd),(i:Int),(ps:List Nd),(j:Int),⟨⟩⟩,⟨⟨(re0:Int),(lv0:Int),(ts0:List ah.den),⟨⟩⟩,⟨(re:Int),(lv:Int),(ts:List ah.den),⟨⟩⟩,⟨(tn:LI),(o:List aX.den),⟨⟩⟩,⟨⟩⟩⟩ y hw hy
  obtain ⟨hg,hy⟩:=Tr.guard hy
  simp only[zA,zB] at hg
  obtain ⟨⟨h1,h2⟩,h3⟩:=hg
  have h1:j=0:=h1
  have h2:o=[]:=zF h2
  have h3:aK ps≤4294967296:=h3
  subst h1
  subst h2
  refine ⟨ps.length+1,(Ld h3 dc i re0 lv0 ts0 re lv ts tn (ps.length+1) 0 [] (by omega) (by omega) (by simp)).trans ?_⟩
  rw[← hy,List.drop_zero]
  rfl
 ·rintro ⟨⟨(nds:List Nd),(j:Int),⟨⟩⟩,⟨⟨(re0:Int),(lv0:Int),(ts0:List ah.den),⟨⟩⟩,⟨(re:Int),(lv:Int),(ts:List ah.den),⟨⟩⟩,⟨⟩⟩⟩ y hw hy
  obtain ⟨hg,hy⟩:=Tr.guard hy
  simp only[zA,zB] at hg
  obtain ⟨⟨h1,h2⟩,h3⟩:=hg
  have h1:j=0:=h1
  have h2:ts=[]:=zF h2
  have h3:aK nds≤4294967296:=h3
  subst h1
  subst h2
  refine ⟨nds.length+1,(Oh h3 re0 lv0 ts0 re lv (nds.length+1) 0 [] (by omega) (by omega) (by simp)).trans ?_⟩
  rw[← hy,List.drop_zero]
  rfl
 ·rintro ⟨⟨(n:Nd),⟨⟩⟩,⟨⟩⟩ out hw ho
  obtain ⟨hg,ho⟩:=Tr.guard ho
  have hg:aM n≤4294967296:=of_decide_eq_true hg
  cases ho
  refine (adB n).trans ?_
  unfold HQ
  obtain ⟨nl,nk⟩:=n
  have hw1:=gY (Tre.mk nl nk) 2
  have hw2:=dC (aY (Tre.mk nl nk) 2)
  have c1:((decide ((0:Int)=0)&&decide (([]:List ah.den).length=0))&&decide (aK (aY (Tre.mk nl nk) 2).kids≤4294967296))=true:=by simp;omega
  refine (aa c1 _ _).trans ?_
  show _=oR ((Aw (Tre.mk nl nk),()),())
  unfold Aw
  rfl
abbrev la:Io:=⟨[.dat bX true false],[],[],[.dat bX true false],none⟩
def Di (d:la.In):Tr la.Res:=.ite (eH d.1.1.2.2.1&&decide (aM (cb d.1.1)≤4294967296)) (.ret (.ret ((d.1.1,()),()))) .no
abbrev Ij:List (Nat×Hc):=[(86,ae j8 wZ),(83,ae fC vx),(73,ae qP QD)]
def WY:Hd:=bM Ij
def IQ:Lp:=bB []
def Bk (a0 a1:Int)(a2:List ah.den):Option la.Res:=bif eH a2 then bif decide (aM (Tre.mk (cb (a0,a1,a2,())).1 (cb (a0,a1,a2,())).2)≤4294967296) then bif decide (aM (Tre.mk (cb (a0,a1,a2,())).1 (cb (a0,a1,a2,())).2)≤4294967296) then oR ((Aw (Tre.mk (cb (a0,a1,a2,())).1 (cb (a0,a1,a2,())).2),()),()) else none else none else none
theorem SD (a0 a1:Int)(a2:List ah.den):Io.run tt WY dr IQ la Tryz.f32 (((a0,a1,a2,()),()),())=Bk a0 a1 a2:=by kernel_rfl
theorem XI:HcOk prog 32 (ae la Di):=by
 refine cg (cs:=Ij) (.cons I9 (.cons uv (.cons af6 .nil))) (lp:=IQ) (fn:=Tryz.f32) la (.done (by kernel_rfl)) Di ?_
 rintro ⟨⟨m,⟨⟩⟩,⟨⟩⟩ out hw ho
 obtain ⟨hg,ho⟩:=Tr.guard ho
 simp only[zA,zB] at hg
 obtain ⟨h1,h2⟩:=hg
 have h1:eH m.2.2.1=true:=h1
 have h2:aM (cb m)≤4294967296:=h2
 cases ho
 have hf:=s7 (m:=m) hw.1.1
 obtain ⟨re,lv,ts,⟨⟩⟩:=m
 refine (SD re lv ts).trans ?_
 unfold Bk
 generalize cb (re,(lv,(ts,())))=n at h2 hf ⊢
 obtain ⟨nl,nk⟩:=n
 refine (aa h1 _ _).trans ?_
 refine bT (decide_eq_true h2) ?_
 refine bT (decide_eq_true h2) ?_
 exact congrArg (fun x=>oR ((x,()),())) hf
@[irreducible] noncomputable def eI (v:Int)(m:bX.den):LI×Int:=eE 2 false v (cb m)
end
end Go.Proofs.YtomeplopmndbgaaGreat.Sym
namespace Go.Proofs.YtomeplopmndbgaaGreat.Sym
open Go
noncomputable section
def aem (v:Int)(p:aX.den):LI×Int:=aZ (aB p.1 4,0) (aZ (if 3≤v∧v≤3 then (aB p.2.1 4,0) else ([],0)) (aZ (aB p.2.2.1 8,0) (aZ (if 0≤v∧v≤0 then (aB p.2.2.2.1 4,0) else ([],0)) ([],0))))
def aen (v:Int)(t:ah.den):LI×Int:=aZ (lP t.1) (aZ (du (aem v) t.2.1) ([],0))
def Ch (v:Int)(m:bX.den):LI×Int:=aZ (aB m.1 4,0) (aZ (if 2≤v∧v≤3 then (aB m.2.1 1,0) else ([],0)) (aZ (du (aen v) m.2.2.1) (([],0))))
theorem Wri.oqP (v:Int)(p:aX.den):Wri (aem v p) (pm v p):=(Wri.put p.1 4).seq ((Wri.hasE v 3 3 p.2.1 4).seq ((Wri.put p.2.2.1 8).seq ((Wri.hasE v 0 0 p.2.2.2.1 4).seq (Wri.nop))))
theorem Wri.oqT (v:Int)(t:ah.den):Wri (aen v t) (F2 v t):=(Wri.str _).seq ((Wri.items fun p hp=>Wri.oqP v p).seq Wri.nop)
abbrev aiv:Fd:=cO [112,97,114,116] 10 0 3 [cO [105,110,100,101,120] 3 0 3 [],cO [101,112,111,99,104] 3 3 3 [],cO [116,105,109,101] 4 0 3 [],cO [109,111,115,116] 3 0 0 []]
abbrev aj2:Fd:=cO [116,111,112,105,99] 10 0 3 [cO [110,97,109,101] 5 0 3 [],cO [112,97,114,116,115] 9 0 3 [aiv]]
theorem ahb {v:Int}{p:aX.den}(hv:0≤v∧v≤3)(h:aX.wf p):uE aiv v (mp p)=aem v p:=by
 unfold mp aem
 rw[jJ,bc (ax hv.1 hv.2),kF,bc (ax hv.1 hv.2),kF,cv,bG (by decide) (w:=4) rfl (bV h.1),bG (by decide) (w:=4) rfl (bV h.2.1),bG (by decide) (w:=4) rfl (bV h.2.2.2.1),bG (by decide) (w:=8) rfl (fq p.2.2.1)]
 try rfl
theorem ahc {v:Int}{t:ah.den}(hv:0≤v∧v≤3)(h:ah.wf t):uE aj2 v (ig t)=aen v t:=by
 unfold ig aen
 rw[jJ,bc (ax hv.1 hv.2),bc (ax hv.1 hv.2),cv,pS,fu,cw fun p hp=>ahb hv (h.2.1.2 p hp)]
def pK (v:Int)(p:aX.den):Bool:=(if 3≤v∧v≤3 then true else (p.2.1 == 0))&&((if 0≤v∧v≤0 then true else (p.2.2.2.1 == 0)))
theorem YQ {v:Int}{p:aX.den}(hv:0≤v∧v≤3):(bn aiv v (mp p)).2=pK v p:=by
 unfold mp pK
 rw[fG,bd (ax hv.1 hv.2),dl,bd (ax hv.1 hv.2),dl,dk,aL (by decide) (by decide),aL (by decide) (by decide),aL (by decide) (by decide),aL (by decide) (by decide),bh,bh]
 simp only[Bool.true_and,Bool.and_true]
theorem YR {v:Int}{t:ah.den}(hv:0≤v∧v≤3):(bn aj2 v (ig t)).2=t.2.1.all (pK v):=by
 unfold ig
 rw[fG,bd (ax hv.1 hv.2),bd (ax hv.1 hv.2),dk,aL (by decide) (by decide),dh]
 simp only[YQ hv,Bool.true_and,Bool.and_true]
theorem FM (m:bX.den):er vg [av 3 m.1,av 1 m.2.1,ba (m.2.2.1.map ig)]:=by
 unfold vg b8
 refine au (aF (by decide) (by decide)) (au (aF (by decide) (by decide)) (au ?_ cj))
 refine cN _ _ fun t=>dK rfl (au (aF (by decide) (by decide)) (au ?_ cj))
 exact cN _ _ fun p=>dK rfl (au (aF (by decide) (by decide)) (au (aF (by decide) (by decide)) (au (aF (by decide) (by decide)) (au (aF (by decide) (by decide)) cj))))
def uU (v:Int)(m:bX.den):Bool:=(if 2≤v∧v≤3 then true else (m.2.1 == 0))&&((m.2.2.1.all fun t=>t.2.1.all (pK v)))
theorem Y5 {e v:Int}{p:aX.den}:wv v p (e,(false,([]:LI)))=(iF e (pK v p),(false,[])):=by
 unfold wv pK
 rw[cS,cS,c7]
theorem FZ {v:Int}:∀{ps:List aX.den} {e:Int},jn v ps (e,(false,([]:LI)))=(iF e (ps.all (pK v)),(false,[]))
 |[],e=>by rw[List.all_nil,iA];rfl
 |p::ps,e=>by
  show jn v ps (wv v p (e,(false,[])))=_
  rw[Y5,FZ,c7,List.all_cons]
theorem JA {v:Int}:∀{ts:List ah.den} {e:Int},Av v ts (e,(false,([]:LI)))=(iF e (ts.all fun t=>t.2.1.all (pK v)),(false,[]))
 |[],e=>by rw[List.all_nil,iA];rfl
 |t::ts,e=>by
  show Av v ts (jn v t.2.1 (e,(false,[])))=_
  rw[FZ,JA,c7,List.all_cons]
theorem ahH {v:Int}{m:bX.den}(hv:0≤v∧v≤3):(bS v vg [av 3 m.1,av 1 m.2.1,ba (m.2.2.1.map ig)]).2=uU v m:=by
 unfold vg b8 uU
 rw[bd (ax hv.1 hv.2),dl,bd (ax hv.1 hv.2),dk,aL (by decide) (by decide),aL (by decide) (by decide),dh,bh]
 simp only[YR hv,Bool.true_and,Bool.and_true,Bool.and_assoc]
theorem aie {v:Int}{m:bX.den}(hv:0≤v∧v≤3)(hm:bX.wf m):cG v vg [av 3 m.1,av 1 m.2.1,ba (m.2.2.1.map ig)]=Ch v m:=by
 unfold vg b8 Ch
 rw[bc (ax hv.1 hv.2),kF,bc (ax hv.1 hv.2),cv,bG (by decide) (w:=4) rfl (bV hm.1),bG (by decide) (w:=1) rfl (Je hm.2.1),fu,cw fun t ht=>ahc hv (hm.2.2.1.2 t ht)]
 try rfl
theorem acE {v:Int}{m:bX.den}(hm:bX.wf m):(bD (yo v m),bm (yo v m))=eI v m:=by
 unfold eI cb
 rw[jI (t:=vg) rfl PP rfl (FM m)]
 unfold yo
 rw[cS,JA,c7]
 have hr:Wri (Ch v m) _:=(Wri.put m.1 4).seq ((Wri.hasE v 2 3 m.2.1 1).seq ((Wri.items fun t ht=>Wri.oqT v t).seq (Wri.nop)))
 refine (hr.done _).trans ?_
 unfold aV
 by_cases hv:v<0∨3<v
 ·rw[if_pos hv,if_pos hv]
  exact if_pos (by simp[iF])
 rw[if_neg hv,if_neg hv]
 have hv':0≤v∧v≤3:=by omega
 rw[ahH hv',aie hv' hm]
 show (if iF 0 (uU v m)≠0 then _ else _)=_
 cases hz:uU v m
 ·exact (if_pos (by decide)).trans (show ([],iF 0 (uU v m))=_ by rw[hz];rfl)
 ·exact (if_neg (by decide)).trans (if_neg (by decide)).symm
abbrev xC:Io:=qx
def TG (d:xC.In):Tr xC.Res:=.ret (.ret (((eI d.1.1 d.1.2.1).1,((eI d.1.1 d.1.2.1).2,())),()))
theorem acb:HcOk prog 45 (ae xC TG):=by
 refine HcOk.weakW afM ?_
 rintro ⟨⟨(v:Int),m,⟨⟩⟩,⟨⟩⟩ y hw hy
 rw[← hy]
 have h:=acE (v:=v) (m:=m) hw.1.2.1
 show oR ((bD (yo v m),(bm (yo v m),())),())=oR (((eI v m).1,((eI v m).2,())),())
 rw[← h]
theorem I2 {v:Int}{p:aX.den}(h:pK v p=true):(¬(3≤v∧v≤3)→p.2.1=0)∧(¬(0≤v∧v≤0)→p.2.2.2.1=0):=by
 unfold pK at h
 simp only[zA] at h
 exact ⟨fun hv=>by have h1:=h.1;rw[if_neg hv] at h1;simpa using h1,fun hv=>by have h1:=h.2;rw[if_neg hv] at h1;simpa using h1⟩
theorem I1 {v:Int}{m:bX.den}(h:uU v m=true):(¬(2≤v∧v≤3)→m.2.1=0)∧(m.2.2.1.all fun t=>t.2.1.all (pK v))=true:=by
 unfold uU at h
 simp only[zA] at h
 exact ⟨fun hv=>by have h1:=h.1;rw[if_neg hv] at h1;simpa using h1,h.2⟩
theorem Rd.oqP {b:LI}{p:aX.den}{v:Int}(h:aX.wf p)(hk:pK v p=true):Rd b p (aem v p) (n6 v b):=
 (Rd.seq (fun a r=>(a,r)) (Rd.num (bA h.1)) (Rd.seq (fun a r=>(a,r)) (Rd.opt (bA h.2.1) (I2 hk).1) (Rd.seq (fun a r=>(a,r)) (Rd.num (fA h.2.2.1)) (Rd.seq (fun a r=>(a,r)) (Rd.opt (bA h.2.2.2.1) (I2 hk).2) (Rd.nop b ()))))).congr fun s=>by unfold n6;rfl
theorem Rd.oqT {b:LI}{t:ah.den}{v:Int}(h:ah.wf t)(hk:t.2.1.all (pK v)=true):Rd b t (aen v t) (n7 v b):=
 (Rd.seq (fun a r=>(a,r)) (Rd.txt t.1) (Rd.seq (fun a r=>(a,r)) (Rd.list fun p hp=>Rd.oqP (h.2.1.2 p hp) (List.all_eq_true.1 hk p hp)) (Rd.nop b ()))).congr fun s=>by unfold n7 jM;rfl
theorem Rd.oqM {b:LI}{m:bX.den}{v:Int}(h:bX.wf m)(hk0:uU v m=true):Rd b m (Ch v m) (rx v b):=
 have hk:=(I1 hk0).2
 (Rd.seq (fun a r=>(a,r)) (Rd.num (bA h.1)) (Rd.seq (fun a r=>(a,r)) (Rd.opt (JN h.2.1) (I1 hk0).1) (Rd.seq (fun a r=>(a,r)) (Rd.list fun t ht=>Rd.oqT (h.2.2.1.2 t ht) (List.all_eq_true.1 hk t ht)) (Rd.nop b ())))).congr fun s=>by unfold rx df;rfl
theorem acF {v:Int}{m:bX.den}(hm:bX.wf m)(h:(eI v m).2=0):0≤v∧v≤3∧uU v m=true∧(Ch v m).2=0∧(eI v m).1=(Ch v m).1∧(eI v m).1.length≤130048:=by
 have hlen:(eI v m).1.length≤130048:=by unfold eI;exact ej _ _ _ _
 unfold eI cb at h hlen ⊢
 rw[jI (t:=vg) rfl PP rfl (FM m)] at h hlen ⊢
 by_cases hv:v<0∨3<v
 ·rw[if_pos hv] at h;cases h
 rw[if_neg hv] at h hlen ⊢
 have hv':0≤v∧v≤3:=by omega
 rw[ahH hv',aie hv' hm] at h hlen ⊢
 generalize hz:uU v m=z at h hlen ⊢
 cases z with
 |false=>rw[if_pos rfl] at h;cases h
 |true=>
  rw[if_neg (by decide)] at h hlen ⊢
  by_cases h1:(Ch v m).2=0
  ·rw[if_neg (by simpa using h1)] at h hlen ⊢
   by_cases h2:130048<(Ch v m).1.length
   ·rw[if_pos h2] at h;cases h
   ·rw[if_neg h2] at h hlen ⊢
    exact ⟨hv'.1,hv'.2,rfl,h1,rfl,hlen⟩
  ·rw[if_pos h1] at h
   exact absurd h h1
theorem af8 {v:Int}{m:bX.den}(hm:bX.wf m)(h:(eI v m).2=0):
  lT v (eI v m).1=(m,0)∧(lT v ((eI v m).1.take ((eI v m).1.length - 1))).2=1:=by
 obtain ⟨h1,h2,h3,h4,h5,h6⟩:=acF hm h
 rw[h5] at h6 ⊢
 generalize hr:(Ch v m).1=r at h6 ⊢
 have hne:r≠[]:=by
  intro e
  have h4c:=h4
  have hl':(Ch v m).1.length=0:=by rw[hr,e];rfl
  unfold Ch at h4c hl'
  have s0:=cy h4c
  have l0:=congrArg List.length s0.2.2
  rw[zH] at l0
  have s1:=cy s0.2.1
  have l1:=congrArg List.length s1.2.2
  rw[zH] at l1
  have s2:=cy s1.2.1
  have l2:=congrArg List.length s2.2.2
  rw[zH] at l2
  have h8:=nL s2.1
  omega
 refine ⟨?_,?_⟩
 ·have key:=(Rd.oqM (b:=r) hm h3 h4).full 0 [] (Nat.zero_le _) (by rw[hr];simp)
  have key:rx v r (0,0)=(m,(0,((0+(Ch v m).1.length:Nat):Int))):=key
  rw[hr] at key
  unfold lT
  rw[if_pos ⟨h1,h2,by omega⟩,key]
  have he:aE r (0,((0+r.length:Nat):Int))=0:=by
   unfold aE sQ
   rw[if_pos rfl,if_neg (by omega)]
  rw[if_pos he]
 ·obtain ⟨t,ht,htr⟩:=m6 hne
  have key:=(Rd.oqM (b:=r.take (r.length - 1)) hm h3 h4).short 0 t (Nat.zero_le _) ht (by rw[hr];exact htr)
  have key:(rx v (r.take (r.length - 1)) (0,0)).2.1=1:=key
  unfold lT
  rw[if_pos ⟨h1,h2,by rw[List.length_take];omega⟩]
  have he:aE (r.take (r.length - 1)) (rx v (r.take (r.length - 1)) (0,0)).2=1:=by
   unfold aE
   rw[if_neg (by rw[key];decide)];exact key
  rw[he,if_neg (by decide)]
end
end Go.Proofs.YtomeplopmndbgaaGreat.Sym
namespace Go.Proofs.YtomeplopmndbgaaGreat.Sym
open Go
open Go.IntKind (i8 i16 i32 i64 u8 u16 u32 u64)
noncomputable section
def FA (x:Int)(s:bf):bf:=ac x 8 s
def iw (xs:LI)(s:bf):bf:=bE FA xs s
theorem PZ {s:bf}(x:Int)(h:s.2.2.length≤130048):(FA x s).2.2.length≤130048:=aA _ _ h
theorem P1 {s:bf}(xs:LI)(h:s.2.2.length≤130048):(iw xs s).2.2.length≤130048:=cn (fun x s=>PZ x) xs h
def lA (v lo hi:Int)(xs:LI)(s:bf):bf:=if lo≤v∧v≤hi then iw xs s else s
theorem nT {v lo hi:Int}{xs:LI}{s:bf}(h:lo≤v∧v≤hi):lA v lo hi xs s=iw xs s:=by unfold lA;rw[if_pos h]
theorem lO {v lo hi:Int}{xs:LI}{s:bf}(h:¬(lo≤v∧v≤hi)):lA v lo hi xs s=s:=by unfold lA;rw[if_neg h]
theorem S2 {s:bf}(v lo hi:Int)(xs:LI)(h:s.2.2.length≤130048):(lA v lo hi xs s).2.2.length≤130048:=by
 unfold lA
 split
 ·exact P1 xs h
 ·exact h
abbrev KK (v:Int)(s:bf):(Int×(Int×(Bool×Unit)))×((LI×(Int×Unit))×Unit):=((v,(s.1,(s.2.1,()))),((s.2.2,(130048,())),()))
@[irreducible] noncomputable def bH (b:LI)(s:aD):LI×aD:=iC (ab .i64 8 b) b s
theorem P0 {b:LI}{s:aD}(h:al b s.2=true):al b (bH b s).2.2=true:=by
 unfold bH
 exact fH (fun s h=>aO .i64 8 h) h
def eg (v lo hi:Int)(b:LI)(s:aD):LI×aD:=if aQ v lo hi s.1=true then bH b s else ([],s)
theorem PS {v lo hi:Int}{b:LI}{s:aD}(h:al b s.2=true):al b (eg v lo hi b s).2.2=true:=by
 unfold eg
 split
 ·exact P0 h
 ·exact h
theorem Fr {v lo hi e:Int}(h:aQ v lo hi e=true):lo≤v∧v≤hi:=by
 unfold aQ at h
 split at h
 ·rename_i h';exact h'.2
 ·cases h
theorem Fp {k:IntKind}{n:Nat}{v lo hi:Int}{b:LI}(h:lo≤v∧v≤hi)(s:aD):ao k n v lo hi b s=ab k n b s:=by
 unfold ao aQ
 by_cases he:s.1=0
 ·rw[if_pos (by rw[if_pos ⟨he,h⟩])]
 ·rw[if_neg (by rw[if_neg (fun hh=>he hh.1)];decide)]
  unfold ab;rw[if_neg he]
abbrev KD (v:Int)(b:LI)(s:aD):(Int×(Int×Unit))×((LI×(Int×Unit))×Unit):=((v,(s.1,())),((b,(s.2,())),()))
abbrev Ey:Io:=⟨[.ptr 0 0,.dat (.sl 2 (.int .i64)) false false,.fnc 111 true [0]],uM,[],[],none⟩
def ail (d:Ey.In):Tr Ey.Res:=.ite (gi d.2) (.ret (.ret ((),cV d.2.1.2.1 (iw d.1.2.1 (gj d.2))))) .no
abbrev ahB:List (Nat×Hc):=[(194,ae cT gq),(98,ae cX gg),(111,ae l8 AM)]
def ahN:Hd:=bM ahB
abbrev mN:Lo:=⟨⟨[.any,.any,.one (.fnp 111 true [0]),.any,.any,.any,.any,.any,.any,.any,.any,.any,.any,.any,.any,.any,.any,.any,.one (.hol (.sl 2 (Ty.int i64))),.one hI,.one hI,.any,.any,.any,.any,.any,.any,.any],[some [.ptr 1 0,hI,hI,hL],some [.onl 5 (Ty.int u8) 514,hI]]⟩,[(.exit 0,⟨(am (gE (dq []))),[some [.ptr 1 0,hI,hI,hL],some [.onl 5 (Ty.int u8) 514,hI]]⟩)]⟩
def C2 (d:mN.st.den):Tr (aH mN.xs):=
 .ite (decide (d.1.2.2.1=0)&&(decide (d.1.2.1=(d.1.1.length:Int))&&(decide (d.2.2.1.2.1=130048)&&decide (d.2.2.1.1.length≤130048)))) (.ret (.ret ((),((),KK d.2.1.1 (d.1.1.foldl (fun s x=>FA x s) (d.2.1.2.1,(d.2.1.2.2.1,d.2.2.1.1))))))) .no
def Vp:Lp:=bB [(5,aS mN C2)]
def JK {R:Type}(h6:LI)(h7 h8 h9 h10:Int)(h11:Bool)(h12:LI)(h13:Int)(next:LI→Int→Int→Int→Int→Bool→LI→Int→Option R)(out:aH mN.xs→Option R):Option R:=bif decide (h8<h7) then bif decide (0≤h8)&&decide (h8<(↑h6.length:Int)) then bif decide (h13=130048)&&decide (h12.length≤130048) then next (h6) (h7) (i64.wrap (h8+1)) (h9) ((ac (h6.getD h8.toNat 0) 8 (h10,h11,h12)).1) ((ac (h6.getD h8.toNat 0) 8 (h10,h11,h12)).2.1) ((ac (h6.getD h8.toNat 0) 8 (h10,h11,h12)).2.2) (130048) else none else none else out (.ret ((),((),((h9,(h10,(h11,()))),((h12,(h13,())),())))))
def K4 (n:Nat)(h6:LI)(h7 h8 h9 h10:Int)(h11:Bool)(h12:LI)(h13:Int):Option (aH mN.xs):=il tt ahN dr Vp 2 Tryz.f135 (db Tryz.f135 0) n (mN.st.mk' ((h6,(h7,(h8,()))),((h9,(h10,(h11,()))),((h12,(h13,())),())))) (ci mN.xs)
theorem agW (n:Nat)(h6:LI)(h7 h8 h9 h10:Int)(h11:Bool)(h12:LI)(h13:Int):K4 (n+1) h6 h7 h8 h9 h10 h11 h12 h13=JK h6 h7 h8 h9 h10 h11 h12 h13 (K4 n) some:=by kernel_rfl
theorem afx {xs:LI}(v:Int)(hl:xs.length≤maxLen):∀(k i:Nat) (s:bf),xs.length<i+k→i≤xs.length→s.2.2.length≤130048→
  K4 k xs (xs.length:Int) i v s.1 s.2.1 s.2.2 130048=some (.ret ((),((),KK v ((xs.drop i).foldl (fun s x=>FA x s) s)))):=by
 intro k
 induction k with
 |zero=>intro i s h;omega
 |succ k ih=>
  intro i s h1 h2 h3
  rw[agW]
  unfold JK
  by_cases hi:i<xs.length
  ·refine bT (decide_eq_true (show (i:Int)<(xs.length:Int) by omega)) ?_
   refine bT (by simpa using hi) ?_
   simp only[zG,aJ hi,cq hi hl]
   have g:(decide ((130048:Int)=130048)&&decide (s.2.2.length≤130048))=true:=by
    simpa using h3
   refine (aa g _ _).trans ?_
   rw[zE hi]
   exact ih (i+1) (FA xs[i] s) (by omega) (by omega) (PZ _ h3)
  ·refine bF (by simp;omega) ?_
   rw[zI (by omega)]
   rfl
def T1 (a0:LI)(a1 a2:Int)(a3:Bool)(a4:LI)(a5:Int):Option Ey.Res:=bif decide (16<(↑a0.length:Int)) then bif decide (a5=130048)&&decide (a4.length≤130048) then oR ((),((),a1,(bU 9 (a2,a3,a4)).1,(bU 9 (a2,a3,a4)).2.1,()),((bU 9 (a2,a3,a4)).2.2,130048,()),()) else none else bif decide (a5=130048)&&decide (a4.length≤130048) then (C2 ((a0,((↑a0.length:Int),(0,()))),((a1,((ac (i32.wrap (↑a0.length:Int)) 4 (a2,a3,a4)).1,((ac (i32.wrap (↑a0.length:Int)) 4 (a2,a3,a4)).2.1,()))),(((ac (i32.wrap (↑a0.length:Int)) 4 (a2,a3,a4)).2.2,(130048,())),())))).run fun y=>match y with | .ret ((),((),(x27,x28,x29,()),(x30,x31,()),()))=>(oR ((),((),x27,x28,x29,()),(x30,x31,()),())) else none
theorem ajp (a0:LI)(a1 a2:Int)(a3:Bool)(a4:LI)(a5:Int):Io.run tt ahN dr Vp Ey Tryz.f135 (((),a0,(),()),((),a1,a2,a3,()),(a4,a5,()),())=T1 a0 a1 a2 a3 a4 a5:=by kernel_rfl
theorem UY:HcsOk prog ahB:=.cons fD (.cons eb (.cons z6 .nil))
theorem akj:HcOk prog 135 (ae Ey ail):=by
 refine cg UY (lp:=Vp) (fn:=Tryz.f135) Ey (.step (h0:=aS mN C2) (by kernel_rfl) (jh UY (lp:=Vp) (fn:=Tryz.f135) (.done (by kernel_rfl)) mN C2 ?_) (.done (by kernel_rfl))) ail ?_
 ·rintro ⟨⟨(xs:LI),(n:Int),(i:Int),⟨⟩⟩,⟨⟨(v:Int),(e:Int),(f:Bool),⟨⟩⟩,⟨(b:LI),(m:Int),⟨⟩⟩,⟨⟩⟩⟩ y hw hy
  obtain ⟨hg,hy⟩:=Tr.guard hy
  simp only[zA,zB] at hg
  obtain ⟨rfl,rfl,rfl,h4⟩:=hg
  have h4:b.length≤130048:=h4
  have hl:xs.length≤maxLen:=hw.1.1.1
  refine ⟨xs.length+1,(afx v hl (xs.length+1) 0 (e,(f,b)) (by omega) (by omega) h4).trans ?_⟩
  rw[← hy];rfl
 ·rintro ⟨⟨⟨⟩,(xs:LI),⟨⟩,⟨⟩⟩,⟨⟨⟩,(v:Int),(e:Int),(f:Bool),⟨⟩⟩,⟨(b:LI),(m:Int),⟨⟩⟩,⟨⟩⟩ out hw ho
  obtain ⟨hg,ho⟩:=Tr.guard ho
  obtain ⟨rfl,hb⟩:=bK (v:=v) (e:=e) (f:=f) hg
  cases ho
  refine (ajp xs v e f b 130048).trans ?_
  unfold T1
  have g:(decide ((130048:Int)=130048)&&decide (b.length≤130048))=true:=by simpa using hb
  show _=oR ((),cV v (bE (FA) xs (e,f,b)))
  unfold bE
  by_cases h:16<(xs.length:Int)
  ·rw[if_pos h]
   refine bT (decide_eq_true h) ?_
   exact aa g _ _
  ·rw[if_neg h]
   refine bF (decide_eq_false h) ?_
   refine (aa g _ _).trans ?_
   have hw32:i32.wrap (xs.length:Int)=xs.length:=dY (by simp[eD,IntKind.min,IntKind.max,IntKind.signed,IntKind.bits];omega)
   rw[hw32]
   have c1:(decide ((0:Int)=0)&&(decide ((xs.length:Int)=(xs.length:Int))&&(decide ((130048:Int)=130048)&&decide ((ac xs.length 4 (e,f,b)).2.2.length≤130048))))=true:=by
    simpa using aA (s:=(e,f,b)) _ 4 hb
   have e1:C2 ((xs,((xs.length:Int),(0,()))),((v,((ac xs.length 4 (e,f,b)).1,((ac xs.length 4 (e,f,b)).2.1,()))),(((ac xs.length 4 (e,f,b)).2.2,(130048,())),())))=
     .ite true (.ret (.ret ((),((),KK v (xs.foldl (fun s x=>FA x s) (ac xs.length 4 (e,f,b))))))) .no:=congrArg (fun c=>Tr.ite c _ _) c1
   rw[e1]
   rfl
abbrev Ev:Io:=⟨[.ptr 0 0,.fnc 156 true [0]],pE,[],[.dat (.sl 2 (.int .i64)) false false],none⟩
def aij (d:Ev.In):Tr Ev.Res:=.ite (al d.2.2.1.1 d.2.2.1.2.1) (.ret (.ret (((bH d.2.2.1.1 (cK d.2)).1,()),dM d.2.1.2.1 d.2.2.1.1 (bH d.2.2.1.1 (cK d.2)).2))) .no
abbrev ahy:List (Nat×Hc):=[(143,ae cB ew),(156,ae lY AE)]
def ahM:Hd:=bM ahy
abbrev kr:Lo:=⟨⟨[.one (.ptr 0 0),.one (.fnp 156 true [0]),.any,.any,.any,.one hJ,.one (.onl 2 (Ty.int i64) 17),.one hJ,.any,.any,.any,.any,.any,.any,.any,.any,.any,.any,.any,.any,.any,.any,.any,.any,.any,.any,.any,.any,.any,.any,.any,.any,.any,.any,.any,.any,.any,.any,.any,.any,.any,.any,.any,.any,.any,.any],[some [.ptr 1 0,hI,hI],some [.hol (.sl 5 (Ty.int u8)),hI]]⟩,[(.exit 1,⟨(dq (ce (.one (.onl 2 (Ty.int i64) 17)::.any::am (am (dq (ce [])))))),[some [.ptr 1 0,hI,hI],some [.hol (.sl 5 (Ty.int u8)),hI]]⟩)]⟩
def jA (d:kr.st.den):Tr (aH kr.xs):=
 .ite (decide (d.1.2.2.1=0)&&(decide (d.1.2.1.length=0)&&(al d.2.2.1.1 d.2.2.1.2.1&&(decide (d.1.1≤(16:Int)) || decide (d.2.1.2.1≠0))))) (.ret (.ret ((),(((fZ (ab .i64 8 d.2.2.1.1) d.1.1.toNat (d.2.1.2.1,d.2.2.1.2.1)).1,()),KD d.2.1.1 d.2.2.1.1 (fZ (ab .i64 8 d.2.2.1.1) d.1.1.toNat (d.2.1.2.1,d.2.2.1.2.1)).2)))) .no
def Vi:Lp:=bB [(10,aS kr jA)]
def F9 {R:Type}(h4:Int)(h5:LI)(h6 h7 h8:Int)(h9:LI)(h10:Int)(next:Int→LI→Int→Int→Int→LI→Int→Option R)(out:aH kr.xs→Option R):Option R:=bif decide (h6<h4) then bif h8 == 0 then bif al h9 h10 then bif decide (h5.length+1≤4294967296) then next (h4) (h5++[(ab i64 8 h9 (h8,h10)).1]) (i32.wrap (h6+1)) (h7) ((ab i64 8 h9 (h8,h10)).2.1) (h9) ((ab i64 8 h9 (h8,h10)).2.2) else none else none else out (.ret ((),((h5,()),((h7,(h8,())),((h9,(h10,())),()))))) else out (.ret ((),((h5,()),((h7,(h8,())),((h9,(h10,())),())))))
def ED (n:Nat)(h4:Int)(h5:LI)(h6 h7 h8:Int)(h9:LI)(h10:Int):Option (aH kr.xs):=il tt ahM dr Vi 2 Tryz.f179 (db Tryz.f179 0) n (kr.st.mk' ((h4,(h5,(h6,()))),((h7,(h8,())),((h9,(h10,())),())))) (ci kr.xs)
theorem adG (n:Nat)(h4:Int)(h5:LI)(h6 h7 h8:Int)(h9:LI)(h10:Int):ED (n+1) h4 h5 h6 h7 h8 h9 h10=F9 h4 h5 h6 h7 h8 h9 h10 (ED n) some:=by kernel_rfl
theorem afw (n v:Int)(b:LI):∀(k j:Nat) (xs:LI) (s:aD),n.toNat<j+k→j≤n.toNat→xs.length=j→al b s.2=true→(s.1=0→n≤16)→
  ED k n xs j v s.1 b s.2=some (.ret ((),((xs++(fZ (ab .i64 8 b) (n.toNat - j) s).1,()),KD v b (fZ (ab .i64 8 b) (n.toNat - j) s).2))):=by
 intro k
 induction k with
 |zero=>intro j xs s h;omega
 |succ k ih=>
  intro j xs s h1 h2 h3 h4 h5
  rw[adG]
  unfold F9
  by_cases hj:(j:Int)<n
  ·refine bT (by simpa using hj) ?_
   obtain ⟨m,hm⟩:∃m,n.toNat - j=m+1:=⟨n.toNat - j - 1,by omega⟩
   rw[hm]
   by_cases he:s.1=0
   ·refine bT (by simpa using he) ?_
    have hn:=h5 he
    refine (aa h4 _ _).trans ?_
    refine bT (decide_eq_true (show xs.length+1≤4294967296 by omega)) ?_
    have hw:i32.wrap ((j:Int)+1)=((j+1:Nat):Int):=dY (by simp[eD,IntKind.min,IntKind.max,IntKind.signed,IntKind.bits];omega)
    rw[hw]
    refine (ih (j+1) (xs++[(ab .i64 8 b s).1]) (ab .i64 8 b s).2 (by omega) (by omega) (by simp[h3]) (aO .i64 8 h4) (fun _=>hn)).trans ?_
    rw[show n.toNat - (j+1)=m by omega,fZ,if_pos he]
    simp
   ·refine bF (by simpa using he) ?_
    rw[fZ,if_neg he]
    simp
  ·refine bF (by simpa using hj) ?_
   rw[show n.toNat - j=0 by omega,fZ]
   simp
def TZ (a0 a1:Int)(a2:LI)(a3:Int):Option Ev.Res:=bif al a2 a3 then bif (ab i32 4 a2 (a1,a3)).2.1 != 0 then (jA (((ab i32 4 a2 (a1,a3)).1,([],(0,()))),((a0,((ab i32 4 a2 (a1,a3)).2.1,())),((a2,((ab i32 4 a2 (a1,a3)).2.2,())),())))).run fun y=>match y with | .ret ((),((x28,()),(x29,x30,()),(x31,x32,()),()))=>(oR ((x28,()),((),x29,x30,()),(x31,x32,()),())) else bif decide ((ab i32 4 a2 (a1,a3)).1<0) then (jA (((ab i32 4 a2 (a1,a3)).1,([],(0,()))),((a0,(5,())),((a2,((ab i32 4 a2 (a1,a3)).2.2,())),())))).run fun y=>match y with | .ret ((),((x40,()),(x41,x42,()),(x43,x44,()),()))=>(oR ((x40,()),((),x41,x42,()),(x43,x44,()),())) else bif decide (16<(ab i32 4 a2 (a1,a3)).1) then (jA (((ab i32 4 a2 (a1,a3)).1,([],(0,()))),((a0,(9,())),((a2,((ab i32 4 a2 (a1,a3)).2.2,())),())))).run fun y=>match y with | .ret ((),((x52,()),(x53,x54,()),(x55,x56,()),()))=>(oR ((x52,()),((),x53,x54,()),(x55,x56,()),())) else (jA (((ab i32 4 a2 (a1,a3)).1,([],(0,()))),((a0,((ab i32 4 a2 (a1,a3)).2.1,())),((a2,((ab i32 4 a2 (a1,a3)).2.2,())),())))).run fun y=>match y with | .ret ((),((x64,()),(x65,x66,()),(x67,x68,()),()))=>(oR ((x64,()),((),x65,x66,()),(x67,x68,()),())) else none
theorem ajm (a0 a1:Int)(a2:LI)(a3:Int):Io.run tt ahM dr Vi Ev Tryz.f179 (((),(),()),((),a0,a1,()),(a2,a3,()),())=TZ a0 a1 a2 a3:=by kernel_rfl
theorem UX:HcsOk prog ahy:=.cons cY (.cons zZ .nil)
theorem akh:HcOk prog 179 (ae Ev aij):=by
 refine cg UX (lp:=Vi) (fn:=Tryz.f179) Ev (.step (h0:=aS kr jA) (by kernel_rfl) (jh UX (lp:=Vi) (fn:=Tryz.f179) (.done (by kernel_rfl)) kr jA ?_) (.done (by kernel_rfl))) aij ?_
 ·rintro ⟨⟨(n:Int),(xs:LI),(i:Int),⟨⟩⟩,⟨⟨(v:Int),(e:Int),⟨⟩⟩,⟨(b:LI),(p:Int),⟨⟩⟩,⟨⟩⟩⟩ y hw hy
  obtain ⟨hg,hy⟩:=Tr.guard hy
  simp only[zA,zB,Bool.or_eq_true] at hg
  obtain ⟨h1,h2,h3,h4⟩:=hg
  have h1:i=0:=h1
  have h2:xs=[]:=zF h2
  have h3:al b p=true:=h3
  have h4:n≤16∨e≠0:=h4
  subst h1
  subst h2
  refine ⟨n.toNat+1,(afw n v b (n.toNat+1) 0 [] (e,p) (by omega) (by omega) rfl h3 (fun he=>h4.resolve_right (fun h=>h he))).trans ?_⟩
  rw[← hy];rfl
 ·rintro ⟨⟨⟨⟩,⟨⟩,⟨⟩⟩,⟨⟨⟩,(v:Int),(e:Int),⟨⟩⟩,⟨(b:LI),(p:Int),⟨⟩⟩,⟨⟩⟩ out hw ho
  obtain ⟨hg,ho⟩:=Tr.guard ho
  have hg:al b p=true:=hg
  cases ho
  refine (ajm v e b p).trans ?_
  unfold TZ
  show _=oR (((bH b (e,p)).1,()),dM v b (bH b (e,p)).2)
  unfold bH iC
  refine (aa hg _ _).trans ?_
  have hr:al b (ab .i32 4 b (e,p)).2.2=true:=aO .i32 4 (s:=(e,p)) hg
  generalize ab .i32 4 b (e,p)=r at hr ⊢
  obtain ⟨n,e1,q⟩:=r
  have hr:al b q=true:=hr
  have key:∀e':Int,(e'=0→n≤16)→jA ((n,([],(0,()))),((v,(e',())),((b,(q,())),())))=.ite true (.ret (.ret ((),(((fZ (ab .i64 8 b) n.toNat (e',q)).1,()),KD v b (fZ (ab .i64 8 b) n.toNat (e',q)).2)))) .no:=by
   intro e' he
   refine congrArg (fun c=>Tr.ite c _ _) ?_
   show (decide ((0:Int)=0)&&(decide (([]:LI).length=0)&&(al b q&&(decide (n≤16) || decide (e'≠0)))))=true
   rw[hr]
   by_cases h:e'=0
   ·simp[he h]
   ·simp[h]
  unfold sS
  show (bif e1 != 0 then _ else _)=_
  by_cases h1:e1=0
  ·refine bF (by simpa using h1) ?_
   show (bif decide (n<0) then _ else _)=_
   rw[if_pos h1]
   by_cases h2:n<0
   ·refine bT (by simpa using h2) ?_
    show (jA ((n,([],(0,()))),((v,(5,())),((b,(q,())),())))).run _=_
    rw[key 5 (by omega),if_pos h2]
    rfl
   ·refine bF (by simpa using h2) ?_
    show (bif decide (16<n) then _ else _)=_
    rw[if_neg h2]
    by_cases h3:16<n
    ·refine bT (by simpa using h3) ?_
     show (jA ((n,([],(0,()))),((v,(9,())),((b,(q,())),())))).run _=_
     rw[key 9 (by omega),if_pos h3]
     rfl
    ·refine bF (by simpa using h3) ?_
     show (jA ((n,([],(0,()))),((v,(e1,())),((b,(q,())),())))).run _=_
     rw[key e1 (by omega),if_neg h3]
     rfl
  ·refine bT (by simpa using h1) ?_
   show (jA ((n,([],(0,()))),((v,(e1,())),((b,(q,())),())))).run _=_
   rw[key e1 (fun h=>absurd h h1),if_neg h1]
   rfl
abbrev aR:Ty:=.prod (.int .i32) (.prod (.int .i16) (.prod (.sl 2 (.int .i64)) (.prod (.int .i64) (.prod (.int .i64) (.prod (.int .i32) .unit)))))
abbrev ag:Ty:=.prod .str (.prod (.sl 233 aR) .unit)
abbrev bY:Ty:=.prod (.int .i32) (.prod (.sl 230 ag) .unit)
def kG (v:Int)(p:aR.den)(s:bf):bf:=cM v 3 3 p.2.2.2.2.2.1 4 (cM v 1 3 p.2.2.2.2.1 8 (cM v 1 3 p.2.2.2.1 8 (lA v 0 0 p.2.2.1 (ac p.2.1 2 (ac p.1 4 (s))))))
theorem JH {s:bf}(v:Int)(p:aR.den)(h:s.2.2.length≤130048):(kG v p s).2.2.length≤130048:=
 iz _ _ _ _ _ (iz _ _ _ _ _ (iz _ _ _ _ _ (S2 _ _ _ _ (aA _ _ (aA _ _ (h))))))
abbrev nr:Io:=⟨[.dat aR true false,.ptr 0 0],pG,[],[],none⟩
def J4 (d:nr.In):Tr nr.Res:=.ite (gi d.2.2) (.ret (.ret ((),fI d.2.2.1.2.1 (kG d.2.2.1.2.1 d.1.1 (gj d.2.2))))) .no
abbrev Nm:List (Nat×Hc):=[(97,ae l7 AL),(98,ae cX gg),(111,ae l8 AM),(135,ae Ey ail),(95,ae iJ pr)]
def aaX:Hd:=bM Nm
def Oz:Lp:=bB []
def DC (a0 a1:Int)(a2:LI)(a3 a4 a5 a6 a7:Int)(a8:Bool)(a9:LI)(a10:Int):Option nr.Res:=bif decide (a10=130048)&&decide (a9.length≤130048) then bif decide (130048=130048)&&decide ((ac a0 4 (a7,a8,a9)).2.2.length≤130048) then bif decide (130048=130048)&&decide ((ac a1 2 (ac a0 4 (a7,a8,a9))).2.2.length≤130048) then bif decide (0≤a6)&&decide (a6≤0) then bif decide (130048=130048)&&decide ((ac a1 2 (ac a0 4 (a7,a8,a9))).2.2.length≤130048) then bif decide (130048=130048)&&decide ((iw a2 (ac a1 2 (ac a0 4 (a7,a8,a9)))).2.2.length≤130048) then bif decide (1≤a6)&&decide (a6≤3) then bif decide (130048=130048)&&decide ((iw a2 (ac a1 2 (ac a0 4 (a7,a8,a9)))).2.2.length≤130048) then bif decide (130048=130048)&&decide ((ac a3 8 (iw a2 (ac a1 2 (ac a0 4 (a7,a8,a9))))).2.2.length≤130048) then bif decide (130048=130048)&&decide ((ac a4 8 (ac a3 8 (iw a2 (ac a1 2 (ac a0 4 (a7,a8,a9)))))).2.2.length≤130048) then bif decide (3≤a6)&&decide (a6≤3) then bif decide (130048=130048)&&decide ((ac a4 8 (ac a3 8 (iw a2 (ac a1 2 (ac a0 4 (a7,a8,a9)))))).2.2.length≤130048) then oR ((),((),()),((),a6,(ac a5 4 (ac a4 8 (ac a3 8 (iw a2 (ac a1 2 (ac a0 4 (a7,a8,a9))))))).1,(ac a5 4 (ac a4 8 (ac a3 8 (iw a2 (ac a1 2 (ac a0 4 (a7,a8,a9))))))).2.1,()),((ac a5 4 (ac a4 8 (ac a3 8 (iw a2 (ac a1 2 (ac a0 4 (a7,a8,a9))))))).2.2,130048,()),()) else none else oR ((),((),()),((),a6,(ac a4 8 (ac a3 8 (iw a2 (ac a1 2 (ac a0 4 (a7,a8,a9)))))).1,(ac a4 8 (ac a3 8 (iw a2 (ac a1 2 (ac a0 4 (a7,a8,a9)))))).2.1,()),((ac a4 8 (ac a3 8 (iw a2 (ac a1 2 (ac a0 4 (a7,a8,a9)))))).2.2,130048,()),()) else none else none else none else bif decide (130048=130048)&&decide ((iw a2 (ac a1 2 (ac a0 4 (a7,a8,a9)))).2.2.length≤130048) then bif decide (3≤a6)&&decide (a6≤3) then bif decide (130048=130048)&&decide ((iw a2 (ac a1 2 (ac a0 4 (a7,a8,a9)))).2.2.length≤130048) then oR ((),((),()),((),a6,(ac a5 4 (iw a2 (ac a1 2 (ac a0 4 (a7,a8,a9))))).1,(ac a5 4 (iw a2 (ac a1 2 (ac a0 4 (a7,a8,a9))))).2.1,()),((ac a5 4 (iw a2 (ac a1 2 (ac a0 4 (a7,a8,a9))))).2.2,130048,()),()) else none else oR ((),((),()),((),a6,(iw a2 (ac a1 2 (ac a0 4 (a7,a8,a9)))).1,(iw a2 (ac a1 2 (ac a0 4 (a7,a8,a9)))).2.1,()),((iw a2 (ac a1 2 (ac a0 4 (a7,a8,a9)))).2.2,130048,()),()) else none else none else none else bif decide (130048=130048)&&decide ((ac a1 2 (ac a0 4 (a7,a8,a9))).2.2.length≤130048) then bif decide (1≤a6)&&decide (a6≤3) then bif decide (130048=130048)&&decide ((ac a1 2 (ac a0 4 (a7,a8,a9))).2.2.length≤130048) then bif decide (130048=130048)&&decide ((ac a3 8 (ac a1 2 (ac a0 4 (a7,a8,a9)))).2.2.length≤130048) then bif decide (130048=130048)&&decide ((ac a4 8 (ac a3 8 (ac a1 2 (ac a0 4 (a7,a8,a9))))).2.2.length≤130048) then bif decide (3≤a6)&&decide (a6≤3) then bif decide (130048=130048)&&decide ((ac a4 8 (ac a3 8 (ac a1 2 (ac a0 4 (a7,a8,a9))))).2.2.length≤130048) then oR ((),((),()),((),a6,(ac a5 4 (ac a4 8 (ac a3 8 (ac a1 2 (ac a0 4 (a7,a8,a9)))))).1,(ac a5 4 (ac a4 8 (ac a3 8 (ac a1 2 (ac a0 4 (a7,a8,a9)))))).2.1,()),((ac a5 4 (ac a4 8 (ac a3 8 (ac a1 2 (ac a0 4 (a7,a8,a9)))))).2.2,130048,()),()) else none else oR ((),((),()),((),a6,(ac a4 8 (ac a3 8 (ac a1 2 (ac a0 4 (a7,a8,a9))))).1,(ac a4 8 (ac a3 8 (ac a1 2 (ac a0 4 (a7,a8,a9))))).2.1,()),((ac a4 8 (ac a3 8 (ac a1 2 (ac a0 4 (a7,a8,a9))))).2.2,130048,()),()) else none else none else none else bif decide (130048=130048)&&decide ((ac a1 2 (ac a0 4 (a7,a8,a9))).2.2.length≤130048) then bif decide (3≤a6)&&decide (a6≤3) then bif decide (130048=130048)&&decide ((ac a1 2 (ac a0 4 (a7,a8,a9))).2.2.length≤130048) then oR ((),((),()),((),a6,(ac a5 4 (ac a1 2 (ac a0 4 (a7,a8,a9)))).1,(ac a5 4 (ac a1 2 (ac a0 4 (a7,a8,a9)))).2.1,()),((ac a5 4 (ac a1 2 (ac a0 4 (a7,a8,a9)))).2.2,130048,()),()) else none else oR ((),((),()),((),a6,(ac a1 2 (ac a0 4 (a7,a8,a9))).1,(ac a1 2 (ac a0 4 (a7,a8,a9))).2.1,()),((ac a1 2 (ac a0 4 (a7,a8,a9))).2.2,130048,()),()) else none else none else none else none else none
theorem X2 (a0 a1:Int)(a2:LI)(a3 a4 a5 a6 a7:Int)(a8:Bool)(a9:LI)(a10:Int):Io.run tt aaX dr Oz nr Tryz.f134 (((a0,a1,a2,a3,a4,a5,()),(),()),((),()),((),a6,a7,a8,()),(a9,a10,()),())=DC a0 a1 a2 a3 a4 a5 a6 a7 a8 a9 a10:=by kernel_rfl
theorem ach:HcOk prog 134 (ae nr J4):=by
 refine cg (cs:=Nm) (.cons z5 (.cons eb (.cons z6 (.cons akj (.cons nH .nil))))) (lp:=Oz) (fn:=Tryz.f134) nr (.done (by kernel_rfl)) J4 ?_
 rintro ⟨⟨⟨(ix:Int),(cd:Int),(of:LI),(ti:Int),(fo:Int),(ep:Int),⟨⟩⟩,⟨⟩,⟨⟩⟩,⟨⟨⟩,⟨⟩⟩,⟨⟨⟩,(v:Int),(e:Int),(f:Bool),⟨⟩⟩,⟨(b:LI),(m:Int),⟨⟩⟩,⟨⟩⟩ out hw ho
 obtain ⟨hg,ho⟩:=Tr.guard ho
 obtain ⟨rfl,hb⟩:=bK (v:=v) (e:=e) (f:=f) hg
 cases ho
 refine (X2 ix cd of ti fo ep v e f b 130048).trans ?_
 unfold DC
 have hg:∀s:bf,s.2.2.length≤130048→(decide ((130048:Int)=130048)&&decide (s.2.2.length≤130048))=true:=fun s h=>by simpa using h
 have hb:(e,(f,b)).2.2.length≤130048:=hb
 show _=oR ((),fI v (kG v (ix,(cd,(of,(ti,(fo,(ep,())))))) (e,f,b)))
 refine (aa (hg _ hb) _ _).trans ?_
 have l0_1:=aA ix 4 hb
 refine (aa (hg _ l0_1) _ _).trans ?_
 have l1_1:=aA cd 2 l0_1
 refine (aa (hg _ l1_1) _ _).trans ?_
 by_cases h2_1:0≤v∧v≤0
 ·refine bT (by simpa using h2_1) ?_
  refine (aa (hg _ l1_1) _ _).trans ?_
  have l2_1:=P1 of l1_1
  refine (aa (hg _ l2_1) _ _).trans ?_
  by_cases h3_2:1≤v∧v≤3
  ·refine bT (by simpa using h3_2) ?_
   refine (aa (hg _ l2_1) _ _).trans ?_
   have l3_2:=aA ti 8 l2_1
   refine (aa (hg _ l3_2) _ _).trans ?_
   have l4_3:=aA fo 8 l3_2
   refine (aa (hg _ l4_3) _ _).trans ?_
   by_cases h5_3:3≤v∧v≤3
   ·refine bT (by simpa using h5_3) ?_
    refine (aa (hg _ l4_3) _ _).trans ?_
    have l5_3:=aA ep 4 l4_3
    simp only[kG,nT h2_1,bL h3_2,bL h3_2,bL h5_3]
   ·refine (af (Bool.eq_false_iff.2 fun h'=>h5_3 (by simpa using h')) _ _).trans ?_
    simp only[kG,nT h2_1,bL h3_2,bL h3_2,bk h5_3]
  ·refine (af (Bool.eq_false_iff.2 fun h'=>h3_2 (by simpa using h')) _ _).trans ?_
   refine (aa (hg _ l2_1) _ _).trans ?_
   by_cases h5_3:3≤v∧v≤3
   ·refine bT (by simpa using h5_3) ?_
    refine (aa (hg _ l2_1) _ _).trans ?_
    have l5_3:=aA ep 4 l2_1
    simp only[kG,nT h2_1,bk h3_2,bk h3_2,bL h5_3]
   ·refine (af (Bool.eq_false_iff.2 fun h'=>h5_3 (by simpa using h')) _ _).trans ?_
    simp only[kG,nT h2_1,bk h3_2,bk h3_2,bk h5_3]
 ·refine (af (Bool.eq_false_iff.2 fun h'=>h2_1 (by simpa using h')) _ _).trans ?_
  refine (aa (hg _ l1_1) _ _).trans ?_
  by_cases h3_2:1≤v∧v≤3
  ·refine bT (by simpa using h3_2) ?_
   refine (aa (hg _ l1_1) _ _).trans ?_
   have l3_2:=aA ti 8 l1_1
   refine (aa (hg _ l3_2) _ _).trans ?_
   have l4_3:=aA fo 8 l3_2
   refine (aa (hg _ l4_3) _ _).trans ?_
   by_cases h5_3:3≤v∧v≤3
   ·refine bT (by simpa using h5_3) ?_
    refine (aa (hg _ l4_3) _ _).trans ?_
    have l5_3:=aA ep 4 l4_3
    simp only[kG,lO h2_1,bL h3_2,bL h3_2,bL h5_3]
   ·refine (af (Bool.eq_false_iff.2 fun h'=>h5_3 (by simpa using h')) _ _).trans ?_
    simp only[kG,lO h2_1,bL h3_2,bL h3_2,bk h5_3]
  ·refine (af (Bool.eq_false_iff.2 fun h'=>h3_2 (by simpa using h')) _ _).trans ?_
   refine (aa (hg _ l1_1) _ _).trans ?_
   by_cases h5_3:3≤v∧v≤3
   ·refine bT (by simpa using h5_3) ?_
    refine (aa (hg _ l1_1) _ _).trans ?_
    have l5_3:=aA ep 4 l1_1
    simp only[kG,lO h2_1,bk h3_2,bk h3_2,bL h5_3]
   ·refine (af (Bool.eq_false_iff.2 fun h'=>h5_3 (by simpa using h')) _ _).trans ?_
    simp only[kG,lO h2_1,bk h3_2,bk h3_2,bk h5_3]
def uJ (v:Int)(xs:List aR.den)(s:bf):bf:=bE (kG v) xs s
abbrev tS:Io:=⟨[.ptr 0 0,.dat (.sl 233 aR) false false,.fnc 134 false [2]],mh,[],[],none⟩
def Mh (d:tS.In):Tr tS.Res:=.ite (kg d.2) (.ret (.ret ((),gl d.2.1.2.1 (uJ d.2.1.2.1 d.1.2.1 (kh d.2))))) .no
abbrev Wu:List (Nat×Hc):=[(194,ae cT gq),(98,ae cX gg),(134,ae nr J4)]
theorem Xr:HcOk prog 133 (ae tS Mh):=
 oO (one:=kG) (sps:=uJ) (fun _ _ _=>rfl) (fun v _ _ h3=>JH v _ h3) (cs:=Wu) (.cons fD (.cons eb (.cons ach .nil))) (fn:=Tryz.f133) (by kernel_rfl) (by kernel_rfl) (by kernel_rfl) (by kernel_rfl) (by kernel_rfl) (by kernel_rfl) (by intros;kernel_rfl) (by intros;kernel_rfl)
def F6 (v:Int)(t:ag.den)(s:bf):bf:=uJ v t.2.1 (bJ t.1 s)
abbrev kW:Io:=⟨[.dat ag true false,.ptr 0 0],pG,[],[],none⟩
def C7 (d:kW.In):Tr kW.Res:=.ite (gi d.2.2) (.ret (.ret ((),fI d.2.2.1.2.1 (F6 d.2.2.1.2.1 d.1.1 (gj d.2.2))))) .no
abbrev H3:List (Nat×Hc):=[(101,ae kR wG),(133,ae tS Mh)]
def WN:Hd:=bM H3
def IF:Lp:=bB []
def A6 (a0:LI)(a1:List aR.den)(a2 a3:Int)(a4:Bool)(a5:LI)(a6:Int):Option kW.Res:=bif decide (a6=130048)&&decide (a5.length≤130048) then bif decide (130048=130048)&&decide ((bJ a0 (a3,a4,a5)).2.2.length≤130048) then oR ((),((),()),((),a2,(uJ a2 a1 (bJ a0 (a3,a4,a5))).1,(uJ a2 a1 (bJ a0 (a3,a4,a5))).2.1,()),((uJ a2 a1 (bJ a0 (a3,a4,a5))).2.2,130048,()),()) else none else none
theorem Sm (a0:LI)(a1:List aR.den)(a2 a3:Int)(a4:Bool)(a5:LI)(a6:Int):Io.run tt WN dr IF kW Tryz.f132 (((a0,a1,()),(),()),((),()),((),a2,a3,a4,()),(a5,a6,()),())=A6 a0 a1 a2 a3 a4 a5 a6:=by kernel_rfl
theorem Xs:HcOk prog 132 (ae kW C7):=by
 refine cg (cs:=H3) (.cons wd (.cons Xr .nil)) (lp:=IF) (fn:=Tryz.f132) kW (.done (by kernel_rfl)) C7 ?_
 rintro ⟨⟨⟨(t:LI),(ps:List aR.den),⟨⟩⟩,⟨⟩,⟨⟩⟩,⟨⟨⟩,⟨⟩⟩,⟨⟨⟩,(v:Int),(e:Int),(f:Bool),⟨⟩⟩,⟨(b:LI),(m:Int),⟨⟩⟩,⟨⟩⟩ out hw ho
 obtain ⟨hg,ho⟩:=Tr.guard ho
 obtain ⟨rfl,hb⟩:=bK (v:=v) (e:=e) (f:=f) hg
 cases ho
 refine (Sm t ps v e f b 130048).trans ?_
 unfold A6
 refine bT (by simpa using hb) ?_
 refine bT (by simpa using fc (s:=(e,f,b)) t hb) ?_
 rfl
theorem AA {s:bf}(v:Int)(t:ag.den)(h:s.2.2.length≤130048):(F6 v t s).2.2.length≤130048:=cn (fun x s=>JH v x) _ (fc _ h)
def mT (v:Int)(xs:List ag.den)(s:bf):bf:=bE (F6 v) xs s
abbrev qA:Io:=⟨[.ptr 0 0,.dat (.sl 230 ag) false false,.fnc 132 false [2]],mh,[],[],none⟩
def GU (d:qA.In):Tr qA.Res:=.ite (kg d.2) (.ret (.ret ((),gl d.2.1.2.1 (mT d.2.1.2.1 d.1.2.1 (kh d.2))))) .no
abbrev QZ:List (Nat×Hc):=[(194,ae cT gq),(98,ae cX gg),(132,ae kW C7)]
theorem RO:HcOk prog 131 (ae qA GU):=
 oO (one:=F6) (sps:=mT) (fun _ _ _=>rfl) (fun v _ _ h3=>AA v _ h3) (cs:=QZ) (.cons fD (.cons eb (.cons Xs .nil))) (fn:=Tryz.f131) (by kernel_rfl) (by kernel_rfl) (by kernel_rfl) (by kernel_rfl) (by kernel_rfl) (by kernel_rfl) (by intros;kernel_rfl) (by intros;kernel_rfl)
def ls (v:Int)(p:aR.den)(s:bf):bf:=aq v (p.2.2.2.2.2.1 == 0) 3 3 (aq v ((p.2.2.2.1 == 0)&&(p.2.2.2.2.1 == 0)) 1 3 (aq v ((p.2.2.1.length:Int) == 0) 0 0 s))
abbrev kV:Io:=⟨[.ptr 0 0,.dat aR true false],uM,[],[],none⟩
def C6 (d:kV.In):Tr kV.Res:=.ite (gi d.2) (.ret (.ret ((),cV d.2.1.2.1 (ls d.2.1.2.1 d.1.2.1 (gj d.2))))) .no
abbrev H2:List (Nat×Hc):=[(94,ae gt mr)]
def WM:Hd:=bM H2
def IE:Lp:=bB []
def A5 (a0 a1:Int)(a2:LI)(a3 a4 a5 a6 a7:Int)(a8:Bool)(a9:LI)(a10:Int):Option kV.Res:=bif decide (a10=130048)&&decide (a9.length≤130048) then bif a3 == 0 then bif decide (130048=130048)&&decide ((aq a6 ((↑a2.length:Int) == 0) 0 0 (a7,a8,a9)).2.2.length≤130048) then bif decide (130048=130048)&&decide ((aq a6 (a4 == 0) 1 3 (aq a6 ((↑a2.length:Int) == 0) 0 0 (a7,a8,a9))).2.2.length≤130048) then oR ((),((),a6,(aq a6 (a5 == 0) 3 3 (aq a6 (a4 == 0) 1 3 (aq a6 ((↑a2.length:Int) == 0) 0 0 (a7,a8,a9)))).1,(aq a6 (a5 == 0) 3 3 (aq a6 (a4 == 0) 1 3 (aq a6 ((↑a2.length:Int) == 0) 0 0 (a7,a8,a9)))).2.1,()),((aq a6 (a5 == 0) 3 3 (aq a6 (a4 == 0) 1 3 (aq a6 ((↑a2.length:Int) == 0) 0 0 (a7,a8,a9)))).2.2,130048,()),()) else none else none else bif decide (130048=130048)&&decide ((aq a6 ((↑a2.length:Int) == 0) 0 0 (a7,a8,a9)).2.2.length≤130048) then bif decide (130048=130048)&&decide ((aq a6 false 1 3 (aq a6 ((↑a2.length:Int) == 0) 0 0 (a7,a8,a9))).2.2.length≤130048) then oR ((),((),a6,(aq a6 (a5 == 0) 3 3 (aq a6 false 1 3 (aq a6 ((↑a2.length:Int) == 0) 0 0 (a7,a8,a9)))).1,(aq a6 (a5 == 0) 3 3 (aq a6 false 1 3 (aq a6 ((↑a2.length:Int) == 0) 0 0 (a7,a8,a9)))).2.1,()),((aq a6 (a5 == 0) 3 3 (aq a6 false 1 3 (aq a6 ((↑a2.length:Int) == 0) 0 0 (a7,a8,a9)))).2.2,130048,()),()) else none else none else none
theorem Sl (a0 a1:Int)(a2:LI)(a3 a4 a5 a6 a7:Int)(a8:Bool)(a9:LI)(a10:Int):Io.run tt WM dr IE kV Tryz.f130 (((),(a0,a1,a2,a3,a4,a5,()),()),((),a6,a7,a8,()),(a9,a10,()),())=A5 a0 a1 a2 a3 a4 a5 a6 a7 a8 a9 a10:=by kernel_rfl
theorem Xq:HcOk prog 130 (ae kV C6):=by
 refine cg (cs:=H2) (.cons nI .nil) (lp:=IE) (fn:=Tryz.f130) kV (.done (by kernel_rfl)) C6 ?_
 rintro ⟨⟨⟨⟩,⟨(ix:Int),(cd:Int),(of:LI),(ti:Int),(fo:Int),(ep:Int),⟨⟩⟩,⟨⟩⟩,⟨⟨⟩,(v:Int),(e:Int),(f:Bool),⟨⟩⟩,⟨(b:LI),(m:Int),⟨⟩⟩,⟨⟩⟩ out hw ho
 obtain ⟨hg,ho⟩:=Tr.guard ho
 obtain ⟨rfl,hb⟩:=bK (v:=v) (e:=e) (f:=f) hg
 cases ho
 refine (Sl ix cd of ti fo ep v e f b 130048).trans ?_
 unfold A5
 have hg:∀s:bf,s.2.2.length≤130048→(decide ((130048:Int)=130048)&&decide (s.2.2.length≤130048))=true:=fun s h=>by simpa using h
 have hb:(e,(f,b)).2.2.length≤130048:=hb
 show _=oR ((),cV v (ls v (ix,(cd,(of,(ti,(fo,(ep,())))))) (e,f,b)))
 refine (aa (hg _ hb) _ _).trans ?_
 have q1:=br (s:=(e,f,b)) v ((of.length:Int) == 0) 0 0 hb
 by_cases ht:ti=0
 ·refine bT (by simpa using ht) ?_
  refine (aa (hg _ q1) _ _).trans ?_
  have q2:=br (s:=aq v ((of.length:Int) == 0) 0 0 (e,f,b)) v (fo == 0) 1 3 q1
  refine (aa (hg _ q2) _ _).trans ?_
  subst ht
  rfl
 ·have ht':(ti == 0)=false:=by simpa using ht
  refine (af ht' _ _).trans ?_
  refine (aa (hg _ q1) _ _).trans ?_
  have q2:=br (s:=aq v ((of.length:Int) == 0) 0 0 (e,f,b)) v false 1 3 q1
  refine (aa (hg _ q2) _ _).trans ?_
  unfold ls
  dsimp only
  rw[ht']
  rfl
def jo (v:Int)(ps:List aR.den)(s:bf):bf:=ps.foldl (fun s p=>ls v p s) s
def Ay (v:Int)(ts:List ag.den)(s:bf):bf:=ts.foldl (fun s t=>jo v t.2.1 s) s
def yp (v:Int)(m:bY.den):bf:=mT v m.2.1 (cM v 2 3 m.1 4 (Ay v m.2.1 (aq v (m.1 == 0) 2 3 (aV v,(false,([]:LI))))))
abbrev qz:Io:=⟨[dI,.dat bY true false],[],[],[dO,dI],none⟩
def Zn (d:qz.In):Tr qz.Res:=.ret (.ret ((bD (yp d.1.1 d.1.2.1),(bm (yp d.1.1 d.1.2.1),())),()))
abbrev Us:List (Nat×Hc):=[(93,ae l9 AN),(94,ae gt mr),(95,ae iJ pr),(98,ae cX gg),(130,ae kV C6),(131,ae qA GU),(105,ae jF rM)]
def KV:Hd:=bM Us
abbrev i5:Lo:=⟨⟨(.any::ce (.one (.ptr 3 0)::ce (.one (.ptr 6 0)::gE (dq (.one (.hol (.sl 230 ag))::.one hI::.one hI::dq (.one (.hol (.sl 233 aR))::.one hI::.one hI::.any::am (dq (ce [])))))))),[none,none,none,some [hJ,.hol (.sl 230 ag)],none,none,some [.ptr 12 0],none,none,none,none,none,some [.ptr 13 0,hI,hI,hL],some [.onl 5 (Ty.int u8) 6658,hI]]⟩,[(.exit 2,⟨(.any::ce (.one (.ptr 3 0)::ce (.one (.ptr 6 0)::gE (dq (.one (.hol (.sl 230 ag))::.one hI::.one hI::am (gE (dq (ce [])))))))),[none,none,none,some [hJ,.hol (.sl 230 ag)],none,none,some [.ptr 12 0],none,none,none,none,none,some [.ptr 13 0,hI,hI,hL],some [.onl 5 (Ty.int u8) 6658,hI]]⟩)]⟩
abbrev i4:Lo:=⟨⟨(.any::ce (.one (.ptr 3 0)::ce (.one (.ptr 6 0)::gE (dq (.one (.hol (.sl 230 ag))::.one hI::.one hI::am (gE (dq (ce [])))))))),[none,none,none,some [hJ,.hol (.sl 230 ag)],none,none,some [.ptr 12 0],none,none,none,none,none,some [.ptr 13 0,hI,hI,hL],some [.onl 5 (Ty.int u8) 6658,hI]]⟩,[(.exit 0,⟨(.any::ce (.one (.ptr 3 0)::ce (.one (.ptr 6 0)::.any::am (am (gE (dq [])))))),[none,none,none,some [hJ,.hol (.sl 230 ag)],none,none,some [.ptr 12 0],none,none,none,none,none,some [.ptr 13 0,hI,hI,hL],some [.onl 5 (Ty.int u8) 6658,hI]]⟩)]⟩
abbrev Ai (th':Int)(ts':List ag.den)(v:Int)(s:bf):(Int×(List ag.den×Unit))×(Unit×((Int×(Int×(Bool×Unit)))×((LI×(Int×Unit))×Unit))):=((th',(ts',())),((),((v,(s.1,(s.2.1,()))),((s.2.2,(130048,())),()))))
def rW (d:i5.st.den):Tr (aH i5.xs):=
 .ite (decide (d.1.2.2.2.2.2.1=0)&&(decide (d.1.2.2.2.2.1=(d.1.2.2.2.1.length:Int))&&(decide (d.2.2.2.2.1.2.1=130048)&&decide (d.2.2.2.2.1.1.length≤130048)))) (.ret (.ret ((),((d.1.1,(d.1.2.1,(d.1.2.2.1,()))),Ai d.2.1.1 d.2.1.2.1 d.2.2.2.1.1 (jo d.2.2.2.1.1 d.1.2.2.2.1 (d.2.2.2.1.2.1,(d.2.2.2.1.2.2.1,d.2.2.2.2.1.1))))))) .no
def rV (d:i4.st.den):Tr (aH i4.xs):=
 .ite (decide (d.1.2.2.1=0)&&(decide (d.1.2.1=(d.1.1.length:Int))&&(decide (d.2.2.2.2.1.2.1=130048)&&decide (d.2.2.2.2.1.1.length≤130048)))) (.ret (.ret ((),((),Ai d.2.1.1 d.2.1.2.1 d.2.2.2.1.1 (Ay d.2.2.2.1.1 d.1.1 (d.2.2.2.1.2.1,(d.2.2.2.1.2.2.1,d.2.2.2.2.1.1))))))) .no
def t8:Lp:=bB [(5,aS i4 rV),(8,aS i5 rW)]
def BV {R:Type}(h13:List ag.den)(h14 h15:Int)(h16:List aR.den)(h17 h18 h19:Int)(h20:List ag.den)(h21 h22:Int)(h23:Bool)(h24:LI)(h25:Int)(next:List ag.den→Int→Int→List aR.den→Int→Int→Int→List ag.den→Int→Int→Bool→LI→Int→Option R)(out:aH i5.xs→Option R):Option R:=bif decide (h18<h17) then bif decide (0≤h18)&&decide (h18<(↑h16.length:Int)) then bif decide (h25=130048)&&decide (h24.length≤130048) then next (h13) (h14) (h15) (h16) (h17) (i64.wrap (h18+1)) (h19) (h20) (h21) ((ls h21 (h16.getD h18.toNat (0,0,[],0,0,0,())) (h22,h23,h24)).1) ((ls h21 (h16.getD h18.toNat (0,0,[],0,0,0,())) (h22,h23,h24)).2.1) ((ls h21 (h16.getD h18.toNat (0,0,[],0,0,0,())) (h22,h23,h24)).2.2) (130048) else none else none else out (.ret ((),((h13,(h14,(h15,()))),((h19,(h20,())),((),((h21,(h22,(h23,()))),((h24,(h25,())),())))))))
def zr (n:Nat)(h13:List ag.den)(h14 h15:Int)(h16:List aR.den)(h17 h18 h19:Int)(h20:List ag.den)(h21 h22:Int)(h23:Bool)(h24:LI)(h25:Int):Option (aH i5.xs):=il tt KV dr t8 0 Tryz.f60 (pV Tryz.f60 (db Tryz.f60 0) 0) n (i5.st.mk' ((h13,(h14,(h15,(h16,(h17,(h18,())))))),((h19,(h20,())),((),((h21,(h22,(h23,()))),((h24,(h25,())),())))))) (ci i5.xs)
theorem Yz (n:Nat)(h13:List ag.den)(h14 h15:Int)(h16:List aR.den)(h17 h18 h19:Int)(h20:List ag.den)(h21 h22:Int)(h23:Bool)(h24:LI)(h25:Int):zr (n+1) h13 h14 h15 h16 h17 h18 h19 h20 h21 h22 h23 h24 h25=BV h13 h14 h15 h16 h17 h18 h19 h20 h21 h22 h23 h24 h25 (zr n) some:=by kernel_rfl
def BU {R:Type}(h3:List ag.den)(h4 h5 h6:Int)(h7:List ag.den)(h8 h9:Int)(h10:Bool)(h11:LI)(h12:Int)(next:List ag.den→Int→Int→Int→List ag.den→Int→Int→Bool→LI→Int→Option R)(out:aH i4.xs→Option R):Option R:=bif decide (h5<h4) then bif decide (0≤h5)&&decide (h5<(↑h3.length:Int)) then (rW ((h3,(h4,(h5,((h3.getD h5.toNat ([],[],())).2.1,((↑(List.length (h3.getD h5.toNat ([],[],())).2.1):Int),(0,())))))),((h6,(h7,())),((),((h8,(h9,(h10,()))),((h11,(h12,())),())))))).run fun y=>match y with | .ret ((),((x49,x50,x51,()),(x52,x53,()),(),(x54,x55,x56,()),(x57,x58,()),()))=>(next (x49) (x50) (i64.wrap (x51+1)) (x52) (x53) (x54) (x55) (x56) (x57) (x58)) else none else out (.ret ((),((),((h6,(h7,())),((),((h8,(h9,(h10,()))),((h11,(h12,())),())))))))
def tZ (n:Nat)(h3:List ag.den)(h4 h5 h6:Int)(h7:List ag.den)(h8 h9:Int)(h10:Bool)(h11:LI)(h12:Int):Option (aH i4.xs):=il tt KV dr t8 0 Tryz.f60 (db Tryz.f60 0) n (i4.st.mk' ((h3,(h4,(h5,()))),((h6,(h7,())),((),((h8,(h9,(h10,()))),((h11,(h12,())),())))))) (ci i4.xs)
theorem Yy (n:Nat)(h3:List ag.den)(h4 h5 h6:Int)(h7:List ag.den)(h8 h9:Int)(h10:Bool)(h11:LI)(h12:Int):tZ (n+1) h3 h4 h5 h6 h7 h8 h9 h10 h11 h12=BU h3 h4 h5 h6 h7 h8 h9 h10 h11 h12 (tZ n) some:=by kernel_rfl
theorem JE {s:bf}(v:Int)(p:aR.den)(h:s.2.2.length≤130048):(ls v p s).2.2.length≤130048:=br _ _ _ _ (br _ _ _ _ (br _ _ _ _ h))
theorem F4 {s:bf}(v:Int)(ps:List aR.den)(h:s.2.2.length≤130048):(jo v ps s).2.2.length≤130048:=iq (fun x s=>JE v x) ps s h
theorem Y8 {s:bf}(v:Int)(ts:List ag.den)(h:s.2.2.length≤130048):(Ay v ts s).2.2.length≤130048:=iq (one:=fun (t:ag.den) (s:bf)=>jo v t.2.1 s) (fun x s h=>F4 v x.2.1 h) ts s h
theorem N7 (us:List ag.den)(n i th':Int)(ts':List ag.den)(v:Int){ps:List aR.den}(hl:ps.length≤maxLen):∀(k j:Nat) (s:bf),ps.length<j+k→j≤ps.length→s.2.2.length≤130048→
  zr k us n i ps (ps.length:Int) j th' ts' v s.1 s.2.1 s.2.2 130048=some (.ret ((),((us,(n,(i,()))),Ai th' ts' v ((ps.drop j).foldl (fun s p=>ls v p s) s)))):=by
 intro k
 have hg:∀s:bf,s.2.2.length≤130048→(decide ((130048:Int)=130048)&&decide (s.2.2.length≤130048))=true:=fun s h=>by simpa using h
 induction k with
 |zero=>intro j s h;omega
 |succ k ih=>
  intro j s h1 h2 q0
  rw[Yz]
  unfold BV
  by_cases hi:j<ps.length
  ·refine bT (decide_eq_true (show (j:Int)<(ps.length:Int) by omega)) ?_
   refine bT (by simpa using hi) ?_
   simp only[zG,aJ hi,cq hi hl]
   refine (aa (hg _ q0) _ _).trans ?_
   rw[zE hi]
   exact ih (j+1) (ls v ps[j] s) (by omega) (by omega) (JE _ _ q0)
  ·refine bF (by simp;omega) ?_
   rw[zI (by omega)]
   rfl
theorem N6 {us:List ag.den}(th':Int)(ts':List ag.den)(v:Int)(hl:us.length≤maxLen):∀(k j:Nat) (s:bf),us.length<j+k→j≤us.length→s.2.2.length≤130048→
  tZ k us (us.length:Int) j th' ts' v s.1 s.2.1 s.2.2 130048=some (.ret ((),((),Ai th' ts' v ((us.drop j).foldl (fun s t=>jo v t.2.1 s) s)))):=by
 intro k
 induction k with
 |zero=>intro j s h;omega
 |succ k ih=>
  intro j s h1 h2 h3
  rw[Yy]
  unfold BU
  by_cases hi:j<us.length
  ·refine bT (decide_eq_true (show (j:Int)<(us.length:Int) by omega)) ?_
   refine bT (by simpa using hi) ?_
   simp only[zG,aJ hi]
   have c1:(decide ((0:Int)=0)&&(decide ((us[j].2.1.length:Int)=(us[j].2.1.length:Int))&&(decide ((130048:Int)=130048)&&decide (s.2.2.length≤130048))))=true:=by simpa using h3
   have e1:rW ((us,((us.length:Int),((j:Int),(us[j].2.1,((us[j].2.1.length:Int),(0,())))))),((th',(ts',())),((),((v,(s.1,(s.2.1,()))),((s.2.2,(130048,())),())))))=
     .ite true (.ret (.ret ((),((us,((us.length:Int),((j:Int),()))),Ai th' ts' v (jo v us[j].2.1 s))))) .no:=congrArg (fun c=>Tr.ite c _ _) c1
   rw[e1]
   show tZ k us (us.length:Int) (i64.wrap ((j:Int)+1)) th' ts' v (jo v us[j].2.1 s).1 (jo v us[j].2.1 s).2.1 (jo v us[j].2.1 s).2.2 130048=_
   rw[cq hi hl,zE hi]
   exact ih (j+1) (jo v us[j].2.1 s) (by omega) (by omega) (F4 _ _ h3)
  ·refine bF (by simp;omega) ?_
   rw[zI (by omega)]
   rfl
def Hw (a0 a1:Int)(a2:List ag.den):Option qz.Res:=(rV ((a2,((↑a2.length:Int),(0,()))),((a1,(a2,())),((),((a0,((aq a0 (a1 == 0) 2 3 (aV a0,false,[])).1,((aq a0 (a1 == 0) 2 3 (aV a0,false,[])).2.1,()))),(((aq a0 (a1 == 0) 2 3 (aV a0,false,[])).2.2,(130048,())),())))))).run fun y=>match y with | .ret ((),((),(x76,x77,()),(),(x78,x79,x80,()),(x81,x82,()),()))=>(bif decide (x82=130048)&&decide (x81.length≤130048) then bif decide (2≤x78)&&decide (x78≤3) then bif decide (130048=130048)&&decide (x81.length≤130048) then bif decide (130048=130048)&&decide ((ac x76 4 (x79,x80,x81)).2.2.length≤130048) then bif decide (130048=130048)&&decide ((mT x78 x77 (ac x76 4 (x79,x80,x81))).2.2.length≤130048) then oR ((bD (mT x78 x77 (ac x76 4 (x79,x80,x81))),bm (mT x78 x77 (ac x76 4 (x79,x80,x81))),()),()) else none else none else none else bif decide (130048=130048)&&decide (x81.length≤130048) then bif decide (130048=130048)&&decide ((mT x78 x77 (x79,x80,x81)).2.2.length≤130048) then oR ((bD (mT x78 x77 (x79,x80,x81)),bm (mT x78 x77 (x79,x80,x81)),()),()) else none else none else none)
theorem adb (a0 a1:Int)(a2:List ag.den):Io.run tt KV dr t8 qz Tryz.f60 ((a0,(a1,a2,()),()),())=Hw a0 a1 a2:=by kernel_rfl
theorem y9:HcsOk prog Us:=.cons z7 (.cons nI (.cons nH (.cons eb (.cons Xq (.cons RO (.cons uq .nil))))))
theorem afN:HcOk prog 60 (ae qz Zn):=by
 refine cg y9 (lp:=t8) (fn:=Tryz.f60) qz (.step (h0:=aS i4 rV) (by kernel_rfl) (jh y9 (lp:=t8) (fn:=Tryz.f60) (.step (h0:=aS i5 rW) (by kernel_rfl) (jh y9 (lp:=t8) (fn:=Tryz.f60) (.done (by kernel_rfl)) i5 rW ?_) (.done (by kernel_rfl))) i4 rV ?_) (.done (by kernel_rfl))) Zn ?_
 ·rintro ⟨⟨(us:List ag.den),(n:Int),(i:Int),(ps:List aR.den),(pn:Int),(pj:Int),⟨⟩⟩,⟨⟨(th':Int),(ts':List ag.den),⟨⟩⟩,⟨⟩,⟨(v:Int),(e:Int),(f:Bool),⟨⟩⟩,⟨(b:LI),(m:Int),⟨⟩⟩,⟨⟩⟩⟩ y hw hy
  obtain ⟨hg,hy⟩:=Tr.guard hy
  simp only[zA,zB] at hg
  obtain ⟨rfl,rfl,rfl,h4⟩:=hg
  have h4:b.length≤130048:=h4
  have hl:ps.length≤maxLen:=hw.1.2.2.2.1.1
  refine ⟨ps.length+1,(N7 us n i th' ts' v hl (ps.length+1) 0 (e,(f,b)) (by omega) (by omega) h4).trans ?_⟩
  rw[← hy];rfl
 ·rintro ⟨⟨(us:List ag.den),(n:Int),(i:Int),⟨⟩⟩,⟨⟨(th':Int),(ts':List ag.den),⟨⟩⟩,⟨⟩,⟨(v:Int),(e:Int),(f:Bool),⟨⟩⟩,⟨(b:LI),(m:Int),⟨⟩⟩,⟨⟩⟩⟩ y hw hy
  obtain ⟨hg,hy⟩:=Tr.guard hy
  simp only[zA,zB] at hg
  obtain ⟨rfl,rfl,rfl,h4⟩:=hg
  have h4:b.length≤130048:=h4
  have hl:us.length≤maxLen:=hw.1.1.1
  refine ⟨us.length+1,(N6 th' ts' v hl (us.length+1) 0 (e,(f,b)) (by omega) (by omega) h4).trans ?_⟩
  rw[← hy];rfl
 ·rintro ⟨⟨(v:Int),⟨(th:Int),(ts:List ag.den),⟨⟩⟩,⟨⟩⟩,⟨⟩⟩ out hw ho
  cases ho
  refine (adb v th ts).trans ?_
  unfold Hw
  have hg:∀s:bf,s.2.2.length≤130048→(decide ((130048:Int)=130048)&&decide (s.2.2.length≤130048))=true:=fun s h=>by simpa using h
  have q0:(aV v,(false,([]:LI))).2.2.length≤130048:=by simp
  have q1:=br (s:=(aV v,(false,([]:LI)))) v (th == 0) 2 3 q0
  have c1:(decide ((0:Int)=0)&&(decide ((ts.length:Int)=(ts.length:Int))&&(decide ((130048:Int)=130048)&&decide ((aq v (th == 0) 2 3 (aV v,(false,([]:LI)))).2.2.length≤130048))))=true:=by simpa using q1
  have e1:rV ((ts,((ts.length:Int),(0,()))),((th,(ts,())),((),((v,((aq v (th == 0) 2 3 (aV v,(false,([]:LI)))).1,((aq v (th == 0) 2 3 (aV v,(false,([]:LI)))).2.1,()))),(((aq v (th == 0) 2 3 (aV v,(false,([]:LI)))).2.2,(130048,())),())))))=
    .ite true (.ret (.ret ((),((),Ai th ts v (Ay v ts (aq v (th == 0) 2 3 (aV v,(false,([]:LI))))))))) .no:=congrArg (fun c=>Tr.ite c _ _) c1
  rw[e1]
  have r0:=Y8 v ts q1
  refine (aa (hg _ r0) _ _).trans ?_
  by_cases h0_0:2≤v∧v≤3
  ·refine bT (by simpa using h0_0) ?_
   refine (aa (hg _ r0) _ _).trans ?_
   have l0_0:=aA th 4 r0
   refine (aa (hg _ l0_0) _ _).trans ?_
   have l1_1:=cn (fun x s=>AA v x) ts l0_0
   refine (aa (hg _ l1_1) _ _).trans ?_
   simp only[yp,bL h0_0]
  ·refine (af (Bool.eq_false_iff.2 fun h'=>h0_0 (by simpa using h')) _ _).trans ?_
   refine (aa (hg _ r0) _ _).trans ?_
   have l1_1:=cn (fun x s=>AA v x) ts r0
   refine (aa (hg _ l1_1) _ _).trans ?_
   simp only[yp,bk h0_0]
@[irreducible] noncomputable def n9 (v:Int)(b:LI)(s:aD):aR.den×aD:=
 (((ab .i32 4 b s).1,((ab .i16 2 b (ab .i32 4 b s).2).1,((eg v 0 0 b (ab .i16 2 b (ab .i32 4 b s).2).2).1,((ao .i64 8 v 1 3 b (eg v 0 0 b (ab .i16 2 b (ab .i32 4 b s).2).2).2).1,((ao .i64 8 v 1 3 b (ao .i64 8 v 1 3 b (eg v 0 0 b (ab .i16 2 b (ab .i32 4 b s).2).2).2).2).1,((ao .i32 4 v 3 3 b (ao .i64 8 v 1 3 b (ao .i64 8 v 1 3 b (eg v 0 0 b (ab .i16 2 b (ab .i32 4 b s).2).2).2).2).2).1,())))))),(ao .i32 4 v 3 3 b (ao .i64 8 v 1 3 b (ao .i64 8 v 1 3 b (eg v 0 0 b (ab .i16 2 b (ab .i32 4 b s).2).2).2).2).2).2)
theorem JG {v:Int}{b:LI}{s:aD}(h:al b s.2=true):al b (n9 v b s).2.2=true:=by
 unfold n9
 exact ge (ge (ge (PS (aO _ _ (aO _ _ (h))))))
abbrev kQ:Io:=⟨[.ptr 0 0],pF,[],[.dat aR true false],none⟩
def C0 (d:kQ.In):Tr kQ.Res:=.ite (al d.2.2.2.1.1 d.2.2.2.1.2.1) (.ret (.ret (((n9 d.2.2.1.2.1 d.2.2.2.1.1 (cK d.2.2)).1,()),dp d.2.2.1.2.1 d.2.2.2.1.1 (n9 d.2.2.1.2.1 d.2.2.2.1.1 (cK d.2.2)).2))) .no
abbrev HY:List (Nat×Hc):=[(142,ae lX AD),(143,ae cB ew),(156,ae lY AE),(179,ae Ev aij),(140,ae iI pq)]
def WI:Hd:=bM HY
def IA:Lp:=bB []
def AX (a0 a1:Int)(a2:LI)(a3:Int):Option kQ.Res:=bif al a2 a3 then bif al a2 (ab i32 4 a2 (a1,a3)).2.2 then bif aQ a0 0 0 (ab i16 2 a2 (ab i32 4 a2 (a1,a3)).2).2.1 then bif al a2 (ab i16 2 a2 (ab i32 4 a2 (a1,a3)).2).2.2 then bif aQ a0 1 3 (bH a2 (ab i16 2 a2 (ab i32 4 a2 (a1,a3)).2).2).2.1 then bif al a2 (bH a2 (ab i16 2 a2 (ab i32 4 a2 (a1,a3)).2).2).2.2 then bif al a2 (ab i64 8 a2 (bH a2 (ab i16 2 a2 (ab i32 4 a2 (a1,a3)).2).2).2).2.2 then bif aQ a0 3 3 (ab i64 8 a2 (ab i64 8 a2 (bH a2 (ab i16 2 a2 (ab i32 4 a2 (a1,a3)).2).2).2).2).2.1 then bif al a2 (ab i64 8 a2 (ab i64 8 a2 (bH a2 (ab i16 2 a2 (ab i32 4 a2 (a1,a3)).2).2).2).2).2.2 then oR ((((ab i32 4 a2 (a1,a3)).1,(ab i16 2 a2 (ab i32 4 a2 (a1,a3)).2).1,(bH a2 (ab i16 2 a2 (ab i32 4 a2 (a1,a3)).2).2).1,(ab i64 8 a2 (bH a2 (ab i16 2 a2 (ab i32 4 a2 (a1,a3)).2).2).2).1,(ab i64 8 a2 (ab i64 8 a2 (bH a2 (ab i16 2 a2 (ab i32 4 a2 (a1,a3)).2).2).2).2).1,(ab i32 4 a2 (ab i64 8 a2 (ab i64 8 a2 (bH a2 (ab i16 2 a2 (ab i32 4 a2 (a1,a3)).2).2).2).2).2).1,()),()),((),()),((),a0,(ab i32 4 a2 (ab i64 8 a2 (ab i64 8 a2 (bH a2 (ab i16 2 a2 (ab i32 4 a2 (a1,a3)).2).2).2).2).2).2.1,()),(a2,(ab i32 4 a2 (ab i64 8 a2 (ab i64 8 a2 (bH a2 (ab i16 2 a2 (ab i32 4 a2 (a1,a3)).2).2).2).2).2).2.2,()),()) else none else oR ((((ab i32 4 a2 (a1,a3)).1,(ab i16 2 a2 (ab i32 4 a2 (a1,a3)).2).1,(bH a2 (ab i16 2 a2 (ab i32 4 a2 (a1,a3)).2).2).1,(ab i64 8 a2 (bH a2 (ab i16 2 a2 (ab i32 4 a2 (a1,a3)).2).2).2).1,(ab i64 8 a2 (ab i64 8 a2 (bH a2 (ab i16 2 a2 (ab i32 4 a2 (a1,a3)).2).2).2).2).1,0,()),()),((),()),((),a0,(ab i64 8 a2 (ab i64 8 a2 (bH a2 (ab i16 2 a2 (ab i32 4 a2 (a1,a3)).2).2).2).2).2.1,()),(a2,(ab i64 8 a2 (ab i64 8 a2 (bH a2 (ab i16 2 a2 (ab i32 4 a2 (a1,a3)).2).2).2).2).2.2,()),()) else none else none else bif aQ a0 3 3 (bH a2 (ab i16 2 a2 (ab i32 4 a2 (a1,a3)).2).2).2.1 then bif al a2 (bH a2 (ab i16 2 a2 (ab i32 4 a2 (a1,a3)).2).2).2.2 then oR ((((ab i32 4 a2 (a1,a3)).1,(ab i16 2 a2 (ab i32 4 a2 (a1,a3)).2).1,(bH a2 (ab i16 2 a2 (ab i32 4 a2 (a1,a3)).2).2).1,0,0,(ab i32 4 a2 (bH a2 (ab i16 2 a2 (ab i32 4 a2 (a1,a3)).2).2).2).1,()),()),((),()),((),a0,(ab i32 4 a2 (bH a2 (ab i16 2 a2 (ab i32 4 a2 (a1,a3)).2).2).2).2.1,()),(a2,(ab i32 4 a2 (bH a2 (ab i16 2 a2 (ab i32 4 a2 (a1,a3)).2).2).2).2.2,()),()) else none else oR ((((ab i32 4 a2 (a1,a3)).1,(ab i16 2 a2 (ab i32 4 a2 (a1,a3)).2).1,(bH a2 (ab i16 2 a2 (ab i32 4 a2 (a1,a3)).2).2).1,0,0,0,()),()),((),()),((),a0,(bH a2 (ab i16 2 a2 (ab i32 4 a2 (a1,a3)).2).2).2.1,()),(a2,(bH a2 (ab i16 2 a2 (ab i32 4 a2 (a1,a3)).2).2).2.2,()),()) else none else bif aQ a0 1 3 (ab i16 2 a2 (ab i32 4 a2 (a1,a3)).2).2.1 then bif al a2 (ab i16 2 a2 (ab i32 4 a2 (a1,a3)).2).2.2 then bif al a2 (ab i64 8 a2 (ab i16 2 a2 (ab i32 4 a2 (a1,a3)).2).2).2.2 then bif aQ a0 3 3 (ab i64 8 a2 (ab i64 8 a2 (ab i16 2 a2 (ab i32 4 a2 (a1,a3)).2).2).2).2.1 then bif al a2 (ab i64 8 a2 (ab i64 8 a2 (ab i16 2 a2 (ab i32 4 a2 (a1,a3)).2).2).2).2.2 then oR ((((ab i32 4 a2 (a1,a3)).1,(ab i16 2 a2 (ab i32 4 a2 (a1,a3)).2).1,[],(ab i64 8 a2 (ab i16 2 a2 (ab i32 4 a2 (a1,a3)).2).2).1,(ab i64 8 a2 (ab i64 8 a2 (ab i16 2 a2 (ab i32 4 a2 (a1,a3)).2).2).2).1,(ab i32 4 a2 (ab i64 8 a2 (ab i64 8 a2 (ab i16 2 a2 (ab i32 4 a2 (a1,a3)).2).2).2).2).1,()),()),((),()),((),a0,(ab i32 4 a2 (ab i64 8 a2 (ab i64 8 a2 (ab i16 2 a2 (ab i32 4 a2 (a1,a3)).2).2).2).2).2.1,()),(a2,(ab i32 4 a2 (ab i64 8 a2 (ab i64 8 a2 (ab i16 2 a2 (ab i32 4 a2 (a1,a3)).2).2).2).2).2.2,()),()) else none else oR ((((ab i32 4 a2 (a1,a3)).1,(ab i16 2 a2 (ab i32 4 a2 (a1,a3)).2).1,[],(ab i64 8 a2 (ab i16 2 a2 (ab i32 4 a2 (a1,a3)).2).2).1,(ab i64 8 a2 (ab i64 8 a2 (ab i16 2 a2 (ab i32 4 a2 (a1,a3)).2).2).2).1,0,()),()),((),()),((),a0,(ab i64 8 a2 (ab i64 8 a2 (ab i16 2 a2 (ab i32 4 a2 (a1,a3)).2).2).2).2.1,()),(a2,(ab i64 8 a2 (ab i64 8 a2 (ab i16 2 a2 (ab i32 4 a2 (a1,a3)).2).2).2).2.2,()),()) else none else none else bif aQ a0 3 3 (ab i16 2 a2 (ab i32 4 a2 (a1,a3)).2).2.1 then bif al a2 (ab i16 2 a2 (ab i32 4 a2 (a1,a3)).2).2.2 then oR ((((ab i32 4 a2 (a1,a3)).1,(ab i16 2 a2 (ab i32 4 a2 (a1,a3)).2).1,[],0,0,(ab i32 4 a2 (ab i16 2 a2 (ab i32 4 a2 (a1,a3)).2).2).1,()),()),((),()),((),a0,(ab i32 4 a2 (ab i16 2 a2 (ab i32 4 a2 (a1,a3)).2).2).2.1,()),(a2,(ab i32 4 a2 (ab i16 2 a2 (ab i32 4 a2 (a1,a3)).2).2).2.2,()),()) else none else oR ((((ab i32 4 a2 (a1,a3)).1,(ab i16 2 a2 (ab i32 4 a2 (a1,a3)).2).1,[],0,0,0,()),()),((),()),((),a0,(ab i16 2 a2 (ab i32 4 a2 (a1,a3)).2).2.1,()),(a2,(ab i16 2 a2 (ab i32 4 a2 (a1,a3)).2).2.2,()),()) else none else none
theorem Sf (a0 a1:Int)(a2:LI)(a3:Int):Io.run tt WI dr IA kQ Tryz.f178 (((),()),((),()),((),a0,a1,()),(a2,a3,()),())=AX a0 a1 a2 a3:=by kernel_rfl
theorem Xi:HcOk prog 178 (ae kQ C0):=by
 refine cg (cs:=HY) (.cons zY (.cons cY (.cons zZ (.cons akh (.cons nG .nil))))) (lp:=IA) (fn:=Tryz.f178) kQ (.done (by kernel_rfl)) C0 ?_
 rintro ⟨⟨⟨⟩,⟨⟩⟩,⟨⟨⟩,⟨⟩⟩,⟨⟨⟩,(v:Int),(e:Int),⟨⟩⟩,⟨(b:LI),(p:Int),⟨⟩⟩,⟨⟩⟩ out hw ho
 obtain ⟨hg,ho⟩:=Tr.guard ho
 have hg:al b p=true:=hg
 cases ho
 refine (Sf v e b p).trans ?_
 unfold AX
 show _=oR (((n9 v b (e,p)).1,()),dp v b (n9 v b (e,p)).2)
 unfold n9
 have hg:al b ((e,p):aD).2=true:=hg
 refine (aa hg _ _).trans ?_
 have g0:al b (ab .i32 4 b ((e,p):aD)).2.2=true:=aO .i32 4 (s:=((e,p):aD)) hg
 refine (aa g0 _ _).trans ?_
 have g1:al b (ab .i16 2 b (ab .i32 4 b ((e,p):aD)).2).2.2=true:=aO .i16 2 (s:=(ab .i32 4 b ((e,p):aD)).2) g0
 show (bif aQ v 0 0 (ab .i16 2 b (ab .i32 4 b ((e,p):aD)).2).2.1 then _ else _)=_
 cases h2:aQ v 0 0 (ab .i16 2 b (ab .i32 4 b ((e,p):aD)).2).2.1
 ·have e2:eg v 0 0 b (ab .i16 2 b (ab .i32 4 b ((e,p):aD)).2).2=([],(ab .i16 2 b (ab .i32 4 b ((e,p):aD)).2).2):=by unfold eg;rw[if_neg (by rw[h2];decide)]
  rw[e2]
  show (bif aQ v 1 3 (ab .i16 2 b (ab .i32 4 b ((e,p):aD)).2).2.1 then _ else _)=_
  cases hf3:aQ v 1 3 (ab .i16 2 b (ab .i32 4 b ((e,p):aD)).2).2.1
  ·have ef3:ao .i64 8 v 1 3 b (ab .i16 2 b (ab .i32 4 b ((e,p):aD)).2).2=(0,(ab .i16 2 b (ab .i32 4 b ((e,p):aD)).2).2):=by unfold ao;rw[if_neg (by rw[hf3];decide)]
   rw[ef3]
   have eff4:ao .i64 8 v 1 3 b (ab .i16 2 b (ab .i32 4 b ((e,p):aD)).2).2=(0,(ab .i16 2 b (ab .i32 4 b ((e,p):aD)).2).2):=by unfold ao;rw[if_neg (by rw[hf3];decide)]
   rw[eff4]
   show (bif aQ v 3 3 (ab .i16 2 b (ab .i32 4 b ((e,p):aD)).2).2.1 then _ else _)=_
   cases hff5:aQ v 3 3 (ab .i16 2 b (ab .i32 4 b ((e,p):aD)).2).2.1
   ·have eff5:ao .i32 4 v 3 3 b (ab .i16 2 b (ab .i32 4 b ((e,p):aD)).2).2=(0,(ab .i16 2 b (ab .i32 4 b ((e,p):aD)).2).2):=by unfold ao;rw[if_neg (by rw[hff5];decide)]
    rw[eff5]
    rfl
   ·have eff5:ao .i32 4 v 3 3 b (ab .i16 2 b (ab .i32 4 b ((e,p):aD)).2).2=ab .i32 4 b (ab .i16 2 b (ab .i32 4 b ((e,p):aD)).2).2:=by unfold ao;rw[if_pos hff5]
    rw[eff5]
    refine (aa g1 _ _).trans ?_
    have gff5:al b (ab .i32 4 b (ab .i16 2 b (ab .i32 4 b ((e,p):aD)).2).2).2.2=true:=aO .i32 4 (s:=(ab .i16 2 b (ab .i32 4 b ((e,p):aD)).2).2) g1
    rfl
  ·have ef3:ao .i64 8 v 1 3 b (ab .i16 2 b (ab .i32 4 b ((e,p):aD)).2).2=ab .i64 8 b (ab .i16 2 b (ab .i32 4 b ((e,p):aD)).2).2:=by unfold ao;rw[if_pos hf3]
   rw[ef3]
   refine (aa g1 _ _).trans ?_
   have gf3:al b (ab .i64 8 b (ab .i16 2 b (ab .i32 4 b ((e,p):aD)).2).2).2.2=true:=aO .i64 8 (s:=(ab .i16 2 b (ab .i32 4 b ((e,p):aD)).2).2) g1
   have eft4:ao .i64 8 v 1 3 b (ab .i64 8 b (ab .i16 2 b (ab .i32 4 b ((e,p):aD)).2).2).2=ab .i64 8 b (ab .i64 8 b (ab .i16 2 b (ab .i32 4 b ((e,p):aD)).2).2).2:=Fp (Fr hf3) _
   rw[eft4]
   refine (aa gf3 _ _).trans ?_
   have gft4:al b (ab .i64 8 b (ab .i64 8 b (ab .i16 2 b (ab .i32 4 b ((e,p):aD)).2).2).2).2.2=true:=aO .i64 8 (s:=(ab .i64 8 b (ab .i16 2 b (ab .i32 4 b ((e,p):aD)).2).2).2) gf3
   show (bif aQ v 3 3 (ab .i64 8 b (ab .i64 8 b (ab .i16 2 b (ab .i32 4 b ((e,p):aD)).2).2).2).2.1 then _ else _)=_
   cases hft5:aQ v 3 3 (ab .i64 8 b (ab .i64 8 b (ab .i16 2 b (ab .i32 4 b ((e,p):aD)).2).2).2).2.1
   ·have eft5:ao .i32 4 v 3 3 b (ab .i64 8 b (ab .i64 8 b (ab .i16 2 b (ab .i32 4 b ((e,p):aD)).2).2).2).2=(0,(ab .i64 8 b (ab .i64 8 b (ab .i16 2 b (ab .i32 4 b ((e,p):aD)).2).2).2).2):=by unfold ao;rw[if_neg (by rw[hft5];decide)]
    rw[eft5]
    rfl
   ·have eft5:ao .i32 4 v 3 3 b (ab .i64 8 b (ab .i64 8 b (ab .i16 2 b (ab .i32 4 b ((e,p):aD)).2).2).2).2=ab .i32 4 b (ab .i64 8 b (ab .i64 8 b (ab .i16 2 b (ab .i32 4 b ((e,p):aD)).2).2).2).2:=by unfold ao;rw[if_pos hft5]
    rw[eft5]
    refine (aa gft4 _ _).trans ?_
    have gft5:al b (ab .i32 4 b (ab .i64 8 b (ab .i64 8 b (ab .i16 2 b (ab .i32 4 b ((e,p):aD)).2).2).2).2).2.2=true:=aO .i32 4 (s:=(ab .i64 8 b (ab .i64 8 b (ab .i16 2 b (ab .i32 4 b ((e,p):aD)).2).2).2).2) gft4
    rfl
 ·have e2:eg v 0 0 b (ab .i16 2 b (ab .i32 4 b ((e,p):aD)).2).2=bH b (ab .i16 2 b (ab .i32 4 b ((e,p):aD)).2).2:=by unfold eg;rw[if_pos h2]
  rw[e2]
  refine (aa g1 _ _).trans ?_
  have g2:al b (bH b (ab .i16 2 b (ab .i32 4 b ((e,p):aD)).2).2).2.2=true:=P0 (s:=(ab .i16 2 b (ab .i32 4 b ((e,p):aD)).2).2) g1
  show (bif aQ v 1 3 (bH b (ab .i16 2 b (ab .i32 4 b ((e,p):aD)).2).2).2.1 then _ else _)=_
  cases ht3:aQ v 1 3 (bH b (ab .i16 2 b (ab .i32 4 b ((e,p):aD)).2).2).2.1
  ·have et3:ao .i64 8 v 1 3 b (bH b (ab .i16 2 b (ab .i32 4 b ((e,p):aD)).2).2).2=(0,(bH b (ab .i16 2 b (ab .i32 4 b ((e,p):aD)).2).2).2):=by unfold ao;rw[if_neg (by rw[ht3];decide)]
   rw[et3]
   have etf4:ao .i64 8 v 1 3 b (bH b (ab .i16 2 b (ab .i32 4 b ((e,p):aD)).2).2).2=(0,(bH b (ab .i16 2 b (ab .i32 4 b ((e,p):aD)).2).2).2):=by unfold ao;rw[if_neg (by rw[ht3];decide)]
   rw[etf4]
   show (bif aQ v 3 3 (bH b (ab .i16 2 b (ab .i32 4 b ((e,p):aD)).2).2).2.1 then _ else _)=_
   cases htf5:aQ v 3 3 (bH b (ab .i16 2 b (ab .i32 4 b ((e,p):aD)).2).2).2.1
   ·have etf5:ao .i32 4 v 3 3 b (bH b (ab .i16 2 b (ab .i32 4 b ((e,p):aD)).2).2).2=(0,(bH b (ab .i16 2 b (ab .i32 4 b ((e,p):aD)).2).2).2):=by unfold ao;rw[if_neg (by rw[htf5];decide)]
    rw[etf5]
    rfl
   ·have etf5:ao .i32 4 v 3 3 b (bH b (ab .i16 2 b (ab .i32 4 b ((e,p):aD)).2).2).2=ab .i32 4 b (bH b (ab .i16 2 b (ab .i32 4 b ((e,p):aD)).2).2).2:=by unfold ao;rw[if_pos htf5]
    rw[etf5]
    refine (aa g2 _ _).trans ?_
    have gtf5:al b (ab .i32 4 b (bH b (ab .i16 2 b (ab .i32 4 b ((e,p):aD)).2).2).2).2.2=true:=aO .i32 4 (s:=(bH b (ab .i16 2 b (ab .i32 4 b ((e,p):aD)).2).2).2) g2
    rfl
  ·have et3:ao .i64 8 v 1 3 b (bH b (ab .i16 2 b (ab .i32 4 b ((e,p):aD)).2).2).2=ab .i64 8 b (bH b (ab .i16 2 b (ab .i32 4 b ((e,p):aD)).2).2).2:=by unfold ao;rw[if_pos ht3]
   rw[et3]
   refine (aa g2 _ _).trans ?_
   have gt3:al b (ab .i64 8 b (bH b (ab .i16 2 b (ab .i32 4 b ((e,p):aD)).2).2).2).2.2=true:=aO .i64 8 (s:=(bH b (ab .i16 2 b (ab .i32 4 b ((e,p):aD)).2).2).2) g2
   have ett4:ao .i64 8 v 1 3 b (ab .i64 8 b (bH b (ab .i16 2 b (ab .i32 4 b ((e,p):aD)).2).2).2).2=ab .i64 8 b (ab .i64 8 b (bH b (ab .i16 2 b (ab .i32 4 b ((e,p):aD)).2).2).2).2:=Fp (Fr ht3) _
   rw[ett4]
   refine (aa gt3 _ _).trans ?_
   have gtt4:al b (ab .i64 8 b (ab .i64 8 b (bH b (ab .i16 2 b (ab .i32 4 b ((e,p):aD)).2).2).2).2).2.2=true:=aO .i64 8 (s:=(ab .i64 8 b (bH b (ab .i16 2 b (ab .i32 4 b ((e,p):aD)).2).2).2).2) gt3
   show (bif aQ v 3 3 (ab .i64 8 b (ab .i64 8 b (bH b (ab .i16 2 b (ab .i32 4 b ((e,p):aD)).2).2).2).2).2.1 then _ else _)=_
   cases htt5:aQ v 3 3 (ab .i64 8 b (ab .i64 8 b (bH b (ab .i16 2 b (ab .i32 4 b ((e,p):aD)).2).2).2).2).2.1
   ·have ett5:ao .i32 4 v 3 3 b (ab .i64 8 b (ab .i64 8 b (bH b (ab .i16 2 b (ab .i32 4 b ((e,p):aD)).2).2).2).2).2=(0,(ab .i64 8 b (ab .i64 8 b (bH b (ab .i16 2 b (ab .i32 4 b ((e,p):aD)).2).2).2).2).2):=by unfold ao;rw[if_neg (by rw[htt5];decide)]
    rw[ett5]
    rfl
   ·have ett5:ao .i32 4 v 3 3 b (ab .i64 8 b (ab .i64 8 b (bH b (ab .i16 2 b (ab .i32 4 b ((e,p):aD)).2).2).2).2).2=ab .i32 4 b (ab .i64 8 b (ab .i64 8 b (bH b (ab .i16 2 b (ab .i32 4 b ((e,p):aD)).2).2).2).2).2:=by unfold ao;rw[if_pos htt5]
    rw[ett5]
    refine (aa gtt4 _ _).trans ?_
    have gtt5:al b (ab .i32 4 b (ab .i64 8 b (ab .i64 8 b (bH b (ab .i16 2 b (ab .i32 4 b ((e,p):aD)).2).2).2).2).2).2.2=true:=aO .i32 4 (s:=(ab .i64 8 b (ab .i64 8 b (bH b (ab .i16 2 b (ab .i32 4 b ((e,p):aD)).2).2).2).2).2) gtt4
    rfl
@[irreducible] noncomputable def jN (v:Int)(b:LI)(s:aD):List aR.den×aD:=iC (n9 v b) b s
theorem Tp {v:Int}{b:LI}{s:aD}(h:al b s.2=true):al b (jN v b s).2.2=true:=by
 unfold jN
 exact fH (fun s h=>JG h) h
abbrev qq:Io:=⟨[.ptr 0 0,.fnc 178 false [2]],nF,[],[.dat (.sl 233 aR) false false],none⟩
def GQ (d:qq.In):Tr qq.Res:=.ite (al d.2.2.1.1 d.2.2.1.2.1) (.ret (.ret (((jN d.2.1.2.1 d.2.2.1.1 (d7 d.2)).1,()),iD d.2.1.2.1 d.2.2.1.1 (jN d.2.1.2.1 d.2.2.1.1 (d7 d.2)).2))) .no
abbrev QV:List (Nat×Hc):=[(143,ae cB ew),(178,ae kQ C0)]
theorem RJ:HcOk prog 177 (ae qq GQ):=
 mc (one:=n9) (sps:=jN) (fun _ _ _=>by unfold jN;rfl) (fun _ _ _ h4=>JG h4) (cs:=QV) (.cons cY (.cons Xi .nil)) (fn:=Tryz.f177) (by kernel_rfl) (by kernel_rfl) (by kernel_rfl) (by kernel_rfl) (by kernel_rfl) (by kernel_rfl) (by intros;kernel_rfl) (by intros;kernel_rfl)
@[irreducible] noncomputable def oa (v:Int)(b:LI)(s:aD):ag.den×aD:=(((bi b s).1,((jN v b (bi b s).2).1,())),(jN v b (bi b s).2).2)
theorem JI {v:Int}{b:LI}{s:aD}(h:al b s.2=true):al b (oa v b s).2.2=true:=by
 unfold oa
 exact Tp (fa h)
abbrev jT:Io:=⟨[.ptr 0 0],pF,[],[.dat ag true false],none⟩
def yL (d:jT.In):Tr jT.Res:=.ite (al d.2.2.2.1.1 d.2.2.2.1.2.1) (.ret (.ret (((oa d.2.2.1.2.1 d.2.2.2.1.1 (cK d.2.2)).1,()),dp d.2.2.1.2.1 d.2.2.2.1.1 (oa d.2.2.1.2.1 d.2.2.2.1.1 (cK d.2.2)).2))) .no
abbrev D2:List (Nat×Hc):=[(146,ae l6 AG),(177,ae qq GQ)]
def Q7:Hd:=bM D2
def EQ:Lp:=bB []
def xh (a0 a1:Int)(a2:LI)(a3:Int):Option jT.Res:=bif al a2 a3 then bif al a2 (bi a2 (a1,a3)).2.2 then oR ((((bi a2 (a1,a3)).1,(jN a0 a2 (bi a2 (a1,a3)).2).1,()),()),((),()),((),a0,(jN a0 a2 (bi a2 (a1,a3)).2).2.1,()),(a2,(jN a0 a2 (bi a2 (a1,a3)).2).2.2,()),()) else none else none
theorem Pi (a0 a1:Int)(a2:LI)(a3:Int):Io.run tt Q7 dr EQ jT Tryz.f176 (((),()),((),()),((),a0,a1,()),(a2,a3,()),())=xh a0 a1 a2 a3:=by kernel_rfl
theorem RK:HcOk prog 176 (ae jT yL):=by
 refine cg (cs:=D2) (.cons z4 (.cons RJ .nil)) (lp:=EQ) (fn:=Tryz.f176) jT (.done (by kernel_rfl)) yL ?_
 rintro ⟨⟨⟨⟩,⟨⟩⟩,⟨⟨⟩,⟨⟩⟩,⟨⟨⟩,(v:Int),(e:Int),⟨⟩⟩,⟨(b:LI),(p:Int),⟨⟩⟩,⟨⟩⟩ out hw ho
 obtain ⟨hg,ho⟩:=Tr.guard ho
 have hg:al b p=true:=hg
 cases ho
 refine (Pi v e b p).trans ?_
 unfold xh
 show _=oR (((oa v b (e,p)).1,()),dp v b (oa v b (e,p)).2)
 unfold oa
 refine (aa hg _ _).trans ?_
 exact aa (fa (s:=(e,p)) hg) _ _
@[irreducible] noncomputable def dg (v:Int)(b:LI)(s:aD):List ag.den×aD:=iC (oa v b) b s
theorem F7 {v:Int}{b:LI}{s:aD}(h:al b s.2=true):al b (dg v b s).2.2=true:=by
 unfold dg
 exact fH (fun s h=>JI h) h
abbrev oG:Io:=⟨[.ptr 0 0,.fnc 176 false [2]],nF,[],[.dat (.sl 230 ag) false false],none⟩
def C1 (d:oG.In):Tr oG.Res:=.ite (al d.2.2.1.1 d.2.2.1.2.1) (.ret (.ret (((dg d.2.1.2.1 d.2.2.1.1 (d7 d.2)).1,()),iD d.2.1.2.1 d.2.2.1.1 (dg d.2.1.2.1 d.2.2.1.1 (d7 d.2)).2))) .no
abbrev Ng:List (Nat×Hc):=[(143,ae cB ew),(176,ae jT yL)]
theorem OY:HcOk prog 175 (ae oG C1):=
 mc (one:=oa) (sps:=dg) (fun _ _ _=>by unfold dg;rfl) (fun _ _ _ h4=>JI h4) (cs:=Ng) (.cons cY (.cons RK .nil)) (fn:=Tryz.f175) (by kernel_rfl) (by kernel_rfl) (by kernel_rfl) (by kernel_rfl) (by kernel_rfl) (by kernel_rfl) (by intros;kernel_rfl) (by intros;kernel_rfl)
abbrev mF:Io:=⟨[.ptr 0 0,.fnc 176 false [1]],wc,[],[.dat (.sl 230 ag) false false],none⟩
def AK (d:mF.In):Tr mF.Res:=.ite (decide (d.2.1.2.2.1≠0)) (.ret (.ret ((([]:List ag.den),()),d.2))) .no
abbrev Kw:List (Nat×Hc):=[(143,eX di (ae eM jO) (ae cB ew))]
theorem LF:HcOk prog 175 (ae mF AK):=
 t4 (cs:=Kw) (.cons (bb jj cY) .nil) (fn:=Tryz.f175) (by kernel_rfl) (by kernel_rfl) (by kernel_rfl) (by kernel_rfl) (by kernel_rfl) (by kernel_rfl) (by intros;kernel_rfl) (by intros;kernel_rfl)
def ah8:bY.den:=(0,(([]:List ag.den),()))
def ry (v:Int)(b:LI)(s:aD):bY.den×aD:=
 (((ao .i32 4 v 2 3 b s).1,((dg v b (ao .i32 4 v 2 3 b s).2).1,())),(dg v b (ao .i32 4 v 2 3 b s).2).2)
def lU (v:Int)(b:LI):bY.den×Int:=if 0≤v∧v≤3∧(b.length:Int)≤130048 then (if aE b (ry v b (0,0)).2=0 then ((ry v b (0,0)).1,0) else (ah8,aE b (ry v b (0,0)).2)) else (ah8,bg v)
abbrev ni:Io:=⟨[dI,dL],[],[],[.dat bY true false,dI],none⟩
def JZ (d:ni.In):Tr ni.Res:=.ret (.ret (((lU d.1.1 d.1.2.1).1,((lU d.1.1 d.1.2.1).2,())),()))
abbrev Nf:List (Nat×Hc):=[(139,eX zW (ae jE o8) (ae lZ AF)),(140,eX di (ae jD rL) (ae iI pq)),(143,eX di (ae eM jO) (ae cB ew)),(175,eX di (ae mF AK) (ae oG C1)),(150,eX di (ae jC rK) (ae lW AC))]
def aaR:Hd:=bM Nf
def Ot:Lp:=bB []
def Dw (a0:Int)(a1:LI):Option ni.Res:=bif !(decide (0≤a0)&&(decide (a0≤3)&&decide ((↑a1.length:Int)≤130048))) then bif decide (0≤a0)&&(decide (a0≤3)&&decide ((↑a1.length:Int)≤130048)) then none else bif decide (bg a0≠0) then bif decide (bg a0≠0) then bif decide (bg a0≠0) then bif bg a0 != 0 then oR (((0,[],()),bg a0,()),()) else oR (((0,[],()),0,()),()) else none else none else none else bif decide (0≤a0)&&(decide (a0≤3)&&decide ((↑a1.length:Int)≤130048)) then bif aQ a0 2 3 0 then bif al a1 0 then bif al a1 (an a1 0 4).2.1 then bif aE a1 (dg a0 a1 ((an a1 0 4).2.2,(an a1 0 4).2.1)).2 != 0 then oR (((0,[],()),aE a1 (dg a0 a1 ((an a1 0 4).2.2,(an a1 0 4).2.1)).2,()),()) else oR (((i32.wrap (an a1 0 4).1,(dg a0 a1 ((an a1 0 4).2.2,(an a1 0 4).2.1)).1,()),0,()),()) else none else none else bif al a1 0 then bif aE a1 (dg a0 a1 (0,0)).2 != 0 then oR (((0,[],()),aE a1 (dg a0 a1 (0,0)).2,()),()) else oR (((0,(dg a0 a1 (0,0)).1,()),0,()),()) else none else none
theorem XV (a0:Int)(a1:LI):Io.run tt aaR dr Ot ni Tryz.f77 ((a0,a1,()),())=Dw a0 a1:=by kernel_rfl
theorem ab8:HcOk prog 77 (ae ni JZ):=by
 refine cg (cs:=Nf) (.cons (bb up z0) (.cons (bb uo nG) (.cons (bb jj cY) (.cons (bb LF OY) (.cons (bb un zX) .nil))))) (lp:=Ot) (fn:=Tryz.f77) ni (.done (by kernel_rfl)) JZ ?_
 rintro ⟨⟨(v:Int),(b:LI),⟨⟩⟩,⟨⟩⟩ out hw ho
 cases ho
 refine (XV v b).trans ?_
 unfold Dw
 show _=oR (((lU v b).1,((lU v b).2,())),())
 by_cases h:0≤v∧v≤3∧(b.length:Int)≤130048
 ·have hc:(decide (0≤v)&&(decide (v≤3)&&decide ((b.length:Int)≤130048)))=true:=by simpa using h
  refine bF (by rw[hc];rfl) ?_
  refine (aa hc _ _).trans ?_
  have hg:al b ((0,0):aD).2=true:=by simp[al];omega
  unfold lU ry
  rw[if_pos h]
  show (bif aQ v 2 3 ((0,0):aD).1 then _ else _)=_
  cases h0:aQ v 2 3 ((0,0):aD).1
  ·have e0:ao .i32 4 v 2 3 b ((0,0):aD)=(0,((0,0):aD)):=by unfold ao;rw[if_neg (by rw[h0];decide)]
   rw[e0]
   refine (aa hg _ _).trans ?_
   have gf1:al b (dg v b ((0,0):aD)).2.2=true:=F7 (s:=((0,0):aD)) hg
   show _=oR (((if aE b (dg v b ((0,0):aD)).2=0 then _ else _:bY.den×Int).1,_),())
   by_cases hE:aE b (dg v b ((0,0):aD)).2=0
   ·rw[if_pos hE]
    exact af (show (aE b (dg v b ((0,0):aD)).2 != 0)=false by simpa using hE) _ _
   ·rw[if_neg hE]
    exact aa (show (aE b (dg v b ((0,0):aD)).2 != 0)=true by simpa using hE) _ _
  ·have e0:ao .i32 4 v 2 3 b ((0,0):aD)=ab .i32 4 b ((0,0):aD):=by unfold ao;rw[if_pos h0]
   rw[e0]
   refine (aa hg _ _).trans ?_
   have g0:al b (ab .i32 4 b ((0,0):aD)).2.2=true:=aO .i32 4 (s:=((0,0):aD)) hg
   refine (aa g0 _ _).trans ?_
   have gt1:al b (dg v b (ab .i32 4 b ((0,0):aD)).2).2.2=true:=F7 (s:=(ab .i32 4 b ((0,0):aD)).2) g0
   show _=oR (((if aE b (dg v b (ab .i32 4 b ((0,0):aD)).2).2=0 then _ else _:bY.den×Int).1,_),())
   by_cases hE:aE b (dg v b (ab .i32 4 b ((0,0):aD)).2).2=0
   ·rw[if_pos hE]
    exact af (show (aE b (dg v b (ab .i32 4 b ((0,0):aD)).2).2 != 0)=false by simpa using hE) _ _
   ·rw[if_neg hE]
    exact aa (show (aE b (dg v b (ab .i32 4 b ((0,0):aD)).2).2 != 0)=true by simpa using hE) _ _
 ·have hc:(decide (0≤v)&&(decide (v≤3)&&decide ((b.length:Int)≤130048)))=false:=by
   rw[Bool.eq_false_iff]
   intro h'
   simp only[zA,zB] at h'
   exact h h'
  have hn:bg v≠0:=by unfold bg;split <;> decide
  unfold lU
  rw[if_neg h]
  refine bT (by rw[hc];rfl) ?_
  refine (af hc _ _).trans ?_
  repeat refine bT (decide_eq_true hn) ?_
  exact aa (by simpa using hn) _ _
@[irreducible] def jt (xs:LI):Nd:=ba (xs.map (av 4))
theorem lk (xs:LI):jt xs=ba (xs.map (av 4)):=by unfold jt;rfl
def FB (x:Nd):Int:=x.lab.2.1
theorem P2 (xs:LI):(jt xs).kids.map FB=xs:=by
 rw[lk]
 show (xs.map (av 4)).map FB=xs
 rw[List.map_map]
 exact e9 fun x _=>rfl
def wNs (xs:LI):LI×Int:=du (fun x=>(aB x 8,0)) xs
theorem ad2 {nm nm2:LI}{lo hi lo2 hi2:Int}{e:List Fd}{v:Int}(xs:LI):uE (cO nm 9 lo hi [cO nm2 4 lo2 hi2 e]) v (jt xs)=wNs xs:=by
 rw[lk,fu]
 unfold wNs
 exact cw fun x _=>bG (by decide) (w:=8) rfl (fq x)
theorem ST {nm nm2:LI}{lo hi lo2 hi2:Int}{e:List Fd}{v:Int}(xs:LI):(bn (cO nm 9 lo hi [cO nm2 4 lo2 hi2 e]) v (jt xs)).2=true:=by
 rw[lk,dh]
 exact List.all_eq_true.2 fun x _=>aL (by decide) (by decide)
theorem Qa {xs:LI}:cD (jt xs)=((xs.length:Int) == 0):=by
 rw[lk]
 unfold cD
 by_cases h:xs=[]
 ·subst h;rfl
 ·have h1:(xs.map (av 4)).length≠0:=by simpa using h
  have h2:((xs.length:Int) == 0)=false:=by simpa using h
  rw[h2]
  exact if_neg h1
theorem L6 {nm nm2:LI}{lo hi lo2 hi2:Int}{e:List Fd}(xs:LI):hC (cO nm 9 lo hi [cO nm2 4 lo2 hi2 e]) (jt xs):=by
 rw[lk]
 exact cN _ _ fun x=>aF (by decide) (by decide)
theorem Wri.ns (xs:LI):Wri (wNs xs) (iw xs):=Wri.items fun x _=>Wri.put x 8
theorem Wri.hasNs (v lo hi:Int)(xs:LI):Wri (if lo≤v∧v≤hi then wNs xs else ([],0)) (lA v lo hi xs):=by
 by_cases h:lo≤v∧v≤hi
 ·rw[if_pos h,show lA v lo hi xs=iw xs from funext fun s=>nT h]
  exact Wri.ns xs
 ·rw[if_neg h,show lA v lo hi xs=(fun s=>s) from funext fun s=>lO h]
  exact Wri.nop
theorem Rd.ns {b:LI}{xs:LI}(hx:∀x∈xs,eD .i64 x):Rd b xs (wNs xs) (bH b):=
 (Rd.list fun x h=>Rd.num (fA (hx x h))).congr fun s=>by unfold bH;rfl
theorem Rd.optNs {b:LI}{xs:LI}{v lo hi:Int}(hx:∀x∈xs,eD .i64 x)(h0:¬(lo≤v∧v≤hi)→xs=[]):Rd b xs (if lo≤v∧v≤hi then wNs xs else ([],0)) (eg v lo hi b):=by
 by_cases h:lo≤v∧v≤hi
 ·rw[if_pos h]
  intro hz
  have hn:=Rd.ns (b:=b) hx hz
  refine ⟨fun p rest hp hd=>?_,fun p t hp ht hd=>?_,fun s hs=>?_⟩
  ·unfold eg
   rw[if_pos (uz h)];exact hn.full p rest hp hd
  ·unfold eg
   rw[if_pos (uz h)];exact hn.short p t hp ht hd
  ·unfold eg
   rw[if_neg (by rw[Fq hs];decide)]
 ·rw[if_neg h]
  intro _
  refine Rea.nop b xs (fun p=>?_) (fun s hs=>?_)
  ·unfold eg
   rw[if_neg (by rw[nN h];decide),h0 h]
  ·unfold eg
   rw[if_neg (by rw[nN h];decide)]
theorem abj {c:Prop}[Decidable c]{x y:Bool}:(if c then true else (x&&y))=((if c then true else x)&&(if c then true else y)):=by split <;> rfl
abbrev EA:Io:=⟨[.dat (.sl 2 (.int .i64)) false false],[],[],[dH],none⟩
def ain (d:EA.In):Tr EA.Res:=.ite (decide (d.1.1.length≤4294967296)) (.ret (.ret ((jt d.1.1,()),()))) .no
abbrev ahE:List (Nat×Hc):=[(181,ae kZ wO),(184,ae iS pX)]
def ahO:Hd:=bM ahE
abbrev mO:Lo:=⟨⟨(.one (.hol (.sl 2 (Ty.int i64)))::.any::.one (.ptr 2 0)::.one (.onl 91 ap 7)::.one hI::.any::am []),[none,none,some [hI,hI,hL,.onl 5 (Ty.int u8) 1032,.onl 91 ap 1034]]⟩,[(.exit 0,⟨(ce (.one (.ptr 2 0)::.one (.onl 91 ap 7)::am (ce []))),[none,none,some [hI,hI,hL,.onl 5 (Ty.int u8) 1032,.onl 91 ap 1034]]⟩)]⟩
def Kj (d:mO.st.den):Tr (aH mO.xs):=
 .ite ((decide (d.1.2.1.length=0)&&decide (d.1.2.2.1=0))&&decide (d.1.1.length≤4294967296)) (.ret (.ret ((),((d.1.1.map (av 4),()),(d.2.1,()))))) .no
def VI:Lp:=bB [(4,aS mO Kj)]
def JL {R:Type}(h1:LI)(h2:List ap.den)(h3 h4 h5:Int)(h6:Bool)(h7:LI)(h8:List ap.den)(next:LI→List ap.den→Int→Int→Int→Bool→LI→List ap.den→Option R)(out:aH mO.xs→Option R):Option R:=bif decide (h3<(↑h1.length:Int)) then bif decide (0≤h3)&&decide (h3<(↑h1.length:Int)) then bif decide (h2.length+1≤4294967296) then next (h1) (h2++[Tre.mk (4,h1.getD h3.toNat 0,false,[],()) []]) (i64.wrap (h3+1)) (h4) (h5) (h6) (h7) (h8) else none else none else out (.ret ((),((h2,()),((h4,(h5,(h6,(h7,(h8,()))))),()))))
def K5 (n:Nat)(h1:LI)(h2:List ap.den)(h3 h4 h5:Int)(h6:Bool)(h7:LI)(h8:List ap.den):Option (aH mO.xs):=il tt ahO dr VI 0 Tryz.f198 (db Tryz.f198 0) n (mO.st.mk' ((h1,(h2,(h3,()))),((h4,(h5,(h6,(h7,(h8,()))))),()))) (ci mO.xs)
theorem agX (n:Nat)(h1:LI)(h2:List ap.den)(h3 h4 h5:Int)(h6:Bool)(h7:LI)(h8:List ap.den):K5 (n+1) h1 h2 h3 h4 h5 h6 h7 h8=JL h1 h2 h3 h4 h5 h6 h7 h8 (K5 n) some:=by kernel_rfl
theorem afy {xs:LI}(hl:xs.length≤4294967296)(a' b':Int)(z':Bool)(x':LI)(l':List Nd):∀(k j:Nat) (o:List Nd),xs.length<j+k→j≤xs.length→o.length≤j→
  K5 k xs o j a' b' z' x' l'=some (.ret ((),((o++(xs.drop j).map (av 4),()),((a',(b',(z',(x',(l',()))))),())))):=by
 intro k
 induction k with
 |zero=>intro j o h1 h2;omega
 |succ k ih=>
  intro j o h1 h2 h3
  rw[agX]
  unfold JL
  by_cases hj:j<xs.length
  ·refine bT (decide_eq_true (show (j:Int)<(xs.length:Int) by omega)) ?_
   refine bT (by simp;omega) ?_
   refine bT (decide_eq_true (show o.length+1≤4294967296 by omega)) ?_
   rw[aI (n:=(j:Int)+1) (by omega) (by omega),zE hj]
   simp only[zG,aJ hj]
   refine (ih (j+1) (o++[av 4 xs[j]]) (by omega) (by omega) (by simp;omega)).trans ?_
   simp only[zL,zK,zM]
  ·refine bF (decide_eq_false (show ¬(j:Int)<(xs.length:Int) by omega)) ?_
   rw[zI (by omega)]
   simp
def T4 (a0:LI):Option EA.Res:=(Kj ((a0,([],(0,()))),((0,(0,(false,([],([],()))))),()))).run fun y=>match y with | .ret ((),((x23,()),(x24,x25,x26,x27,x28,()),()))=>(oR ((Tre.mk (9,0,false,[],()) x23,()),()))
theorem ajs (a0:LI):Io.run tt ahO dr VI EA Tryz.f198 ((a0,()),())=T4 a0:=by kernel_rfl
theorem UZ:HcsOk prog ahE:=.cons we (.cons q4 .nil)
theorem akl:HcOk prog 198 (ae EA ain):=by
 refine cg UZ (lp:=VI) (fn:=Tryz.f198) EA (.step (h0:=aS mO Kj) (by kernel_rfl) (jh UZ (lp:=VI) (fn:=Tryz.f198) (.done (by kernel_rfl)) mO Kj ?_) (.done (by kernel_rfl))) ain ?_
 ·rintro ⟨⟨(xs:LI),(o:List Nd),(j:Int),⟨⟩⟩,⟨⟨(a':Int),(b':Int),(z':Bool),(x':LI),(l':List Nd),⟨⟩⟩,⟨⟩⟩⟩ y hw hy
  obtain ⟨hg,hy⟩:=Tr.guard hy
  simp only[zA,zB] at hg
  obtain ⟨⟨h3,h4⟩,h5⟩:=hg
  have h3:o=[]:=zF h3
  have h4:j=0:=h4
  have h5:xs.length≤4294967296:=h5
  subst h3
  subst h4
  refine ⟨xs.length+1,(afy h5 a' b' z' x' l' (xs.length+1) 0 [] (by omega) (by omega) (by simp)).trans ?_⟩
  rw[← hy,List.drop_zero]
  rfl
 ·rintro ⟨⟨(xs:LI),⟨⟩⟩,⟨⟩⟩ out hw ho
  obtain ⟨hg,ho⟩:=Tr.guard ho
  have hg:xs.length≤4294967296:=of_decide_eq_true hg
  cases ho
  refine (ajs xs).trans ?_
  unfold T4
  have c1:((decide (([]:List Nd).length=0)&&decide ((0:Int)=0))&&decide (xs.length≤4294967296))=true:=by simpa using hg
  refine (aa c1 _ _).trans ?_
  show _=oR ((jt xs,()),())
  rw[lk]
  rfl
end
end Go.Proofs.YtomeplopmndbgaaGreat.Sym
