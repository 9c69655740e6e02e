/- leatref10: the smaller functions of trees and of fields. -/
import Derived.Test.YtomeplopmndbgaaGreatQ4

namespace Go.Proofs.YtomeplopmndbgaaGreat.Sym
open Go
set_option linter.unusedSimpArgs false
set_option linter.unusedVariables false
noncomputable section
abbrev tFl:Ty:=.prod .str (.prod (.int .i64) (.prod (.int .i64) (.prod (.int .i64) .unit)))
abbrev ee:Ty:=.tree tFl 160
abbrev Kq:Sh:=.dat ee true false
abbrev Y9:Ty:=.sl 160 ee
abbrev wl:Sh:=.dat Y9 false false
abbrev Zv:Sh:=.dat Y9 false true
abbrev Fd:Type:=Tre tFl.den
abbrev Zw:Sh:=.dat VR false false
abbrev j5:Io:=⟨[dS],[],[],[du],none⟩
def yi (d:j5.In):Tr j5.Res:=.ret (.ret ((.mk (5,(0,(false,(d.1.1,())))) [],()),()))
abbrev M9:List (Nat×Hc):=[]
def WP:Hd:=bz M9
def NR:Lp:=bo []
def Oy (a0:List Int):Option j5.Res:=some (Out.ret ((Tre.mk (5,0,false,a0,()) [],()),()))
theorem U1 (a0:List Int):Io.run tt WP dr NR j5 Tryz.f183 ((a0,()),())=Oy a0:=by kernel_rfl
theorem kc:HcOk prog 183 (ah j5 yi):=by
 refine aj (n:=400) hm (cs:=M9) HcsOk.nil (lp:=NR) (fn:=Tryz.f183) (by kernel_rfl) (by kernel_rfl) (by kernel_rfl) j5 (.done (by kernel_rfl)) yi ?_
 rintro ⟨⟨(s:List Int),⟨⟩⟩,⟨⟩⟩ out hw ho
 cases ho
 exact U1 s
abbrev kP:Io:=⟨[ES],[],[],[du],none⟩
def Ep (d:kP.In):Tr kP.Res:=.ret (.ret ((.mk (6,(0,(d.1.1.1,(d.1.1.2.1,())))) [],()),()))
abbrev Hz:List (Nat×Hc):=[]
def SY:Hd:=bz Hz
def Iw:Lp:=bo []
def J9 (a0:Bool)(a1:List Int):Option kP.Res:=some (Out.ret ((Tre.mk (6,0,a0,a1,()) [],()),()))
theorem P1 (a0:Bool)(a1:List Int):Io.run tt SY dr Iw kP Tryz.f185 (((a0,a1,()),()),())=J9 a0 a1:=by kernel_rfl
theorem z6:HcOk prog 185 (ah kP Ep):=by
 refine aj (n:=400) hm (cs:=Hz) HcsOk.nil (lp:=Iw) (fn:=Tryz.f185) (by kernel_rfl) (by kernel_rfl) (by kernel_rfl) kP (.done (by kernel_rfl)) Ep ?_
 rintro ⟨⟨⟨(z:Bool),(s:List Int),⟨⟩⟩,⟨⟩⟩,⟨⟩⟩ out hw ho
 cases ho
 exact P1 z s
abbrev hC:Io:=⟨[Kp],[],[],[du],none⟩
def su (d:hC.In):Tr hC.Res:=.ret (.ret ((.mk (8,(0,(d.1.1.1,(d.1.1.2.1,())))) [],()),()))
abbrev CQ:List (Nat×Hc):=[]
def OZ:Hd:=bz CQ
def Dj:Lp:=bo []
def GY (a0:Bool)(a1:List Int):Option hC.Res:=some (Out.ret ((Tre.mk (8,0,a0,a1,()) [],()),()))
theorem Lu (a0:Bool)(a1:List Int):Io.run tt OZ dr Dj hC Tryz.f182 (((a0,a1,()),()),())=GY a0 a1:=by kernel_rfl
theorem kq:HcOk prog 182 (ah hC su):=by
 refine aj (n:=400) hm (cs:=CQ) HcsOk.nil (lp:=Dj) (fn:=Tryz.f182) (by kernel_rfl) (by kernel_rfl) (by kernel_rfl) hC (.done (by kernel_rfl)) su ?_
 rintro ⟨⟨⟨(z:Bool),(s:List Int),⟨⟩⟩,⟨⟩⟩,⟨⟩⟩ out hw ho
 cases ho
 exact Lu z s
abbrev jt:Io:=⟨[Zw],[],[],[du],none⟩
def uD (d:jt.In):Tr jt.Res:=.ret (.ret ((.mk (9,(0,(false,(([]:List Int),())))) d.1.1,()),()))
abbrev M8:List (Nat×Hc):=[]
def WO:Hd:=bz M8
def NQ:Lp:=bo []
def Ox (a0:List ap.den):Option jt.Res:=some (Out.ret ((Tre.mk (9,0,false,[],()) a0,()),()))
theorem U0 (a0:List ap.den):Io.run tt WO dr NQ jt Tryz.f184 ((a0,()),())=Ox a0:=by kernel_rfl
theorem iK:HcOk prog 184 (ah jt uD):=by
 refine aj (n:=400) hm (cs:=M8) HcsOk.nil (lp:=NQ) (fn:=Tryz.f184) (by kernel_rfl) (by kernel_rfl) (by kernel_rfl) jt (.done (by kernel_rfl)) uD ?_
 rintro ⟨⟨l,⟨⟩⟩,⟨⟩⟩ out hw ho
 cases ho
 exact U0 l
abbrev i9:Io:=⟨[du],[],[],[ES],none⟩
def yh (d:i9.In):Tr i9.Res:=.ret (.ret (((d.1.1.lab.2.2.1,(d.1.1.lab.2.2.2.1,())),()),()))
abbrev CR:List (Nat×Hc):=[]
def O0:Hd:=bz CR
def Dk:Lp:=bo []
def GZ (a0:Tre xg.den):Option i9.Res:=some (Out.ret ((a0.1.2.2,()),()))
theorem Lv (a0:Tre xg.den):Io.run tt O0 dr Dk i9 Tryz.f163 ((a0,()),())=GZ a0:=by kernel_rfl
theorem vq:HcOk prog 163 (ah i9 yh):=by
 refine aj (n:=400) hm (cs:=CR) HcsOk.nil (lp:=Dk) (fn:=Tryz.f163) (by kernel_rfl) (by kernel_rfl) (by kernel_rfl) i9 (.done (by kernel_rfl)) yh ?_
 rintro ⟨⟨(n:Nd),⟨⟩⟩,⟨⟩⟩ out hw ho
 cases ho
 exact Lv n
abbrev gZ:Io:=⟨[du],[],[],[Kp],none⟩
def sr (d:gZ.In):Tr gZ.Res:=.ite (decide (d.1.1.lab.2.2.2.1.length≤4294967296)) (.ret (.ret (((d.1.1.lab.2.2.1,(d.1.1.lab.2.2.2.1,())),()),()))) .no
abbrev CP:List (Nat×Hc):=[(27,ah mh BM)]
def OY:Hd:=bz CP
def Di:Lp:=bo []
def wc (a0:Tre xg.den):Option gZ.Res:=bif decide (List.length a0.1.2.2.2.1≤4294967296) then some (Out.ret ((a0.1.2.2,()),())) else none
theorem Lt (a0:Tre xg.den):Io.run tt OY dr Di gZ Tryz.f165 ((a0,()),())=wc a0:=by kernel_rfl
theorem kp:HcOk prog 165 (ah gZ sr):=by
 refine aj (n:=400) hm (cs:=CP) (.cons rT .nil) (lp:=Di) (fn:=Tryz.f165) (by kernel_rfl) (by kernel_rfl) (by kernel_rfl) gZ (.done (by kernel_rfl)) sr ?_
 rintro ⟨⟨(n:Nd),⟨⟩⟩,⟨⟩⟩ out hw ho
 obtain ⟨hg,ho⟩:=Tr.guard ho
 have hg:n.lab.2.2.2.1.length≤4294967296:=of_decide_eq_true hg
 cases ho
 refine (Lt n).trans ?_
 unfold wc
 exact aa (by simpa using hg) _ _
abbrev lQ:Io:=⟨[du],[],[],[dB],none⟩
def b9 (n:Nd):Bool:=if n.lab.2.1=0 then (if n.lab.2.2.1=false then (if n.lab.2.2.2.1.length=0 then (if n.kids.length=0 then true else false) else false) else false) else false
def Et (d:lQ.In):Tr lQ.Res:=.ret (.ret ((b9 d.1.1,()),()))
abbrev Na:List (Nat×Hc):=[]
def WQ:Hd:=bz Na
def NS:Lp:=bo []
def Cz (a0:Tre xg.den):Option lQ.Res:=bif a0.1.2.1 == 0 then bif !a0.1.2.2.1 then bif (↑(List.length a0.1.2.2.2.1):Int) == 0 then some (Out.ret (((↑a0.2.length:Int) == 0,()),())) else some (Out.ret ((false,()),())) else some (Out.ret ((false,()),())) else some (Out.ret ((false,()),()))
theorem U3 (a0:Tre xg.den):Io.run tt WQ dr NS lQ Tryz.f88 ((a0,()),())=Cz a0:=by kernel_rfl
theorem tJ:HcOk prog 88 (ah lQ Et):=by
 refine aj (n:=400) hm (cs:=Na) HcsOk.nil (lp:=NS) (fn:=Tryz.f88) (by kernel_rfl) (by kernel_rfl) (by kernel_rfl) lQ (.done (by kernel_rfl)) Et ?_
 rintro ⟨⟨(n:Nd),⟨⟩⟩,⟨⟩⟩ out hw ho
 cases ho
 refine (U3 n).trans ?_
 unfold Cz
 show _=some (Out.ret ((b9 n,()),()))
 unfold b9
 simp only[cond_eq_ite]
 repeat' split
 all_goals simp_all
abbrev jC:Io:=⟨[Kq,dI],[],[],[dB],none⟩
def gd (f:Fd)(v:Int):Bool:=if f.lab.2.2.1≤v∧v≤f.lab.2.2.2.1 then true else false
def xj (d:jC.In):Tr jC.Res:=.ret (.ret ((gd d.1.1 d.1.2.1,()),()))
abbrev Hy:List (Nat×Hc):=[]
def SX:Hd:=bz Hy
def Iv:Lp:=bo []
def yK (a0:Tre tFl.den)(a1:Int):Option jC.Res:=bif decide (a0.1.2.2.1≤a1) then some (Out.ret ((decide (a1≤a0.1.2.2.2.1),()),())) else some (Out.ret ((false,()),()))
theorem P0 (a0:Tre tFl.den)(a1:Int):Io.run tt SX dr Iv jC Tryz.f189 ((a0,a1,()),())=yK a0 a1:=by kernel_rfl
theorem pv:HcOk prog 189 (ah jC xj):=by
 refine aj (n:=400) hm (cs:=Hy) HcsOk.nil (lp:=Iv) (fn:=Tryz.f189) (by kernel_rfl) (by kernel_rfl) (by kernel_rfl) jC (.done (by kernel_rfl)) xj ?_
 rintro ⟨⟨(f:Fd),(v:Int),⟨⟩⟩,⟨⟩⟩ out hw ho
 cases ho
 refine (P0 f v).trans ?_
 unfold yK
 show _=some (Out.ret ((gd f v,()),()))
 unfold gd
 simp only[cond_eq_ite]
 repeat' split
 all_goals simp_all
abbrev kQ:Io:=⟨[dI],[],[],[dI],none⟩
def bm (k:Int):Int:=if k=1 then 1 else if k=2∨k=5∨k=6 then 2 else if k=4 then 8 else 4
def Es (d:kQ.In):Tr kQ.Res:=.ret (.ret ((bm d.1.1,()),()))
abbrev HB:List (Nat×Hc):=[]
def S2:Hd:=bz HB
def Iy:Lp:=bo []
def yM (a0:Int):Option kQ.Res:=bif a0 == 1 then some (Out.ret ((1,()),())) else bif a0 == 2 then bif a0 == 2 then some (Out.ret ((2,()),())) else bif a0 == 4 then some (Out.ret ((8,()),())) else some (Out.ret ((4,()),())) else bif a0 == 5 then bif a0 == 5 then some (Out.ret ((2,()),())) else bif a0 == 4 then some (Out.ret ((8,()),())) else some (Out.ret ((4,()),())) else bif a0 == 6 then some (Out.ret ((2,()),())) else bif a0 == 4 then some (Out.ret ((8,()),())) else some (Out.ret ((4,()),()))
theorem P3 (a0:Int):Io.run tt S2 dr Iy kQ Tryz.f217 ((a0,()),())=yM a0:=by kernel_rfl
theorem IP:HcOk prog 217 (ah kQ Es):=by
 refine aj (n:=400) hm (cs:=HB) HcsOk.nil (lp:=Iy) (fn:=Tryz.f217) (by kernel_rfl) (by kernel_rfl) (by kernel_rfl) kQ (.done (by kernel_rfl)) Es ?_
 rintro ⟨⟨(k:Int),⟨⟩⟩,⟨⟩⟩ out hw ho
 cases ho
 refine (P3 k).trans ?_
 unfold yM
 show _=some (Out.ret ((bm k,()),()))
 unfold bm
 simp only[cond_eq_ite]
 repeat' split
 all_goals simp_all
abbrev iw:Io:=⟨[Kq,du],[],[],[dB],none⟩
def ge (k:Int)(n:Nd):Bool:=
 if n.lab.1≠k then false else if 4<k∧n.lab.2.1≠0 then false else if (k<5∨8<k)∧0<n.lab.2.2.2.1.length then false else if k≠6∧k≠8∧n.lab.2.2.1=true then false else if 8<k∨n.kids.length=0 then true else false
def xk (d:iw.In):Tr iw.Res:=.ret (.ret ((ge d.1.1.lab.2.1 d.1.2.1,()),()))
abbrev HA:List (Nat×Hc):=[]
def SZ:Hd:=bz HA
def Ix:Lp:=bo []
def yL (a0:Tre tFl.den)(a1:Tre xg.den):Option iw.Res:=bif a1.1.1 != a0.1.2.1 then some (Out.ret ((false,()),())) else bif decide (4<a0.1.2.1) then bif a1.1.2.1 != 0 then some (Out.ret ((false,()),())) else bif decide (a0.1.2.1<5) then bif decide (0<(↑(List.length a1.1.2.2.2.1):Int)) then some (Out.ret ((false,()),())) else bif a0.1.2.1 != 6 then bif a0.1.2.1 != 8 then bif a1.1.2.2.1 then some (Out.ret ((false,()),())) else bif decide (8<a0.1.2.1) then some (Out.ret ((true,()),())) else some (Out.ret (((↑a1.2.length:Int) == 0,()),())) else bif decide (8<a0.1.2.1) then some (Out.ret ((true,()),())) else some (Out.ret (((↑a1.2.length:Int) == 0,()),())) else bif decide (8<a0.1.2.1) then some (Out.ret ((true,()),())) else some (Out.ret (((↑a1.2.length:Int) == 0,()),())) else bif decide (8<a0.1.2.1) then bif decide (0<(↑(List.length a1.1.2.2.2.1):Int)) then some (Out.ret ((false,()),())) else bif a0.1.2.1 != 6 then bif a0.1.2.1 != 8 then bif a1.1.2.2.1 then some (Out.ret ((false,()),())) else bif decide (8<a0.1.2.1) then some (Out.ret ((true,()),())) else some (Out.ret (((↑a1.2.length:Int) == 0,()),())) else bif decide (8<a0.1.2.1) then some (Out.ret ((true,()),())) else some (Out.ret (((↑a1.2.length:Int) == 0,()),())) else bif decide (8<a0.1.2.1) then some (Out.ret ((true,()),())) else some (Out.ret (((↑a1.2.length:Int) == 0,()),())) else bif a0.1.2.1 != 6 then bif a0.1.2.1 != 8 then bif a1.1.2.2.1 then some (Out.ret ((false,()),())) else bif decide (8<a0.1.2.1) then some (Out.ret ((true,()),())) else some (Out.ret (((↑a1.2.length:Int) == 0,()),())) else bif decide (8<a0.1.2.1) then some (Out.ret ((true,()),())) else some (Out.ret (((↑a1.2.length:Int) == 0,()),())) else bif decide (8<a0.1.2.1) then some (Out.ret ((true,()),())) else some (Out.ret (((↑a1.2.length:Int) == 0,()),())) else bif decide (a0.1.2.1<5) then bif decide (0<(↑(List.length a1.1.2.2.2.1):Int)) then some (Out.ret ((false,()),())) else bif a0.1.2.1 != 6 then bif a0.1.2.1 != 8 then bif a1.1.2.2.1 then some (Out.ret ((false,()),())) else bif decide (8<a0.1.2.1) then some (Out.ret ((true,()),())) else some (Out.ret (((↑a1.2.length:Int) == 0,()),())) else bif decide (8<a0.1.2.1) then some (Out.ret ((true,()),())) else some (Out.ret (((↑a1.2.length:Int) == 0,()),())) else bif decide (8<a0.1.2.1) then some (Out.ret ((true,()),())) else some (Out.ret (((↑a1.2.length:Int) == 0,()),())) else bif decide (8<a0.1.2.1) then bif decide (0<(↑(List.length a1.1.2.2.2.1):Int)) then some (Out.ret ((false,()),())) else bif a0.1.2.1 != 6 then bif a0.1.2.1 != 8 then bif a1.1.2.2.1 then some (Out.ret ((false,()),())) else bif decide (8<a0.1.2.1) then some (Out.ret ((true,()),())) else some (Out.ret (((↑a1.2.length:Int) == 0,()),())) else bif decide (8<a0.1.2.1) then some (Out.ret ((true,()),())) else some (Out.ret (((↑a1.2.length:Int) == 0,()),())) else bif decide (8<a0.1.2.1) then some (Out.ret ((true,()),())) else some (Out.ret (((↑a1.2.length:Int) == 0,()),())) else bif a0.1.2.1 != 6 then bif a0.1.2.1 != 8 then bif a1.1.2.2.1 then some (Out.ret ((false,()),())) else bif decide (8<a0.1.2.1) then some (Out.ret ((true,()),())) else some (Out.ret (((↑a1.2.length:Int) == 0,()),())) else bif decide (8<a0.1.2.1) then some (Out.ret ((true,()),())) else some (Out.ret (((↑a1.2.length:Int) == 0,()),())) else bif decide (8<a0.1.2.1) then some (Out.ret ((true,()),())) else some (Out.ret (((↑a1.2.length:Int) == 0,()),()))
theorem P2 (a0:Tre tFl.den)(a1:Tre xg.den):Io.run tt SZ dr Ix iw Tryz.f191 ((a0,a1,()),())=yL a0 a1:=by kernel_rfl
theorem z7:HcOk prog 191 (ah iw xk):=by
 refine aj (n:=400) hm (cs:=HA) HcsOk.nil (lp:=Ix) (fn:=Tryz.f191) (by kernel_rfl) (by kernel_rfl) (by kernel_rfl) iw (.done (by kernel_rfl)) xk ?_
 rintro ⟨⟨(f:Fd),(n:Nd),⟨⟩⟩,⟨⟩⟩ out hw ho
 cases ho
 refine (P2 f n).trans ?_
 unfold yL
 show _=some (Out.ret ((ge f.lab.2.1 n,()),()))
 unfold ge
 obtain ⟨⟨nm,k,lo,hi,⟨⟩⟩,e⟩:=f
 obtain ⟨⟨k',m,z,d,⟨⟩⟩,l⟩:=n
 have hc:∀(c a b:Bool),(bif c then (some (Out.ret ((a,()),())):Option iw.Res) else some (Out.ret ((b,()),())))=some (Out.ret ((bif c then a else b,()),())):=by intro c a b;cases c <;> rfl
 simp only[hc]
 refine congrArg (fun b:Bool=>some (Out.ret ((b,()),()))) ?_
 simp only[cond_eq_ite]
 grind
abbrev lP:Io:=⟨[wl,dI],[],[],[Zv],none⟩
def cP (l:List Fd)(v:Int):List Fd:=l.filter fun f=>gd f v
def Eo (d:lP.In):Tr lP.Res:=.ite (decide (d.1.1.length≤4294967296)) (.ret (.ret ((cP d.1.1 d.1.2.1,()),()))) .no
abbrev EO:List (Nat×Hc):=[(189,ah jC xj)]
def Nj:Hd:=bz EO
abbrev fT:Lo:=⟨⟨(.one (.hol (.sl 160 ((Ty.str.prod ((Ty.int IntKind.i64).prod ((Ty.int IntKind.i64).prod ((Ty.int IntKind.i64).prod Ty.unit)))).tree 160)))::.one (.hol (.int IntKind.i64))::.any::be (.one (.onl 160 ((Ty.str.prod ((Ty.int IntKind.i64).prod ((Ty.int IntKind.i64).prod ((Ty.int IntKind.i64).prod Ty.unit)))).tree 160) 11)::.one (.hol (.int IntKind.i64))::.any::ai (bJ []))),[]⟩,[(.exit 0,⟨(.any::bJ (.one (.onl 160 ((Ty.str.prod ((Ty.int IntKind.i64).prod ((Ty.int IntKind.i64).prod ((Ty.int IntKind.i64).prod Ty.unit)))).tree 160) 11)::ai (bJ (be [])))),[]⟩)]⟩
def oY (d:fT.st.den):Tr (ax fT.xs):=
 .ite (decide (d.1.2.2.1.length=0)&&(decide (d.1.2.2.2.1=0)&&decide (d.1.1.length≤4294967296))) (.ret (.ret ((),((cP d.1.1 d.1.2.1,()),())))) .no
def xD:Lp:=bo [(4,aP fT oY)]
def wV {R:Type}(h2:List ee.den)(h3:Int)(h4:List ((Ty.str.prod ((Ty.int IntKind.i64).prod ((Ty.int IntKind.i64).prod ((Ty.int IntKind.i64).prod Ty.unit)))).tree 160).den)(h5:Int)(next:List ee.den→Int→List ((Ty.str.prod ((Ty.int IntKind.i64).prod ((Ty.int IntKind.i64).prod ((Ty.int IntKind.i64).prod Ty.unit)))).tree 160).den→Int→Option R)(out:ax fT.xs→Option R):Option R:=bif decide (h5<(↑h2.length:Int)) then bif decide (0≤h5)&&decide (h5<(↑h2.length:Int)) then bif gd (Tre.mk (h2.getD h5.toNat (Tre.mk ([],0,0,0,()) [])).1 (h2.getD h5.toNat (Tre.mk ([],0,0,0,()) [])).2) h3 then bif decide (0≤h5)&&decide (h5<(↑h2.length:Int)) then bif decide (h4.length+[Tre.mk (h2.getD h5.toNat (Tre.mk ([],0,0,0,()) [])).1 (h2.getD h5.toNat (Tre.mk ([],0,0,0,()) [])).2].length≤4294967296) then next (h2) (h3) (h4++[Tre.mk (h2.getD h5.toNat (Tre.mk ([],0,0,0,()) [])).1 (h2.getD h5.toNat (Tre.mk ([],0,0,0,()) [])).2]) (IntKind.i64.wrap (h5+1)) else none else none else next (h2) (h3) (h4) (IntKind.i64.wrap (h5+1)) else none else out (.ret ((),((h4,()),())))
def va (n:Nat)(h2:List ee.den)(h3:Int)(h4:List ((Ty.str.prod ((Ty.int IntKind.i64).prod ((Ty.int IntKind.i64).prod ((Ty.int IntKind.i64).prod Ty.unit)))).tree 160).den)(h5:Int):Option (ax fT.xs):=gk tt Nj dr xD 0 Tryz.f210 (cI Tryz.f210 0) n (fT.st.mk' ((h2,(h3,(h4,(h5,())))),())) (bI fT.xs)
theorem Qk (n:Nat)(h2:List ee.den)(h3:Int)(h4:List ((Ty.str.prod ((Ty.int IntKind.i64).prod ((Ty.int IntKind.i64).prod ((Ty.int IntKind.i64).prod Ty.unit)))).tree 160).den)(h5:Int):va (n+1) h2 h3 h4 h5=wV h2 h3 h4 h5 (va n) some:=by kernel_rfl
theorem Z7 (f:Nd):Tre.mk f.lab f.kids=f:=by cases f;rfl
theorem Pb {l:List Fd}(v:Int)(hl:l.length≤4294967296):∀(k j:Nat) (o:List Fd),l.length<j+k→j≤l.length→o.length≤j→
  va k l v o j=some (.ret ((),((o++cP (l.drop j) v,()),()))):=by
 intro k
 induction k with
 |zero=>intro j o h1 h2 h3;omega
 |succ k ih=>
  intro j o h1 h2 h3
  rw[Qk]
  unfold wV
  by_cases hj:j<l.length
  ·refine (aa (decide_eq_true (show (j:Int)<(l.length:Int) by omega)) _ _).trans ?_
   refine (aa (by simp;omega) _ _).trans ?_
   have hg:List.getD l ((j:Int)).toNat (Tre.mk (([]:List Int),(0:Int),(0:Int),(0:Int),()) ([]:List Fd))=l[j]:=by simp only[Int.toNat_natCast];exact aH hj
   simp only[hg]
   rw[az (n:=(j:Int)+1) (by omega) (by omega)]
   have hd:l.drop j=l[j]::l.drop (j+1):=List.drop_eq_getElem_cons hj
   generalize l[j]=x at hd ⊢
   obtain ⟨a,ks⟩:=x
   by_cases hh:gd (Tre.mk a ks) v=true
   ·refine (aa hh _ _).trans ?_
    refine (aa (by simp;omega) _ _).trans ?_
    refine (aa (decide_eq_true (show o.length+1≤4294967296 by omega)) _ _).trans ?_
    refine (ih (j+1) (o++[Tre.mk a ks]) (by omega) (by omega) (by simp;omega)).trans ?_
    rw[hd]
    simp[cP,hh]
   ·have hh:gd (Tre.mk a ks) v=false:=by simpa using hh
    refine (ab hh _ _).trans ?_
    refine (ih (j+1) o (by omega) (by omega) (by omega)).trans ?_
    rw[hd]
    simp[cP,hh]
  ·refine (ab (decide_eq_false (show ¬(j:Int)<(l.length:Int) by omega)) _ _).trans ?_
   rw[List.drop_of_length_le (by omega)]
   simp[cP]
def Cx (a0:List ee.den)(a1:Int):Option lP.Res:=(oY ((a0,(a1,([],(0,())))),())).run fun y=>match y with | .ret ((),((x15,()),()))=>(some (Out.ret ((x15,()),())))
theorem UZ (a0:List ee.den)(a1:Int):Io.run tt Nj dr xD lP Tryz.f210 ((a0,a1,()),())=Cx a0 a1:=by kernel_rfl
theorem xI:HcOk prog 210 (ah lP Eo):=by
 refine aj (n:=400) hm (cs:=EO) (.cons pv .nil) (lp:=xD) (fn:=Tryz.f210) (by kernel_rfl) (by kernel_rfl) (by kernel_rfl) lP (.step (h0:=aP fT oY) (by kernel_rfl) (aw (n:=400) hm (cs:=EO) (.cons pv .nil) (lp:=xD) (fn:=Tryz.f210) (.done (by kernel_rfl)) fT oY ?_) (.done (by kernel_rfl))) Eo ?_
 ·rintro ⟨⟨(l:List Fd),(v:Int),(o:List Fd),(i:Int),⟨⟩⟩,⟨⟩⟩ y hw hy
  obtain ⟨hg,hy⟩:=Tr.guard hy
  simp only[Bool.and_eq_true,decide_eq_true_eq] at hg
  obtain ⟨h1,h2,h3⟩:=hg
  have h1:o=[]:=List.eq_nil_of_length_eq_zero h1
  have h2:i=0:=h2
  have h3:l.length≤4294967296:=h3
  subst h1
  subst h2
  refine ⟨l.length+1,(Pb v h3 (l.length+1) 0 [] (by omega) (by omega) (by simp)).trans ?_⟩
  rw[← hy];rfl
 ·rintro ⟨⟨(l:List Fd),(v:Int),⟨⟩⟩,⟨⟩⟩ out hw ho
  obtain ⟨hg,ho⟩:=Tr.guard ho
  have hg:l.length≤4294967296:=of_decide_eq_true hg
  cases ho
  refine (UZ l v).trans ?_
  unfold Cx
  have e:oY ((l,(v,(([]:List Fd),(0,())))),())=.ite true (.ret (.ret ((),((cP l v,()),())))) .no:=congrArg (fun c=>Tr.ite c _ _) (by simp[hg])
  rw[e]
  rfl
end
end Go.Proofs.YtomeplopmndbgaaGreat.Sym
namespace Go.Proofs.YtomeplopmndbgaaGreat.Sym
open Go
set_option linter.unusedSimpArgs false
set_option linter.unusedVariables false
structure FuT where
 n:Nat
@[irreducible] noncomputable def aB [i:Inhabited FuT]:Nat:=i.default.n
mutual
def Tre.wt {α:Type}(f:α→Nat):Tre α→Nat
 |.mk l ks=>1+f l+Tre.wts f ks
def Tre.wts {α:Type}(f:α→Nat):List (Tre α)→Nat
 |[]=>0
 |k::ks=>k.wt f+Tre.wts f ks
end
theorem Tre.wt_pos {α:Type}(f:α→Nat)(t:Tre α):1≤t.wt f:=by cases t;simp only[Tre.wt];omega
theorem Tre.wts_len {α:Type}(f:α→Nat):∀l:List (Tre α),l.length≤Tre.wts f l
 |[]=>Nat.zero_le _
 |k::ks=>by
  have h1:=k.wt_pos f
  have h2:=Tre.wts_len f ks
  simp only[Tre.wts,List.length_cons];omega
theorem Tre.wts_mem {α:Type}{f:α→Nat}{k:Tre α}:∀{l:List (Tre α)},k∈l→k.wt f≤Tre.wts f l
 |k'::ks,h=>by
  simp only[Tre.wts]
  rcases List.mem_cons.1 h with rfl | h
  ·omega
  ·have:=Tre.wts_mem (f:=f) h;omega
theorem Tre.wt_eq {α:Type}(f:α→Nat)(t:Tre α):t.wt f=1+f t.lab+Tre.wts f t.kids:=by cases t;rfl
noncomputable section
@[irreducible] noncomputable def aO (n:Nd):Nat:=n.wt fun l=>l.2.2.2.1.length
@[irreducible] noncomputable def aD (l:List Nd):Nat:=Tre.wts (fun l=>l.2.2.2.1.length) l
theorem cC (n:Nd):aO n=1+n.lab.2.2.2.1.length+aD n.kids:=by unfold aO aD;exact Tre.wt_eq _ n
theorem cR {k:Nd}{l:List Nd}(h:k∈l):aO k≤aD l:=by unfold aO aD;exact Tre.wts_mem h
theorem fq (l:List Nd):l.length≤aD l:=by unfold aD;exact Tre.wts_len _ l
open Classical in
def dW (a b:Nd):Bool:=if a=b then true else false
open Classical in
def rZ (a b:List Nd):Bool:=if a=b then true else false
theorem kr {a b:Nd}:dW a b=true↔a=b:=by unfold dW;split <;> simp_all
theorem od {a b:List Nd}:rZ a b=true↔a=b:=by unfold rZ;split <;> simp_all
theorem FuT.val (n:Nat):@aB ⟨⟨n⟩⟩=n:=by unfold aB;rfl
theorem HcOk.none {f:Nat}{fn:Func}(hf:prog.funcs[f]?=some fn)(hname:(fn.name == "runtime.NumGoroutine")=false) (hbody:fn.body.isNone=false) (io:Io) (Fn:io.In→Tr io.Res) (hn:∀d out,(Fn d).val≠some out):HcOk prog f (ah io Fn):=
 uU (gH prog 400) hf hname io Fn (fun d out _ h=>absurd h (hn d out)) hbody
theorem Tr.val_run {α R:Type}:∀{t:Tr α} {K:α→Option R} {a:α},t.val=some a→t.run K=K a
 |.ret a,K,b,h=>by simp only[Tr.val,Tr.run,Option.some.injEq] at h;subst h;rfl
 |.no,K,b,h=>by cases h
 |.ite c t e,K,b,h=>by
  cases c with
  |true=>exact Tr.val_run (t:=t) h
  |false=>exact Tr.val_run (t:=e) h
theorem HcOk.lim {f:Nat}{io:Io}{Fs:Nat→io.In→Tr io.Res}{Fn:io.In→Tr io.Res}(h:∀n,HcOk prog f (ah io (Fs n)))(hF:∀d,∃n,∀out,(Fn d).val=some out→(Fs n d).val=some out):HcOk prog f (ah io Fn):=by
 intro R args id A K r F G ts cst w vals hid hc Rl hv
 unfold ah at hc
 cases h1:wD io.args args (List.replicate io.obs.length Option.none) with
 |none=>rw[h1] at hc;cases hc
 |some p=>
  obtain ⟨a,β1⟩:=p
  rw[h1] at hc
  simp only at hc
  cases h2:Pd A.ob io.obs 0 β1 with
  |none=>rw[h2] at hc;cases hc
  |some q=>
   obtain ⟨o,β⟩:=q
   rw[h2] at hc
   simp only at hc
   obtain ⟨n,hn⟩:=hF (a,o)
   refine h n R args id A K r F G ts cst w vals hid ?_ Rl hv
   unfold ah
   rw[h1]
   simp only[h2]
   revert hc
   cases bK ((jF (dG 0) io.args args 0++mw A.ob β (nb io.obs.length 0) io.obs 0).map (·.2))&&(bK ((jF (dG 0) io.args args 0++mw A.ob β (nb io.obs.length 0) io.obs 0).map (·.1))&&io.ok) with
   |false=>intro hc;cases hc
   |true=>
    intro hc
    obtain ⟨out,ho,hk⟩:=Tr.run_val hc
    exact (Tr.val_run (hn out ho)).trans hk
theorem m0 (n:Nd):1≤aO n:=by rw[cC];omega
theorem Vv {a b c d:Int}{z z':Bool}{x y:List Int}{l m:List Nd}:dW (.mk (a,(c,(z,(x,())))) l) (.mk (b,(d,(z',(y,())))) m)=true↔a=b∧c=d∧z=z'∧x=y∧l=m:=by
 rw[kr]
 constructor
 ·intro h
  injection h with h1 h2
  injection h1 with h3 h4
  injection h4 with h5 h6
  injection h6 with h7 h8
  injection h8 with h9 h10
  exact ⟨h3,h5,h7,h9,h2⟩
 ·rintro ⟨rfl,rfl,rfl,rfl,rfl⟩;rfl
abbrev en:Io:=⟨[du,du],[],[],[dB],none⟩
def oX (n:Nat)(d:en.In):Tr en.Res:=.ite (decide (aO d.1.1<n)) (.ret (.ret ((dW d.1.1 d.1.2.1,()),()))) .no
def Mv (d:en.In):Tr en.Res:=.ret (.ret ((dW d.1.1 d.1.2.1,()),()))
section
variable [Inhabited FuT]
abbrev y6:List (Nat×Hc):=[(28,ah np Gr),(51,ah en (oX aB))]
def HQ:Hd:=bz y6
abbrev eP:Lo:=⟨⟨(be (.one (.ptr 2 0)::.one (.ptr 3 0)::.any::.one (.hol (.int IntKind.i64))::.any::ai (ai (ai (bJ (be [])))))),[none,none,some [.hol (.int IntKind.i64),.hol (.int IntKind.i64),.hol .bool,.hol (.sl 5 (Ty.int IntKind.u8)),.hol (.sl 91 ap)],some [.hol (.int IntKind.i64),.hol (.int IntKind.i64),.hol .bool,.hol (.sl 5 (Ty.int IntKind.u8)),.hol (.sl 91 ap)]]⟩,[(.ret,⟨(bJ (.one (.hol .bool)::ai (ai (ai (dE []))))),[]⟩),(.exit 0,⟨(.any::ai (ai (ai (dE (bJ []))))),[]⟩)]⟩
def mH (d:eP.st.den):Tr (ax eP.xs):=
 .ite (decide (d.1.1=0)&&(decide (d.2.1.2.2.2.2.1.length=d.2.2.1.2.2.2.2.1.length)&&decide (aD d.2.1.2.2.2.2.1<aB))) (.ite (rZ d.2.1.2.2.2.2.1 d.2.2.1.2.2.2.2.1) (.ret (.pan (.ret ((),((),()))))) (.ret (.ret ((),((false,()),()))))) .no
def tA:Lp:=bo [(5,aP eP mH)]
def um {R:Type}(h2 h3 h4:Int)(h5:Bool)(h6:List Int)(h7:List (Nd))(h8 h9:Int)(h10:Bool)(h11:List Int)(h12:List (Nd))(next:Int→Int→Int→Bool→List Int→List (Nd)→Int→Int→Bool→List Int→List (Nd)→Option R)(out:ax eP.xs→Option R):Option R:=bif decide (h2<(↑h7.length:Int)) then bif decide (0≤h2)&&decide (h2<(↑h7.length:Int)) then bif decide (0≤h2)&&decide (h2<(↑h12.length:Int)) then bif decide (aO (Tre.mk (h7.getD h2.toNat (Tre.mk (0,0,false,[],()) [])).1 (h7.getD h2.toNat (Tre.mk (0,0,false,[],()) [])).2)<aB) then bif !dW (Tre.mk (h7.getD h2.toNat (Tre.mk (0,0,false,[],()) [])).1 (h7.getD h2.toNat (Tre.mk (0,0,false,[],()) [])).2) (Tre.mk (h12.getD h2.toNat (Tre.mk (0,0,false,[],()) [])).1 (h12.getD h2.toNat (Tre.mk (0,0,false,[],()) [])).2) then out (.ret ((),((false,()),()))) else next (IntKind.i64.wrap (h2+1)) (h3) (h4) (h5) (h6) (h7) (h8) (h9) (h10) (h11) (h12) else none else none else none else out (.pan (.ret ((),((),()))))
def rL (n:Nat)(h2 h3 h4:Int)(h5:Bool)(h6:List Int)(h7:List (Nd))(h8 h9:Int)(h10:Bool)(h11:List Int)(h12:List (Nd)):Option (ax eP.xs):=gk tt HQ dr tA 0 Tryz.f51 (cI Tryz.f51 0) n (eP.st.mk' ((h2,()),((h3,(h4,(h5,(h6,(h7,()))))),((h8,(h9,(h10,(h11,(h12,()))))),())))) (bI eP.xs)
theorem LI (n:Nat)(h2 h3 h4:Int)(h5:Bool)(h6:List Int)(h7:List (Nd))(h8 h9:Int)(h10:Bool)(h11:List Int)(h12:List (Nd)):rL (n+1) h2 h3 h4 h5 h6 h7 h8 h9 h10 h11 h12=um h2 h3 h4 h5 h6 h7 h8 h9 h10 h11 h12 (rL n) some:=by kernel_rfl
theorem KM {l m:List Nd}(hlm:l.length=m.length)(hl:l.length≤maxLen)(hw:aD l<aB)(a b c d:Int)(z z':Bool)(x y:List Int):∀(k j:Nat),l.length<j+k→j≤l.length→l.take j=m.take j→
  rL k j a b z x l c d z' y m=if rZ l m=true then some (.pan (.ret ((),((),())))) else some (.ret ((),((false,()),()))):=by
 intro k
 induction k with
 |zero=>intro j h1 h2;omega
 |succ k ih=>
  intro j h1 h2 h3
  rw[LI]
  unfold um
  by_cases hj:j<l.length
  ·have hj':j<m.length:=by omega
   refine (aa (decide_eq_true (show (j:Int)<(l.length:Int) by omega)) _ _).trans ?_
   refine (aa (by simp;omega) _ _).trans ?_
   refine (aa (by simp;omega) _ _).trans ?_
   rw[bb hj hl]
   have hmem:=cR (List.getElem_mem hj)
   have ht:l.take (j+1)=m.take (j+1)↔l[j]=m[j]:=by
    rw[List.take_succ_eq_append_getElem hj,List.take_succ_eq_append_getElem hj',h3]
    exact ⟨fun h=>by have:=(List.append_inj' h rfl).2;injection this,fun h=>by rw[h]⟩
   have hne:l[j]≠m[j]→l≠m:=fun h e=>h (by subst e;rfl)
   have ih':=ih (j+1) (by omega) (by omega)
   simp only[Int.toNat_natCast,aH hj,aH hj']
   generalize l[j]=u at hmem ht hne ⊢
   generalize m[j]=v at ht hne ⊢
   obtain ⟨ul,uk⟩:=u
   obtain ⟨vl,vk⟩:=v
   refine (aa (decide_eq_true (show aO (Tre.mk ul uk)<aB by omega)) _ _).trans ?_
   by_cases he:dW (Tre.mk ul uk) (Tre.mk vl vk)=true
   ·refine (ab (show (!dW (Tre.mk ul uk) (Tre.mk vl vk))=false by rw[he];rfl) _ _).trans ?_
    exact ih' (ht.2 (kr.1 he))
   ·refine (aa (show (!dW (Tre.mk ul uk) (Tre.mk vl vk))=true by simpa using he) _ _).trans ?_
    rw[if_neg (fun h=>hne (fun e=>he (kr.2 e)) (od.1 h))]
  ·refine (ab (decide_eq_false (show ¬(j:Int)<(l.length:Int) by omega)) _ _).trans ?_
   rw[List.take_of_length_le (by omega),List.take_of_length_le (by omega)] at h3
   rw[if_pos (od.2 h3)]
def yJ (a0 a1:Nd):Option en.Res:=bif a0.1.1 != a1.1.1 then some (Out.ret ((false,()),())) else bif a0.1.2.1 != a1.1.2.1 then some (Out.ret ((false,()),())) else bif !a0.1.2.2.1 == a1.1.2.2.1 then some (Out.ret ((false,()),())) else bif !decide (a0.1.2.2.2.1=a1.1.2.2.2.1) then some (Out.ret ((false,()),())) else bif (↑a0.2.length:Int) != (↑a1.2.length:Int) then some (Out.ret ((false,()),())) else (mH ((0,()),((a0.1.1,(a0.1.2.1,(a0.1.2.2.1,(a0.1.2.2.2.1,(a0.2,()))))),((a1.1.1,(a1.1.2.1,(a1.1.2.2.1,(a1.1.2.2.2.1,(a1.2,()))))),())))).run fun y=>match y with | .ret ((),((x25,()),()))=>(some (Out.ret ((x25,()),()))) | .pan (.ret ((),((),())))=>(some (Out.ret ((true,()),())))
theorem PZ (a0 a1:Nd):Io.run tt HQ dr tA en Tryz.f51 ((a0,a1,()),())=yJ a0 a1:=by kernel_rfl
theorem Pv (rtAlike:HcOk prog 51 (ah en (oX aB))):HcOk prog 51 (ah en (oX (aB+1))):=by
 refine aj (n:=400) hm (cs:=y6) (.cons FH (.cons rtAlike .nil)) (lp:=tA) (fn:=Tryz.f51) (by kernel_rfl) (by kernel_rfl) (by kernel_rfl) en (.step (h0:=aP eP mH) (by kernel_rfl) (aw (n:=400) hm (cs:=y6) (.cons FH (.cons rtAlike .nil)) (lp:=tA) (fn:=Tryz.f51) (.done (by kernel_rfl)) eP mH ?_) (.done (by kernel_rfl))) (oX (aB+1)) ?_
 ·rintro ⟨⟨(i:Int),⟨⟩⟩,⟨⟨(a:Int),(b:Int),(z:Bool),(x:List Int),(l:List Nd),⟨⟩⟩,⟨(c:Int),(d:Int),(z':Bool),(y':List Int),(m:List Nd),⟨⟩⟩,⟨⟩⟩⟩ y hw hy
  obtain ⟨hg,hy⟩:=Tr.guard hy
  simp only[Bool.and_eq_true,decide_eq_true_eq] at hg
  obtain ⟨h1,h2,h3⟩:=hg
  have h1:i=0:=h1
  have h2:l.length=m.length:=h2
  have h3:aD l<aB:=h3
  subst h1
  refine ⟨l.length+1,(KM h2 (by have:=hw.2.1.2.2.2.2.1.1;exact this) h3 a b c d z z' x y' (l.length+1) 0 (by omega) (by omega) rfl).trans ?_⟩
  rw[← hy]
  by_cases h:rZ l m=true
  ·rw[if_pos h];exact (aa h _ _).symm
  ·rw[if_neg h];exact (ab (by simpa using h) _ _).symm
 ·rintro ⟨⟨(a:Nd),(b:Nd),⟨⟩⟩,⟨⟩⟩ out hw ho
  obtain ⟨hg,ho⟩:=Tr.guard ho
  have hk:aO a<aB+1:=of_decide_eq_true hg
  clear hg
  cases ho
  refine (PZ a b).trans ?_
  unfold yJ
  show _=some (Out.ret ((dW a b,()),()))
  obtain ⟨⟨a1,a2,a3,a4,⟨⟩⟩,a5⟩:=a
  obtain ⟨⟨b1,b2,b3,b4,⟨⟩⟩,b5⟩:=b
  rw[cC] at hk
  have hk:1+a4.length+aD a5<aB+1:=hk
  have key:=Vv (a:=a1) (b:=b1) (c:=a2) (d:=b2) (z:=a3) (z':=b3) (x:=a4) (y:=b4) (l:=a5) (m:=b5)
  have no:¬(a1=b1∧a2=b2∧a3=b3∧a4=b4∧a5=b5)→dW (Tre.mk (a1,(a2,(a3,(a4,())))) a5) (Tre.mk (b1,(b2,(b3,(b4,())))) b5)=false:=fun h=>by
   rw[Bool.eq_false_iff];exact fun e=>h (key.1 e)
  by_cases h1:a1=b1
  ·refine (ab (by simpa using h1) _ _).trans ?_
   by_cases h2:a2=b2
   ·refine (ab (by simpa using h2) _ _).trans ?_
    by_cases h3:a3=b3
    ·refine (ab (by simp[h3]) _ _).trans ?_
     by_cases h4:a4=b4
     ·refine (ab (by simp[h4]) _ _).trans ?_
      by_cases h5:a5.length=b5.length
      ·refine (ab (by simp[h5]) _ _).trans ?_
       have c1:(decide ((0:Int)=0)&&(decide (a5.length=b5.length)&&decide (aD a5<aB)))=true:=by simp;omega
       have e1:mH ((0,()),((a1,(a2,(a3,(a4,(a5,()))))),((b1,(b2,(b3,(b4,(b5,()))))),())))=.ite true (.ite (rZ a5 b5) (.ret (.pan (.ret ((),((),()))))) (.ret (.ret ((),((false,()),()))))) .no:=congrArg (fun c=>Tr.ite c _ _) c1
       rw[e1]
       by_cases h6:a5=b5
       ·rw[od.2 h6,key.2 ⟨h1,h2,h3,h4,h6⟩];rfl
       ·have:rZ a5 b5=false:=by rw[Bool.eq_false_iff];exact fun e=>h6 (od.1 e)
        rw[this,no (fun h=>h6 h.2.2.2.2)];rfl
      ·refine (aa (bne_iff_ne.2 (fun e=>h5 (Int.ofNat.inj e))) _ _).trans ?_
       rw[no (fun h=>h5 (by rw[h.2.2.2.2]))]
     ·refine (aa (by simp[h4]) _ _).trans ?_
      rw[no (fun h=>h4 h.2.2.2.1)]
    ·refine (aa (by cases a3 <;> cases b3 <;> simp_all) _ _).trans ?_
     rw[no (fun h=>h3 h.2.2.1)]
   ·refine (aa (by simpa using h2) _ _).trans ?_
    rw[no (fun h=>h2 h.2.1)]
  ·refine (aa (by simpa using h1) _ _).trans ?_
   rw[no (fun h=>h1 h.1)]
end
theorem Pu (n:Nat):HcOk prog 51 (ah en (oX n)):=by
 induction n with
 |zero=>exact HcOk.none (fn:=Tryz.f51) (by kernel_rfl) (by kernel_rfl) (by kernel_rfl) _ _ fun d out h=>by cases h
 |succ n ih=>
  have:=@Pv ⟨⟨n⟩⟩ (by rw[FuT.val];exact ih)
  rw[FuT.val] at this
  exact this
theorem IO:HcOk prog 51 (ah en Mv):=by
 refine HcOk.lim Pu fun d=>⟨aO d.1.1+1,fun out h=>?_⟩
 exact (aa (decide_eq_true (Nat.lt_succ_self _)) _ _).trans h
abbrev eJ:Io:=⟨[du],[],[],[du],none⟩
def sw (n:Nat)(d:eJ.In):Tr eJ.Res:=.ite (decide (aO d.1.1<n)&&decide (aO d.1.1≤4294967296)) (.ret (.ret ((d.1.1,()),()))) .no
def Er (d:eJ.In):Tr eJ.Res:=.ite (decide (aO d.1.1≤4294967296)) (.ret (.ret ((d.1.1,()),()))) .no
section
variable [Inhabited FuT]
abbrev EP:List (Nat×Hc):=[(27,ah mh BM),(83,ah eJ (sw aB))]
def Nk:Hd:=bz EP
abbrev fU:Lo:=⟨⟨(.any::.one (.ptr 1 0)::.one (.ptr 2 0)::.one (.onl 91 ap 7)::.one (.hol (.int IntKind.i64))::ai (dE (bJ []))),[none,some [.hol (.int IntKind.i64),.hol (.int IntKind.i64),.hol .bool,.hol (.sl 5 (Ty.int IntKind.u8)),.hol (.sl 91 ap)],some [.hol (.int IntKind.i64),.hol (.int IntKind.i64),.hol .bool,.onl 5 (Ty.int IntKind.u8) 1032,.onl 91 ap 1034]]⟩,[(.exit 0,⟨(.any::.one (.ptr 1 0)::.one (.ptr 2 0)::.one (.onl 91 ap 7)::.any::ai (dE (bJ []))),[none,some [.hol (.int IntKind.i64),.hol (.int IntKind.i64),.hol .bool,.hol (.sl 5 (Ty.int IntKind.u8)),.hol (.sl 91 ap)],some [.hol (.int IntKind.i64),.hol (.int IntKind.i64),.hol .bool,.onl 5 (Ty.int IntKind.u8) 1032,.onl 91 ap 1034]]⟩)]⟩
def oZ (d:fU.st.den):Tr (ax fU.xs):=
 .ite (decide (d.1.1.length=0)&&(decide (d.1.2.1=0)&&(decide (aD d.2.1.2.2.2.2.1<aB)&&decide (aD d.2.1.2.2.2.2.1≤4294967296)))) (.ret (.ret ((),((d.2.1.2.2.2.2.1,()),d.2)))) .no
def xE:Lp:=bo [(4,aP fU oZ)]
def wW {R:Type}(h1:List ap.den)(h2 h3 h4:Int)(h5:Bool)(h6:List Int)(h7:List (Nd))(h8 h9:Int)(h10:Bool)(h11:List Int)(h12:List ap.den)(next:List ap.den→Int→Int→Int→Bool→List Int→List (Nd)→Int→Int→Bool→List Int→List ap.den→Option R)(out:ax fU.xs→Option R):Option R:=bif decide (h2<(↑h7.length:Int)) then bif decide (0≤h2)&&decide (h2<(↑h7.length:Int)) then bif decide (aO (Tre.mk (h7.getD h2.toNat (Tre.mk (0,0,false,[],()) [])).1 (h7.getD h2.toNat (Tre.mk (0,0,false,[],()) [])).2)<aB)&&decide (aO (Tre.mk (h7.getD h2.toNat (Tre.mk (0,0,false,[],()) [])).1 (h7.getD h2.toNat (Tre.mk (0,0,false,[],()) [])).2)≤4294967296) then bif decide (h1.length+1≤4294967296) then next (h1++[Tre.mk (h7.getD h2.toNat (Tre.mk (0,0,false,[],()) [])).1 (h7.getD h2.toNat (Tre.mk (0,0,false,[],()) [])).2]) (IntKind.i64.wrap (h2+1)) (h3) (h4) (h5) (h6) (h7) (h8) (h9) (h10) (h11) (h12) else none else none else none else out (.ret ((),((h1,()),((h3,(h4,(h5,(h6,(h7,()))))),((h8,(h9,(h10,(h11,(h12,()))))),())))))
def vb (n:Nat)(h1:List ap.den)(h2 h3 h4:Int)(h5:Bool)(h6:List Int)(h7:List (Nd))(h8 h9:Int)(h10:Bool)(h11:List Int)(h12:List ap.den):Option (ax fU.xs):=gk tt Nk dr xE 0 Tryz.f83 (cI Tryz.f83 0) n (fU.st.mk' ((h1,(h2,())),((h3,(h4,(h5,(h6,(h7,()))))),((h8,(h9,(h10,(h11,(h12,()))))),())))) (bI fU.xs)
theorem Ql (n:Nat)(h1:List ap.den)(h2 h3 h4:Int)(h5:Bool)(h6:List Int)(h7:List (Nd))(h8 h9:Int)(h10:Bool)(h11:List Int)(h12:List ap.den):vb (n+1) h1 h2 h3 h4 h5 h6 h7 h8 h9 h10 h11 h12=wW h1 h2 h3 h4 h5 h6 h7 h8 h9 h10 h11 h12 (vb n) some:=by kernel_rfl
theorem Pc {l:List Nd}(hw:aD l<aB)(hb:aD l≤4294967296)(a b:Int)(z:Bool)(x:List Int)(c d:Int)(z':Bool)(y:List Int)(m:List Nd):∀(k j:Nat),l.length<j+k→j≤l.length→
  vb k (l.take j) j a b z x l c d z' y m=some (.ret ((),((l,()),((a,(b,(z,(x,(l,()))))),((c,(d,(z',(y,(m,()))))),()))))):=by
 intro k
 induction k with
 |zero=>intro j h1 h2;omega
 |succ k ih=>
  intro j h1 h2
  rw[Ql]
  unfold wW
  by_cases hj:j<l.length
  ·refine (aa (decide_eq_true (show (j:Int)<(l.length:Int) by omega)) _ _).trans ?_
   refine (aa (by simp;omega) _ _).trans ?_
   have hlen:=fq l
   rw[az (n:=(j:Int)+1) (by omega) (by omega)]
   have hmem:=cR (List.getElem_mem hj)
   have ht:l.take (j+1)=l.take j++[l[j]]:=List.take_succ_eq_append_getElem hj
   have ih':=ih (j+1) (by omega) (by omega)
   rw[ht] at ih'
   simp only[Int.toNat_natCast,aH hj]
   generalize l[j]=u at hmem ht ih' ⊢
   obtain ⟨ul,uk⟩:=u
   refine (aa (show (decide (aO (Tre.mk ul uk)<aB)&&decide (aO (Tre.mk ul uk)≤4294967296))=true by simp;omega) _ _).trans ?_
   refine (aa (decide_eq_true (show (l.take j).length+1≤4294967296 by simp;omega)) _ _).trans ?_
   exact ih'
  ·refine (ab (decide_eq_false (show ¬(j:Int)<(l.length:Int) by omega)) _ _).trans ?_
   rw[List.take_of_length_le (by omega)]
def Cy (a0:Nd):Option eJ.Res:=(oZ (([],(0,())),((a0.1.1,(a0.1.2.1,(a0.1.2.2.1,(a0.1.2.2.2.1,(a0.2,()))))),((0,(0,(false,([],([],()))))),())))).run fun y=>match y with | .ret ((),((x36,()),(x37,x38,x39,x40,x41,()),(x42,x43,x44,x45,x46,()),()))=>(bif decide (x40.length≤4294967296) then some (Out.ret ((Tre.mk (x37,x38,x39,x40,()) x36,()),())) else none)
theorem U2 (a0:Nd):Io.run tt Nk dr xE eJ Tryz.f83 ((a0,()),())=Cy a0:=by kernel_rfl
theorem Ue (rtTwin:HcOk prog 83 (ah eJ (sw aB))):HcOk prog 83 (ah eJ (sw (aB+1))):=by
 refine aj (n:=400) hm (cs:=EP) (.cons rT (.cons rtTwin .nil)) (lp:=xE) (fn:=Tryz.f83) (by kernel_rfl) (by kernel_rfl) (by kernel_rfl) eJ (.step (h0:=aP fU oZ) (by kernel_rfl) (aw (n:=400) hm (cs:=EP) (.cons rT (.cons rtTwin .nil)) (lp:=xE) (fn:=Tryz.f83) (.done (by kernel_rfl)) fU oZ ?_) (.done (by kernel_rfl))) (sw (aB+1)) ?_
 ·rintro ⟨⟨(o:List Nd),(i:Int),⟨⟩⟩,⟨⟨(a:Int),(b:Int),(z:Bool),(x:List Int),(l:List Nd),⟨⟩⟩,⟨(c:Int),(d:Int),(z':Bool),(y':List Int),(m:List Nd),⟨⟩⟩,⟨⟩⟩⟩ y hw hy
  obtain ⟨hg,hy⟩:=Tr.guard hy
  simp only[Bool.and_eq_true,decide_eq_true_eq] at hg
  obtain ⟨h1,h2,h3,h4⟩:=hg
  have h1:o=[]:=List.eq_nil_of_length_eq_zero h1
  have h2:i=0:=h2
  have h3:aD l<aB:=h3
  have h4:aD l≤4294967296:=h4
  subst h1
  subst h2
  refine ⟨l.length+1,(Pc h3 h4 a b z x c d z' y' m (l.length+1) 0 (by omega) (by omega)).trans ?_⟩
  rw[← hy]
  rfl
 ·rintro ⟨⟨(a:Nd),⟨⟩⟩,⟨⟩⟩ out hw ho
  obtain ⟨hg,ho⟩:=Tr.guard ho
  simp only[Bool.and_eq_true,decide_eq_true_eq] at hg
  obtain ⟨hk,hb⟩:=hg
  have hk:aO a<aB+1:=hk
  have hb:aO a≤4294967296:=hb
  cases ho
  refine (U2 a).trans ?_
  unfold Cy
  show _=some (Out.ret ((a,()),()))
  obtain ⟨⟨a1,a2,a3,a4,⟨⟩⟩,a5⟩:=a
  rw[cC] at hk hb
  have hk:1+a4.length+aD a5<aB+1:=hk
  have hb:1+a4.length+aD a5≤4294967296:=hb
  have c1:(decide (([]:List Nd).length=0)&&(decide ((0:Int)=0)&&(decide (aD a5<aB)&&decide (aD a5≤4294967296))))=true:=by simp;omega
  have e1:oZ ((([]:List Nd),(0,())),((a1,(a2,(a3,(a4,(a5,()))))),((0,(0,(false,(([]:List Int),(([]:List Nd),()))))),())))=.ite true (.ret (.ret ((),((a5,()),((a1,(a2,(a3,(a4,(a5,()))))),((0,(0,(false,(([]:List Int),(([]:List Nd),()))))),())))))) .no:=congrArg (fun c=>Tr.ite c _ _) c1
  rw[e1]
  exact aa (decide_eq_true (show a4.length≤4294967296 by omega)) _ _
end
theorem Ud (n:Nat):HcOk prog 83 (ah eJ (sw n)):=by
 induction n with
 |zero=>exact HcOk.none (fn:=Tryz.f83) (by kernel_rfl) (by kernel_rfl) (by kernel_rfl) _ _ fun d out h=>by cases h
 |succ n ih=>
  have:=@Ue ⟨⟨n⟩⟩ (by rw[FuT.val];exact ih)
  rw[FuT.val] at this
  exact this
theorem FR:HcOk prog 83 (ah eJ Er):=by
 refine HcOk.lim Ud fun d=>⟨aO d.1.1+1,fun out h=>?_⟩
 obtain ⟨hg,h⟩:=Tr.guard h
 refine (aa ?_ _ _).trans h
 simp only[Bool.and_eq_true,decide_eq_true_eq]
 exact ⟨Nat.lt_succ_self _,of_decide_eq_true hg⟩
end
end Go.Proofs.YtomeplopmndbgaaGreat.Sym
namespace Go.Proofs.YtomeplopmndbgaaGreat.Sym
open Go
set_option linter.unusedSimpArgs false
set_option linter.unusedVariables false
noncomputable section
mutual
def bX (f:Fd)(v:Int):Nd→List Int×Int
 |.mk a ks=>
  if ge f.lab.2.1 (.mk a ks)=false then ([],101)
  else if f.lab.2.1≤4 then (if fu a.2.1 (bm f.lab.2.1)=true then (aM a.2.1 (bm f.lab.2.1).toNat,0) else ([],102))
  else if f.lab.2.1=9 then (if 16<ks.length then ([],9) else if (bD (f.kids.headD f) v ks).2≠0 then ([],(bD (f.kids.headD f) v ks).2) else (aM ks.length 4++(bD (f.kids.headD f) v ks).1,0))
  else if f.lab.2.1=10 then bq f.kids v (.mk a ks)
  else if a.2.2.1=true then (if a.2.2.2.1.length=0 then (aM (-1) (bm f.lab.2.1).toNat,0) else ([],70))
  else if f.lab.2.1≤6∧(ca a.2.2.2.1).2=false then ([],6)
  else if f.lab.2.1≤6∧255<a.2.2.2.1.length then ([],4)
  else (aM a.2.2.2.1.length (bm f.lab.2.1).toNat++a.2.2.2.1,0)
termination_by n=>(SizeOf.sizeOf n,1)
def bq (fs:List Fd)(v:Int):Nd→List Int×Int
 |.mk a ks=>if ks.length≠(cP fs v).length then ([],101) else cy v (cP fs v) ks
termination_by n=>(SizeOf.sizeOf n,0)
def bD (f:Fd)(v:Int):List Nd→List Int×Int
 |[]=>([],0)
 |k::ks=>if (bX f v k).2≠0 then ([],(bX f v k).2) else if (bD f v ks).2≠0 then ([],(bD f v ks).2) else ((bX f v k).1++(bD f v ks).1,0)
termination_by l=>(SizeOf.sizeOf l,0)
def cy (v:Int):List Fd→List Nd→List Int×Int
 |f::fs,k::ks=>if (bX f v k).2≠0 then ([],(bX f v k).2) else if (cy v fs ks).2≠0 then ([],(cy v fs ks).2) else ((bX f v k).1++(cy v fs ks).1,0)
 |_,_=>([],0)
termination_by fs l=>(SizeOf.sizeOf l,0)
end
mutual
def Tre.arr:Fd→Bool
 |.mk a ks=>((decide (a.2.1≠9) || decide (ks.length≠0))&&decide (ks.length≤16))&&Tre.arrs ks
def Tre.arrs:List Fd→Bool
 |[]=>true
 |k::ks=>k.arr&&Tre.arrs ks
end
@[irreducible] noncomputable def dx (f:Fd):Bool:=f.arr
@[irreducible] noncomputable def bk (f:List Fd):Bool:=Tre.arrs f
theorem Ax (f:Fd):dx f=(((decide (f.lab.2.1≠9) || decide (f.kids.length≠0))&&decide (f.kids.length≤16))&&bk f.kids):=by
 cases f;unfold dx bk;rfl
theorem jh {k:Fd}:∀{l:List Fd},bk l=true→k∈l→dx k=true
 |[],_,h=>by cases h
 |x::l,h,hk=>by
  unfold bk at h
  simp only[Tre.arrs,Bool.and_eq_true] at h
  rcases List.mem_cons.1 hk with rfl | hk
  ·unfold dx;exact h.1
  ·exact jh (l:=l) (by unfold bk;exact h.2) hk
theorem Jh {l:List Fd}{v:Int}(h:bk l=true):bk (cP l v)=true:=by
 have key:∀l:List Fd,(∀k∈l,dx k=true)→bk l=true:=by
  intro l
  induction l with
  |nil=>intro _;unfold bk;rfl
  |cons x l ih=>
   intro h
   have h1:=ih fun k hk=>h k (List.mem_cons_of_mem _ hk)
   have h2:=h x (by simp)
   unfold bk dx at *
   simp only[Tre.arrs,h1,h2,Bool.and_self]
 refine key _ fun k hk=>jh h (List.mem_filter.1 hk).1
theorem aJ (k:Nd)(ks:List Nd):aD (k::ks)=aO k+aD ks:=by unfold aD aO;rfl
theorem JA (k:Int):1≤bm k∧bm k≤8:=by unfold bm;split;omega;split;omega;split <;> omega
theorem t8 {f:Fd}{v:Int}:∀{ks:List Nd},(∀k∈ks,(bX f v k).1.length≤8*aO k)→(bD f v ks).1.length≤8*aD ks
 |[],_=>by rw[bD];simp
 |k::ks,h=>by
  have h1:=h k (by simp)
  have h2:=t8 (f:=f) (v:=v) (ks:=ks) fun k hk=>h k (List.mem_cons_of_mem _ hk)
  rw[bD,aJ]
  split
  ·simp
  ·split
   ·simp
   ·rw[List.length_append];omega
theorem AV {v:Int}:∀{fs:List Fd} {ks:List Nd},(∀f,∀k∈ks,(bX f v k).1.length≤8*aO k)→(cy v fs ks).1.length≤8*aD ks
 |f::fs,k::ks,h=>by
  have h1:=h f k (by simp)
  have h2:=AV (v:=v) (fs:=fs) (ks:=ks) fun f k hk=>h f k (List.mem_cons_of_mem _ hk)
  rw[cy,aJ]
  split
  ·simp
  ·split
   ·simp
   ·rw[List.length_append];omega
 |[],ks,h=>by rw[cy];simp;simp
 |_::_,[],h=>by rw[cy];simp;simp
theorem L5 {v:Int}:∀{fs:List Fd} {ks:List Nd},(cy v fs ks).2≠0→(cy v fs ks).1=[]
 |[],ks,h=>by rw[cy];simp
 |_::_,[],h=>by rw[cy];simp
 |f::fs,k::ks,h=>by
  rw[cy] at h ⊢
  split
  ·rfl
  ·rename_i h1
   rw[if_neg h1] at h
   split
   ·rfl
   ·rename_i h2
    rw[if_neg h2] at h
    exact absurd rfl h
theorem L6 (v:Int):∀(N:Nat),(∀f n,aO n≤N→(bX f v n).1.length≤8*aO n)∧(∀fs n,aO n≤N→(bq fs v n).1.length+8≤8*aO n):=by
 intro N
 induction N with
 |zero=>exact ⟨fun f n h=>by have:=m0 n;omega,fun f n h=>by have:=m0 n;omega⟩
 |succ N ih=>
  have hp:∀fs n,aO n≤N+1→(bq fs v n).1.length+8≤8*aO n:=by
   rintro fs ⟨a,ks⟩ h
   rw[cC] at h ⊢
   rw[bq]
   simp only at h ⊢
   split
   ·simp;omega
   ·have:=AV (v:=v) (fs:=cP fs v) (ks:=ks) fun f k hk=>ih.1 f k (by have:=cR hk;omega)
    omega
  refine ⟨?_,hp⟩
  rintro f ⟨a,ks⟩ h
  have hpp:=hp f.kids (.mk a ks) h
  have hw:=JA f.lab.2.1
  rw[cC] at h hpp ⊢
  rw[bX]
  simp only at h hpp ⊢
  have hi:=t8 (f:=f.kids.headD f) (v:=v) (ks:=ks) fun k hk=>ih.1 _ k (by have:=cR hk;omega)
  split
  ·simp
  split
  ·split
   ·simp[bY];omega
   ·simp
  split
  ·split
   ·simp
   ·split
    ·simp
    ·rw[List.length_append,bY];omega
  split
  ·omega
  split
  ·split
   ·simp[bY];omega
   ·simp
  split
  ·simp
  split
  ·simp
  ·rw[List.length_append,bY];omega
theorem DK (f:Fd)(v:Int)(n:Nd):(bX f v n).1.length≤8*aO n:=(L6 v _).1 f n (Nat.le_refl _)
abbrev dw:Io:=⟨[Kq,dI,du],[],[],[dL,dI],none⟩
def kv (n:Nat)(d:dw.In):Tr dw.Res:=.ite (decide (2*aO d.1.2.2.1+1≤n)&&(dx d.1.1&&decide (8*aO d.1.2.2.1≤4294967296))) (.ret (.ret (((bX d.1.1 d.1.2.1 d.1.2.2.1).1,((bX d.1.1 d.1.2.1 d.1.2.2.1).2,())),()))) .no
abbrev er:Io:=⟨[wl,dI,du],[],[],[dL,dI],none⟩
def o4 (n:Nat)(d:er.In):Tr er.Res:=.ite (decide (2*aO d.1.2.2.1≤n)&&(bk d.1.1&&(decide (8*aO d.1.2.2.1≤4294967296)&&decide (d.1.1.length≤4294967296)))) (.ret (.ret (((bq d.1.1 d.1.2.1 d.1.2.2.1).1,((bq d.1.1 d.1.2.1 d.1.2.2.1).2,())),()))) .no
def Mw (d:er.In):Tr er.Res:=.ite (bk d.1.1&&(decide (8*aO d.1.2.2.1≤4294967296)&&decide (d.1.1.length≤4294967296))) (.ret (.ret (((bq d.1.1 d.1.2.1 d.1.2.2.1).1,((bq d.1.1 d.1.2.1 d.1.2.2.1).2,())),()))) .no
section
variable [Inhabited FuT]
abbrev za:List (Nat×Hc):=[(191,ah iw xk),(217,ah kQ Es),(218,ah nE JU),(39,ah gX si),(211,ah dw (kv aB)),(192,ah er (o4 aB)),(34,ah rE Rg),(38,ah tc Q1)]
def HT:Hd:=bz za
abbrev dJ:Lo:=⟨⟨(.any::.one (.hol (.int IntKind.i64))::.any::.one (.ptr 3 0)::.any::.one (.ptr 5 0)::.any::be (.one (.onl 5 (Ty.int IntKind.u8) 19)::.one (.hol (.int IntKind.i64))::.any::ai (ai (ai (ai (ai (ai (dE (be []))))))))),[none,none,none,some [.hol .str,.hol (.int IntKind.i64),.hol (.int IntKind.i64),.hol (.int IntKind.i64),.hol (.sl 160 ee)],none,some [.hol (.int IntKind.i64),.hol (.int IntKind.i64),.hol .bool,.hol (.sl 5 (Ty.int IntKind.u8)),.hol (.sl 91 (((Ty.int IntKind.i64).prod ((Ty.int IntKind.i64).prod (Ty.bool.prod ((Ty.sl 5 (Ty.int IntKind.u8)).prod Ty.unit)))).tree 91))]]⟩,[(.ret,⟨(bJ (be (.one (.onl 5 (Ty.int IntKind.u8) 13)::.one (.hol (.int IntKind.i64))::ai (ai (ai (ai (ai (ai (dE (bJ (be []))))))))))),[]⟩),(.exit 0,⟨(.any::dE (.one (.onl 5 (Ty.int IntKind.u8) 19)::ai (ai (ai (ai (ai (ai (dE (bJ []))))))))),[]⟩)]⟩
def m4 (d:dJ.st.den):Tr (ax dJ.xs):=
 .ite (decide (d.1.2.2.1=0)&&(decide (d.1.2.1.length=4)&&((decide (d.2.1.2.2.2.2.1.length≠0)&&bk d.2.1.2.2.2.2.1)&&(decide (2*aD d.2.2.1.2.2.2.2.1+1≤aB)&&decide (8+8*aD d.2.2.1.2.2.2.2.1≤4294967296)))))
  (.ite (decide ((bD (d.2.1.2.2.2.2.1.headD (.mk ([],(0,(0,(0,())))) [])) d.1.1 d.2.2.1.2.2.2.2.1).2=0))
   (.ret (.pan (.ret ((),((d.1.2.1++(bD (d.2.1.2.2.2.2.1.headD (.mk ([],(0,(0,(0,())))) [])) d.1.1 d.2.2.1.2.2.2.2.1).1,()),())))))
   (.ret (.ret ((),(([],((bD (d.2.1.2.2.2.2.1.headD (.mk ([],(0,(0,(0,())))) [])) d.1.1 d.2.2.1.2.2.2.2.1).2,())),()))))) .no
def tD:Lp:=bo [(14,aP dJ m4)]
def q5 {R:Type}(h3:Int)(h4:List Int)(h5:Int)(h6:List Int)(h7 h8 h9:Int)(h10:List (Fd))(h11 h12:Int)(h13:Bool)(h14:List Int)(h15:List (Nd))(next:Int→List Int→Int→List Int→Int→Int→Int→List (Fd)→Int→Int→Bool→List Int→List (Nd)→Option R)(out:ax dJ.xs→Option R):Option R:=bif decide (h5<(↑h15.length:Int)) then bif decide (0≤0)&&decide (0<(↑h10.length:Int)) then bif decide (0≤h5)&&decide (h5<(↑h15.length:Int)) then bif decide (2*aO (Tre.mk (h15.getD h5.toNat (Tre.mk (0,0,false,[],()) [])).1 (h15.getD h5.toNat (Tre.mk (0,0,false,[],()) [])).2)+1≤aB)&&(dx (Tre.mk (h10.getD (Int.toNat 0) (Tre.mk ([],0,0,0,()) [])).1 (h10.getD (Int.toNat 0) (Tre.mk ([],0,0,0,()) [])).2)&&decide (8*aO (Tre.mk (h15.getD h5.toNat (Tre.mk (0,0,false,[],()) [])).1 (h15.getD h5.toNat (Tre.mk (0,0,false,[],()) [])).2)≤4294967296)) then bif (bX (Tre.mk (h10.getD (Int.toNat 0) (Tre.mk ([],0,0,0,()) [])).1 (h10.getD (Int.toNat 0) (Tre.mk ([],0,0,0,()) [])).2) h3 (Tre.mk (h15.getD h5.toNat (Tre.mk (0,0,false,[],()) [])).1 (h15.getD h5.toNat (Tre.mk (0,0,false,[],()) [])).2)).2 != 0 then out (.ret ((),(([],((bX (Tre.mk (h10.getD (Int.toNat 0) (Tre.mk ([],0,0,0,()) [])).1 (h10.getD (Int.toNat 0) (Tre.mk ([],0,0,0,()) [])).2) h3 (Tre.mk (h15.getD h5.toNat (Tre.mk (0,0,false,[],()) [])).1 (h15.getD h5.toNat (Tre.mk (0,0,false,[],()) [])).2)).2,())),()))) else bif decide (h4.length+(bX (Tre.mk (h10.getD (Int.toNat 0) (Tre.mk ([],0,0,0,()) [])).1 (h10.getD (Int.toNat 0) (Tre.mk ([],0,0,0,()) [])).2) h3 (Tre.mk (h15.getD h5.toNat (Tre.mk (0,0,false,[],()) [])).1 (h15.getD h5.toNat (Tre.mk (0,0,false,[],()) [])).2)).1.length≤4294967296) then next (h3) (h4++(bX (Tre.mk (h10.getD (Int.toNat 0) (Tre.mk ([],0,0,0,()) [])).1 (h10.getD (Int.toNat 0) (Tre.mk ([],0,0,0,()) [])).2) h3 (Tre.mk (h15.getD h5.toNat (Tre.mk (0,0,false,[],()) [])).1 (h15.getD h5.toNat (Tre.mk (0,0,false,[],()) [])).2)).1) (IntKind.i64.wrap (h5+1)) (h6) (h7) (h8) (h9) (h10) (h11) (h12) (h13) (h14) (h15) else none else none else none else none else out (.pan (.ret ((),((h4,()),()))))
def pl (n:Nat)(h3:Int)(h4:List Int)(h5:Int)(h6:List Int)(h7 h8 h9:Int)(h10:List (Fd))(h11 h12:Int)(h13:Bool)(h14:List Int)(h15:List (Nd)):Option (ax dJ.xs):=gk tt HT dr tD 0 Tryz.f211 (cI Tryz.f211 0) n (dJ.st.mk' ((h3,(h4,(h5,()))),((h6,(h7,(h8,(h9,(h10,()))))),((h11,(h12,(h13,(h14,(h15,()))))),())))) (bI dJ.xs)
theorem I8 (n:Nat)(h3:Int)(h4:List Int)(h5:Int)(h6:List Int)(h7 h8 h9:Int)(h10:List (Fd))(h11 h12:Int)(h13:Bool)(h14:List Int)(h15:List (Nd)):pl (n+1) h3 h4 h5 h6 h7 h8 h9 h10 h11 h12 h13 h14 h15=q5 h3 h4 h5 h6 h7 h8 h9 h10 h11 h12 h13 h14 h15 (pl n) some:=by kernel_rfl
theorem KQ {f0:Fd}{fs:List Fd}{ks:List Nd}{v:Int}(hl:ks.length≤maxLen)(ha:dx f0=true)(hf:2*aD ks+1≤aB)(hb:8*aD ks≤4294967296)(nm:List Int)(k' lo hi a b:Int)(z:Bool)(x:List Int):∀(k j:Nat) (o:List Int),ks.length<j+k→j≤ks.length→o.length+8*aD (ks.drop j)≤4294967296→
  pl k v o j nm k' lo hi (f0::fs) a b z x ks=if (bD f0 v (ks.drop j)).2=0 then some (.pan (.ret ((),((o++(bD f0 v (ks.drop j)).1,()),())))) else some (.ret ((),(([],((bD f0 v (ks.drop j)).2,())),()))):=by
 intro k
 induction k with
 |zero=>intro j o h1 h2;omega
 |succ k ih=>
  intro j o h1 h2 h3
  rw[I8]
  unfold q5
  by_cases hj:j<ks.length
  ·refine (aa (decide_eq_true (show (j:Int)<(ks.length:Int) by omega)) _ _).trans ?_
   refine (aa (by simp) _ _).trans ?_
   refine (aa (by simp;omega) _ _).trans ?_
   have hmem:=cR (List.getElem_mem hj)
   have hd:ks.drop j=ks[j]::ks.drop (j+1):=List.drop_eq_getElem_cons hj
   have hvl:=DK f0 v ks[j]
   have ih':=ih (j+1) (o++(bX f0 v ks[j]).1) (by omega) (by omega)
   rw[hd,aJ] at h3
   rw[hd,bD]
   rw[bb hj hl]
   simp only[Int.toNat_natCast,aH hj]
   generalize ks[j]=u at hmem hvl ih' h3 ⊢
   obtain ⟨ul,uk⟩:=u
   obtain ⟨fl,fk⟩:=f0
   refine (aa (show (decide (2*aO (Tre.mk ul uk)+1≤aB)&&(dx (Tre.mk fl fk)&&decide (8*aO (Tre.mk ul uk)≤4294967296)))=true by rw[ha];simp;omega) _ _).trans ?_
   by_cases he:(bX (Tre.mk fl fk) v (Tre.mk ul uk)).2=0
   ·refine (ab (show ((bX (Tre.mk fl fk) v (Tre.mk ul uk)).2 != 0)=false by rw[he];rfl) _ _).trans ?_
    refine (aa (decide_eq_true (show o.length+(bX (Tre.mk fl fk) v (Tre.mk ul uk)).1.length≤4294967296 by omega)) _ _).trans ?_
    refine (ih' (by rw[List.length_append];omega)).trans ?_
    by_cases h2:(bD (Tre.mk fl fk) v (ks.drop (j+1))).2=0
    ·simp[he,h2]
    ·simp[he,h2]
   ·refine (aa (show ((bX (Tre.mk fl fk) v (Tre.mk ul uk)).2 != 0)=true by simpa using he) _ _).trans ?_
    simp[he]
  ·refine (ab (decide_eq_false (show ¬(j:Int)<(ks.length:Int) by omega)) _ _).trans ?_
   rw[List.drop_of_length_le (by omega),bD,if_pos rfl,List.append_nil]
def yR (a0:Fd)(a1:Int)(a2:Nd):Option dw.Res:=bif !ge a0.1.2.1 (Tre.mk a2.1 a2.2) then some (Out.ret (([],101,()),())) else bif decide (a0.1.2.1≤4) then bif decide (1≤bm a0.1.2.1) then bif !fu a2.1.2.1 (bm a0.1.2.1) then some (Out.ret (([],102,()),())) else bif decide (0≤bm a0.1.2.1)&&decide (bm a0.1.2.1≤8) then some (Out.ret ((aM a2.1.2.1 (bm a0.1.2.1).toNat,0,()),())) else none else none else bif a0.1.2.1 == 9 then bif decide (16<(↑a2.2.length:Int)) then some (Out.ret (([],9,()),())) else (m4 ((a1,(aM (↑a2.2.length:Int) (Int.toNat 4),(0,()))),((a0.1.1,(a0.1.2.1,(a0.1.2.2.1,(a0.1.2.2.2.1,(a0.2,()))))),((a2.1.1,(a2.1.2.1,(a2.1.2.2.1,(a2.1.2.2.2.1,(a2.2,()))))),())))).run fun y=>match y with | .ret ((),((x32,x33,()),()))=>(some (Out.ret ((x32,x33,()),()))) | .pan (.ret ((),((x34,()),())))=>(some (Out.ret ((x34,0,()),()))) else bif a0.1.2.1 == 10 then bif decide (2*aO (Tre.mk a2.1 a2.2)≤aB)&&(bk a0.2&&(decide (8*aO (Tre.mk a2.1 a2.2)≤4294967296)&&decide (a0.2.length≤4294967296))) then some (Out.ret (((bq a0.2 a1 (Tre.mk a2.1 a2.2)).1,(bq a0.2 a1 (Tre.mk a2.1 a2.2)).2,()),())) else none else bif a2.1.2.2.1 then bif decide (0<(↑(List.length a2.1.2.2.2.1):Int)) then some (Out.ret (([],70,()),())) else bif a2.1.2.2.1 then bif decide (0≤bm a0.1.2.1)&&decide (bm a0.1.2.1≤8) then some (Out.ret ((aM (-1) (bm a0.1.2.1).toNat,0,()),())) else none else bif decide (a0.1.2.1≤6) then bif !(ca a2.1.2.2.2.1).2 then some (Out.ret (([],6,()),())) else bif decide (255<(↑(List.length a2.1.2.2.2.1):Int)) then some (Out.ret (([],4,()),())) else bif decide (0≤bm a0.1.2.1)&&decide (bm a0.1.2.1≤8) then bif decide ((aM (↑(List.length a2.1.2.2.2.1):Int) (bm a0.1.2.1).toNat).length+List.length a2.1.2.2.2.1≤4294967296) then some (Out.ret ((aM (↑(List.length a2.1.2.2.2.1):Int) (bm a0.1.2.1).toNat++a2.1.2.2.2.1,0,()),())) else none else none else bif decide (0≤bm a0.1.2.1)&&decide (bm a0.1.2.1≤8) then bif decide ((aM (↑(List.length a2.1.2.2.2.1):Int) (bm a0.1.2.1).toNat).length+List.length a2.1.2.2.2.1≤4294967296) then some (Out.ret ((aM (↑(List.length a2.1.2.2.2.1):Int) (bm a0.1.2.1).toNat++a2.1.2.2.2.1,0,()),())) else none else none else bif a2.1.2.2.1 then bif decide (0≤bm a0.1.2.1)&&decide (bm a0.1.2.1≤8) then some (Out.ret ((aM (-1) (bm a0.1.2.1).toNat,0,()),())) else none else bif decide (a0.1.2.1≤6) then bif !(ca a2.1.2.2.2.1).2 then some (Out.ret (([],6,()),())) else bif decide (255<(↑(List.length a2.1.2.2.2.1):Int)) then some (Out.ret (([],4,()),())) else bif decide (0≤bm a0.1.2.1)&&decide (bm a0.1.2.1≤8) then bif decide ((aM (↑(List.length a2.1.2.2.2.1):Int) (bm a0.1.2.1).toNat).length+List.length a2.1.2.2.2.1≤4294967296) then some (Out.ret ((aM (↑(List.length a2.1.2.2.2.1):Int) (bm a0.1.2.1).toNat++a2.1.2.2.2.1,0,()),())) else none else none else bif decide (0≤bm a0.1.2.1)&&decide (bm a0.1.2.1≤8) then bif decide ((aM (↑(List.length a2.1.2.2.2.1):Int) (bm a0.1.2.1).toNat).length+List.length a2.1.2.2.2.1≤4294967296) then some (Out.ret ((aM (↑(List.length a2.1.2.2.2.1):Int) (bm a0.1.2.1).toNat++a2.1.2.2.2.1,0,()),())) else none else none
theorem P8 (a0:Fd)(a1:Int)(a2:Nd):Io.run tt HT dr tD dw Tryz.f211 ((a0,a1,a2,()),())=yR a0 a1 a2:=by kernel_rfl
theorem PA (rvValue:HcOk prog 211 (ah dw (kv aB)))(rvParts:HcOk prog 192 (ah er (o4 aB))):HcOk prog 211 (ah dw (kv (aB+1))):=by
 refine aj (n:=400) hm (cs:=za) (.cons z7 (.cons IP (.cons N5 (.cons qv (.cons rvValue (.cons rvParts (.cons Ua (.cons Dw .nil)))))))) (lp:=tD) (fn:=Tryz.f211) (by kernel_rfl) (by kernel_rfl) (by kernel_rfl) dw (.step (h0:=aP dJ m4) (by kernel_rfl) (aw (n:=400) hm (cs:=za) (.cons z7 (.cons IP (.cons N5 (.cons qv (.cons rvValue (.cons rvParts (.cons Ua (.cons Dw .nil)))))))) (lp:=tD) (fn:=Tryz.f211) (.done (by kernel_rfl)) dJ m4 ?_) (.done (by kernel_rfl))) (kv (aB+1)) ?_
 ·rintro ⟨⟨(v:Int),(o:List Int),(i:Int),⟨⟩⟩,⟨⟨(nm:List Int),(k':Int),(lo:Int),(hi:Int),(fs:List Fd),⟨⟩⟩,⟨(a:Int),(b:Int),(z:Bool),(x:List Int),(ks:List Nd),⟨⟩⟩,⟨⟩⟩⟩ y hw hy
  obtain ⟨hg,hy⟩:=Tr.guard hy
  simp only[Bool.and_eq_true,decide_eq_true_eq] at hg
  obtain ⟨h1,h2,⟨h3,h4⟩,h5,h6⟩:=hg
  have h1:i=0:=h1
  have h2:o.length=4:=h2
  have h3:fs.length≠0:=h3
  have h4:bk fs=true:=h4
  have h5:2*aD ks+1≤aB:=h5
  have h6:8+8*aD ks≤4294967296:=h6
  subst h1
  obtain ⟨f0,fs,rfl⟩:∃f0 fs',fs=f0::fs':=by cases fs with | nil=>exact absurd rfl h3 | cons a b=>exact ⟨a,b,rfl⟩
  refine ⟨ks.length+1,(KQ (by have:=hw.2.2.1.2.2.2.2.1.1;exact this) (jh h4 (by simp)) h5 (by omega) nm k' lo hi a b z x (ks.length+1) 0 o (by omega) (by omega) (by rw[List.drop_zero];omega)).trans ?_⟩
  rw[← hy,List.drop_zero]
  by_cases h:(bD f0 v ks).2=0
  ·rw[if_pos h];exact (aa (decide_eq_true h) _ _).symm
  ·rw[if_neg h];exact (ab (decide_eq_false h) _ _).symm
 ·rintro ⟨⟨(f:Fd),(v:Int),(n:Nd),⟨⟩⟩,⟨⟩⟩ out hw ho
  obtain ⟨hg,ho⟩:=Tr.guard ho
  simp only[Bool.and_eq_true,decide_eq_true_eq] at hg
  obtain ⟨hk,ha,hb⟩:=hg
  have hk:2*aO n+1≤aB+1:=hk
  have ha:dx f=true:=ha
  have hb:8*aO n≤4294967296:=hb
  cases ho
  refine (P8 f v n).trans ?_
  unfold yR
  show _=some (Out.ret (((bX f v n).1,((bX f v n).2,())),()))
  obtain ⟨⟨nm,k',lo,hi,⟨⟩⟩,fs⟩:=f
  obtain ⟨⟨a,b,z,x,⟨⟩⟩,ks⟩:=n
  have hw8:=JA k'
  have hwf:=cC (Tre.mk (a,(b,(z,(x,())))) ks)
  have hwf:aO (Tre.mk (a,(b,(z,(x,())))) ks)=1+x.length+aD ks:=hwf
  have hk:2*(1+x.length+aD ks)+1≤aB+1:=by rw[← hwf];exact hk
  have hb:8*(1+x.length+aD ks)≤4294967296:=by rw[← hwf];exact hb
  rw[Ax] at ha
  simp only[Bool.and_eq_true] at ha
  obtain ⟨⟨ha1,ha3⟩,ha2⟩:=ha
  have ha2:bk fs=true:=ha2
  have ha3:fs.length≤16:=of_decide_eq_true ha3
  rw[bX]
  simp only
  have cW:(decide (0≤bm k')&&decide (bm k'≤8))=true:=by simp;omega
  have tail:(bif decide (0≤bm k')&&decide (bm k'≤8) then bif decide ((aM ((x.length:Nat):Int) (bm k').toNat).length+x.length≤4294967296) then (some (Out.ret ((aM ((x.length:Nat):Int) (bm k').toNat++x,((0:Int),())),())):Option dw.Res) else none else none)=some (Out.ret ((aM ((x.length:Nat):Int) (bm k').toNat++x,((0:Int),())),())):=by
   refine (aa cW _ _).trans ?_
   exact aa (decide_eq_true (by rw[bY];omega)) _ _
  by_cases h1:ge k' (Tre.mk (a,(b,(z,(x,())))) ks)=false
  ·rw[if_pos h1]
   exact aa (by rw[show ge k' (Tre.mk (a,(b,(z,(x,())))) ks)=false from h1];rfl) _ _
  rw[if_neg h1]
  refine (ab (by simpa using h1) _ _).trans ?_
  by_cases h2:k'≤4
  ·rw[if_pos h2]
   refine (aa (by simpa using h2) _ _).trans ?_
   refine (aa (decide_eq_true (show 1≤bm k' by omega)) _ _).trans ?_
   by_cases h3:fu b (bm k')=true
   ·rw[if_pos h3]
    refine (ab (show (!fu b (bm k'))=false by rw[h3];rfl) _ _).trans ?_
    exact aa cW _ _
   ·rw[if_neg h3]
    exact aa (show (!fu b (bm k'))=true by simpa using h3) _ _
  rw[if_neg h2]
  refine (ab (by simpa using h2) _ _).trans ?_
  by_cases h3:k'=9
  ·rw[if_pos h3]
   refine (aa (by simpa using h3) _ _).trans ?_
   by_cases h4:16<ks.length
   ·rw[if_pos h4]
    exact aa (decide_eq_true (show (16:Int)<(ks.length:Int) by omega)) _ _
   ·rw[if_neg h4]
    refine (ab (decide_eq_false (show ¬(16:Int)<(ks.length:Int) by omega)) _ _).trans ?_
    have h0:fs.length≠0:=by
     rcases Bool.or_eq_true _ _▸ha1 with h | h
     ·exact absurd h3 (of_decide_eq_true h)
     ·exact of_decide_eq_true h
    have c1:(decide ((0:Int)=0)&&(decide ((aM ((ks.length:Nat):Int) (Int.toNat 4)).length=4)&&((decide (fs.length≠0)&&bk fs)&&(decide (2*aD ks+1≤aB)&&decide (8+8*aD ks≤4294967296)))))=true:=by
     have h0':fs≠[]:=fun e=>h0 (by rw[e];rfl)
     rw[ha2,bY];simp[h0'];omega
    obtain ⟨f0,fs,rfl⟩:∃f0 fs',fs=f0::fs':=by cases fs with | nil=>exact absurd rfl h0 | cons a b=>exact ⟨a,b,rfl⟩
    refine (aa c1 _ _).trans ?_
    show (Tr.ite (decide ((bD f0 v ks).2=0)) _ _).run _=some (Out.ret (((if (bD f0 v ks).2≠0 then _ else _:List Int×Int).1,((if (bD f0 v ks).2≠0 then _ else _:List Int×Int).2,())),()))
    by_cases h5:(bD f0 v ks).2=0
    ·rw[if_neg (by simpa using h5)]
     exact aa (decide_eq_true h5) _ _
    ·rw[if_pos h5]
     exact ab (decide_eq_false h5) _ _
  rw[if_neg h3]
  refine (ab (by simpa using h3) _ _).trans ?_
  by_cases h4:k'=10
  ·rw[if_pos h4]
   refine (aa (by simpa using h4) _ _).trans ?_
   exact aa (show (decide (2*aO (Tre.mk (a,(b,(z,(x,())))) ks)≤aB)&&(bk fs&&(decide (8*aO (Tre.mk (a,(b,(z,(x,())))) ks)≤4294967296)&&decide (fs.length≤4294967296))))=true by rw[ha2,hwf];simp;omega) _ _
  rw[if_neg h4]
  refine (ab (by simpa using h4) _ _).trans ?_
  have rest:(bif decide (k'≤6) then bif !(ca x).2 then (some (Out.ret (([],((6:Int),())),())):Option dw.Res) else bif decide ((255:Int)<((x.length:Nat):Int)) then some (Out.ret (([],((4:Int),())),())) else bif decide (0≤bm k')&&decide (bm k'≤8) then bif decide ((aM ((x.length:Nat):Int) (bm k').toNat).length+x.length≤4294967296) then (some (Out.ret ((aM ((x.length:Nat):Int) (bm k').toNat++x,((0:Int),())),())):Option dw.Res) else none else none
    else bif decide (0≤bm k')&&decide (bm k'≤8) then bif decide ((aM ((x.length:Nat):Int) (bm k').toNat).length+x.length≤4294967296) then (some (Out.ret ((aM ((x.length:Nat):Int) (bm k').toNat++x,((0:Int),())),())):Option dw.Res) else none else none)=
    some (Out.ret (((if k'≤6∧(ca x).2=false then ([],6) else if k'≤6∧255<x.length then ([],4) else (aM ((x.length:Nat):Int) (bm k').toNat++x,0):List Int×Int).1,((if k'≤6∧(ca x).2=false then ([],6) else if k'≤6∧255<x.length then ([],4) else (aM ((x.length:Nat):Int) (bm k').toNat++x,0):List Int×Int).2,())),())):=by
   rw[tail]
   by_cases h6:k'≤6
   ·refine (aa (decide_eq_true h6) _ _).trans ?_
    by_cases h7:(ca x).2=false
    ·rw[if_pos ⟨h6,h7⟩]
     exact aa (by rw[h7];rfl) _ _
    ·rw[if_neg (fun h=>h7 h.2)]
     refine (ab (by simpa using h7) _ _).trans ?_
     by_cases h8:255<x.length
     ·rw[if_pos ⟨h6,h8⟩]
      exact aa (decide_eq_true (by omega)) _ _
     ·rw[if_neg (fun h=>h8 h.2)]
      exact ab (decide_eq_false (by omega)) _ _
   ·rw[if_neg (fun h=>h6 h.1),if_neg (fun h=>h6 h.1)]
    exact ab (decide_eq_false h6) _ _
  by_cases h5:z=true
  ·subst h5
   rw[if_pos rfl]
   refine (aa rfl _ _).trans ?_
   by_cases h6:x.length=0
   ·rw[if_pos h6]
    refine (ab (decide_eq_false (show ¬(0:Int)<((x.length:Nat):Int) by omega)) _ _).trans ?_
    refine (aa rfl _ _).trans ?_
    exact aa cW _ _
   ·rw[if_neg h6]
    exact aa (decide_eq_true (show (0:Int)<((x.length:Nat):Int) by omega)) _ _
  ·have h5:z=false:=by simpa using h5
   subst h5
   rw[if_neg (by decide)]
   refine (ab rfl _ _).trans ?_
   refine (ab rfl _ _).trans ?_
   exact rest
end
section
variable [Inhabited FuT]
abbrev y9:List (Nat×Hc):=[(210,ah lP Eo),(211,ah dw (kv aB)),(38,ah tc Q1)]
def HS:Hd:=bz y9
abbrev eR:Lo:=⟨⟨(.any::.one (.hol (.int IntKind.i64))::.any::be (.one (.ptr 5 0)::be (.one (.onl 160 ee 17)::.one (.onl 5 (Ty.int IntKind.u8) 19)::.one (.hol (.int IntKind.i64))::.any::ai (ai (bJ (be [])))))),[none,none,none,none,none,some [.hol (.int IntKind.i64),.hol (.int IntKind.i64),.hol .bool,.hol (.sl 5 (Ty.int IntKind.u8)),.hol (.sl 91 (((Ty.int IntKind.i64).prod ((Ty.int IntKind.i64).prod (Ty.bool.prod ((Ty.sl 5 (Ty.int IntKind.u8)).prod Ty.unit)))).tree 91))]]⟩,[(.ret,⟨(bJ (be (.one (.onl 5 (Ty.int IntKind.u8) 13)::.one (.hol (.int IntKind.i64))::ai (ai (dE (be [])))))),[]⟩),(.exit 0,⟨(.any::dE (.one (.onl 5 (Ty.int IntKind.u8) 19)::ai (ai (dE [])))),[]⟩)]⟩
def pX (d:eR.st.den):Tr (ax eR.xs):=
 .ite (decide (d.1.2.2.2.1=0)&&(decide (d.1.2.2.1.length=0)&&((decide (d.1.2.1.length=d.2.1.2.2.2.2.1.length)&&bk d.1.2.1)&&(decide (2*aD d.2.1.2.2.2.2.1+1≤aB)&&decide (8+8*aD d.2.1.2.2.2.2.1≤4294967296)))))
  (.ite (decide ((cy d.1.1 d.1.2.1 d.2.1.2.2.2.2.1).2=0))
   (.ret (.pan (.ret ((),(((cy d.1.1 d.1.2.1 d.2.1.2.2.2.2.1).1,()),())))))
   (.ret (.ret ((),(([],((cy d.1.1 d.1.2.1 d.2.1.2.2.2.2.1).2,())),()))))) .no
def tC:Lp:=bo [(7,aP eR pX)]
def uo {R:Type}(h3:Int)(h4:List ee.den)(h5:List Int)(h6 h7 h8:Int)(h9:Bool)(h10:List Int)(h11:List (Nd))(next:Int→List ee.den→List Int→Int→Int→Int→Bool→List Int→List (Nd)→Option R)(out:ax eR.xs→Option R):Option R:=bif decide (h6<(↑h4.length:Int)) then bif decide (0≤h6)&&decide (h6<(↑h4.length:Int)) then bif decide (0≤h6)&&decide (h6<(↑h11.length:Int)) then bif decide (2*aO (Tre.mk (h11.getD h6.toNat (Tre.mk (0,0,false,[],()) [])).1 (h11.getD h6.toNat (Tre.mk (0,0,false,[],()) [])).2)+1≤aB)&&(dx (Tre.mk (h4.getD h6.toNat (Tre.mk ([],0,0,0,()) [])).1 (h4.getD h6.toNat (Tre.mk ([],0,0,0,()) [])).2)&&decide (8*aO (Tre.mk (h11.getD h6.toNat (Tre.mk (0,0,false,[],()) [])).1 (h11.getD h6.toNat (Tre.mk (0,0,false,[],()) [])).2)≤4294967296)) then bif (bX (Tre.mk (h4.getD h6.toNat (Tre.mk ([],0,0,0,()) [])).1 (h4.getD h6.toNat (Tre.mk ([],0,0,0,()) [])).2) h3 (Tre.mk (h11.getD h6.toNat (Tre.mk (0,0,false,[],()) [])).1 (h11.getD h6.toNat (Tre.mk (0,0,false,[],()) [])).2)).2 != 0 then out (.ret ((),(([],((bX (Tre.mk (h4.getD h6.toNat (Tre.mk ([],0,0,0,()) [])).1 (h4.getD h6.toNat (Tre.mk ([],0,0,0,()) [])).2) h3 (Tre.mk (h11.getD h6.toNat (Tre.mk (0,0,false,[],()) [])).1 (h11.getD h6.toNat (Tre.mk (0,0,false,[],()) [])).2)).2,())),()))) else bif decide (h5.length+(bX (Tre.mk (h4.getD h6.toNat (Tre.mk ([],0,0,0,()) [])).1 (h4.getD h6.toNat (Tre.mk ([],0,0,0,()) [])).2) h3 (Tre.mk (h11.getD h6.toNat (Tre.mk (0,0,false,[],()) [])).1 (h11.getD h6.toNat (Tre.mk (0,0,false,[],()) [])).2)).1.length≤4294967296) then next (h3) (h4) (h5++(bX (Tre.mk (h4.getD h6.toNat (Tre.mk ([],0,0,0,()) [])).1 (h4.getD h6.toNat (Tre.mk ([],0,0,0,()) [])).2) h3 (Tre.mk (h11.getD h6.toNat (Tre.mk (0,0,false,[],()) [])).1 (h11.getD h6.toNat (Tre.mk (0,0,false,[],()) [])).2)).1) (IntKind.i64.wrap (h6+1)) (h7) (h8) (h9) (h10) (h11) else none else none else none else none else out (.pan (.ret ((),((h5,()),()))))
def rN (n:Nat)(h3:Int)(h4:List ee.den)(h5:List Int)(h6 h7 h8:Int)(h9:Bool)(h10:List Int)(h11:List (Nd)):Option (ax eR.xs):=gk tt HS dr tC 0 Tryz.f192 (cI Tryz.f192 0) n (eR.st.mk' ((h3,(h4,(h5,(h6,())))),((h7,(h8,(h9,(h10,(h11,()))))),()))) (bI eR.xs)
theorem LK (n:Nat)(h3:Int)(h4:List ee.den)(h5:List Int)(h6 h7 h8:Int)(h9:Bool)(h10:List Int)(h11:List (Nd)):rN (n+1) h3 h4 h5 h6 h7 h8 h9 h10 h11=uo h3 h4 h5 h6 h7 h8 h9 h10 h11 (rN n) some:=by kernel_rfl
theorem KP {fs:List Fd}{ks:List Nd}{v:Int}(hl:ks.length≤maxLen)(hfk:fs.length=ks.length)(ha:bk fs=true)(hf:2*aD ks+1≤aB)(hb:8*aD ks≤4294967296)(a b:Int)(z:Bool)(x:List Int):∀(k j:Nat) (o:List Int),ks.length<j+k→j≤ks.length→o.length+8*aD (ks.drop j)≤4294967296→
  rN k v fs o j a b z x ks=if (cy v (fs.drop j) (ks.drop j)).2=0 then some (.pan (.ret ((),((o++(cy v (fs.drop j) (ks.drop j)).1,()),())))) else some (.ret ((),(([],((cy v (fs.drop j) (ks.drop j)).2,())),()))):=by
 intro k
 induction k with
 |zero=>intro j o h1 h2;omega
 |succ k ih=>
  intro j o h1 h2 h3
  rw[LK]
  unfold uo
  by_cases hj:j<ks.length
  ·have hj':j<fs.length:=by omega
   refine (aa (decide_eq_true (show (j:Int)<(fs.length:Int) by omega)) _ _).trans ?_
   refine (aa (by simp;omega) _ _).trans ?_
   refine (aa (by simp;omega) _ _).trans ?_
   have hmem:=cR (List.getElem_mem hj)
   have har:=jh ha (List.getElem_mem hj')
   have hd:ks.drop j=ks[j]::ks.drop (j+1):=List.drop_eq_getElem_cons hj
   have hd':fs.drop j=fs[j]::fs.drop (j+1):=List.drop_eq_getElem_cons hj'
   have hvl:=DK fs[j] v ks[j]
   have ih':=ih (j+1) (o++(bX fs[j] v ks[j]).1) (by omega) (by omega)
   rw[hd,aJ] at h3
   rw[hd,hd',cy]
   rw[bb hj hl]
   simp only[Int.toNat_natCast,aH hj,aH hj']
   generalize ks[j]=u at hmem hvl ih' h3 ⊢
   generalize fs[j]=f0 at har hvl ih' ⊢
   obtain ⟨ul,uk⟩:=u
   obtain ⟨fl,fk⟩:=f0
   refine (aa (show (decide (2*aO (Tre.mk ul uk)+1≤aB)&&(dx (Tre.mk fl fk)&&decide (8*aO (Tre.mk ul uk)≤4294967296)))=true by rw[har];simp;omega) _ _).trans ?_
   by_cases he:(bX (Tre.mk fl fk) v (Tre.mk ul uk)).2=0
   ·refine (ab (show ((bX (Tre.mk fl fk) v (Tre.mk ul uk)).2 != 0)=false by rw[he];rfl) _ _).trans ?_
    refine (aa (decide_eq_true (show o.length+(bX (Tre.mk fl fk) v (Tre.mk ul uk)).1.length≤4294967296 by omega)) _ _).trans ?_
    refine (ih' (by rw[List.length_append];omega)).trans ?_
    by_cases h2:(cy v (fs.drop (j+1)) (ks.drop (j+1))).2=0
    ·simp[he,h2]
    ·simp[he,h2]
   ·refine (aa (show ((bX (Tre.mk fl fk) v (Tre.mk ul uk)).2 != 0)=true by simpa using he) _ _).trans ?_
    simp[he]
  ·refine (ab (decide_eq_false (show ¬(j:Int)<(fs.length:Int) by omega)) _ _).trans ?_
   rw[List.drop_of_length_le (by omega),List.drop_of_length_le (by omega),cy,if_pos rfl,List.append_nil]
   simp
def yQ (a0:List ee.den)(a1:Int)(a2:Nd):Option er.Res:=bif decide (a0.length≤4294967296) then bif (↑a2.2.length:Int) != (↑(cP a0 a1).length:Int) then some (Out.ret (([],101,()),())) else (pX ((a1,(cP a0 a1,([],(0,())))),((a2.1.1,(a2.1.2.1,(a2.1.2.2.1,(a2.1.2.2.2.1,(a2.2,()))))),()))).run fun y=>match y with | .ret ((),((x24,x25,()),()))=>(some (Out.ret ((x24,x25,()),()))) | .pan (.ret ((),((x26,()),())))=>(some (Out.ret ((x26,0,()),()))) else none
theorem P7 (a0:List ee.den)(a1:Int)(a2:Nd):Io.run tt HS dr tC er Tryz.f192 ((a0,a1,a2,()),())=yQ a0 a1 a2:=by kernel_rfl
theorem Pz (rvValue:HcOk prog 211 (ah dw (kv aB))):HcOk prog 192 (ah er (o4 (aB+1))):=by
 refine aj (n:=400) hm (cs:=y9) (.cons xI (.cons rvValue (.cons Dw .nil))) (lp:=tC) (fn:=Tryz.f192) (by kernel_rfl) (by kernel_rfl) (by kernel_rfl) er (.step (h0:=aP eR pX) (by kernel_rfl) (aw (n:=400) hm (cs:=y9) (.cons xI (.cons rvValue (.cons Dw .nil))) (lp:=tC) (fn:=Tryz.f192) (.done (by kernel_rfl)) eR pX ?_) (.done (by kernel_rfl))) (o4 (aB+1)) ?_
 ·rintro ⟨⟨(v:Int),(fs:List Fd),(o:List Int),(i:Int),⟨⟩⟩,⟨⟨(a:Int),(b:Int),(z:Bool),(x:List Int),(ks:List Nd),⟨⟩⟩,⟨⟩⟩⟩ y hw hy
  obtain ⟨hg,hy⟩:=Tr.guard hy
  simp only[Bool.and_eq_true,decide_eq_true_eq] at hg
  obtain ⟨h1,h2,⟨h3,h4⟩,h5,h6⟩:=hg
  have h1:i=0:=h1
  have h2:o=[]:=List.eq_nil_of_length_eq_zero h2
  have h3:fs.length=ks.length:=h3
  have h4:bk fs=true:=h4
  have h5:2*aD ks+1≤aB:=h5
  have h6:8+8*aD ks≤4294967296:=h6
  subst h1
  subst h2
  refine ⟨ks.length+1,(KP (by have:=hw.2.1.2.2.2.2.1.1;exact this) h3 h4 h5 (by omega) a b z x (ks.length+1) 0 [] (by omega) (by omega) (by rw[List.drop_zero];simp;omega)).trans ?_⟩
  rw[← hy,List.drop_zero,List.drop_zero]
  by_cases h:(cy v fs ks).2=0
  ·rw[if_pos h];exact (aa (decide_eq_true h) _ _).symm
  ·rw[if_neg h];exact (ab (decide_eq_false h) _ _).symm
 ·rintro ⟨⟨(fs:List Fd),(v:Int),(n:Nd),⟨⟩⟩,⟨⟩⟩ out hw ho
  obtain ⟨hg,ho⟩:=Tr.guard ho
  simp only[Bool.and_eq_true,decide_eq_true_eq] at hg
  obtain ⟨hk,ha,hb,hl⟩:=hg
  have hk:2*aO n≤aB+1:=hk
  have ha:bk fs=true:=ha
  have hb:8*aO n≤4294967296:=hb
  have hl:fs.length≤4294967296:=hl
  cases ho
  refine (P7 fs v n).trans ?_
  unfold yQ
  show _=some (Out.ret (((bq fs v n).1,((bq fs v n).2,())),()))
  obtain ⟨⟨a,b,z,x,⟨⟩⟩,ks⟩:=n
  have hwf:=cC (Tre.mk (a,(b,(z,(x,())))) ks)
  have hwf:aO (Tre.mk (a,(b,(z,(x,())))) ks)=1+x.length+aD ks:=hwf
  have hk:2*(1+x.length+aD ks)≤aB+1:=by rw[← hwf];exact hk
  have hb:8*(1+x.length+aD ks)≤4294967296:=by rw[← hwf];exact hb
  rw[bq]
  refine (aa (decide_eq_true hl) _ _).trans ?_
  by_cases h1:ks.length=(cP fs v).length
  ·rw[if_neg (by simpa using h1)]
   refine (ab (by simp[h1]) _ _).trans ?_
   have c1:(decide ((0:Int)=0)&&(decide (([]:List Int).length=0)&&((decide ((cP fs v).length=ks.length)&&bk (cP fs v))&&(decide (2*aD ks+1≤aB)&&decide (8+8*aD ks≤4294967296)))))=true:=by
    rw[Jh ha];simp;omega
   refine (aa c1 _ _).trans ?_
   by_cases h5:(cy v (cP fs v) ks).2=0
   ·refine (aa (decide_eq_true h5) _ _).trans ?_
    rw[h5];rfl
   ·refine (ab (decide_eq_false h5) _ _).trans ?_
    rw[L5 h5];rfl
  ·rw[if_pos h1]
   exact aa (bne_iff_ne.2 (fun e=>h1 (Int.ofNat.inj e))) _ _
end
theorem Xm (n:Nat):HcOk prog 211 (ah dw (kv n))∧HcOk prog 192 (ah er (o4 n)):=by
 induction n with
 |zero=>
  refine ⟨HcOk.none (fn:=Tryz.f211) (by kernel_rfl) (by kernel_rfl) (by kernel_rfl) _ _ fun d out h=>?_,HcOk.none (fn:=Tryz.f192) (by kernel_rfl) (by kernel_rfl) (by kernel_rfl) _ _ fun d out h=>?_⟩
  ·cases h
  ·obtain ⟨hg,h⟩:=Tr.guard h
   simp only[Bool.and_eq_true,decide_eq_true_eq] at hg
   have:=m0 d.1.2.2.1
   omega
 |succ n ih=>
  have h1:=@PA ⟨⟨n⟩⟩ (by rw[FuT.val];exact ih.1) (by rw[FuT.val];exact ih.2)
  have h2:=@Pz ⟨⟨n⟩⟩ (by rw[FuT.val];exact ih.1)
  rw[FuT.val] at h1 h2
  exact ⟨h1,h2⟩
theorem Uk:HcOk prog 192 (ah er Mw):=by
 refine HcOk.lim (fun n=>(Xm n).2) fun d=>⟨2*aO d.1.2.2.1,fun out h=>?_⟩
 obtain ⟨hg,h⟩:=Tr.guard h
 exact (aa (by rw[hg];simp) _ _).trans h
end
end Go.Proofs.YtomeplopmndbgaaGreat.Sym
namespace Go.Proofs.YtomeplopmndbgaaGreat.Sym
open Go
set_option linter.unusedSimpArgs false
set_option linter.unusedVariables false
noncomputable section
@[irreducible] noncomputable def xf (f:Fd):Nat:=f.wt fun _=>0
@[irreducible] noncomputable def ii (l:List Fd):Nat:=Tre.wts (fun _=>0) l
theorem Ga (f:Fd):xf f=1+ii f.kids:=by unfold xf ii;exact Tre.wt_eq _ f
theorem Jo {k:Fd}{l:List Fd}(h:k∈l):xf k≤ii l:=by unfold xf ii;exact Tre.wts_mem h
def ou (ks:List Fd):Nat→Int→Int→Bool
 |0,_,_=>true
 |k+1,v,hi=>if v≤hi then (if (cP ks v).length=0 then false else ou ks k (v+1) hi) else true
def oK (ks:List Fd)(s:List Int):Bool:=ks.all fun k=>!decide (k.lab.1=s)
def k5 (ks:List Fd):Nat→List Fd→Bool
 |_,[]=>true
 |j,f::fs=>oK (ks.take j) f.lab.1&&k5 ks (j+1) fs
mutual
def dq (d:Int):Fd→Bool
 |.mk a ks=>if a.1.length=0 then false else if a.2.2.1<0 then false else if 3<a.2.2.2.1 then false else if a.2.2.2.1<a.2.2.1 then false else if a.2.1<1 then false else if 10<a.2.1 then false
   else if a.2.1<9 then (if ks.length=0 then true else false) else if cq (d+1) ks=false then false else if ou ks 5 a.2.2.1 a.2.2.2.1=false then false else if a.2.1=10 then true else if ks.length=1 then true else false
termination_by f=>(SizeOf.sizeOf f,0)
def cq (d:Int)(ks:List Fd):Bool:=if ks.length<1 then false else if 16<ks.length then false else if 8<d then false else k5 ks 0 ks&&cp d ks
termination_by (SizeOf.sizeOf ks,1)
def cp (d:Int):List Fd→Bool
 |[]=>true
 |k::ks=>dq d k&&cp d ks
termination_by l=>(SizeOf.sizeOf l,0)
end
abbrev fK:Io:=⟨[wl,dI],[],[],[dB],none⟩
def sy (n:Nat)(d:fK.In):Tr fK.Res:=.ite (decide (2*ii d.1.1+2≤n)&&(decide ((0:Int)≤d.1.2.1)&&decide (d.1.2.1≤1000))) (.ret (.ret ((cq d.1.2.1 d.1.1,()),()))) .no
def Rk (d:fK.In):Tr fK.Res:=.ite ((decide ((0:Int)≤d.1.2.1)&&decide (d.1.2.1≤1000))) (.ret (.ret ((cq d.1.2.1 d.1.1,()),()))) .no
abbrev iy:Io:=⟨[Kq,dI],[],[],[dB],none⟩
def o3 (n:Nat)(d:iy.In):Tr iy.Res:=.ite (decide (2*xf d.1.1+1≤n)&&(decide ((0:Int)≤d.1.2.1)&&decide (d.1.2.1≤999))) (.ret (.ret ((dq d.1.2.1 d.1.1,()),()))) .no
section
variable [Inhabited FuT]
abbrev xr:List (Nat×Hc):=[(220,ah iy (o3 aB))]
def E9:Hd:=bz xr
abbrev fX:Lo:=⟨⟨(.one (.hol (.sl 160 ee))::.one (.hol (.int IntKind.i64))::.any::be (.one (.hol (.int IntKind.i64))::.one (.hol (.int IntKind.i64))::.any::ai (ai (dE [])))),[]⟩,[(.ret,⟨(bJ (.one (.hol .bool)::.any::ai (ai (dE (be []))))),[]⟩),(.exit 2,⟨(.one (.hol (.sl 160 ee))::.one (.hol (.int IntKind.i64))::.any::be (.one (.hol (.int IntKind.i64))::ai (ai (dE (be []))))),[]⟩)]⟩
abbrev fW:Lo:=⟨⟨(.one (.hol (.sl 160 ee))::.one (.hol (.int IntKind.i64))::.any::be (.one (.hol (.int IntKind.i64))::ai (ai (dE (be []))))),[]⟩,[(.ret,⟨(bJ (.one (.hol .bool)::.any::ai (ai (dE (be []))))),[]⟩),(.exit 0,⟨(ai (ai (ai []))),[]⟩)]⟩
def mI (d:fX.st.den):Tr (ax fX.xs):=
 .ite (decide (d.1.2.2.2.1=0)&&(decide ((0:Int)≤d.1.2.2.1)&&decide (d.1.2.2.1<(d.1.1.length:Int))))
  (.ite (oK (d.1.1.take d.1.2.2.1.toNat) (d.1.1.getD d.1.2.2.1.toNat (Tre.mk ([],(0,(0,(0,())))) [])).lab.1) (.ret (.pan (.ret ((),((d.1.1,(d.1.2.1,(d.1.2.2.1,()))),()))))) (.ret (.ret ((),((false,()),()))))) .no
def sA (d:fW.st.den):Tr (ax fW.xs):=
 .ite (decide (d.1.2.2.1=0)&&((decide ((0:Int)≤d.1.2.1)&&decide (d.1.2.1≤999))&&(decide (2*ii d.1.1+1≤aB)&&decide (d.1.1.length≤16))))
  (.ite (k5 d.1.1 0 d.1.1&&cp d.1.2.1 d.1.1) (.ret (.pan (.ret ((),((),()))))) (.ret (.ret ((),((false,()),()))))) .no
def qq:Lp:=bo [(5,aP fW sA),(8,aP fX mI)]
def wZ {R:Type}(h5:List ee.den)(h6 h7 h8:Int)(next:List ee.den→Int→Int→Int→Option R)(out:ax fX.xs→Option R):Option R:=bif decide (h8<h7) then bif decide (0≤h8)&&decide (h8<(↑h5.length:Int)) then bif decide (0≤h7)&&decide (h7<(↑h5.length:Int)) then bif decide ((h5.getD h8.toNat (Tre.mk ([],0,0,0,()) [])).1.1=(h5.getD h7.toNat (Tre.mk ([],0,0,0,()) [])).1.1) then out (.ret ((),((false,()),()))) else next (h5) (h6) (h7) (IntKind.i64.wrap (h8+1)) else none else none else out (.pan (.ret ((),((h5,(h6,(h7,()))),()))))
def vd (n:Nat)(h5:List ee.den)(h6 h7 h8:Int):Option (ax fX.xs):=gk tt E9 dr qq 0 Tryz.f216 (vQ Tryz.f216 (cI Tryz.f216 0) 0) n (fX.st.mk' ((h5,(h6,(h7,(h8,())))),())) (bI fX.xs)
theorem Qo (n:Nat)(h5:List ee.den)(h6 h7 h8:Int):vd (n+1) h5 h6 h7 h8=wZ h5 h6 h7 h8 (vd n) some:=by kernel_rfl
def wY {R:Type}(h2:List ee.den)(h3 h4:Int)(next:List ee.den→Int→Int→Option R)(out:ax fW.xs→Option R):Option R:=bif decide (h4<(↑h2.length:Int)) then (mI ((h2,(h3,(h4,(0,())))),())).run fun y=>match y with | .ret ((),((x17,()),()))=>(out (.ret ((),((x17,()),())))) | .pan (.ret ((),((x19,x20,x21,()),())))=>(bif decide (0≤x21)&&decide (x21<(↑x19.length:Int)) then bif decide (2*xf (Tre.mk (x19.getD x21.toNat (Tre.mk ([],0,0,0,()) [])).1 (x19.getD x21.toNat (Tre.mk ([],0,0,0,()) [])).2)+1≤aB)&&(decide (0≤x20)&&decide (x20≤999)) then bif !dq x20 (Tre.mk (x19.getD x21.toNat (Tre.mk ([],0,0,0,()) [])).1 (x19.getD x21.toNat (Tre.mk ([],0,0,0,()) [])).2) then out (.ret ((),((false,()),()))) else next (x19) (x20) (IntKind.i64.wrap (x21+1)) else none else none) else out (.pan (.ret ((),((),()))))
def vc (n:Nat)(h2:List ee.den)(h3 h4:Int):Option (ax fW.xs):=gk tt E9 dr qq 0 Tryz.f216 (cI Tryz.f216 0) n (fW.st.mk' ((h2,(h3,(h4,()))),())) (bI fW.xs)
theorem Qn (n:Nat)(h2:List ee.den)(h3 h4:Int):vc (n+1) h2 h3 h4=wY h2 h3 h4 (vc n) some:=by kernel_rfl
theorem H7 {fs:List Fd}(d:Int){i:Nat}(hi:i<fs.length)(hl:fs.length≤maxLen):∀(k j:Nat),i<j+k→j≤i→oK (fs.take j) (fs[i]).lab.1=true→
  vd k fs d i j=if oK (fs.take i) (fs[i]).lab.1=true then some (.pan (.ret ((),((fs,(d,((i:Int),()))),())))) else some (.ret ((),((false,()),()))):=by
 intro k
 induction k with
 |zero=>intro j h1 h2;omega
 |succ k ih=>
  intro j h1 h2 h3
  rw[Qo]
  unfold wZ
  by_cases hj:j<i
  ·have hjl:j<fs.length:=by omega
   refine (aa (decide_eq_true (show (j:Int)<(i:Int) by omega)) _ _).trans ?_
   refine (aa (by simp;omega) _ _).trans ?_
   refine (aa (by simp;omega) _ _).trans ?_
   rw[bb hjl hl]
   simp only[Int.toNat_natCast,aH hi,aH hjl]
   by_cases he:(fs[j]).lab.1=(fs[i]).lab.1
   ·refine (aa (decide_eq_true he) _ _).trans ?_
    rw[if_neg]
    intro h
    have hm:fs[j]∈fs.take i:=by rw[List.mem_take_iff_getElem];exact ⟨j,by omega,rfl⟩
    have:=List.all_eq_true.1 h fs[j] hm
    simp[he] at this
   ·refine (ab (decide_eq_false he) _ _).trans ?_
    refine ih (j+1) (by omega) (by omega) ?_
    rw[List.take_succ_eq_append_getElem hjl]
    unfold oK at h3 ⊢
    rw[List.all_append,h3]
    simp[he]
  ·refine (ab (decide_eq_false (show ¬(j:Int)<(i:Int) by omega)) _ _).trans ?_
   have:j=i:=by omega
   rw[if_pos (this▸h3)]
theorem H6 {fs:List Fd}{d:Int}(hd:0≤d∧d≤999)(hf:2*ii fs+1≤aB)(hl:fs.length≤16):∀(k j:Nat),fs.length<j+k→j≤fs.length→
  vc k fs d j=if (k5 fs j (fs.drop j)&&cp d (fs.drop j))=true then some (.pan (.ret ((),((),())))) else some (.ret ((),((false,()),()))):=by
 intro k
 induction k with
 |zero=>intro j h1 h2;omega
 |succ k ih=>
  intro j h1 h2
  rw[Qn]
  unfold wY
  by_cases hj:j<fs.length
  ·refine (aa (decide_eq_true (show (j:Int)<(fs.length:Int) by omega)) _ _).trans ?_
   have hdr:fs.drop j=fs[j]::fs.drop (j+1):=List.drop_eq_getElem_cons hj
   have hmem:=Jo (List.getElem_mem hj)
   have ih':=ih (j+1) (by omega) (by omega)
   rw[hdr,k5,cp]
   have hgd:fs.getD ((j:Int)).toNat (Tre.mk (([]:List Int),((0:Int),((0:Int),((0:Int),())))) ([]:List Fd))=fs[j]:=by simp only[Int.toNat_natCast];exact aH hj
   have c8:(decide ((0:Int)=0)&&(decide ((0:Int)≤(j:Int))&&decide ((j:Int)<(fs.length:Int))))=true:=by simp;omega
   have e8:mI ((fs,(d,((j:Int),((0:Int),())))),())=.ite true (.ite (oK (fs.take j) (fs[j]).lab.1) (.ret (.pan (.ret ((),((fs,(d,((j:Int),()))),()))))) (.ret (.ret ((),((false,()),()))))) .no:=by
    unfold mI
    rw[← c8]
    show Tr.ite _ (Tr.ite (oK (fs.take ((j:Int)).toNat) (fs.getD ((j:Int)).toNat _).lab.1) _ _) _=_
    rw[hgd];simp only[Int.toNat_natCast]
   rw[e8]
   by_cases hn:oK (fs.take j) (fs[j]).lab.1=true
   ·rw[hn]
    show (bif decide (0≤(j:Int))&&decide ((j:Int)<(fs.length:Int)) then _ else none)=_
    refine (aa (by simp;omega) _ _).trans ?_
    rw[az (n:=(j:Int)+1) (by omega) (by omega)]
    simp only[Int.toNat_natCast,aH hj]
    generalize fs[j]=f0 at hmem ⊢
    obtain ⟨fl,fk⟩:=f0
    refine (aa (show (decide (2*xf (Tre.mk fl fk)+1≤aB)&&(decide ((0:Int)≤d)&&decide (d≤999)))=true by simp;omega) _ _).trans ?_
    by_cases hv:dq d (Tre.mk fl fk)=true
    ·refine (ab (show (!dq d (Tre.mk fl fk))=false by rw[hv];rfl) _ _).trans ?_
     refine ih'.trans ?_
     rw[hv];simp
    ·refine (aa (show (!dq d (Tre.mk fl fk))=true by simpa using hv) _ _).trans ?_
     simp[hv]
   ·have hn:oK (fs.take j) (fs[j]).lab.1=false:=by simpa using hn
    rw[hn]
    rfl
  ·refine (ab (decide_eq_false (show ¬(j:Int)<(fs.length:Int) by omega)) _ _).trans ?_
   rw[List.drop_of_length_le (by omega),k5,cp]
   rfl
def CA (a0:List ee.den)(a1:Int):Option fK.Res:=bif decide ((↑a0.length:Int)<1) then some (Out.ret ((false,()),())) else bif decide (16<(↑a0.length:Int)) then some (Out.ret ((false,()),())) else bif decide (8<a1) then some (Out.ret ((false,()),())) else (sA ((a0,(a1,(0,()))),())).run fun y=>match y with | .ret ((),((x26,()),()))=>(some (Out.ret ((x26,()),()))) | .pan (.ret ((),((),())))=>(some (Out.ret ((true,()),())))
theorem U5 (a0:List ee.den)(a1:Int):Io.run tt E9 dr qq fK Tryz.f216 ((a0,a1,()),())=CA a0 a1:=by kernel_rfl
theorem Uj (rvField:HcOk prog 220 (ah iy (o3 aB))):HcOk prog 216 (ah fK (sy (aB+1))):=by
 refine aj (n:=400) hm (cs:=xr) (.cons rvField .nil) (lp:=qq) (fn:=Tryz.f216) (by kernel_rfl) (by kernel_rfl) (by kernel_rfl) fK (.step (h0:=aP fW sA) (by kernel_rfl) (aw (n:=400) hm (cs:=xr) (.cons rvField .nil) (lp:=qq) (fn:=Tryz.f216) (.step (h0:=aP fX mI) (by kernel_rfl) (aw (n:=400) hm (cs:=xr) (.cons rvField .nil) (lp:=qq) (fn:=Tryz.f216) (.done (by kernel_rfl)) fX mI ?_) (.done (by kernel_rfl))) fW sA ?_) (.done (by kernel_rfl))) (sy (aB+1)) ?_
 ·rintro ⟨⟨(fs:List Fd),(d:Int),(i:Int),(j:Int),⟨⟩⟩,⟨⟩⟩ y hw hy
  obtain ⟨hg,hy⟩:=Tr.guard hy
  simp only[Bool.and_eq_true,decide_eq_true_eq] at hg
  obtain ⟨h1,h2,h3⟩:=hg
  have h1:j=0:=h1
  have h2:0≤i:=h2
  have h3:i<(fs.length:Int):=h3
  subst h1
  obtain ⟨i,rfl⟩:=dZ h2
  have hi:i<fs.length:=by omega
  refine ⟨i+1,(H7 d hi hw.1.1.1 (i+1) 0 (by omega) (by omega) (by simp[oK])).trans ?_⟩
  rw[← hy]
  have hgd:fs.getD ((i:Int)).toNat (Tre.mk (([]:List Int),((0:Int),((0:Int),((0:Int),())))) ([]:List Fd))=fs[i]:=by simp only[Int.toNat_natCast];exact aH hi
  show _=(Tr.ite (oK (fs.take ((i:Int)).toNat) (fs.getD ((i:Int)).toNat _).lab.1) _ _).val
  rw[hgd]
  simp only[Int.toNat_natCast]
  by_cases h:oK (fs.take i) (fs[i]).lab.1=true
  ·rw[if_pos h];exact (aa h _ _).symm
  ·rw[if_neg h];exact (ab (by simpa using h) _ _).symm
 ·rintro ⟨⟨(fs:List Fd),(d:Int),(i:Int),⟨⟩⟩,⟨⟩⟩ y hw hy
  obtain ⟨hg,hy⟩:=Tr.guard hy
  simp only[Bool.and_eq_true,decide_eq_true_eq] at hg
  obtain ⟨h1,⟨h2,h3⟩,h4,h5⟩:=hg
  have h1:i=0:=h1
  have h2:0≤d:=h2
  have h3:d≤999:=h3
  have h4:2*ii fs+1≤aB:=h4
  have h5:fs.length≤16:=h5
  subst h1
  refine ⟨fs.length+1,(H6 ⟨h2,h3⟩ h4 h5 (fs.length+1) 0 (by omega) (by omega)).trans ?_⟩
  rw[← hy,List.drop_zero]
  by_cases h:(k5 fs 0 fs&&cp d fs)=true
  ·rw[if_pos h];exact (aa h _ _).symm
  ·rw[if_neg h];exact (ab (by simpa using h) _ _).symm
 ·rintro ⟨⟨(fs:List Fd),(d:Int),⟨⟩⟩,⟨⟩⟩ out hw ho
  obtain ⟨hg,ho⟩:=Tr.guard ho
  simp only[Bool.and_eq_true,decide_eq_true_eq] at hg
  obtain ⟨hk,hd1,hd2⟩:=hg
  have hk:2*ii fs+2≤aB+1:=hk
  have hd1:0≤d:=hd1
  have hd2:d≤1000:=hd2
  cases ho
  refine (U5 fs d).trans ?_
  unfold CA
  show _=some (Out.ret ((cq d fs,()),()))
  rw[cq]
  by_cases h1:fs.length<1
  ·rw[if_pos h1]
   exact aa (decide_eq_true (by omega)) _ _
  rw[if_neg h1]
  refine (ab (decide_eq_false (by omega)) _ _).trans ?_
  by_cases h2:16<fs.length
  ·rw[if_pos h2]
   exact aa (decide_eq_true (by omega)) _ _
  rw[if_neg h2]
  refine (ab (decide_eq_false (by omega)) _ _).trans ?_
  by_cases h3:8<d
  ·rw[if_pos h3]
   exact aa (decide_eq_true h3) _ _
  rw[if_neg h3]
  refine (ab (decide_eq_false h3) _ _).trans ?_
  have c1:(decide ((0:Int)=0)&&((decide ((0:Int)≤d)&&decide (d≤999))&&(decide (2*ii fs+1≤aB)&&decide (fs.length≤16))))=true:=by simp;omega
  refine (aa c1 _ _).trans ?_
  by_cases h:(k5 fs 0 fs&&cp d fs)=true
  ·rw[h];rfl
  ·have h:(k5 fs 0 fs&&cp d fs)=false:=by simpa using h
   rw[h];rfl
end
section
variable [Inhabited FuT]
abbrev y8:List (Nat×Hc):=[(216,ah fK (sy aB)),(210,ah lP Eo)]
def HR:Hd:=bz y8
abbrev eQ:Lo:=⟨⟨(be (.one (.ptr 2 0)::be (.one (.hol (.int IntKind.i64))::.any::ai (ai (ai (ai (be []))))))),[none,none,some [.hol .str,.hol (.int IntKind.i64),.hol (.int IntKind.i64),.hol (.int IntKind.i64),.hol (.sl 160 ee)]]⟩,[(.ret,⟨(bJ (.one (.hol .bool)::ai (ai (ai (ai (bJ [])))))),[]⟩),(.exit 0,⟨(be (.one (.ptr 2 0)::ai (ai (ai (ai (bJ (be []))))))),[none,none,some [.hol .str,.hol (.int IntKind.i64),.hol (.int IntKind.i64),.hol (.int IntKind.i64),.hol (.sl 160 ee)]]⟩)]⟩
def pW (d:eQ.st.den):Tr (ax eQ.xs):=
 .ite (((decide ((0:Int)≤d.1.1)&&decide (d.1.1≤4))&&decide (d.2.1.2.2.2.1≤3))&&decide (d.2.1.2.2.2.2.1.length≤16))
  (.ite (ou d.2.1.2.2.2.2.1 5 d.1.1 d.2.1.2.2.2.1) (.ret (.pan (.ret ((),((),(d.2.1,())))))) (.ret (.ret ((),((false,()),()))))) .no
def tB:Lp:=bo [(9,aP eQ pW)]
def un {R:Type}(h2:Int)(h3:List Int)(h4 h5 h6:Int)(h7:List (Fd))(next:Int→List Int→Int→Int→Int→List (Fd)→Option R)(out:ax eQ.xs→Option R):Option R:=bif decide (h2≤h6) then bif decide (h7.length≤4294967296) then bif (↑(cP h7 h2).length:Int) == 0 then out (.ret ((),((false,()),()))) else next (IntKind.i64.wrap (h2+1)) (h3) (h4) (h5) (h6) (h7) else none else out (.pan (.ret ((),((),((h3,(h4,(h5,(h6,(h7,()))))),())))))
def rM (n:Nat)(h2:Int)(h3:List Int)(h4 h5 h6:Int)(h7:List (Fd)):Option (ax eQ.xs):=gk tt HR dr tB 0 Tryz.f220 (cI Tryz.f220 0) n (eQ.st.mk' ((h2,()),((h3,(h4,(h5,(h6,(h7,()))))),()))) (bI eQ.xs)
theorem LJ (n:Nat)(h2:Int)(h3:List Int)(h4 h5 h6:Int)(h7:List (Fd)):rM (n+1) h2 h3 h4 h5 h6 h7=un h2 h3 h4 h5 h6 h7 (rM n) some:=by kernel_rfl
theorem KO {ks:List Fd}(hl:ks.length≤16)(nm:List Int)(a b c:Int)(hc:c≤3):∀(k:Nat) (v:Int),0≤v→v≤4→4<v+k→
  rM k v nm a b c ks=if ou ks k v c=true then some (.pan (.ret ((),((),((nm,(a,(b,(c,(ks,()))))),()))))) else some (.ret ((),((false,()),()))):=by
 intro k
 induction k with
 |zero=>intro v h0 h1 h2;omega
 |succ k ih=>
  intro v h0 h1 h2
  rw[LJ]
  unfold un
  rw[ou]
  by_cases hv:v≤c
  ·refine (aa (decide_eq_true hv) _ _).trans ?_
   refine (aa (decide_eq_true (by omega)) _ _).trans ?_
   rw[if_pos hv,az (n:=v+1) (by omega) (by omega)]
   by_cases h:(cP ks v).length=0
   ·refine (aa (by simp[h]) _ _).trans ?_
    rw[if_pos h];rfl
   ·refine (ab (by simpa using h) _ _).trans ?_
    rw[if_neg h]
    exact ih (v+1) (by omega) (by omega) (by omega)
  ·refine (ab (decide_eq_false hv) _ _).trans ?_
   rw[if_neg hv];rfl
def yP (a0:Fd)(a1:Int):Option iy.Res:=bif (↑(List.length a0.1.1):Int) == 0 then some (Out.ret ((false,()),())) else bif decide (a0.1.2.2.1<0) then some (Out.ret ((false,()),())) else bif decide (3<a0.1.2.2.2.1) then some (Out.ret ((false,()),())) else bif decide (a0.1.2.2.2.1<a0.1.2.2.1) then some (Out.ret ((false,()),())) else bif decide (a0.1.2.1<1) then some (Out.ret ((false,()),())) else bif decide (10<a0.1.2.1) then some (Out.ret ((false,()),())) else bif decide (a0.1.2.1<9) then some (Out.ret (((↑a0.2.length:Int) == 0,()),())) else bif decide (2*ii a0.2+2≤aB)&&(decide (0≤IntKind.i64.wrap (a1+1))&&decide (IntKind.i64.wrap (a1+1)≤1000)) then bif !cq (IntKind.i64.wrap (a1+1)) a0.2 then some (Out.ret ((false,()),())) else (pW ((a0.1.2.2.1,()),((a0.1.1,(a0.1.2.1,(a0.1.2.2.1,(a0.1.2.2.2.1,(a0.2,()))))),()))).run fun y=>match y with | .ret ((),((x20,()),()))=>(some (Out.ret ((x20,()),()))) | .pan (.ret ((),((),(x21,x22,x23,x24,x25,()),())))=>(bif x22 == 10 then some (Out.ret ((true,()),())) else some (Out.ret (((↑x25.length:Int) == 1,()),()))) else none
theorem P6 (a0:Fd)(a1:Int):Io.run tt HR dr tB iy Tryz.f220 ((a0,a1,()),())=yP a0 a1:=by kernel_rfl
theorem Py (rvList:HcOk prog 216 (ah fK (sy aB))):HcOk prog 220 (ah iy (o3 (aB+1))):=by
 refine aj (n:=400) hm (cs:=y8) (.cons rvList (.cons xI .nil)) (lp:=tB) (fn:=Tryz.f220) (by kernel_rfl) (by kernel_rfl) (by kernel_rfl) iy (.step (h0:=aP eQ pW) (by kernel_rfl) (aw (n:=400) hm (cs:=y8) (.cons rvList (.cons xI .nil)) (lp:=tB) (fn:=Tryz.f220) (.done (by kernel_rfl)) eQ pW ?_) (.done (by kernel_rfl))) (o3 (aB+1)) ?_
 ·rintro ⟨⟨(v:Int),⟨⟩⟩,⟨⟨(nm:List Int),(a:Int),(b:Int),(c:Int),(ks:List Fd),⟨⟩⟩,⟨⟩⟩⟩ y hw hy
  obtain ⟨hg,hy⟩:=Tr.guard hy
  simp only[Bool.and_eq_true,decide_eq_true_eq] at hg
  obtain ⟨⟨⟨h1,h4⟩,h2⟩,h3⟩:=hg
  have h1:0≤v:=h1
  have h4:v≤4:=h4
  have h2:c≤3:=h2
  have h3:ks.length≤16:=h3
  refine ⟨5,(KO h3 nm a b c h2 5 v h1 h4 (by omega)).trans ?_⟩
  rw[← hy]
  by_cases h:ou ks 5 v c=true
  ·rw[if_pos h];exact (aa h _ _).symm
  ·rw[if_neg h];exact (ab (by simpa using h) _ _).symm
 ·rintro ⟨⟨(f:Fd),(d:Int),⟨⟩⟩,⟨⟩⟩ out hw ho
  obtain ⟨hg,ho⟩:=Tr.guard ho
  simp only[Bool.and_eq_true,decide_eq_true_eq] at hg
  obtain ⟨hk,hd1,hd2⟩:=hg
  have hk:2*xf f+1≤aB+1:=hk
  have hd1:0≤d:=hd1
  have hd2:d≤999:=hd2
  cases ho
  refine (P6 f d).trans ?_
  unfold yP
  show _=some (Out.ret ((dq d f,()),()))
  obtain ⟨⟨(nm:List Int),(k':Int),(lo:Int),(hi:Int),⟨⟩⟩,(ks:List Fd)⟩:=f
  have hwf:=Ga (Tre.mk (nm,(k',(lo,(hi,())))) ks)
  have hwf:xf (Tre.mk (nm,(k',(lo,(hi,())))) ks)=1+ii ks:=hwf
  have hk:2*(1+ii ks)+1≤aB+1:=by rw[← hwf];exact hk
  rw[dq,az (n:=d+1) (by omega) (by omega)]
  simp only
  by_cases h1:List.length nm=0
  ·rw[if_pos h1]
   exact aa (by simp[h1]) _ _
  rw[if_neg h1]
  refine (ab (by simpa using h1) _ _).trans ?_
  by_cases h2:lo<(0:Int)
  ·rw[if_pos h2]
   exact aa (decide_eq_true h2) _ _
  rw[if_neg h2]
  refine (ab (decide_eq_false h2) _ _).trans ?_
  by_cases h3:(3:Int)<hi
  ·rw[if_pos h3]
   exact aa (decide_eq_true h3) _ _
  rw[if_neg h3]
  refine (ab (decide_eq_false h3) _ _).trans ?_
  by_cases h4:(hi:Int)<lo
  ·rw[if_pos h4]
   exact aa (decide_eq_true h4) _ _
  rw[if_neg h4]
  refine (ab (decide_eq_false h4) _ _).trans ?_
  by_cases h5:k'<(1:Int)
  ·rw[if_pos h5]
   exact aa (decide_eq_true h5) _ _
  rw[if_neg h5]
  refine (ab (decide_eq_false h5) _ _).trans ?_
  by_cases h6:(10:Int)<k'
  ·rw[if_pos h6]
   exact aa (decide_eq_true h6) _ _
  rw[if_neg h6]
  refine (ab (decide_eq_false h6) _ _).trans ?_
  by_cases h7:k'<(9:Int)
  ·rw[if_pos h7]
   refine (aa (decide_eq_true h7) _ _).trans ?_
   by_cases h8:ks.length=0
   ·rw[if_pos h8,h8];rfl
   ·rw[if_neg h8]
    exact congrArg (fun b:Bool=>some (Out.ret ((b,()),()))) (by simpa using h8)
  rw[if_neg h7]
  refine (ab (decide_eq_false h7) _ _).trans ?_
  refine (aa (show (decide (2*ii ks+2≤aB)&&(decide ((0:Int)≤d+1)&&decide (d+1≤1000)))=true by simp;omega) _ _).trans ?_
  by_cases h8:cq (d+1) ks=false
  ·rw[if_pos h8]
   exact aa (by rw[h8];rfl) _ _
  rw[if_neg h8]
  refine (ab (by simpa using h8) _ _).trans ?_
  have h8:cq (d+1) ks=true:=by simpa using h8
  have hl:ks.length≤16:=by
   rw[cq] at h8
   split at h8
   ·cases h8
   ·split at h8
    ·cases h8
    ·omega
  have c1:(((decide ((0:Int)≤lo)&&decide (lo≤4))&&decide (hi≤(3:Int)))&&decide (ks.length≤16))=true:=by simp[hl];omega
  refine (aa c1 _ _).trans ?_
  by_cases h9:ou ks 5 lo hi=true
  ·refine (aa h9 _ _).trans ?_
   rw[if_neg (by rw[h9];decide)]
   show (bif k' == 10 then _ else _)=_
   by_cases h10:k'=10
   ·rw[if_pos h10]
    exact aa (by simpa using h10) _ _
   ·rw[if_neg h10]
    refine (ab (by simpa using h10) _ _).trans ?_
    by_cases h11:ks.length=1
    ·rw[if_pos h11]
     exact congrArg (fun b:Bool=>some (Out.ret ((b,()),()))) (show ((ks.length:Int) == 1)=true by rw[h11];rfl)
    ·rw[if_neg h11]
     exact congrArg (fun b:Bool=>some (Out.ret ((b,()),()))) (show ((ks.length:Int) == 1)=false by simp;omega)
  ·have h9:ou ks 5 lo hi=false:=by simpa using h9
   refine (ab h9 _ _).trans ?_
   rw[if_pos h9]
   rfl
end
theorem Ui (n:Nat):HcOk prog 216 (ah fK (sy n))∧HcOk prog 220 (ah iy (o3 n)):=by
 induction n with
 |zero=>
  refine ⟨HcOk.none (fn:=Tryz.f216) (by kernel_rfl) (by kernel_rfl) (by kernel_rfl) _ _ fun d out h=>?_,HcOk.none (fn:=Tryz.f220) (by kernel_rfl) (by kernel_rfl) (by kernel_rfl) _ _ fun d out h=>?_⟩
  ·cases h
  ·cases h
 |succ n ih=>
  have h1:=@Uj ⟨⟨n⟩⟩ (by rw[FuT.val];exact ih.2)
  have h2:=@Py ⟨⟨n⟩⟩ (by rw[FuT.val];exact ih.1)
  rw[FuT.val] at h1 h2
  exact ⟨h1,h2⟩
theorem Xp:HcOk prog 216 (ah fK Rk):=by
 refine HcOk.lim (fun n=>(Ui n).1) fun d=>⟨2*ii d.1.1+2,fun out h=>?_⟩
 obtain ⟨hg,h⟩:=Tr.guard h
 exact (aa (by rw[hg];simp) _ _).trans h
abbrev kS:Io:=⟨[wl],[],[],[dI],none⟩
def mU (l:List Fd):Int:=if cq 1 l=true then 0 else 100
def Ew (d:kS.In):Tr kS.Res:=.ret (.ret ((mU d.1.1,()),()))
abbrev HD:List (Nat×Hc):=[(216,ah fK Rk)]
def S4:Hd:=bz HD
def IA:Lp:=bo []
def yO (a0:List ee.den):Option kS.Res:=bif !cq 1 a0 then some (Out.ret ((100,()),())) else some (Out.ret ((0,()),()))
theorem P5 (a0:List ee.den):Io.run tt S4 dr IA kS Tryz.f209 ((a0,()),())=yO a0:=by kernel_rfl
theorem Uh:HcOk prog 209 (ah kS Ew):=by
 refine aj (n:=400) hm (cs:=HD) (.cons Xp .nil) (lp:=IA) (fn:=Tryz.f209) (by kernel_rfl) (by kernel_rfl) (by kernel_rfl) kS (.done (by kernel_rfl)) Ew ?_
 rintro ⟨⟨(fs:List Fd),⟨⟩⟩,⟨⟩⟩ out hw ho
 cases ho
 refine (P5 fs).trans ?_
 unfold yO
 show _=some (Out.ret ((mU fs,()),()))
 unfold mU
 by_cases h:cq 1 fs=true
 ·rw[if_pos h]
  exact ab (by rw[h];rfl) _ _
 ·rw[if_neg h]
  exact aa (by simpa using h) _ _
abbrev kR:Io:=⟨[wl,dI],[],[],[dI],none⟩
def oJ (l:List Fd)(v:Int):Int:=if v<0∨3<v then 8 else mU l
def Ev (d:kR.In):Tr kR.Res:=.ret (.ret ((oJ d.1.1 d.1.2.1,()),()))
abbrev HC:List (Nat×Hc):=[(209,ah kS Ew)]
def S3:Hd:=bz HC
def Iz:Lp:=bo []
def yN (a0:List ee.den)(a1:Int):Option kR.Res:=bif decide (a1<0) then some (Out.ret ((8,()),())) else bif decide (3<a1) then some (Out.ret ((8,()),())) else some (Out.ret ((mU a0,()),()))
theorem P4 (a0:List ee.den)(a1:Int):Io.run tt S3 dr Iz kR Tryz.f190 ((a0,a1,()),())=yN a0 a1:=by kernel_rfl
theorem Ug:HcOk prog 190 (ah kR Ev):=by
 refine aj (n:=400) hm (cs:=HC) (.cons Uh .nil) (lp:=Iz) (fn:=Tryz.f190) (by kernel_rfl) (by kernel_rfl) (by kernel_rfl) kR (.done (by kernel_rfl)) Ev ?_
 rintro ⟨⟨(fs:List Fd),(v:Int),⟨⟩⟩,⟨⟩⟩ out hw ho
 cases ho
 refine (P4 fs v).trans ?_
 unfold yN
 show _=some (Out.ret ((oJ fs v,()),()))
 unfold oJ
 by_cases h:v<0
 ·rw[if_pos (.inl h)]
  exact aa (decide_eq_true h) _ _
 ·refine (ab (decide_eq_false h) _ _).trans ?_
  by_cases h2:3<v
  ·rw[if_pos (.inr h2)]
   exact aa (decide_eq_true h2) _ _
  ·rw[if_neg (by omega)]
   exact ab (decide_eq_false h2) _ _
theorem Jg (k:Fd)(ks:List Fd):bk (k::ks)=(dx k&&bk ks):=by unfold bk dx;rfl
theorem Jm:∀(N:Nat),(∀(d:Int) (f:Fd),xf f≤N→dq d f=true→dx f=true)∧(∀(d:Int) (ks:List Fd),ii ks<N→cq d ks=true→bk ks=true∧1≤ks.length∧ks.length≤16):=by
 intro N
 induction N with
 |zero=>exact ⟨fun d f h=>by have:=Ga f;omega,fun d ks h=>by omega⟩
 |succ N ih=>
  have hl:∀(d:Int) (ks:List Fd),ii ks<N+1→cq d ks=true→bk ks=true∧1≤ks.length∧ks.length≤16:=by
   intro d ks hN h
   rw[cq] at h
   split at h
   ·cases h
   split at h
   ·cases h
   split at h
   ·cases h
   refine ⟨?_,by omega,by omega⟩
   simp only[Bool.and_eq_true] at h
   have key:∀l:List Fd,(∀k∈l,xf k≤N)→cp d l=true→bk l=true:=by
    intro l
    induction l with
    |nil=>intro _ _;unfold bk;rfl
    |cons k l ihl=>
     intro h1 h2
     rw[cp] at h2
     simp only[Bool.and_eq_true] at h2
     rw[Jg,ih.1 d k (h1 k (by simp)) h2.1,ihl (fun k hk=>h1 k (List.mem_cons_of_mem _ hk)) h2.2];rfl
   exact key ks (fun k hk=>by have:=Jo hk;omega) h.2
  refine ⟨?_,hl⟩
  rintro d ⟨⟨(nm:List Int),(k':Int),(lo:Int),(hi:Int),⟨⟩⟩,(ks:List Fd)⟩ hN h
  rw[Ax]
  have hwf:=Ga (Tre.mk (nm,(k',(lo,(hi,())))) ks)
  have hwf:xf (Tre.mk (nm,(k',(lo,(hi,())))) ks)=1+ii ks:=hwf
  have hN:1+ii ks≤N+1:=by rw[← hwf];exact hN
  show ((((decide (k'≠9) || decide (ks.length≠0))&&decide (ks.length≤16))&&bk ks))=true
  rw[dq] at h
  by_cases c0:List.length nm=0
  ·rw[if_pos c0] at h;cases h
  rw[if_neg c0] at h
  by_cases c1:lo<0
  ·rw[if_pos c1] at h;cases h
  rw[if_neg c1] at h
  by_cases c2:3<hi
  ·rw[if_pos c2] at h;cases h
  rw[if_neg c2] at h
  by_cases c3:hi<lo
  ·rw[if_pos c3] at h;cases h
  rw[if_neg c3] at h
  by_cases c4:k'<1
  ·rw[if_pos c4] at h;cases h
  rw[if_neg c4] at h
  by_cases c5:10<k'
  ·rw[if_pos c5] at h;cases h
  rw[if_neg c5] at h
  by_cases hk9:k'<9
  ·rw[if_pos hk9] at h
   by_cases h0:ks.length=0
   ·have:ks=[]:=List.eq_nil_of_length_eq_zero h0
    subst this
    have e:decide (k'≠9)=true:=decide_eq_true (by omega)
    have:bk []=true:=by unfold bk;rfl
    rw[e,this];rfl
   ·rw[if_neg h0] at h;cases h
  rw[if_neg hk9] at h
  by_cases hlk:cq (d+1) ks=false
  ·rw[if_pos hlk] at h;cases h
  obtain ⟨h1,h2,h3⟩:=hl (d+1) ks (by omega) (by simpa using hlk)
  have e:decide (ks.length≠0)=true:=decide_eq_true (by omega)
  have e2:decide (ks.length≤16)=true:=decide_eq_true h3
  rw[h1,e,e2,Bool.or_true];rfl
theorem Qs {l:List Fd}{v:Int}(h:oJ l v=0):bk l=true∧l.length≤16:=by
 unfold oJ at h
 split at h
 ·omega
 ·unfold mU at h
  split at h
  ·rename_i hl
   have:=(Jm (ii l+1)).2 1 l (by omega) hl
   exact ⟨this.1,this.2.2⟩
  ·omega
abbrev jc:Io:=⟨[wl,dI,du],[],[],[dL,dI],none⟩
def qW (l:List Fd)(v:Int)(n:Nd):List Int×Int:=if oJ l v≠0 then ([],oJ l v) else if ge 10 n=false then ([],101) else if (bq l v n).2≠0 then ([],(bq l v n).2) else if 130048<(bq l v n).1.length then ([],4) else ((bq l v n).1,0)
def yl (d:jc.In):Tr jc.Res:=.ite (decide (8*aO d.1.2.2.1≤4294967296)) (.ret (.ret (((qW d.1.1 d.1.2.1 d.1.2.2.1).1,((qW d.1.1 d.1.2.1 d.1.2.2.1).2,())),()))) .no
abbrev CT:List (Nat×Hc):=[(190,ah kR Ev),(191,ah iw xk),(192,ah er Mw)]
def O2:Hd:=bz CT
def Dm:Lp:=bo []
def we (a0:List ee.den)(a1:Int)(a2:Nd):Option jc.Res:=bif oJ a0 a1 != 0 then some (Out.ret (([],oJ a0 a1,()),())) else bif !ge 10 (Tre.mk a2.1 a2.2) then some (Out.ret (([],101,()),())) else bif bk a0&&(decide (8*aO (Tre.mk a2.1 a2.2)≤4294967296)&&decide (a0.length≤4294967296)) then bif (bq a0 a1 (Tre.mk a2.1 a2.2)).2 != 0 then some (Out.ret (([],(bq a0 a1 (Tre.mk a2.1 a2.2)).2,()),())) else bif decide (130048<(↑(bq a0 a1 (Tre.mk a2.1 a2.2)).1.length:Int)) then some (Out.ret (([],4,()),())) else some (Out.ret (((bq a0 a1 (Tre.mk a2.1 a2.2)).1,0,()),())) else none
theorem Ly (a0:List ee.den)(a1:Int)(a2:Nd):Io.run tt O2 dr Dm jc Tryz.f91 ((a0,a1,a2,()),())=we a0 a1 a2:=by kernel_rfl
theorem Px:HcOk prog 91 (ah jc yl):=by
 refine aj (n:=400) hm (cs:=CT) (.cons Ug (.cons z7 (.cons Uk .nil))) (lp:=Dm) (fn:=Tryz.f91) (by kernel_rfl) (by kernel_rfl) (by kernel_rfl) jc (.done (by kernel_rfl)) yl ?_
 rintro ⟨⟨(fs:List Fd),(v:Int),(n:Nd),⟨⟩⟩,⟨⟩⟩ out hw ho
 obtain ⟨hg,ho⟩:=Tr.guard ho
 have hb:8*aO n≤4294967296:=of_decide_eq_true hg
 cases ho
 refine (Ly fs v n).trans ?_
 unfold we
 show _=some (Out.ret (((qW fs v n).1,((qW fs v n).2,())),()))
 unfold qW
 by_cases h1:oJ fs v=0
 ·rw[if_neg (by simpa using h1)]
  refine (ab (by rw[h1];rfl) _ _).trans ?_
  obtain ⟨ha,hl⟩:=Qs h1
  obtain ⟨nl,nk⟩:=n
  by_cases h2:ge 10 (Tre.mk nl nk)=false
  ·rw[if_pos h2]
   exact aa (show (!ge 10 (Tre.mk nl nk))=true by rw[h2];rfl) _ _
  rw[if_neg h2]
  refine (ab (show (!ge 10 (Tre.mk nl nk))=false by simpa using h2) _ _).trans ?_
  refine (aa (show (bk fs&&(decide (8*aO (Tre.mk nl nk)≤4294967296)&&decide (fs.length≤4294967296)))=true by rw[ha];simp;omega) _ _).trans ?_
  by_cases h3:(bq fs v (Tre.mk nl nk)).2=0
  ·rw[if_neg (by simpa using h3)]
   refine (ab (show ((bq fs v (Tre.mk nl nk)).2 != 0)=false by rw[h3];rfl) _ _).trans ?_
   by_cases h4:130048<(bq fs v (Tre.mk nl nk)).1.length
   ·rw[if_pos h4]
    exact aa (decide_eq_true (show (130048:Int)<((bq fs v (Tre.mk nl nk)).1.length:Int) by omega)) _ _
   ·rw[if_neg h4]
    exact ab (decide_eq_false (show ¬(130048:Int)<((bq fs v (Tre.mk nl nk)).1.length:Int) by omega)) _ _
  ·rw[if_pos h3]
   exact aa (by simpa using h3) _ _
 ·rw[if_pos h1]
  exact aa (by simpa using h1) _ _
end
end Go.Proofs.YtomeplopmndbgaaGreat.Sym
namespace Go.Proofs.YtomeplopmndbgaaGreat.Sym
open Go
set_option linter.unusedSimpArgs false
set_option linter.unusedVariables false
noncomputable section
mutual
def aX (f:Fd)(v:Int):Nd→Nd×Bool
 |.mk a ks=>if f.lab.2.1=9 then (.mk (9,(0,(false,(([]:List Int),())))) (bS (f.kids.headD f) v ks).1,(bS (f.kids.headD f) v ks).2)
  else if f.lab.2.1=10 then (.mk (10,(0,(false,(([]:List Int),())))) (bu v f.kids ks).1,(bu v f.kids ks).2) else (.mk a ks,true)
termination_by n=>(SizeOf.sizeOf n,0)
def bS (f:Fd)(v:Int):List Nd→List Nd×Bool
 |[]=>([],true)
 |k::ks=>((aX f v k).1::(bS f v ks).1,(aX f v k).2&&(bS f v ks).2)
termination_by l=>(SizeOf.sizeOf l,0)
def bu (v:Int):List Fd→List Nd→List Nd×Bool
 |f::fs,k::ks=>if gd f v=true then ((aX f v k).1::(bu v fs ks).1,(aX f v k).2&&(bu v fs ks).2) else ((bu v fs ks).1,b9 k&&(bu v fs ks).2)
 |_,_=>([],true)
termination_by fs l=>(SizeOf.sizeOf l,0)
end
mutual
def Vw (f:Fd)(v:Int):Nd→Nd
 |.mk a ks=>if f.lab.2.1=9 then .mk (9,(0,(false,(([]:List Int),())))) (AH (f.kids.headD f) v ks)
  else if f.lab.2.1=10 then .mk (10,(0,(false,(([]:List Int),())))) (AI v f.kids ks) else .mk a ks
termination_by n=>(SizeOf.sizeOf n,0,0)
def AH (f:Fd)(v:Int):List Nd→List Nd
 |[]=>[]
 |k::ks=>Vw f v k::AH f v ks
termination_by l=>(SizeOf.sizeOf l,0,0)
def AI (v:Int):List Fd→List Nd→List Nd
 |[],_=>[]
 |f::fs,[]=>.mk (f.lab.2.1,(0,(false,(([]:List Int),())))) []::AI v fs []
 |f::fs,k::ks=>if gd f v=true then Vw f v k::AI v fs ks else .mk (f.lab.2.1,(0,(false,(([]:List Int),())))) []::AI v fs (k::ks)
termination_by fs l=>(SizeOf.sizeOf l,0,fs.length)
end
abbrev jb:Io:=⟨[Kq,dI,du],[],[],[du,dB],none⟩
def yk (n:Nat)(d:jb.In):Tr jb.Res:=.ite (decide (aO d.1.2.2.1<n)&&(dx d.1.1&&decide (aO d.1.2.2.1≤4294967296))) (.ret (.ret (((aX d.1.1 d.1.2.1 d.1.2.2.1).1,((aX d.1.1 d.1.2.1 d.1.2.2.1).2,())),()))) .no
def Yz (d:jb.In):Tr jb.Res:=.ite (dx d.1.1&&decide (aO d.1.2.2.1≤4294967296)) (.ret (.ret (((aX d.1.1 d.1.2.1 d.1.2.2.1).1,((aX d.1.1 d.1.2.1 d.1.2.2.1).2,())),()))) .no
section
variable [Inhabited FuT]
abbrev EQ:List (Nat×Hc):=[(90,ah jb (yk aB)),(189,ah jC xj),(88,ah lQ Et)]
def Kz:Hd:=bz EQ
abbrev iI:Lo:=⟨⟨(.any::.one (.hol (.int IntKind.i64))::.any::.one (.ptr 3 0)::.any::.one (.ptr 5 0)::.one (.ptr 6 0)::.any::.one (.onl 91 (((Ty.int IntKind.i64).prod ((Ty.int IntKind.i64).prod (Ty.bool.prod ((Ty.sl 5 (Ty.int IntKind.u8)).prod Ty.unit)))).tree 91) 17)::.one (.hol .bool)::.one (.hol (.int IntKind.i64))::.any::ai (ai (ai (ai (ai (ai (bJ []))))))),[none,none,none,some [.hol .str,.hol (.int IntKind.i64),.hol (.int IntKind.i64),.hol (.int IntKind.i64),.hol (.sl 160 ee)],none,some [.hol (.int IntKind.i64),.hol (.int IntKind.i64),.hol .bool,.hol (.sl 5 (Ty.int IntKind.u8)),.hol (.sl 91 (((Ty.int IntKind.i64).prod ((Ty.int IntKind.i64).prod (Ty.bool.prod ((Ty.sl 5 (Ty.int IntKind.u8)).prod Ty.unit)))).tree 91))],some [.hol (.int IntKind.i64),.hol (.int IntKind.i64),.hol .bool,.onl 5 (Ty.int IntKind.u8) 3080,.onl 91 (((Ty.int IntKind.i64).prod ((Ty.int IntKind.i64).prod (Ty.bool.prod ((Ty.sl 5 (Ty.int IntKind.u8)).prod Ty.unit)))).tree 91) 3082]]⟩,[(.exit 0,⟨(bJ (be (.one (.ptr 6 0)::.any::.one (.onl 91 (((Ty.int IntKind.i64).prod ((Ty.int IntKind.i64).prod (Ty.bool.prod ((Ty.sl 5 (Ty.int IntKind.u8)).prod Ty.unit)))).tree 91) 17)::.one (.hol .bool)::ai (ai (ai (ai (ai (ai (bJ (be [])))))))))),[none,none,none,none,none,none,some [.hol (.int IntKind.i64),.hol (.int IntKind.i64),.hol .bool,.onl 5 (Ty.int IntKind.u8) 3080,.onl 91 (((Ty.int IntKind.i64).prod ((Ty.int IntKind.i64).prod (Ty.bool.prod ((Ty.sl 5 (Ty.int IntKind.u8)).prod Ty.unit)))).tree 91) 3082]]⟩)]⟩
abbrev fV:Lo:=⟨⟨(.any::.one (.hol (.int IntKind.i64))::.any::.one (.ptr 3 0)::.any::.one (.ptr 5 0)::.one (.ptr 6 0)::.any::.one (.onl 91 (((Ty.int IntKind.i64).prod ((Ty.int IntKind.i64).prod (Ty.bool.prod ((Ty.sl 5 (Ty.int IntKind.u8)).prod Ty.unit)))).tree 91) 17)::.one (.hol .bool)::.any::be (.one (.hol (.int IntKind.i64))::ai (ai (ai (ai (ai (ai (be [])))))))),[none,none,none,some [.hol .str,.hol (.int IntKind.i64),.hol (.int IntKind.i64),.hol (.int IntKind.i64),.hol (.sl 160 ee)],none,some [.hol (.int IntKind.i64),.hol (.int IntKind.i64),.hol .bool,.hol (.sl 5 (Ty.int IntKind.u8)),.hol (.sl 91 (((Ty.int IntKind.i64).prod ((Ty.int IntKind.i64).prod (Ty.bool.prod ((Ty.sl 5 (Ty.int IntKind.u8)).prod Ty.unit)))).tree 91))],some [.hol (.int IntKind.i64),.hol (.int IntKind.i64),.hol .bool,.onl 5 (Ty.int IntKind.u8) 3080,.onl 91 (((Ty.int IntKind.i64).prod ((Ty.int IntKind.i64).prod (Ty.bool.prod ((Ty.sl 5 (Ty.int IntKind.u8)).prod Ty.unit)))).tree 91) 3082]]⟩,[(.exit 2,⟨(bJ (be (.one (.ptr 6 0)::.any::.one (.onl 91 (((Ty.int IntKind.i64).prod ((Ty.int IntKind.i64).prod (Ty.bool.prod ((Ty.sl 5 (Ty.int IntKind.u8)).prod Ty.unit)))).tree 91) 17)::.one (.hol .bool)::ai (ai (ai (ai (ai (ai (bJ (be [])))))))))),[none,none,none,none,none,none,some [.hol (.int IntKind.i64),.hol (.int IntKind.i64),.hol .bool,.onl 5 (Ty.int IntKind.u8) 3080,.onl 91 (((Ty.int IntKind.i64).prod ((Ty.int IntKind.i64).prod (Ty.bool.prod ((Ty.sl 5 (Ty.int IntKind.u8)).prod Ty.unit)))).tree 91) 3082]]⟩)]⟩
def xl (d:iI.st.den):Tr (ax iI.xs):=
 .ite (decide (d.1.2.2.2.1=0)&&((decide (d.1.2.1.length=0)&&d.1.2.2.1)&&((decide (d.2.1.2.2.2.2.1.length≠0)&&bk d.2.1.2.2.2.2.1)&&(decide (aD d.2.2.1.2.2.2.2.1<aB)&&decide (aD d.2.2.1.2.2.2.2.1≤4294967296)))))
  (.ret (.ret ((),(((bS (d.2.1.2.2.2.2.1.headD (.mk ([],(0,(0,(0,())))) [])) d.1.1 d.2.2.1.2.2.2.2.1).1,((bS (d.2.1.2.2.2.2.1.headD (.mk ([],(0,(0,(0,())))) [])) d.1.1 d.2.2.1.2.2.2.2.1).2,())),(d.2.2.2.1,()))))) .no
def sx (d:fV.st.den):Tr (ax fV.xs):=
 .ite (decide (d.1.2.2.2.1=0)&&((decide (d.1.2.1.length=0)&&d.1.2.2.1)&&(bk d.2.1.2.2.2.2.1&&(decide (aD d.2.2.1.2.2.2.2.1<aB)&&decide (aD d.2.2.1.2.2.2.2.1≤4294967296)))))
  (.ret (.ret ((),(((bu d.1.1 d.2.1.2.2.2.2.1 d.2.2.1.2.2.2.2.1).1,((bu d.1.1 d.2.1.2.2.2.2.1 d.2.2.1.2.2.2.2.1).2,())),(d.2.2.2.1,()))))) .no
def vi:Lp:=bo [(6,aP iI xl),(15,aP fV sx)]
def Bm {R:Type}(h3:Int)(h4:List (((Ty.int IntKind.i64).prod ((Ty.int IntKind.i64).prod (Ty.bool.prod ((Ty.sl 5 (Ty.int IntKind.u8)).prod Ty.unit)))).tree 91).den)(h5:Bool)(h6:Int)(h7:List Int)(h8 h9 h10:Int)(h11:List (Fd))(h12 h13:Int)(h14:Bool)(h15:List Int)(h16:List (Nd))(h17 h18:Int)(h19:Bool)(h20:List Int)(h21:List (((Ty.int IntKind.i64).prod ((Ty.int IntKind.i64).prod (Ty.bool.prod ((Ty.sl 5 (Ty.int IntKind.u8)).prod Ty.unit)))).tree 91).den)(next:Int→List (((Ty.int IntKind.i64).prod ((Ty.int IntKind.i64).prod (Ty.bool.prod ((Ty.sl 5 (Ty.int IntKind.u8)).prod Ty.unit)))).tree 91).den→Bool→Int→List Int→Int→Int→Int→List (Fd)→Int→Int→Bool→List Int→List (Nd)→Int→Int→Bool→List Int→List (((Ty.int IntKind.i64).prod ((Ty.int IntKind.i64).prod (Ty.bool.prod ((Ty.sl 5 (Ty.int IntKind.u8)).prod Ty.unit)))).tree 91).den→Option R)(out:ax iI.xs→Option R):Option R:=bif decide (h6<(↑h16.length:Int)) then bif decide (0≤0)&&decide (0<(↑h11.length:Int)) then bif decide (0≤h6)&&decide (h6<(↑h16.length:Int)) then bif decide (aO (Tre.mk (h16.getD h6.toNat (Tre.mk (0,0,false,[],()) [])).1 (h16.getD h6.toNat (Tre.mk (0,0,false,[],()) [])).2)<aB)&&(dx (Tre.mk (h11.getD (Int.toNat 0) (Tre.mk ([],0,0,0,()) [])).1 (h11.getD (Int.toNat 0) (Tre.mk ([],0,0,0,()) [])).2)&&decide (aO (Tre.mk (h16.getD h6.toNat (Tre.mk (0,0,false,[],()) [])).1 (h16.getD h6.toNat (Tre.mk (0,0,false,[],()) [])).2)≤4294967296)) then bif decide (h4.length+1≤4294967296) then bif h5 then next (h3) (h4++[Tre.mk (aX (Tre.mk (h11.getD (Int.toNat 0) (Tre.mk ([],0,0,0,()) [])).1 (h11.getD (Int.toNat 0) (Tre.mk ([],0,0,0,()) [])).2) h3 (Tre.mk (h16.getD h6.toNat (Tre.mk (0,0,false,[],()) [])).1 (h16.getD h6.toNat (Tre.mk (0,0,false,[],()) [])).2)).1.1 (aX (Tre.mk (h11.getD (Int.toNat 0) (Tre.mk ([],0,0,0,()) [])).1 (h11.getD (Int.toNat 0) (Tre.mk ([],0,0,0,()) [])).2) h3 (Tre.mk (h16.getD h6.toNat (Tre.mk (0,0,false,[],()) [])).1 (h16.getD h6.toNat (Tre.mk (0,0,false,[],()) [])).2)).1.2]) ((aX (Tre.mk (h11.getD (Int.toNat 0) (Tre.mk ([],0,0,0,()) [])).1 (h11.getD (Int.toNat 0) (Tre.mk ([],0,0,0,()) [])).2) h3 (Tre.mk (h16.getD h6.toNat (Tre.mk (0,0,false,[],()) [])).1 (h16.getD h6.toNat (Tre.mk (0,0,false,[],()) [])).2)).2) (IntKind.i64.wrap (h6+1)) (h7) (h8) (h9) (h10) (h11) (h12) (h13) (h14) (h15) (h16) (h17) (h18) (h19) (h20) (h21) else next (h3) (h4++[Tre.mk (aX (Tre.mk (h11.getD (Int.toNat 0) (Tre.mk ([],0,0,0,()) [])).1 (h11.getD (Int.toNat 0) (Tre.mk ([],0,0,0,()) [])).2) h3 (Tre.mk (h16.getD h6.toNat (Tre.mk (0,0,false,[],()) [])).1 (h16.getD h6.toNat (Tre.mk (0,0,false,[],()) [])).2)).1.1 (aX (Tre.mk (h11.getD (Int.toNat 0) (Tre.mk ([],0,0,0,()) [])).1 (h11.getD (Int.toNat 0) (Tre.mk ([],0,0,0,()) [])).2) h3 (Tre.mk (h16.getD h6.toNat (Tre.mk (0,0,false,[],()) [])).1 (h16.getD h6.toNat (Tre.mk (0,0,false,[],()) [])).2)).1.2]) (false) (IntKind.i64.wrap (h6+1)) (h7) (h8) (h9) (h10) (h11) (h12) (h13) (h14) (h15) (h16) (h17) (h18) (h19) (h20) (h21) else none else none else none else none else out (.ret ((),((h4,(h5,())),((h17,(h18,(h19,(h20,(h21,()))))),()))))
def pk (n:Nat)(h3:Int)(h4:List (((Ty.int IntKind.i64).prod ((Ty.int IntKind.i64).prod (Ty.bool.prod ((Ty.sl 5 (Ty.int IntKind.u8)).prod Ty.unit)))).tree 91).den)(h5:Bool)(h6:Int)(h7:List Int)(h8 h9 h10:Int)(h11:List (Fd))(h12 h13:Int)(h14:Bool)(h15:List Int)(h16:List (Nd))(h17 h18:Int)(h19:Bool)(h20:List Int)(h21:List (((Ty.int IntKind.i64).prod ((Ty.int IntKind.i64).prod (Ty.bool.prod ((Ty.sl 5 (Ty.int IntKind.u8)).prod Ty.unit)))).tree 91).den):Option (ax iI.xs):=gk tt Kz dr vi 0 Tryz.f90 (cI Tryz.f90 0) n (iI.st.mk' ((h3,(h4,(h5,(h6,())))),((h7,(h8,(h9,(h10,(h11,()))))),((h12,(h13,(h14,(h15,(h16,()))))),((h17,(h18,(h19,(h20,(h21,()))))),()))))) (bI iI.xs)
theorem Vh (n:Nat)(h3:Int)(h4:List (((Ty.int IntKind.i64).prod ((Ty.int IntKind.i64).prod (Ty.bool.prod ((Ty.sl 5 (Ty.int IntKind.u8)).prod Ty.unit)))).tree 91).den)(h5:Bool)(h6:Int)(h7:List Int)(h8 h9 h10:Int)(h11:List (Fd))(h12 h13:Int)(h14:Bool)(h15:List Int)(h16:List (Nd))(h17 h18:Int)(h19:Bool)(h20:List Int)(h21:List (((Ty.int IntKind.i64).prod ((Ty.int IntKind.i64).prod (Ty.bool.prod ((Ty.sl 5 (Ty.int IntKind.u8)).prod Ty.unit)))).tree 91).den):pk (n+1) h3 h4 h5 h6 h7 h8 h9 h10 h11 h12 h13 h14 h15 h16 h17 h18 h19 h20 h21=Bm h3 h4 h5 h6 h7 h8 h9 h10 h11 h12 h13 h14 h15 h16 h17 h18 h19 h20 h21 (pk n) some:=by kernel_rfl
def wX {R:Type}(h74:Int)(h75:List (((Ty.int IntKind.i64).prod ((Ty.int IntKind.i64).prod (Ty.bool.prod ((Ty.sl 5 (Ty.int IntKind.u8)).prod Ty.unit)))).tree 91).den)(h76:Bool)(h77:Int)(h78:List Int)(h79 h80 h81:Int)(h82:List (Fd))(h83 h84:Int)(h85:Bool)(h86:List Int)(h87:List (Nd))(h88 h89:Int)(h90:Bool)(h91:List Int)(h92:List (((Ty.int IntKind.i64).prod ((Ty.int IntKind.i64).prod (Ty.bool.prod ((Ty.sl 5 (Ty.int IntKind.u8)).prod Ty.unit)))).tree 91).den)(next:Int→List (((Ty.int IntKind.i64).prod ((Ty.int IntKind.i64).prod (Ty.bool.prod ((Ty.sl 5 (Ty.int IntKind.u8)).prod Ty.unit)))).tree 91).den→Bool→Int→List Int→Int→Int→Int→List (Fd)→Int→Int→Bool→List Int→List (Nd)→Int→Int→Bool→List Int→List (((Ty.int IntKind.i64).prod ((Ty.int IntKind.i64).prod (Ty.bool.prod ((Ty.sl 5 (Ty.int IntKind.u8)).prod Ty.unit)))).tree 91).den→Option R)(out:ax fV.xs→Option R):Option R:=bif decide (h77<(↑h82.length:Int)) then bif decide (h77<(↑h87.length:Int)) then bif decide (0≤h77)&&decide (h77<(↑h82.length:Int)) then bif gd (Tre.mk (h82.getD h77.toNat (Tre.mk ([],0,0,0,()) [])).1 (h82.getD h77.toNat (Tre.mk ([],0,0,0,()) [])).2) h74 then bif decide (0≤h77)&&decide (h77<(↑h82.length:Int)) then bif decide (0≤h77)&&decide (h77<(↑h87.length:Int)) then bif decide (aO (Tre.mk (h87.getD h77.toNat (Tre.mk (0,0,false,[],()) [])).1 (h87.getD h77.toNat (Tre.mk (0,0,false,[],()) [])).2)<aB)&&(dx (Tre.mk (h82.getD h77.toNat (Tre.mk ([],0,0,0,()) [])).1 (h82.getD h77.toNat (Tre.mk ([],0,0,0,()) [])).2)&&decide (aO (Tre.mk (h87.getD h77.toNat (Tre.mk (0,0,false,[],()) [])).1 (h87.getD h77.toNat (Tre.mk (0,0,false,[],()) [])).2)≤4294967296)) then bif decide (h75.length+1≤4294967296) then bif h76 then next (h74) (h75++[Tre.mk (aX (Tre.mk (h82.getD h77.toNat (Tre.mk ([],0,0,0,()) [])).1 (h82.getD h77.toNat (Tre.mk ([],0,0,0,()) [])).2) h74 (Tre.mk (h87.getD h77.toNat (Tre.mk (0,0,false,[],()) [])).1 (h87.getD h77.toNat (Tre.mk (0,0,false,[],()) [])).2)).1.1 (aX (Tre.mk (h82.getD h77.toNat (Tre.mk ([],0,0,0,()) [])).1 (h82.getD h77.toNat (Tre.mk ([],0,0,0,()) [])).2) h74 (Tre.mk (h87.getD h77.toNat (Tre.mk (0,0,false,[],()) [])).1 (h87.getD h77.toNat (Tre.mk (0,0,false,[],()) [])).2)).1.2]) ((aX (Tre.mk (h82.getD h77.toNat (Tre.mk ([],0,0,0,()) [])).1 (h82.getD h77.toNat (Tre.mk ([],0,0,0,()) [])).2) h74 (Tre.mk (h87.getD h77.toNat (Tre.mk (0,0,false,[],()) [])).1 (h87.getD h77.toNat (Tre.mk (0,0,false,[],()) [])).2)).2) (IntKind.i64.wrap (h77+1)) (h78) (h79) (h80) (h81) (h82) (h83) (h84) (h85) (h86) (h87) (h88) (h89) (h90) (h91) (h92) else next (h74) (h75++[Tre.mk (aX (Tre.mk (h82.getD h77.toNat (Tre.mk ([],0,0,0,()) [])).1 (h82.getD h77.toNat (Tre.mk ([],0,0,0,()) [])).2) h74 (Tre.mk (h87.getD h77.toNat (Tre.mk (0,0,false,[],()) [])).1 (h87.getD h77.toNat (Tre.mk (0,0,false,[],()) [])).2)).1.1 (aX (Tre.mk (h82.getD h77.toNat (Tre.mk ([],0,0,0,()) [])).1 (h82.getD h77.toNat (Tre.mk ([],0,0,0,()) [])).2) h74 (Tre.mk (h87.getD h77.toNat (Tre.mk (0,0,false,[],()) [])).1 (h87.getD h77.toNat (Tre.mk (0,0,false,[],()) [])).2)).1.2]) (false) (IntKind.i64.wrap (h77+1)) (h78) (h79) (h80) (h81) (h82) (h83) (h84) (h85) (h86) (h87) (h88) (h89) (h90) (h91) (h92) else none else none else none else none else bif h76 then bif decide (0≤h77)&&decide (h77<(↑h87.length:Int)) then next (h74) (h75) (b9 (Tre.mk (h87.getD h77.toNat (Tre.mk (0,0,false,[],()) [])).1 (h87.getD h77.toNat (Tre.mk (0,0,false,[],()) [])).2)) (IntKind.i64.wrap (h77+1)) (h78) (h79) (h80) (h81) (h82) (h83) (h84) (h85) (h86) (h87) (h88) (h89) (h90) (h91) (h92) else none else next (h74) (h75) (false) (IntKind.i64.wrap (h77+1)) (h78) (h79) (h80) (h81) (h82) (h83) (h84) (h85) (h86) (h87) (h88) (h89) (h90) (h91) (h92) else none else out (.ret ((),((h75,(h76,())),((h88,(h89,(h90,(h91,(h92,()))))),())))) else out (.ret ((),((h75,(h76,())),((h88,(h89,(h90,(h91,(h92,()))))),()))))
def qm (n:Nat)(h74:Int)(h75:List (((Ty.int IntKind.i64).prod ((Ty.int IntKind.i64).prod (Ty.bool.prod ((Ty.sl 5 (Ty.int IntKind.u8)).prod Ty.unit)))).tree 91).den)(h76:Bool)(h77:Int)(h78:List Int)(h79 h80 h81:Int)(h82:List (Fd))(h83 h84:Int)(h85:Bool)(h86:List Int)(h87:List (Nd))(h88 h89:Int)(h90:Bool)(h91:List Int)(h92:List (((Ty.int IntKind.i64).prod ((Ty.int IntKind.i64).prod (Ty.bool.prod ((Ty.sl 5 (Ty.int IntKind.u8)).prod Ty.unit)))).tree 91).den):Option (ax fV.xs):=gk tt Kz dr vi 0 Tryz.f90 (cI Tryz.f90 1) n (fV.st.mk' ((h74,(h75,(h76,(h77,())))),((h78,(h79,(h80,(h81,(h82,()))))),((h83,(h84,(h85,(h86,(h87,()))))),((h88,(h89,(h90,(h91,(h92,()))))),()))))) (bI fV.xs)
theorem Qm (n:Nat)(h74:Int)(h75:List (((Ty.int IntKind.i64).prod ((Ty.int IntKind.i64).prod (Ty.bool.prod ((Ty.sl 5 (Ty.int IntKind.u8)).prod Ty.unit)))).tree 91).den)(h76:Bool)(h77:Int)(h78:List Int)(h79 h80 h81:Int)(h82:List (Fd))(h83 h84:Int)(h85:Bool)(h86:List Int)(h87:List (Nd))(h88 h89:Int)(h90:Bool)(h91:List Int)(h92:List (((Ty.int IntKind.i64).prod ((Ty.int IntKind.i64).prod (Ty.bool.prod ((Ty.sl 5 (Ty.int IntKind.u8)).prod Ty.unit)))).tree 91).den):qm (n+1) h74 h75 h76 h77 h78 h79 h80 h81 h82 h83 h84 h85 h86 h87 h88 h89 h90 h91 h92=wX h74 h75 h76 h77 h78 h79 h80 h81 h82 h83 h84 h85 h86 h87 h88 h89 h90 h91 h92 (qm n) some:=by kernel_rfl
theorem KN {f0:Fd}{fs:List Fd}{ks:List Nd}{v:Int}(ha:dx f0=true)(hf:aD ks<aB)(hb:aD ks≤4294967296)(nm:List Int)(k' lo hi a b:Int)(z:Bool)(x:List Int)(a' b':Int)(z':Bool)(x':List Int)(l':List Nd):∀(k j:Nat) (o:List Nd) (t:Bool),ks.length<j+k→j≤ks.length→o.length≤j→
  pk k v o t j nm k' lo hi (f0::fs) a b z x ks a' b' z' x' l'=some (.ret ((),(((o++(bS f0 v (ks.drop j)).1),((t&&(bS f0 v (ks.drop j)).2),())),((a',(b',(z',(x',(l',()))))),())))):=by
 intro k
 induction k with
 |zero=>intro j o t h1 h2;omega
 |succ k ih=>
  intro j o t h1 h2 h3
  rw[Vh]
  unfold Bm
  have hlen:=fq ks
  by_cases hj:j<ks.length
  ·refine (aa (decide_eq_true (show (j:Int)<(ks.length:Int) by omega)) _ _).trans ?_
   refine (aa (by simp) _ _).trans ?_
   refine (aa (by simp;omega) _ _).trans ?_
   have hmem:=cR (List.getElem_mem hj)
   have hd:ks.drop j=ks[j]::ks.drop (j+1):=List.drop_eq_getElem_cons hj
   have ih':=fun t'=>ih (j+1) (o++[(aX f0 v ks[j]).1]) t' (by omega) (by omega) (by simp;omega)
   rw[hd,bS]
   rw[az (n:=(j:Int)+1) (by omega) (by omega)]
   simp only[Int.toNat_natCast,aH hj]
   generalize ks[j]=u at hmem ih' ⊢
   obtain ⟨ul,uk⟩:=u
   obtain ⟨fl,fk⟩:=f0
   refine (aa (show (decide (aO (Tre.mk ul uk)<aB)&&(dx (Tre.mk fl fk)&&decide (aO (Tre.mk ul uk)≤4294967296)))=true by rw[ha];simp;omega) _ _).trans ?_
   refine (aa (decide_eq_true (show o.length+1≤4294967296 by omega)) _ _).trans ?_
   have e1:o++[Tre.mk (aX (Tre.mk fl fk) v (Tre.mk ul uk)).1.1 (aX (Tre.mk fl fk) v (Tre.mk ul uk)).1.2]=o++[(aX (Tre.mk fl fk) v (Tre.mk ul uk)).1]:=by rw[Z7]
   cases t with
   |true=>
    show pk k v (o++[Tre.mk (aX (Tre.mk fl fk) v (Tre.mk ul uk)).1.1 (aX (Tre.mk fl fk) v (Tre.mk ul uk)).1.2]) (aX (Tre.mk fl fk) v (Tre.mk ul uk)).2 _ _ _ _ _ _ _ _ _ _ _ _ _ _ _ _=_
    rw[e1]
    refine (ih' _).trans ?_;simp
   |false=>
    show pk k v (o++[Tre.mk (aX (Tre.mk fl fk) v (Tre.mk ul uk)).1.1 (aX (Tre.mk fl fk) v (Tre.mk ul uk)).1.2]) false _ _ _ _ _ _ _ _ _ _ _ _ _ _ _ _=_
    rw[e1]
    refine (ih' false).trans ?_;simp
  ·refine (ab (decide_eq_false (show ¬(j:Int)<(ks.length:Int) by omega)) _ _).trans ?_
   rw[List.drop_of_length_le (by omega),bS,List.append_nil,Bool.and_true]
theorem H5 {fs:List Fd}{ks:List Nd}{v:Int}(ha:bk fs=true)(hf:aD ks<aB)(hb:aD ks≤4294967296)(nm:List Int)(k' lo hi a b:Int)(z:Bool)(x:List Int)(a' b':Int)(z':Bool)(x':List Int)(l':List Nd):∀(k j:Nat) (o:List Nd) (t:Bool),ks.length<j+k→j≤ks.length→o.length≤j→
  qm k v o t j nm k' lo hi fs a b z x ks a' b' z' x' l'=some (.ret ((),(((o++(bu v (fs.drop j) (ks.drop j)).1),((t&&(bu v (fs.drop j) (ks.drop j)).2),())),((a',(b',(z',(x',(l',()))))),())))):=by
 intro k
 induction k with
 |zero=>intro j o t h1 h2;omega
 |succ k ih=>
  intro j o t h1 h2 h3
  rw[Qm]
  unfold wX
  have hlen:=fq ks
  by_cases hj':j<fs.length
  ·refine (aa (decide_eq_true (show (j:Int)<(fs.length:Int) by omega)) _ _).trans ?_
   by_cases hj:j<ks.length
   ·refine (aa (decide_eq_true (show (j:Int)<(ks.length:Int) by omega)) _ _).trans ?_
    refine (aa (by simp;omega) _ _).trans ?_
    have hmem:=cR (List.getElem_mem hj)
    have har:=jh ha (List.getElem_mem hj')
    have hd:ks.drop j=ks[j]::ks.drop (j+1):=List.drop_eq_getElem_cons hj
    have hd':fs.drop j=fs[j]::fs.drop (j+1):=List.drop_eq_getElem_cons hj'
    have ih1:=fun t'=>ih (j+1) (o++[(aX fs[j] v ks[j]).1]) t' (by omega) (by omega) (by simp;omega)
    have ih2:=fun t'=>ih (j+1) o t' (by omega) (by omega) (by omega)
    rw[hd,hd',bu]
    rw[az (n:=(j:Int)+1) (by omega) (by omega)]
    simp only[Int.toNat_natCast,aH hj,aH hj']
    generalize ks[j]=u at hmem ih1 ⊢
    generalize fs[j]=f0 at har ih1 ⊢
    obtain ⟨ul,uk⟩:=u
    obtain ⟨fl,fk⟩:=f0
    by_cases hh:gd (Tre.mk fl fk) v=true
    ·refine (aa (show gd (Tre.mk fl fk) v=true from hh) _ _).trans ?_
     refine (aa (by simp;omega) _ _).trans ?_
     refine (aa (by simp;omega) _ _).trans ?_
     refine (aa (show (decide (aO (Tre.mk ul uk)<aB)&&(dx (Tre.mk fl fk)&&decide (aO (Tre.mk ul uk)≤4294967296)))=true by rw[har];simp;omega) _ _).trans ?_
     refine (aa (decide_eq_true (show o.length+1≤4294967296 by omega)) _ _).trans ?_
     rw[if_pos hh]
     show (bif t then qm k v (o++[Tre.mk (aX (Tre.mk fl fk) v (Tre.mk ul uk)).1.1 (aX (Tre.mk fl fk) v (Tre.mk ul uk)).1.2]) (aX (Tre.mk fl fk) v (Tre.mk ul uk)).2 _ _ _ _ _ _ _ _ _ _ _ _ _ _ _ _ else _)=_
     generalize aX (Tre.mk fl fk) v (Tre.mk ul uk)=r at ih1 ⊢
     obtain ⟨⟨rl,rk⟩,rb⟩:=r
     cases t with
     |true=>refine (ih1 rb).trans ?_;simp
     |false=>refine (ih1 false).trans ?_;simp
    ·refine (ab (show gd (Tre.mk fl fk) v=false by simpa using hh) _ _).trans ?_
     rw[if_neg hh]
     cases t with
     |true=>
      show (bif decide (0≤(j:Int))&&decide ((j:Int)<(ks.length:Int)) then _ else none)=_
      refine (aa (by simp;omega) _ _).trans ?_
      refine (ih2 _).trans ?_
      simp
     |false=>
      refine (ih2 false).trans ?_
      simp
   ·refine (ab (decide_eq_false (show ¬(j:Int)<(ks.length:Int) by omega)) _ _).trans ?_
    rw[List.drop_of_length_le (show ks.length≤j by omega),List.drop_eq_getElem_cons hj',bu,List.append_nil,Bool.and_true]
    simp
  ·refine (ab (decide_eq_false (show ¬(j:Int)<(fs.length:Int) by omega)) _ _).trans ?_
   rw[List.drop_of_length_le (show fs.length≤j by omega),bu,List.append_nil,Bool.and_true]
   simp
def G5 (a0:Fd)(a1:Int)(a2:Nd):Option jb.Res:=bif a0.1.2.1 == 9 then (xl ((a1,([],(true,(0,())))),((a0.1.1,(a0.1.2.1,(a0.1.2.2.1,(a0.1.2.2.2.1,(a0.2,()))))),((a2.1.1,(a2.1.2.1,(a2.1.2.2.1,(a2.1.2.2.2.1,(a2.2,()))))),((0,(0,(false,([],([],()))))),()))))).run fun y=>match y with | .ret ((),((x67,x68,()),(x69,x70,x71,x72,x73,()),()))=>(some (Out.ret ((Tre.mk (9,0,false,[],()) x67,x68,()),()))) else bif a0.1.2.1 != 10 then some (Out.ret ((Tre.mk a2.1 a2.2,true,()),())) else (sx ((a1,([],(true,(0,())))),((a0.1.1,(a0.1.2.1,(a0.1.2.2.1,(a0.1.2.2.2.1,(a0.2,()))))),((a2.1.1,(a2.1.2.1,(a2.1.2.2.1,(a2.1.2.2.2.1,(a2.2,()))))),((0,(0,(false,([],([],()))))),()))))).run fun y=>match y with | .ret ((),((x183,x184,()),(x185,x186,x187,x188,x189,()),()))=>(some (Out.ret ((Tre.mk (10,0,false,[],()) x183,x184,()),())))
theorem XY (a0:Fd)(a1:Int)(a2:Nd):Io.run tt Kz dr vi jb Tryz.f90 ((a0,a1,a2,()),())=G5 a0 a1 a2:=by kernel_rfl
theorem Xo (rvCut:HcOk prog 90 (ah jb (yk aB))):HcOk prog 90 (ah jb (yk (aB+1))):=by
 refine aj (n:=400) hm (cs:=EQ) (.cons rvCut (.cons pv (.cons tJ .nil))) (lp:=vi) (fn:=Tryz.f90) (by kernel_rfl) (by kernel_rfl) (by kernel_rfl) jb (.step (h0:=aP iI xl) (by kernel_rfl) (aw (n:=400) hm (cs:=EQ) (.cons rvCut (.cons pv (.cons tJ .nil))) (lp:=vi) (fn:=Tryz.f90) (.done (by kernel_rfl)) iI xl ?_) (.step (h0:=aP fV sx) (by kernel_rfl) (aw (n:=400) hm (cs:=EQ) (.cons rvCut (.cons pv (.cons tJ .nil))) (lp:=vi) (fn:=Tryz.f90) (.done (by kernel_rfl)) fV sx ?_) (.done (by kernel_rfl)))) (yk (aB+1)) ?_
 ·rintro ⟨⟨(v:Int),(o:List Nd),(t:Bool),(i:Int),⟨⟩⟩,⟨⟨(nm:List Int),(k':Int),(lo:Int),(hi:Int),(fs:List Fd),⟨⟩⟩,⟨(a:Int),(b:Int),(z:Bool),(x:List Int),(ks:List Nd),⟨⟩⟩,⟨(a':Int),(b':Int),(z':Bool),(x':List Int),(l':List Nd),⟨⟩⟩,⟨⟩⟩⟩ y hw hy
  obtain ⟨hg,hy⟩:=Tr.guard hy
  simp only[Bool.and_eq_true,decide_eq_true_eq] at hg
  obtain ⟨h1,⟨h2,h7⟩,⟨h3,h4⟩,h5,h6⟩:=hg
  have h1:i=0:=h1
  have h2:o=[]:=List.eq_nil_of_length_eq_zero h2
  have h7:t=true:=h7
  have h3:fs.length≠0:=h3
  have h4:bk fs=true:=h4
  have h5:aD ks<aB:=h5
  have h6:aD ks≤4294967296:=h6
  subst h1
  subst h2
  subst h7
  obtain ⟨f0,fs,rfl⟩:∃f0 fs',fs=f0::fs':=by cases fs with | nil=>exact absurd rfl h3 | cons a b=>exact ⟨a,b,rfl⟩
  refine ⟨ks.length+1,(KN (jh h4 (by simp)) h5 h6 nm k' lo hi a b z x a' b' z' x' l' (ks.length+1) 0 [] true (by omega) (by omega) (by simp)).trans ?_⟩
  rw[← hy,List.drop_zero]
  rfl
 ·rintro ⟨⟨(v:Int),(o:List Nd),(t:Bool),(i:Int),⟨⟩⟩,⟨⟨(nm:List Int),(k':Int),(lo:Int),(hi:Int),(fs:List Fd),⟨⟩⟩,⟨(a:Int),(b:Int),(z:Bool),(x:List Int),(ks:List Nd),⟨⟩⟩,⟨(a':Int),(b':Int),(z':Bool),(x':List Int),(l':List Nd),⟨⟩⟩,⟨⟩⟩⟩ y hw hy
  obtain ⟨hg,hy⟩:=Tr.guard hy
  simp only[Bool.and_eq_true,decide_eq_true_eq] at hg
  obtain ⟨h1,⟨h2,h7⟩,h4,h5,h6⟩:=hg
  have h1:i=0:=h1
  have h2:o=[]:=List.eq_nil_of_length_eq_zero h2
  have h7:t=true:=h7
  have h4:bk fs=true:=h4
  have h5:aD ks<aB:=h5
  have h6:aD ks≤4294967296:=h6
  subst h1
  subst h2
  subst h7
  refine ⟨ks.length+1,(H5 h4 h5 h6 nm k' lo hi a b z x a' b' z' x' l' (ks.length+1) 0 [] true (by omega) (by omega) (by simp)).trans ?_⟩
  rw[← hy,List.drop_zero,List.drop_zero]
  rfl
 ·rintro ⟨⟨(f:Fd),(v:Int),(n:Nd),⟨⟩⟩,⟨⟩⟩ out hw ho
  obtain ⟨hg,ho⟩:=Tr.guard ho
  simp only[Bool.and_eq_true,decide_eq_true_eq] at hg
  obtain ⟨hk,ha,hb⟩:=hg
  have hk:aO n<aB+1:=hk
  have ha:dx f=true:=ha
  have hb:aO n≤4294967296:=hb
  cases ho
  refine (XY f v n).trans ?_
  unfold G5
  show _=some (Out.ret (((aX f v n).1,((aX f v n).2,())),()))
  obtain ⟨⟨(nm:List Int),(k':Int),(lo:Int),(hi:Int),⟨⟩⟩,(fs:List Fd)⟩:=f
  obtain ⟨⟨(a:Int),(b:Int),(z:Bool),(x:List Int),⟨⟩⟩,(ks:List Nd)⟩:=n
  have hwf:=cC (Tre.mk (a,(b,(z,(x,())))) ks)
  have hwf:aO (Tre.mk (a,(b,(z,(x,())))) ks)=1+x.length+aD ks:=hwf
  have hk:1+x.length+aD ks<aB+1:=by rw[← hwf];exact hk
  have hb:1+x.length+aD ks≤4294967296:=by rw[← hwf];exact hb
  rw[Ax] at ha
  simp only[Bool.and_eq_true] at ha
  obtain ⟨⟨ha1,ha3⟩,ha2⟩:=ha
  have ha2:bk fs=true:=ha2
  rw[aX]
  by_cases h9:k'=9
  ·rw[if_pos h9]
   refine (aa (by simpa using h9) _ _).trans ?_
   have h0:fs.length≠0:=by
    rcases Bool.or_eq_true _ _▸ha1 with h | h
    ·exact absurd h9 (of_decide_eq_true h)
    ·exact of_decide_eq_true h
   obtain ⟨f0,fs,rfl⟩:∃f0 fs',fs=f0::fs':=by cases fs with | nil=>exact absurd rfl h0 | cons a b=>exact ⟨a,b,rfl⟩
   have c1:(decide ((0:Int)=0)&&((decide (([]:List Nd).length=0)&&true)&&((decide ((f0::fs).length≠0)&&bk (f0::fs))&&(decide (aD ks<aB)&&decide (aD ks≤4294967296)))))=true:=by
    rw[ha2];simp;omega
   exact aa c1 _ _
  rw[if_neg h9]
  refine (ab (by simpa using h9) _ _).trans ?_
  by_cases h10:k'=10
  ·rw[if_pos h10]
   refine (ab (by simpa using h10) _ _).trans ?_
   have c1:(decide ((0:Int)=0)&&((decide (([]:List Nd).length=0)&&true)&&(bk fs&&(decide (aD ks<aB)&&decide (aD ks≤4294967296)))))=true:=by
    rw[ha2];simp;omega
   exact aa c1 _ _
  ·rw[if_neg h10]
   exact aa (by simpa using h10) _ _
end
theorem Xn (n:Nat):HcOk prog 90 (ah jb (yk n)):=by
 induction n with
 |zero=>exact HcOk.none (fn:=Tryz.f90) (by kernel_rfl) (by kernel_rfl) (by kernel_rfl) _ _ fun d out h=>by cases h
 |succ n ih=>
  have:=@Xo ⟨⟨n⟩⟩ (by rw[FuT.val];exact ih)
  rw[FuT.val] at this
  exact this
theorem aae:HcOk prog 90 (ah jb Yz):=by
 refine HcOk.lim Xn fun d=>⟨aO d.1.2.2.1+1,fun out h=>?_⟩
 obtain ⟨hg,h⟩:=Tr.guard h
 exact (aa (by rw[hg];simp) _ _).trans h
section
variable [Inhabited FuT]
abbrev C4:Lo:=⟨⟨(.any::.one (.hol (.int IntKind.i64))::.any::.one (.ptr 3 0)::.any::.one (.ptr 5 0)::.one (.ptr 6 0)::.one (.onl 91 (((Ty.int IntKind.i64).prod ((Ty.int IntKind.i64).prod (Ty.bool.prod ((Ty.sl 5 (Ty.int IntKind.u8)).prod Ty.unit)))).tree 91) 15)::.one (.hol (.int IntKind.i64))::.any::ai (ai (ai (ai (ai (be [])))))),[none,none,none,some [.hol .str,.hol (.int IntKind.i64),.hol (.int IntKind.i64),.hol (.int IntKind.i64),.hol (.sl 160 ee)],none,some [.hol (.int IntKind.i64),.hol (.int IntKind.i64),.hol .bool,.hol (.sl 5 (Ty.int IntKind.u8)),.hol (.sl 91 (((Ty.int IntKind.i64).prod ((Ty.int IntKind.i64).prod (Ty.bool.prod ((Ty.sl 5 (Ty.int IntKind.u8)).prod Ty.unit)))).tree 91))],some [.hol (.int IntKind.i64),.hol (.int IntKind.i64),.hol .bool,.onl 5 (Ty.int IntKind.u8) 3080,.onl 91 (((Ty.int IntKind.i64).prod ((Ty.int IntKind.i64).prod (Ty.bool.prod ((Ty.sl 5 (Ty.int IntKind.u8)).prod Ty.unit)))).tree 91) 3082]]⟩,[(.exit 0,⟨(bJ (be (.one (.ptr 6 0)::.one (.onl 91 (((Ty.int IntKind.i64).prod ((Ty.int IntKind.i64).prod (Ty.bool.prod ((Ty.sl 5 (Ty.int IntKind.u8)).prod Ty.unit)))).tree 91) 15)::ai (ai (ai (ai (ai (bJ [])))))))),[none,none,none,none,none,none,some [.hol (.int IntKind.i64),.hol (.int IntKind.i64),.hol .bool,.onl 5 (Ty.int IntKind.u8) 3080,.onl 91 (((Ty.int IntKind.i64).prod ((Ty.int IntKind.i64).prod (Ty.bool.prod ((Ty.sl 5 (Ty.int IntKind.u8)).prod Ty.unit)))).tree 91) 3082]]⟩)]⟩
abbrev zK:Lo:=⟨⟨(.any::.one (.hol (.int IntKind.i64))::.any::.one (.ptr 3 0)::.any::.one (.ptr 5 0)::.one (.ptr 6 0)::.one (.onl 91 (((Ty.int IntKind.i64).prod ((Ty.int IntKind.i64).prod (Ty.bool.prod ((Ty.sl 5 (Ty.int IntKind.u8)).prod Ty.unit)))).tree 91) 15)::.any::.one (.hol (.int IntKind.i64))::.one (.hol (.int IntKind.i64))::.any::ai (ai (ai (ai (ai []))))),[none,none,none,some [.hol .str,.hol (.int IntKind.i64),.hol (.int IntKind.i64),.hol (.int IntKind.i64),.hol (.sl 160 ee)],none,some [.hol (.int IntKind.i64),.hol (.int IntKind.i64),.hol .bool,.hol (.sl 5 (Ty.int IntKind.u8)),.hol (.sl 91 (((Ty.int IntKind.i64).prod ((Ty.int IntKind.i64).prod (Ty.bool.prod ((Ty.sl 5 (Ty.int IntKind.u8)).prod Ty.unit)))).tree 91))],some [.hol (.int IntKind.i64),.hol (.int IntKind.i64),.hol .bool,.onl 5 (Ty.int IntKind.u8) 3080,.onl 91 (((Ty.int IntKind.i64).prod ((Ty.int IntKind.i64).prod (Ty.bool.prod ((Ty.sl 5 (Ty.int IntKind.u8)).prod Ty.unit)))).tree 91) 3082]]⟩,[(.exit 2,⟨(bJ (be (.one (.ptr 6 0)::.one (.onl 91 (((Ty.int IntKind.i64).prod ((Ty.int IntKind.i64).prod (Ty.bool.prod ((Ty.sl 5 (Ty.int IntKind.u8)).prod Ty.unit)))).tree 91) 15)::ai (ai (ai (ai (ai (bJ [])))))))),[none,none,none,none,none,none,some [.hol (.int IntKind.i64),.hol (.int IntKind.i64),.hol .bool,.onl 5 (Ty.int IntKind.u8) 3080,.onl 91 (((Ty.int IntKind.i64).prod ((Ty.int IntKind.i64).prod (Ty.bool.prod ((Ty.sl 5 (Ty.int IntKind.u8)).prod Ty.unit)))).tree 91) 3082]]⟩)]⟩
def aa2 (d:C4.st.den):Tr (ax C4.xs):=
 .ite (decide (d.1.2.2.1=0)&&(decide (d.1.2.1.length=0)&&((decide (d.2.1.2.2.2.2.1.length≠0)&&bk d.2.1.2.2.2.2.1)&&(decide (aD d.2.2.1.2.2.2.2.1<aB)&&decide (aD d.2.2.1.2.2.2.2.1≤4294967296)))))
  (.ret (.ret ((),((AH (d.2.1.2.2.2.2.1.headD (.mk ([],(0,(0,(0,())))) [])) d.1.1 d.2.2.1.2.2.2.2.1,()),(d.2.2.2.1,()))))) .no
def aaO (d:zK.st.den):Tr (ax zK.xs):=
 .ite ((decide (d.1.2.2.1=0)&&decide (d.1.2.2.2.1=0))&&(decide (d.1.2.1.length=0)&&((decide (d.2.1.2.2.2.2.1.length≤16)&&bk d.2.1.2.2.2.2.1)&&(decide (aD d.2.2.1.2.2.2.2.1<aB)&&decide (aD d.2.2.1.2.2.2.2.1≤4294967296)))))
  (.ret (.ret ((),((AI d.1.1 d.2.1.2.2.2.2.1 d.2.2.1.2.2.2.2.1,()),(d.2.2.2.1,()))))) .no
end
abbrev lR:Io:=⟨[dS,dI,dI,dI],[],[],[Kq],none⟩
def Eu (d:lR.In):Tr lR.Res:=.ret (.ret ((.mk (d.1.1,(d.1.2.1,(d.1.2.2.1,(d.1.2.2.2.1,())))) [],()),()))
abbrev Nb:List (Nat×Hc):=[]
def WR:Hd:=bz Nb
def NT:Lp:=bo []
def Oz (a0:List Int)(a1 a2 a3:Int):Option lR.Res:=some (Out.ret ((Tre.mk (a0,a1,a2,a3,()) [],()),()))
theorem U4 (a0:List Int)(a1 a2 a3:Int):Io.run tt WR dr NT lR Tryz.f187 ((a0,a1,a2,a3,()),())=Oz a0 a1 a2 a3:=by kernel_rfl
theorem N8:HcOk prog 187 (ah lR Eu):=by
 refine aj (n:=400) hm (cs:=Nb) HcsOk.nil (lp:=NT) (fn:=Tryz.f187) (by kernel_rfl) (by kernel_rfl) (by kernel_rfl) lR (.done (by kernel_rfl)) Eu ?_
 rintro ⟨⟨(a:List Int),(b:Int),(c:Int),(e:Int),⟨⟩⟩,⟨⟩⟩ out hw ho
 cases ho
 exact U4 a b c e
abbrev gM:Io:=⟨[wl],[],[],[Kq],none⟩
abbrev cE (s:List Int)(k lo hi:Int)(e:List Fd):Fd:=Tre.mk (s,(k,(lo,(hi,())))) e
def cr (part:List Fd):Fd:=cE [116,111,112,105,99,115] 9 0 3 [cE [116,111,112,105,99] 10 0 3 [cE [110,97,109,101] 5 0 3 [],cE [112,97,114,116,115] 9 0 3 [cE [112,97,114,116] 10 0 3 part]]]
def uE (d:gM.In):Tr gM.Res:=.ret (.ret ((cr d.1.1,()),()))
abbrev y7:List (Nat×Hc):=[(187,ah lR Eu)]
def Ky:Hd:=bz y7
def zR:Lp:=bo []
def EI (a0:List ee.den):Option gM.Res:=some (Out.ret ((Tre.mk ([116,111,112,105,99,115],9,0,3,()) [Tre.mk ([116,111,112,105,99],10,0,3,()) [Tre.mk ([110,97,109,101],5,0,3,()) [],Tre.mk ([112,97,114,116,115],9,0,3,()) [Tre.mk ([112,97,114,116],10,0,3,()) a0]]],()),()))
theorem I1 (a0:List ee.den):Io.run tt Ky dr zR gM Tryz.f188 ((a0,()),())=EI a0:=by kernel_rfl
theorem K1:HcOk prog 188 (ah gM uE):=by
 refine aj (n:=400) hm (cs:=y7) (.cons N8 .nil) (lp:=zR) (fn:=Tryz.f188) (by kernel_rfl) (by kernel_rfl) (by kernel_rfl) gM (.done (by kernel_rfl)) uE ?_
 rintro ⟨⟨(a:List Fd),⟨⟩⟩,⟨⟩⟩ out hw ho
 cases ho
 exact I1 a
abbrev ja:Io:=⟨[Kn,dB],[],[],[wl,dI],none⟩
def abH:List Fd:=[cE [116,120,110] 6 3 3 [],cE [97,99,107,115] 2 0 3 [],cE [119,97,105,116] 3 0 3 [],cr [cE [105,110,100,101,120] 3 0 3 [],cE [114,101,99,115] 8 0 3 []]]
def t4:List Fd:=[cr [cE [105,110,100,101,120] 3 0 3 [],cE [99,111,100,101] 2 0 3 [],cE [98,97,115,101] 4 0 3 [],cE [116,105,109,101] 4 2 3 [],cE [115,116,97,114,116] 4 3 3 []],cE [116,104,114,111,116,116,108,101] 3 1 3 []]
def abI:List Fd:=[cE [114,101,112,108,105,99,97] 3 0 3 [],cE [119,97,105,116] 3 0 3 [],cE [109,105,110] 3 0 3 [],cE [109,97,120] 3 1 3 [],cE [108,101,118,101,108] 1 2 3 [],cr [cE [105,110,100,101,120] 3 0 3 [],cE [101,112,111,99,104] 3 3 3 [],cE [111,102,102,115,101,116] 4 0 3 [],cE [109,97,120] 3 0 3 []]]
def t5:List Fd:=[cE [116,104,114,111,116,116,108,101] 3 1 3 [],cr [cE [105,110,100,101,120] 3 0 3 [],cE [99,111,100,101] 2 0 3 [],cE [104,105,103,104] 4 0 3 [],cE [115,116,97,98,108,101] 4 2 3 [],cE [115,116,97,114,116] 4 3 3 [],cE [114,101,99,115] 8 0 3 []]]
def t7:List Fd:=[cE [114,101,112,108,105,99,97] 3 0 3 [],cE [108,101,118,101,108] 1 2 3 [],cr [cE [105,110,100,101,120] 3 0 3 [],cE [101,112,111,99,104] 3 3 3 [],cE [116,105,109,101] 4 0 3 [],cE [109,111,115,116] 3 0 0 []]]
def t6:List Fd:=[cE [116,104,114,111,116,116,108,101] 3 2 3 [],cr [cE [105,110,100,101,120] 3 0 3 [],cE [99,111,100,101] 2 0 3 [],cE [111,102,102,115,101,116,115] 9 0 0 [cE [111,102,102,115,101,116] 4 0 0 []],cE [116,105,109,101] 4 1 3 [],cE [111,102,102,115,101,116] 4 1 3 [],cE [101,112,111,99,104] 3 3 3 []]]
def eD (k:Int)(r:Bool):List Fd×Int:=
 if k=0 then (if r=false then (abH,0) else (t4,0)) else if k=1 then (if r=false then (abI,0) else (t5,0)) else if k=2 then (if r=false then (t7,0) else (t6,0)) else ([],160)
def yj (d:ja.In):Tr ja.Res:=.ret (.ret (((eD d.1.1 d.1.2.1).1,((eD d.1.1 d.1.2.1).2,())),()))
abbrev CS:List (Nat×Hc):=[(187,ah lR Eu),(188,ah gM uE)]
def O1:Hd:=bz CS
def Dl:Lp:=bo []
def wd (a0:Int)(a1:Bool):Option ja.Res:=bif a0 == 0 then bif !a1 then some (Out.ret (([Tre.mk ([116,120,110],6,3,3,()) [],Tre.mk ([97,99,107,115],2,0,3,()) [],Tre.mk ([119,97,105,116],3,0,3,()) [],Tre.mk ([116,111,112,105,99,115],9,0,3,()) [Tre.mk ([116,111,112,105,99],10,0,3,()) [Tre.mk ([110,97,109,101],5,0,3,()) [],Tre.mk ([112,97,114,116,115],9,0,3,()) [Tre.mk ([112,97,114,116],10,0,3,()) [Tre.mk ([105,110,100,101,120],3,0,3,()) [],Tre.mk ([114,101,99,115],8,0,3,()) []]]]]],0,()),())) else bif a0 == 0 then some (Out.ret (([Tre.mk ([116,111,112,105,99,115],9,0,3,()) [Tre.mk ([116,111,112,105,99],10,0,3,()) [Tre.mk ([110,97,109,101],5,0,3,()) [],Tre.mk ([112,97,114,116,115],9,0,3,()) [Tre.mk ([112,97,114,116],10,0,3,()) [Tre.mk ([105,110,100,101,120],3,0,3,()) [],Tre.mk ([99,111,100,101],2,0,3,()) [],Tre.mk ([98,97,115,101],4,0,3,()) [],Tre.mk ([116,105,109,101],4,2,3,()) [],Tre.mk ([115,116,97,114,116],4,3,3,()) []]]]],Tre.mk ([116,104,114,111,116,116,108,101],3,1,3,()) []],0,()),())) else bif a0 == 1 then bif !a1 then some (Out.ret (([Tre.mk ([114,101,112,108,105,99,97],3,0,3,()) [],Tre.mk ([119,97,105,116],3,0,3,()) [],Tre.mk ([109,105,110],3,0,3,()) [],Tre.mk ([109,97,120],3,1,3,()) [],Tre.mk ([108,101,118,101,108],1,2,3,()) [],Tre.mk ([116,111,112,105,99,115],9,0,3,()) [Tre.mk ([116,111,112,105,99],10,0,3,()) [Tre.mk ([110,97,109,101],5,0,3,()) [],Tre.mk ([112,97,114,116,115],9,0,3,()) [Tre.mk ([112,97,114,116],10,0,3,()) [Tre.mk ([105,110,100,101,120],3,0,3,()) [],Tre.mk ([101,112,111,99,104],3,3,3,()) [],Tre.mk ([111,102,102,115,101,116],4,0,3,()) [],Tre.mk ([109,97,120],3,0,3,()) []]]]]],0,()),())) else bif a0 == 1 then some (Out.ret (([Tre.mk ([116,104,114,111,116,116,108,101],3,1,3,()) [],Tre.mk ([116,111,112,105,99,115],9,0,3,()) [Tre.mk ([116,111,112,105,99],10,0,3,()) [Tre.mk ([110,97,109,101],5,0,3,()) [],Tre.mk ([112,97,114,116,115],9,0,3,()) [Tre.mk ([112,97,114,116],10,0,3,()) [Tre.mk ([105,110,100,101,120],3,0,3,()) [],Tre.mk ([99,111,100,101],2,0,3,()) [],Tre.mk ([104,105,103,104],4,0,3,()) [],Tre.mk ([115,116,97,98,108,101],4,2,3,()) [],Tre.mk ([115,116,97,114,116],4,3,3,()) [],Tre.mk ([114,101,99,115],8,0,3,()) []]]]]],0,()),())) else bif a0 == 2 then bif !a1 then some (Out.ret (([Tre.mk ([114,101,112,108,105,99,97],3,0,3,()) [],Tre.mk ([108,101,118,101,108],1,2,3,()) [],Tre.mk ([116,111,112,105,99,115],9,0,3,()) [Tre.mk ([116,111,112,105,99],10,0,3,()) [Tre.mk ([110,97,109,101],5,0,3,()) [],Tre.mk ([112,97,114,116,115],9,0,3,()) [Tre.mk ([112,97,114,116],10,0,3,()) [Tre.mk ([105,110,100,101,120],3,0,3,()) [],Tre.mk ([101,112,111,99,104],3,3,3,()) [],Tre.mk ([116,105,109,101],4,0,3,()) [],Tre.mk ([109,111,115,116],3,0,0,()) []]]]]],0,()),())) else bif a0 == 2 then some (Out.ret (([Tre.mk ([116,104,114,111,116,116,108,101],3,2,3,()) [],Tre.mk ([116,111,112,105,99,115],9,0,3,()) [Tre.mk ([116,111,112,105,99],10,0,3,()) [Tre.mk ([110,97,109,101],5,0,3,()) [],Tre.mk ([112,97,114,116,115],9,0,3,()) [Tre.mk ([112,97,114,116],10,0,3,()) [Tre.mk ([105,110,100,101,120],3,0,3,()) [],Tre.mk ([99,111,100,101],2,0,3,()) [],Tre.mk ([111,102,102,115,101,116,115],9,0,0,()) [Tre.mk ([111,102,102,115,101,116],4,0,0,()) []],Tre.mk ([116,105,109,101],4,1,3,()) [],Tre.mk ([111,102,102,115,101,116],4,1,3,()) [],Tre.mk ([101,112,111,99,104],3,3,3,()) []]]]]],0,()),())) else some (Out.ret (([],160,()),())) else bif a0 == 2 then some (Out.ret (([Tre.mk ([116,104,114,111,116,116,108,101],3,2,3,()) [],Tre.mk ([116,111,112,105,99,115],9,0,3,()) [Tre.mk ([116,111,112,105,99],10,0,3,()) [Tre.mk ([110,97,109,101],5,0,3,()) [],Tre.mk ([112,97,114,116,115],9,0,3,()) [Tre.mk ([112,97,114,116],10,0,3,()) [Tre.mk ([105,110,100,101,120],3,0,3,()) [],Tre.mk ([99,111,100,101],2,0,3,()) [],Tre.mk ([111,102,102,115,101,116,115],9,0,0,()) [Tre.mk ([111,102,102,115,101,116],4,0,0,()) []],Tre.mk ([116,105,109,101],4,1,3,()) [],Tre.mk ([111,102,102,115,101,116],4,1,3,()) [],Tre.mk ([101,112,111,99,104],3,3,3,()) []]]]]],0,()),())) else some (Out.ret (([],160,()),())) else bif a0 == 1 then some (Out.ret (([Tre.mk ([116,104,114,111,116,116,108,101],3,1,3,()) [],Tre.mk ([116,111,112,105,99,115],9,0,3,()) [Tre.mk ([116,111,112,105,99],10,0,3,()) [Tre.mk ([110,97,109,101],5,0,3,()) [],Tre.mk ([112,97,114,116,115],9,0,3,()) [Tre.mk ([112,97,114,116],10,0,3,()) [Tre.mk ([105,110,100,101,120],3,0,3,()) [],Tre.mk ([99,111,100,101],2,0,3,()) [],Tre.mk ([104,105,103,104],4,0,3,()) [],Tre.mk ([115,116,97,98,108,101],4,2,3,()) [],Tre.mk ([115,116,97,114,116],4,3,3,()) [],Tre.mk ([114,101,99,115],8,0,3,()) []]]]]],0,()),())) else bif a0 == 2 then bif !a1 then some (Out.ret (([Tre.mk ([114,101,112,108,105,99,97],3,0,3,()) [],Tre.mk ([108,101,118,101,108],1,2,3,()) [],Tre.mk ([116,111,112,105,99,115],9,0,3,()) [Tre.mk ([116,111,112,105,99],10,0,3,()) [Tre.mk ([110,97,109,101],5,0,3,()) [],Tre.mk ([112,97,114,116,115],9,0,3,()) [Tre.mk ([112,97,114,116],10,0,3,()) [Tre.mk ([105,110,100,101,120],3,0,3,()) [],Tre.mk ([101,112,111,99,104],3,3,3,()) [],Tre.mk ([116,105,109,101],4,0,3,()) [],Tre.mk ([109,111,115,116],3,0,0,()) []]]]]],0,()),())) else bif a0 == 2 then some (Out.ret (([Tre.mk ([116,104,114,111,116,116,108,101],3,2,3,()) [],Tre.mk ([116,111,112,105,99,115],9,0,3,()) [Tre.mk ([116,111,112,105,99],10,0,3,()) [Tre.mk ([110,97,109,101],5,0,3,()) [],Tre.mk ([112,97,114,116,115],9,0,3,()) [Tre.mk ([112,97,114,116],10,0,3,()) [Tre.mk ([105,110,100,101,120],3,0,3,()) [],Tre.mk ([99,111,100,101],2,0,3,()) [],Tre.mk ([111,102,102,115,101,116,115],9,0,0,()) [Tre.mk ([111,102,102,115,101,116],4,0,0,()) []],Tre.mk ([116,105,109,101],4,1,3,()) [],Tre.mk ([111,102,102,115,101,116],4,1,3,()) [],Tre.mk ([101,112,111,99,104],3,3,3,()) []]]]]],0,()),())) else some (Out.ret (([],160,()),())) else bif a0 == 2 then some (Out.ret (([Tre.mk ([116,104,114,111,116,116,108,101],3,2,3,()) [],Tre.mk ([116,111,112,105,99,115],9,0,3,()) [Tre.mk ([116,111,112,105,99],10,0,3,()) [Tre.mk ([110,97,109,101],5,0,3,()) [],Tre.mk ([112,97,114,116,115],9,0,3,()) [Tre.mk ([112,97,114,116],10,0,3,()) [Tre.mk ([105,110,100,101,120],3,0,3,()) [],Tre.mk ([99,111,100,101],2,0,3,()) [],Tre.mk ([111,102,102,115,101,116,115],9,0,0,()) [Tre.mk ([111,102,102,115,101,116],4,0,0,()) []],Tre.mk ([116,105,109,101],4,1,3,()) [],Tre.mk ([111,102,102,115,101,116],4,1,3,()) [],Tre.mk ([101,112,111,99,104],3,3,3,()) []]]]]],0,()),())) else some (Out.ret (([],160,()),())) else bif a0 == 0 then some (Out.ret (([Tre.mk ([116,111,112,105,99,115],9,0,3,()) [Tre.mk ([116,111,112,105,99],10,0,3,()) [Tre.mk ([110,97,109,101],5,0,3,()) [],Tre.mk ([112,97,114,116,115],9,0,3,()) [Tre.mk ([112,97,114,116],10,0,3,()) [Tre.mk ([105,110,100,101,120],3,0,3,()) [],Tre.mk ([99,111,100,101],2,0,3,()) [],Tre.mk ([98,97,115,101],4,0,3,()) [],Tre.mk ([116,105,109,101],4,2,3,()) [],Tre.mk ([115,116,97,114,116],4,3,3,()) []]]]],Tre.mk ([116,104,114,111,116,116,108,101],3,1,3,()) []],0,()),())) else bif a0 == 1 then bif !a1 then some (Out.ret (([Tre.mk ([114,101,112,108,105,99,97],3,0,3,()) [],Tre.mk ([119,97,105,116],3,0,3,()) [],Tre.mk ([109,105,110],3,0,3,()) [],Tre.mk ([109,97,120],3,1,3,()) [],Tre.mk ([108,101,118,101,108],1,2,3,()) [],Tre.mk ([116,111,112,105,99,115],9,0,3,()) [Tre.mk ([116,111,112,105,99],10,0,3,()) [Tre.mk ([110,97,109,101],5,0,3,()) [],Tre.mk ([112,97,114,116,115],9,0,3,()) [Tre.mk ([112,97,114,116],10,0,3,()) [Tre.mk ([105,110,100,101,120],3,0,3,()) [],Tre.mk ([101,112,111,99,104],3,3,3,()) [],Tre.mk ([111,102,102,115,101,116],4,0,3,()) [],Tre.mk ([109,97,120],3,0,3,()) []]]]]],0,()),())) else bif a0 == 1 then some (Out.ret (([Tre.mk ([116,104,114,111,116,116,108,101],3,1,3,()) [],Tre.mk ([116,111,112,105,99,115],9,0,3,()) [Tre.mk ([116,111,112,105,99],10,0,3,()) [Tre.mk ([110,97,109,101],5,0,3,()) [],Tre.mk ([112,97,114,116,115],9,0,3,()) [Tre.mk ([112,97,114,116],10,0,3,()) [Tre.mk ([105,110,100,101,120],3,0,3,()) [],Tre.mk ([99,111,100,101],2,0,3,()) [],Tre.mk ([104,105,103,104],4,0,3,()) [],Tre.mk ([115,116,97,98,108,101],4,2,3,()) [],Tre.mk ([115,116,97,114,116],4,3,3,()) [],Tre.mk ([114,101,99,115],8,0,3,()) []]]]]],0,()),())) else bif a0 == 2 then bif !a1 then some (Out.ret (([Tre.mk ([114,101,112,108,105,99,97],3,0,3,()) [],Tre.mk ([108,101,118,101,108],1,2,3,()) [],Tre.mk ([116,111,112,105,99,115],9,0,3,()) [Tre.mk ([116,111,112,105,99],10,0,3,()) [Tre.mk ([110,97,109,101],5,0,3,()) [],Tre.mk ([112,97,114,116,115],9,0,3,()) [Tre.mk ([112,97,114,116],10,0,3,()) [Tre.mk ([105,110,100,101,120],3,0,3,()) [],Tre.mk ([101,112,111,99,104],3,3,3,()) [],Tre.mk ([116,105,109,101],4,0,3,()) [],Tre.mk ([109,111,115,116],3,0,0,()) []]]]]],0,()),())) else bif a0 == 2 then some (Out.ret (([Tre.mk ([116,104,114,111,116,116,108,101],3,2,3,()) [],Tre.mk ([116,111,112,105,99,115],9,0,3,()) [Tre.mk ([116,111,112,105,99],10,0,3,()) [Tre.mk ([110,97,109,101],5,0,3,()) [],Tre.mk ([112,97,114,116,115],9,0,3,()) [Tre.mk ([112,97,114,116],10,0,3,()) [Tre.mk ([105,110,100,101,120],3,0,3,()) [],Tre.mk ([99,111,100,101],2,0,3,()) [],Tre.mk ([111,102,102,115,101,116,115],9,0,0,()) [Tre.mk ([111,102,102,115,101,116],4,0,0,()) []],Tre.mk ([116,105,109,101],4,1,3,()) [],Tre.mk ([111,102,102,115,101,116],4,1,3,()) [],Tre.mk ([101,112,111,99,104],3,3,3,()) []]]]]],0,()),())) else some (Out.ret (([],160,()),())) else bif a0 == 2 then some (Out.ret (([Tre.mk ([116,104,114,111,116,116,108,101],3,2,3,()) [],Tre.mk ([116,111,112,105,99,115],9,0,3,()) [Tre.mk ([116,111,112,105,99],10,0,3,()) [Tre.mk ([110,97,109,101],5,0,3,()) [],Tre.mk ([112,97,114,116,115],9,0,3,()) [Tre.mk ([112,97,114,116],10,0,3,()) [Tre.mk ([105,110,100,101,120],3,0,3,()) [],Tre.mk ([99,111,100,101],2,0,3,()) [],Tre.mk ([111,102,102,115,101,116,115],9,0,0,()) [Tre.mk ([111,102,102,115,101,116],4,0,0,()) []],Tre.mk ([116,105,109,101],4,1,3,()) [],Tre.mk ([111,102,102,115,101,116],4,1,3,()) [],Tre.mk ([101,112,111,99,104],3,3,3,()) []]]]]],0,()),())) else some (Out.ret (([],160,()),())) else bif a0 == 1 then some (Out.ret (([Tre.mk ([116,104,114,111,116,116,108,101],3,1,3,()) [],Tre.mk ([116,111,112,105,99,115],9,0,3,()) [Tre.mk ([116,111,112,105,99],10,0,3,()) [Tre.mk ([110,97,109,101],5,0,3,()) [],Tre.mk ([112,97,114,116,115],9,0,3,()) [Tre.mk ([112,97,114,116],10,0,3,()) [Tre.mk ([105,110,100,101,120],3,0,3,()) [],Tre.mk ([99,111,100,101],2,0,3,()) [],Tre.mk ([104,105,103,104],4,0,3,()) [],Tre.mk ([115,116,97,98,108,101],4,2,3,()) [],Tre.mk ([115,116,97,114,116],4,3,3,()) [],Tre.mk ([114,101,99,115],8,0,3,()) []]]]]],0,()),())) else bif a0 == 2 then bif !a1 then some (Out.ret (([Tre.mk ([114,101,112,108,105,99,97],3,0,3,()) [],Tre.mk ([108,101,118,101,108],1,2,3,()) [],Tre.mk ([116,111,112,105,99,115],9,0,3,()) [Tre.mk ([116,111,112,105,99],10,0,3,()) [Tre.mk ([110,97,109,101],5,0,3,()) [],Tre.mk ([112,97,114,116,115],9,0,3,()) [Tre.mk ([112,97,114,116],10,0,3,()) [Tre.mk ([105,110,100,101,120],3,0,3,()) [],Tre.mk ([101,112,111,99,104],3,3,3,()) [],Tre.mk ([116,105,109,101],4,0,3,()) [],Tre.mk ([109,111,115,116],3,0,0,()) []]]]]],0,()),())) else bif a0 == 2 then some (Out.ret (([Tre.mk ([116,104,114,111,116,116,108,101],3,2,3,()) [],Tre.mk ([116,111,112,105,99,115],9,0,3,()) [Tre.mk ([116,111,112,105,99],10,0,3,()) [Tre.mk ([110,97,109,101],5,0,3,()) [],Tre.mk ([112,97,114,116,115],9,0,3,()) [Tre.mk ([112,97,114,116],10,0,3,()) [Tre.mk ([105,110,100,101,120],3,0,3,()) [],Tre.mk ([99,111,100,101],2,0,3,()) [],Tre.mk ([111,102,102,115,101,116,115],9,0,0,()) [Tre.mk ([111,102,102,115,101,116],4,0,0,()) []],Tre.mk ([116,105,109,101],4,1,3,()) [],Tre.mk ([111,102,102,115,101,116],4,1,3,()) [],Tre.mk ([101,112,111,99,104],3,3,3,()) []]]]]],0,()),())) else some (Out.ret (([],160,()),())) else bif a0 == 2 then some (Out.ret (([Tre.mk ([116,104,114,111,116,116,108,101],3,2,3,()) [],Tre.mk ([116,111,112,105,99,115],9,0,3,()) [Tre.mk ([116,111,112,105,99],10,0,3,()) [Tre.mk ([110,97,109,101],5,0,3,()) [],Tre.mk ([112,97,114,116,115],9,0,3,()) [Tre.mk ([112,97,114,116],10,0,3,()) [Tre.mk ([105,110,100,101,120],3,0,3,()) [],Tre.mk ([99,111,100,101],2,0,3,()) [],Tre.mk ([111,102,102,115,101,116,115],9,0,0,()) [Tre.mk ([111,102,102,115,101,116],4,0,0,()) []],Tre.mk ([116,105,109,101],4,1,3,()) [],Tre.mk ([111,102,102,115,101,116],4,1,3,()) [],Tre.mk ([101,112,111,99,104],3,3,3,()) []]]]]],0,()),())) else some (Out.ret (([],160,()),()))
theorem Lw (a0:Int)(a1:Bool):Io.run tt O1 dr Dl ja Tryz.f89 ((a0,a1,()),())=wd a0 a1:=by kernel_rfl
theorem Pw:HcOk prog 89 (ah ja yj):=by
 refine aj (n:=400) hm (cs:=CS) (.cons N8 (.cons K1 .nil)) (lp:=Dl) (fn:=Tryz.f89) (by kernel_rfl) (by kernel_rfl) (by kernel_rfl) ja (.done (by kernel_rfl)) yj ?_
 rintro ⟨⟨(k:Int),(r:Bool),⟨⟩⟩,⟨⟩⟩ out hw ho
 cases ho
 refine (Lw k r).trans ?_
 unfold wd
 show _=some (Out.ret (((eD k r).1,((eD k r).2,())),()))
 unfold eD
 by_cases h0:k=0
 ·subst h0
  cases r <;> rfl
 by_cases h1:k=1
 ·subst h1
  cases r <;> rfl
 by_cases h2:k=2
 ·subst h2
  cases r <;> rfl
 rw[if_neg h0,if_neg h1,if_neg h2]
 simp only[beq_eq_false_iff_ne.2 h0,beq_eq_false_iff_ne.2 h1,beq_eq_false_iff_ne.2 h2]
 cases r <;> rfl
theorem VF (k:Int)(r:Bool):(eD k r).2=0→dx (Tre.mk (([]:List Int),((10:Int),((0:Int),((0:Int),())))) (eD k r).1)=true:=by
 unfold eD
 intro h
 by_cases h0:k=0
 ·subst h0
  cases r <;> (unfold dx;rfl)
 by_cases h1:k=1
 ·subst h1
  cases r <;> (unfold dx;rfl)
 by_cases h2:k=2
 ·subst h2
  cases r <;> (unfold dx;rfl)
 rw[if_neg h0,if_neg h1,if_neg h2] at h
 cases h
theorem cw:aD []=0:=by unfold aD;rfl
theorem qz (v:Int)(l:List Nd):bu v [] l=([],true):=by rw[bu];simp
theorem Qt (v:Int)(fs:List Fd):bu v fs []=([],true):=by rw[bu];simp
theorem Vt (v:Int):∀(N:Nat) (f:Fd) (n:Nd),aO n≤N→aO (aX f v n).1≤aO n:=by
 intro N
 induction N with
 |zero=>intro f n h;have:=m0 n;omega
 |succ N ih=>
  rintro f ⟨a,ks⟩ h
  rw[cC] at h
  rw[aX]
  have hi:∀(f:Fd) (l:List Nd),(∀k∈l,aO k≤N)→aD (bS f v l).1≤aD l:=by
   intro f l
   induction l with
   |nil=>intro _;rw[bS];exact Nat.le_refl _
   |cons k l ihl=>
    intro hk
    rw[bS,aJ,aJ]
    have:=ih f k (hk k (by simp))
    have:=ihl fun k' hk'=>hk k' (List.mem_cons_of_mem _ hk')
    omega
  have hz:∀(l:List Nd) (fs:List Fd),(∀k∈l,aO k≤N)→aD (bu v fs l).1≤aD l:=by
   intro l
   induction l with
   |nil=>intro fs _;rw[Qt];exact Nat.le_refl _
   |cons k l ihl=>
    intro fs hk
    cases fs with
    |nil=>rw[qz];show aD []≤_;rw[cw];exact Nat.zero_le _
    |cons f fs=>
     rw[bu,aJ]
     have h1:=ih f k (hk k (by simp))
     have h2:=ihl fs fun k' hk'=>hk k' (List.mem_cons_of_mem _ hk')
     split
     ·rw[aJ];omega
     ·show aD (bu v fs l).1≤_;omega
  have hks:∀k∈ks,aO k≤N:=fun k hk=>by have:=cR hk;simp only at h;omega
  split
  ·rw[cC,cC]
   have:=hi (f.kids.headD f) ks hks
   simp only[List.length_nil];omega
  split
  ·rw[cC,cC]
   have:=hz ks f.kids hks
   simp only[List.length_nil];omega
  ·exact Nat.le_refl _
abbrev rG:Io:=⟨[Kn,dB,dI,du],[],[],[dL,dI],none⟩
def jO (k:Int)(r:Bool)(v:Int)(n:Nd):List Int×Int:=if (eD k r).2≠0 then ([],(eD k r).2) else if v<0∨3<v then ([],8) else
 if (aX (Tre.mk (([]:List Int),((10:Int),((0:Int),((0:Int),())))) (eD k r).1) v n).2=false then ([],7) else qW (eD k r).1 v (aX (Tre.mk (([]:List Int),((10:Int),((0:Int),((0:Int),())))) (eD k r).1) v n).1
def Rj (d:rG.In):Tr rG.Res:=.ite (decide (8*aO d.1.2.2.2.1≤4294967296)) (.ret (.ret (((jO d.1.1 d.1.2.1 d.1.2.2.1 d.1.2.2.2.1).1,((jO d.1.1 d.1.2.1 d.1.2.2.1 d.1.2.2.2.1).2,())),()))) .no
abbrev Sl:List (Nat×Hc):=[(89,ah ja yj),(90,ah jb Yz),(91,ah jc yl)]
def Z1:Hd:=bz Sl
def TD:Lp:=bo []
def G4 (a0:Int)(a1:Bool)(a2:Int)(a3:Nd):Option rG.Res:=bif (eD a0 a1).2 != 0 then some (Out.ret (([],(eD a0 a1).2,()),())) else bif decide (a2<0) then some (Out.ret (([],8,()),())) else bif decide (3<a2) then some (Out.ret (([],8,()),())) else bif dx (Tre.mk ([],10,0,0,()) (eD a0 a1).1)&&decide (aO (Tre.mk a3.1 a3.2)≤4294967296) then bif !(aX (Tre.mk ([],10,0,0,()) (eD a0 a1).1) a2 (Tre.mk a3.1 a3.2)).2 then some (Out.ret (([],7,()),())) else bif decide (8*aO (Tre.mk (aX (Tre.mk ([],10,0,0,()) (eD a0 a1).1) a2 (Tre.mk a3.1 a3.2)).1.1 (aX (Tre.mk ([],10,0,0,()) (eD a0 a1).1) a2 (Tre.mk a3.1 a3.2)).1.2)≤4294967296) then some (Out.ret (((qW (eD a0 a1).1 a2 (Tre.mk (aX (Tre.mk ([],10,0,0,()) (eD a0 a1).1) a2 (Tre.mk a3.1 a3.2)).1.1 (aX (Tre.mk ([],10,0,0,()) (eD a0 a1).1) a2 (Tre.mk a3.1 a3.2)).1.2)).1,(qW (eD a0 a1).1 a2 (Tre.mk (aX (Tre.mk ([],10,0,0,()) (eD a0 a1).1) a2 (Tre.mk a3.1 a3.2)).1.1 (aX (Tre.mk ([],10,0,0,()) (eD a0 a1).1) a2 (Tre.mk a3.1 a3.2)).1.2)).2,()),())) else none else none
theorem XX (a0:Int)(a1:Bool)(a2:Int)(a3:Nd):Io.run tt Z1 dr TD rG Tryz.f37 ((a0,a1,a2,a3,()),())=G4 a0 a1 a2 a3:=by kernel_rfl
theorem Uf:HcOk prog 37 (ah rG Rj):=by
 refine aj (n:=400) hm (cs:=Sl) (.cons Pw (.cons aae (.cons Px .nil))) (lp:=TD) (fn:=Tryz.f37) (by kernel_rfl) (by kernel_rfl) (by kernel_rfl) rG (.done (by kernel_rfl)) Rj ?_
 rintro ⟨⟨(k:Int),(r:Bool),(v:Int),(n:Nd),⟨⟩⟩,⟨⟩⟩ out hw ho
 obtain ⟨hg,ho⟩:=Tr.guard ho
 have hb:8*aO n≤4294967296:=of_decide_eq_true hg
 cases ho
 refine (XX k r v n).trans ?_
 unfold G4
 show _=some (Out.ret (((jO k r v n).1,((jO k r v n).2,())),()))
 unfold jO
 have hok:=VF k r
 generalize eD k r=t at hok ⊢
 obtain ⟨tb,te⟩:=t
 have hok:te=0→dx (Tre.mk (([]:List Int),((10:Int),((0:Int),((0:Int),())))) tb)=true:=hok
 by_cases h1:te=0
 ·rw[if_neg (by simpa using h1)]
  refine (ab (by simpa using h1) _ _).trans ?_
  by_cases h2:v<0
  ·rw[if_pos (.inl h2)]
   exact aa (decide_eq_true h2) _ _
  refine (ab (decide_eq_false h2) _ _).trans ?_
  by_cases h3:3<v
  ·rw[if_pos (.inr h3)]
   exact aa (decide_eq_true h3) _ _
  refine (ab (decide_eq_false h3) _ _).trans ?_
  rw[if_neg (by omega)]
  obtain ⟨nl,nk⟩:=n
  refine (aa (show (dx (Tre.mk (([]:List Int),((10:Int),((0:Int),((0:Int),())))) tb)&&decide (aO (Tre.mk nl nk)≤4294967296))=true by rw[hok h1];simp;omega) _ _).trans ?_
  have hcw:=Vt v _ (Tre.mk (([]:List Int),((10:Int),((0:Int),((0:Int),())))) tb) (Tre.mk nl nk) (Nat.le_refl _)
  show (bif !(aX (Tre.mk (([]:List Int),((10:Int),((0:Int),((0:Int),())))) tb) v (Tre.mk nl nk)).2 then _ else _)=_
  by_cases h4:(aX (Tre.mk (([]:List Int),((10:Int),((0:Int),((0:Int),())))) tb) v (Tre.mk nl nk)).2=false
  ·rw[if_pos h4]
   exact aa (by rw[h4];rfl) _ _
  ·rw[if_neg h4]
   refine (ab (by simpa using h4) _ _).trans ?_
   generalize (aX (Tre.mk (([]:List Int),((10:Int),((0:Int),((0:Int),())))) tb) v (Tre.mk nl nk)).1=c at hcw ⊢
   obtain ⟨cl,ck⟩:=c
   exact aa (decide_eq_true (show 8*aO (Tre.mk cl ck)≤4294967296 by omega)) _ _
 ·rw[if_pos h1]
  exact aa (by simpa using h1) _ _
abbrev bn:Ty:=.prod (.int .i32) (.prod (.int .i16) (.prod (.int .i64) (.prod (.int .i64) (.prod (.int .i64) .unit))))
abbrev aq:Ty:=.prod .str (.prod (.sl 214 bn) .unit)
abbrev jR:Ty:=.prod (.sl 212 aq) (.prod (.int .i32) .unit)
def cb (v lo hi x:Int)(n:Nat)(s:aW):aW:=if lo≤v∧v≤hi then ac x n s else s
def gQ (v:Int)(p:bn.den)(s:aW):aW:=cb v 3 3 p.2.2.2.2.1 8 (cb v 2 3 p.2.2.2.1 8 (ac p.2.2.1 8 (ac p.2.1 2 (ac p.1 4 s))))
abbrev nK:Io:=⟨[.dat bn true false,.ptr 0 0],tH,[],[],none⟩
def JX (d:nK.In):Tr nK.Res:=.ite (fB d.2.2) (.ret (.ret ((),gz d.2.2.1.2.1 (gQ d.2.2.1.2.1 d.1.1 (fC d.2.2))))) .no
abbrev M1:List (Nat×Hc):=[(98,ah dd gT),(97,ah mj BQ),(111,ah kI xX),(95,ah iv qN)]
def WH:Hd:=bz M1
def NJ:Lp:=bo []
def Cr (a0 a1 a2 a3 a4 a5 a6:Int)(a7:Bool)(a8:List Int)(a9:Int):Option nK.Res:=bif decide (a9=130048)&&decide (a8.length≤130048) then bif decide (130048=130048)&&decide ((ac a0 4 (a6,a7,a8)).2.2.length≤130048) then bif decide (130048=130048)&&decide ((ac a1 2 (ac a0 4 (a6,a7,a8))).2.2.length≤130048) then bif decide (130048=130048)&&decide ((ac a2 8 (ac a1 2 (ac a0 4 (a6,a7,a8)))).2.2.length≤130048) then bif decide (2≤a5)&&decide (a5≤3) then bif decide (130048=130048)&&decide ((ac a2 8 (ac a1 2 (ac a0 4 (a6,a7,a8)))).2.2.length≤130048) then bif decide (130048=130048)&&decide ((ac a3 8 (ac a2 8 (ac a1 2 (ac a0 4 (a6,a7,a8))))).2.2.length≤130048) then bif decide (3≤a5)&&decide (a5≤3) then bif decide (130048=130048)&&decide ((ac a3 8 (ac a2 8 (ac a1 2 (ac a0 4 (a6,a7,a8))))).2.2.length≤130048) then some (Out.ret ((),((),()),((),a5,(ac a4 8 (ac a3 8 (ac a2 8 (ac a1 2 (ac a0 4 (a6,a7,a8)))))).1,(ac a4 8 (ac a3 8 (ac a2 8 (ac a1 2 (ac a0 4 (a6,a7,a8)))))).2.1,()),((ac a4 8 (ac a3 8 (ac a2 8 (ac a1 2 (ac a0 4 (a6,a7,a8)))))).2.2,130048,()),())) else none else some (Out.ret ((),((),()),((),a5,(ac a3 8 (ac a2 8 (ac a1 2 (ac a0 4 (a6,a7,a8))))).1,(ac a3 8 (ac a2 8 (ac a1 2 (ac a0 4 (a6,a7,a8))))).2.1,()),((ac a3 8 (ac a2 8 (ac a1 2 (ac a0 4 (a6,a7,a8))))).2.2,130048,()),())) else none else none else bif decide (130048=130048)&&decide ((ac a2 8 (ac a1 2 (ac a0 4 (a6,a7,a8)))).2.2.length≤130048) then bif decide (3≤a5)&&decide (a5≤3) then bif decide (130048=130048)&&decide ((ac a2 8 (ac a1 2 (ac a0 4 (a6,a7,a8)))).2.2.length≤130048) then some (Out.ret ((),((),()),((),a5,(ac a4 8 (ac a2 8 (ac a1 2 (ac a0 4 (a6,a7,a8))))).1,(ac a4 8 (ac a2 8 (ac a1 2 (ac a0 4 (a6,a7,a8))))).2.1,()),((ac a4 8 (ac a2 8 (ac a1 2 (ac a0 4 (a6,a7,a8))))).2.2,130048,()),())) else none else some (Out.ret ((),((),()),((),a5,(ac a2 8 (ac a1 2 (ac a0 4 (a6,a7,a8)))).1,(ac a2 8 (ac a1 2 (ac a0 4 (a6,a7,a8)))).2.1,()),((ac a2 8 (ac a1 2 (ac a0 4 (a6,a7,a8)))).2.2,130048,()),())) else none else none else none else none else none
theorem US (a0 a1 a2 a3 a4 a5 a6:Int)(a7:Bool)(a8:List Int)(a9:Int):Io.run tt WH dr NJ nK Tryz.f125 (((a0,a1,a2,a3,a4,()),(),()),((),()),((),a5,a6,a7,()),(a8,a9,()),())=Cr a0 a1 a2 a3 a4 a5 a6 a7 a8 a9:=by kernel_rfl
theorem Xh:HcOk prog 125 (ah nK JX):=by
 refine aj (n:=400) hm (cs:=M1) (.cons cF (.cons FM (.cons vo (.cons gg .nil)))) (lp:=NJ) (fn:=Tryz.f125) (by kernel_rfl) (by kernel_rfl) (by kernel_rfl) nK (.done (by kernel_rfl)) JX ?_
 rintro ⟨⟨⟨(i:Int),(c:Int),(o:Int),(t:Int),(st:Int),⟨⟩⟩,⟨⟩,⟨⟩⟩,⟨⟨⟩,⟨⟩⟩,⟨⟨⟩,(v:Int),(e:Int),(f:Bool),⟨⟩⟩,⟨(b:List Int),(m:Int),⟨⟩⟩,⟨⟩⟩ out hw ho
 obtain ⟨hg,ho⟩:=Tr.guard ho
 obtain ⟨rfl,hb⟩:=bx (v:=v) (e:=e) (f:=f) hg
 cases ho
 refine (US i c o t st v e f b 130048).trans ?_
 unfold Cr
 have hg:∀s:aW,s.2.2.length≤130048→(decide ((130048:Int)=130048)&&decide (s.2.2.length≤130048))=true:=fun s h=>by simpa using h
 have l1:=aA (s:=(e,f,b)) i 4 hb
 have l2:=aA c 2 l1
 have l3:=aA o 8 l2
 have l4:=aA t 8 l3
 show _=some (Out.ret ((),gz v (gQ v (i,(c,(o,(t,(st,()))))) (e,f,b))))
 unfold gQ cb
 refine (aa (hg (e,f,b) hb) _ _).trans ?_
 refine (aa (hg _ l1) _ _).trans ?_
 refine (aa (hg _ l2) _ _).trans ?_
 refine (aa (hg _ l3) _ _).trans ?_
 by_cases h2:2≤v∧v≤3
 ·refine (aa (by simpa using h2) _ _).trans ?_
  refine (aa (hg _ l3) _ _).trans ?_
  refine (aa (hg _ l4) _ _).trans ?_
  rw[if_pos h2]
  by_cases h3:3≤v∧v≤3
  ·refine (aa (by simpa using h3) _ _).trans ?_
   refine (aa (hg _ l4) _ _).trans ?_
   rw[if_pos h3]
  ·refine (ab (by simp;omega) _ _).trans ?_
   rw[if_neg h3]
 ·refine (ab (by simp;omega) _ _).trans ?_
  refine (aa (hg _ l3) _ _).trans ?_
  rw[if_neg h2]
  by_cases h3:3≤v∧v≤3
  ·omega
  ·refine (ab (by simp;omega) _ _).trans ?_
   rw[if_neg h3]
theorem f7 {s:aW}(v lo hi x:Int)(n:Nat)(h:s.2.2.length≤130048):(cb v lo hi x n s).2.2.length≤130048:=by
 unfold cb
 split
 ·exact aA _ _ h
 ·exact h
theorem qV {s:aW}(v:Int)(p:bn.den)(h:s.2.2.length≤130048):(gQ v p s).2.2.length≤130048:=
 f7 _ _ _ _ _ (f7 _ _ _ _ _ (aA _ _ (aA _ _ (aA _ _ h))))
def Q2 (st cf:Nat)(T:Ty)(sps:Int→List T.den→aW→aW)(d:(gC st cf T).In):Tr (gC st cf T).Res:=.ite (me d.2) (.ret (.ret ((),gA d.2.1.2.1 (sps d.2.1.2.1 d.1.2.1 (mf d.2))))) .no
def gu (st cf:Nat)(T:Ty)(one:Int→T.den→aW→aW)(d:(aY st cf T).st.den):Tr (ax (aY st cf T).xs):=
 .ite (decide (d.1.2.2.1=0)&&(decide (d.1.2.1=(d.1.1.length:Int))&&(decide (d.2.2.1.2.1=130048)&&decide (d.2.2.1.1.length≤130048)))) (.ret (.ret ((),((),p9 d.2.1.1 (d.1.1.foldl (fun s x=>one d.2.1.1 x s) (d.2.1.2.1,(d.2.1.2.2.1,d.2.2.1.1))))))) .no
def vO (st cf:Nat)(T:Ty)(one:Int→T.den→aW→aW){R:Type}(h6:List T.den)(h7 h8 h9 h10:Int)(h11:Bool)(h12:List Int)(h13:Int)(next:List T.den→Int→Int→Int→Int→Bool→List Int→Int→Option R)(out:ax (aY st cf T).xs→Option R):Option R:=bif decide (h8<h7) then bif decide (0≤h8)&&decide (h8<(h6.length:Int)) then bif decide (h13=130048)&&decide (h12.length≤130048) then next (h6) (h7) (IntKind.i64.wrap (h8+1)) (h9) ((one h9 (h6.getD h8.toNat T.zero) (h10,h11,h12)).1) ((one h9 (h6.getD h8.toNat T.zero) (h10,h11,h12)).2.1) ((one h9 (h6.getD h8.toNat T.zero) (h10,h11,h12)).2.2) (130048) else none else none else out (.ret ((),((),((h9,(h10,(h11,()))),((h12,(h13,())),((),()))))))
theorem O9 {st cf:Nat}{T:Ty}{one:Int→T.den→aW→aW}(hle:∀v x s,s.2.2.length≤130048→(one v x s).2.2.length≤130048)
  (it:Nat→List T.den→Int→Int→Int→Int→Bool→List Int→Int→Option (ax (aY st cf T).xs)) (hit:∀n h6 h7 h8 h9 h10 h11 h12 h13,it (n+1) h6 h7 h8 h9 h10 h11 h12 h13=vO st cf T one h6 h7 h8 h9 h10 h11 h12 h13 (it n) some)
  {xs:List T.den} (v:Int) (hl:xs.length≤maxLen):∀(k i:Nat) (s:aW),xs.length<i+k→i≤xs.length→s.2.2.length≤130048→
  it k xs (xs.length:Int) i v s.1 s.2.1 s.2.2 130048=some (.ret ((),((),p9 v ((xs.drop i).foldl (fun s x=>one v x s) s)))):=by
 intro k
 induction k with
 |zero=>intro i s h;omega
 |succ k ih=>
  intro i s h1 h2 h3
  rw[hit]
  unfold vO
  by_cases hi:i<xs.length
  ·refine (aa (decide_eq_true (show (i:Int)<(xs.length:Int) by omega)) _ _).trans ?_
   refine (aa (by simpa using hi) _ _).trans ?_
   simp only[Int.toNat_natCast,aH hi,bb hi hl]
   have g:(decide ((130048:Int)=130048)&&decide (s.2.2.length≤130048))=true:=by
    simpa using h3
   refine (aa g _ _).trans ?_
   rw[List.drop_eq_getElem_cons hi]
   exact ih (i+1) (one v xs[i] s) (by omega) (by omega) (hle v _ s h3)
  ·refine (ab (by simp;omega) _ _).trans ?_
   rw[List.drop_of_length_le (by omega)]
   rfl
def B3 (st cf:Nat)(T:Ty)(one:Int→T.den→aW→aW)(a0:List T.den)(a1 a2:Int)(a3:Bool)(a4:List Int)(a5:Int):Option (gC st cf T).Res:=bif decide (16<(a0.length:Int)) then bif decide (a5=130048)&&decide (a4.length≤130048) then some (Out.ret ((),((),a1,(bv 9 (a2,a3,a4)).1,(bv 9 (a2,a3,a4)).2.1,()),((bv 9 (a2,a3,a4)).2.2,130048,()),((),()),())) else none else bif decide (a5=130048)&&decide (a4.length≤130048) then (gu st cf T one ((a0,((a0.length:Int),(0,()))),((a1,((ac (IntKind.i32.wrap (a0.length:Int)) 4 (a2,a3,a4)).1,((ac (IntKind.i32.wrap (a0.length:Int)) 4 (a2,a3,a4)).2.1,()))),(((ac (IntKind.i32.wrap (a0.length:Int)) 4 (a2,a3,a4)).2.2,(130048,())),((),()))))).run fun y=>match y with | .ret ((),((),(x27,x28,x29,()),(x30,x31,()),(),()))=>(some (Out.ret ((),((),x27,x28,x29,()),(x30,x31,()),((),()),()))) else none
theorem qi {st cf f:Nat}{T:Ty}{sps:Int→List T.den→aW→aW}{one:Int→T.den→aW→aW}(hs:∀v xs s,sps v xs s=cB (one v) xs s)(hle:∀v x s,s.2.2.length≤130048→(one v x s).2.2.length≤130048)
  {cs:List (Nat×Hc)} (hcs:HcsOk prog cs) {fn:Func} (hf:prog.funcs[f]?=some fn) (hname:(fn.name == "runtime.NumGoroutine")=false) (hbody:fn.body.isNone=false)
  (hlp:bo [(5,aP (aY st cf T) (gu st cf T one))] (dC ((c6 fn).getD 0 jD).2.1)=some (aP (aY st cf T) (gu st cf T one))) (h1:Nat.ble (QX fn ((c6 fn).getD 0 jD)).length 0=true) (h2:Nat.ble (c6 fn).length (0+1)=true)
  (hit:∀(n:Nat) (h6:List T.den) (h7 h8 h9 h10:Int) (h11:Bool) (h12:List Int) (h13:Int),gk tt (bz cs) dr (bo [(5,aP (aY st cf T) (gu st cf T one))]) 3 fn ((c6 fn).getD 0 jD) (n+1) ((aY st cf T).st.mk' ((h6,(h7,(h8,()))),((h9,(h10,(h11,()))),((h12,(h13,())),((),()))))) (bI (aY st cf T).xs)=
   vO st cf T one h6 h7 h8 h9 h10 h11 h12 h13 (fun h6 h7 h8 h9 h10 h11 h12 h13=>gk tt (bz cs) dr (bo [(5,aP (aY st cf T) (gu st cf T one))]) 3 fn ((c6 fn).getD 0 jD) n ((aY st cf T).st.mk' ((h6,(h7,(h8,()))),((h9,(h10,(h11,()))),((h12,(h13,())),((),()))))) (bI (aY st cf T).xs)) some)
  (hrun:∀(a0:List T.den) (a1 a2:Int) (a3:Bool) (a4:List Int) (a5:Int),Io.run tt (bz cs) dr (bo [(5,aP (aY st cf T) (gu st cf T one))]) (gC st cf T) fn (((),a0,(),()),((),a1,a2,a3,()),(a4,a5,()),((),()),())=B3 st cf T one a0 a1 a2 a3 a4 a5):
  HcOk prog f (ah (gC st cf T) (Q2 st cf T sps)):=by
 refine aj (n:=400) hm (cs:=cs) hcs (lp:=bo [(5,aP (aY st cf T) (gu st cf T one))]) (fn:=fn) hf hname hbody (gC st cf T) (.step (h0:=aP (aY st cf T) (gu st cf T one)) hlp (aw (n:=400) hm (cs:=cs) hcs (lp:=bo [(5,aP (aY st cf T) (gu st cf T one))]) (fn:=fn) (.done h1) (aY st cf T) (gu st cf T one) ?_) (.done h2)) (Q2 st cf T sps) ?_
 ·rintro ⟨⟨(xs:List T.den),(n:Int),(i:Int),⟨⟩⟩,⟨⟨(v:Int),(e:Int),(f:Bool),⟨⟩⟩,⟨(b:List Int),(m:Int),⟨⟩⟩,⟨⟨⟩,⟨⟩⟩⟩⟩ y hw hy
  obtain ⟨hg,hy⟩:=Tr.guard hy
  simp only[Bool.and_eq_true,decide_eq_true_eq] at hg
  obtain ⟨rfl,rfl,rfl,h4⟩:=hg
  have h4:b.length≤130048:=h4
  have hl:xs.length≤maxLen:=hw.1.1.1
  refine ⟨xs.length+1,(O9 (st:=st) (cf:=cf) hle (fun n h6 h7 h8 h9 h10 h11 h12 h13=>gk tt (bz cs) dr (bo [(5,aP (aY st cf T) (gu st cf T one))]) 3 fn ((c6 fn).getD 0 jD) n ((aY st cf T).st.mk' ((h6,(h7,(h8,()))),((h9,(h10,(h11,()))),((h12,(h13,())),((),()))))) (bI (aY st cf T).xs)) hit v hl (xs.length+1) 0 (e,(f,b)) (by omega) (by omega) h4).trans ?_⟩
  rw[← hy];rfl
 ·rintro ⟨⟨⟨⟩,(xs:List T.den),⟨⟩,⟨⟩⟩,⟨⟨⟩,(v:Int),(e:Int),(f:Bool),⟨⟩⟩,⟨(b:List Int),(m:Int),⟨⟩⟩,⟨⟨⟩,⟨⟩⟩,⟨⟩⟩ out hw ho
  obtain ⟨hg,ho⟩:=Tr.guard ho
  obtain ⟨rfl,hb⟩:=bx (v:=v) (e:=e) (f:=f) hg
  cases ho
  refine (hrun xs v e f b 130048).trans ?_
  unfold B3
  have g:(decide ((130048:Int)=130048)&&decide (b.length≤130048))=true:=by simpa using hb
  show _=some (Out.ret ((),gA v (sps v xs (e,f,b))))
  rw[hs]
  unfold cB
  by_cases h:16<(xs.length:Int)
  ·rw[if_pos h]
   refine (aa (decide_eq_true h) _ _).trans ?_
   exact aa g _ _
  ·rw[if_neg h]
   refine (ab (decide_eq_false h) _ _).trans ?_
   refine (aa g _ _).trans ?_
   have hw32:IntKind.i32.wrap (xs.length:Int)=xs.length:=dD (by simp[eE,IntKind.min,IntKind.max,IntKind.signed,IntKind.bits];omega)
   rw[hw32]
   have c1:(decide ((0:Int)=0)&&(decide ((xs.length:Int)=(xs.length:Int))&&(decide ((130048:Int)=130048)&&decide ((ac xs.length 4 (e,f,b)).2.2.length≤130048))))=true:=by
    simpa using aA (s:=(e,f,b)) _ 4 hb
   have e1:gu st cf T one ((xs,((xs.length:Int),(0,()))),((v,((ac xs.length 4 (e,f,b)).1,((ac xs.length 4 (e,f,b)).2.1,()))),(((ac xs.length 4 (e,f,b)).2.2,(130048,())),((),()))))=
     .ite true (.ret (.ret ((),((),p9 v (xs.foldl (fun s x=>one v x s) (ac xs.length 4 (e,f,b))))))) .no:=congrArg (fun c=>Tr.ite c _ _) c1
   rw[e1]
   rfl
def mW (v:Int)(xs:List bn.den)(s:aW):aW:=cB (gQ v) xs s
abbrev tj:Io:=⟨[.ptr 0 0,.dat (.sl 214 bn) false false,.fnc 125 false [2]],oE,[],[],none⟩
def Mt (d:tj.In):Tr tj.Res:=.ite (me d.2) (.ret (.ret ((),gA d.2.1.2.1 (mW d.2.1.2.1 d.1.2.1 (mf d.2))))) .no
abbrev Sf:List (Nat×Hc):=[(194,ah cJ gI),(98,ah dd gT),(125,ah nK JX)]
theorem T9:HcOk prog 124 (ah tj Mt):=
 qi (one:=gQ) (sps:=mW) (fun _ _ _=>rfl) (fun v _ _ h3=>qV v _ h3) (cs:=Sf) (.cons fv (.cons cF (.cons Xh .nil))) (fn:=Tryz.f124) (by kernel_rfl) (by kernel_rfl) (by kernel_rfl) (by kernel_rfl) (by kernel_rfl) (by kernel_rfl) (by intros;kernel_rfl) (by intros;kernel_rfl)
def tT (v:Int)(t:aq.den)(s:aW):aW:=mW v t.2.1 (bR t.1 s)
abbrev nL:Io:=⟨[.dat aq true false,.ptr 0 0],tH,[],[],none⟩
def JY (d:nL.In):Tr nL.Res:=.ite (fB d.2.2) (.ret (.ret ((),gz d.2.2.1.2.1 (tT d.2.2.1.2.1 d.1.1 (fC d.2.2))))) .no
abbrev M2:List (Nat×Hc):=[(101,ah mp BS),(124,ah tj Mt)]
def WI:Hd:=bz M2
def NK:Lp:=bo []
def Cs (a0:List Int)(a1:List bn.den)(a2 a3:Int)(a4:Bool)(a5:List Int)(a6:Int):Option nL.Res:=bif decide (a6=130048)&&decide (a5.length≤130048) then bif decide (130048=130048)&&decide ((bR a0 (a3,a4,a5)).2.2.length≤130048) then some (Out.ret ((),((),()),((),a2,(mW a2 a1 (bR a0 (a3,a4,a5))).1,(mW a2 a1 (bR a0 (a3,a4,a5))).2.1,()),((mW a2 a1 (bR a0 (a3,a4,a5))).2.2,130048,()),())) else none else none
theorem UT (a0:List Int)(a1:List bn.den)(a2 a3:Int)(a4:Bool)(a5:List Int)(a6:Int):Io.run tt WI dr NK nL Tryz.f123 (((a0,a1,()),(),()),((),()),((),a2,a3,a4,()),(a5,a6,()),())=Cs a0 a1 a2 a3 a4 a5 a6:=by kernel_rfl
theorem Xi:HcOk prog 123 (ah nL JY):=by
 refine aj (n:=400) hm (cs:=M2) (.cons FN (.cons T9 .nil)) (lp:=NK) (fn:=Tryz.f123) (by kernel_rfl) (by kernel_rfl) (by kernel_rfl) nL (.done (by kernel_rfl)) JY ?_
 rintro ⟨⟨⟨(t:List Int),(ps:List bn.den),⟨⟩⟩,⟨⟩,⟨⟩⟩,⟨⟨⟩,⟨⟩⟩,⟨⟨⟩,(v:Int),(e:Int),(f:Bool),⟨⟩⟩,⟨(b:List Int),(m:Int),⟨⟩⟩,⟨⟩⟩ out hw ho
 obtain ⟨hg,ho⟩:=Tr.guard ho
 obtain ⟨rfl,hb⟩:=bx (v:=v) (e:=e) (f:=f) hg
 cases ho
 refine (UT t ps v e f b 130048).trans ?_
 unfold Cs
 refine (aa (by simpa using hb) _ _).trans ?_
 refine (aa (by simpa using il (s:=(e,f,b)) t hb) _ _).trans ?_
 rfl
theorem AJ {s:aW}(v:Int)(t:aq.den)(h:s.2.2.length≤130048):(tT v t s).2.2.length≤130048:=cY (fun x s=>qV v x) _ (il _ h)
def ez (v:Int)(xs:List aq.den)(s:aW):aW:=cB (tT v) xs s
abbrev tk:Io:=⟨[.ptr 0 0,.dat (.sl 212 aq) false false,.fnc 123 false [2]],oE,[],[],none⟩
def Mu (d:tk.In):Tr tk.Res:=.ite (me d.2) (.ret (.ret ((),gA d.2.1.2.1 (ez d.2.1.2.1 d.1.2.1 (mf d.2))))) .no
abbrev Sg:List (Nat×Hc):=[(194,ah cJ gI),(98,ah dd gT),(123,ah nL JY)]
theorem z0:HcOk prog 122 (ah tk Mu):=
 qi (one:=tT) (sps:=ez) (fun _ _ _=>rfl) (fun v _ _ h3=>AJ v _ h3) (cs:=Sg) (.cons fv (.cons cF (.cons Xi .nil))) (fn:=Tryz.f122) (by kernel_rfl) (by kernel_rfl) (by kernel_rfl) (by kernel_rfl) (by kernel_rfl) (by kernel_rfl) (by intros;kernel_rfl) (by intros;kernel_rfl)
def oe (v:Int)(p:bn.den)(s:aW):aW:=ar v (p.2.2.2.2.1 == 0) 3 3 (ar v (p.2.2.2.1 == 0) 2 3 s)
def eB (v:Int)(ps:List bn.den)(s:aW):aW:=ps.foldl (fun s p=>oe v p s) s
def og (v:Int)(ts:List aq.den)(s:aW):aW:=ts.foldl (fun s t=>eB v t.2.1 s) s
def mz (v:Int)(m:jR.den):aW:=
 cb v 1 3 m.2.1 4 (ez v m.1 (og v m.1 (ar v (m.2.1 == 0) 1 3 (bc v,(false,([]:List Int))))))
abbrev rD:Io:=⟨[dI,.dat jR true false],[],[],[dO,dI],none⟩
def Yy (d:rD.In):Tr rD.Res:=.ret (.ret ((bP (mz d.1.1 d.1.2.1),(bw (mz d.1.1 d.1.2.1),())),()))
abbrev EN:List (Nat×Hc):=[(93,ah mm BR),(94,ah fG m3),(95,ah iv qN),(98,ah dd gT),(122,ah tk Mu),(105,ah jq uA)]
def Kx:Hd:=bz EN
abbrev iG:Lo:=⟨⟨(.any::be (.one (.ptr 3 0)::be (.one (.ptr 6 0)::dE (bJ (.one (.hol (.sl 212 (Ty.str.prod ((Ty.sl 214 ((Ty.int IntKind.i32).prod ((Ty.int IntKind.i16).prod ((Ty.int IntKind.i64).prod ((Ty.int IntKind.i64).prod ((Ty.int IntKind.i64).prod Ty.unit)))))).prod Ty.unit))))::.one (.hol (.int IntKind.i64))::.one (.hol (.int IntKind.i64))::bJ (.one (.hol (.sl 214 ((Ty.int IntKind.i32).prod ((Ty.int IntKind.i16).prod ((Ty.int IntKind.i64).prod ((Ty.int IntKind.i64).prod ((Ty.int IntKind.i64).prod Ty.unit)))))))::.one (.hol (.int IntKind.i64))::.one (.hol (.int IntKind.i64))::ai (dE (bJ (be []))))))))),[none,none,none,some [.hol (.sl 212 (Ty.str.prod ((Ty.sl 214 ((Ty.int IntKind.i32).prod ((Ty.int IntKind.i16).prod ((Ty.int IntKind.i64).prod ((Ty.int IntKind.i64).prod ((Ty.int IntKind.i64).prod Ty.unit)))))).prod Ty.unit))),.hol (.int IntKind.i32)],none,none,some [.ptr 12 0],none,none,none,none,none,some [.ptr 13 0,.hol (.int IntKind.i64),.hol (.int IntKind.i64),.hol .bool],some [.onl 5 (Ty.int IntKind.u8) 6658,.hol (.int IntKind.i64)]]⟩,[(.exit 2,⟨(.any::be (.one (.ptr 3 0)::be (.one (.ptr 6 0)::dE (bJ (.one (.hol (.sl 212 (Ty.str.prod ((Ty.sl 214 ((Ty.int IntKind.i32).prod ((Ty.int IntKind.i16).prod ((Ty.int IntKind.i64).prod ((Ty.int IntKind.i64).prod ((Ty.int IntKind.i64).prod Ty.unit)))))).prod Ty.unit))))::.one (.hol (.int IntKind.i64))::.one (.hol (.int IntKind.i64))::.any::ai (ai (bJ []))))))),[none,none,none,some [.hol (.sl 212 (Ty.str.prod ((Ty.sl 214 ((Ty.int IntKind.i32).prod ((Ty.int IntKind.i16).prod ((Ty.int IntKind.i64).prod ((Ty.int IntKind.i64).prod ((Ty.int IntKind.i64).prod Ty.unit)))))).prod Ty.unit))),.hol (.int IntKind.i32)],none,none,some [.ptr 12 0],none,none,none,none,none,some [.ptr 13 0,.hol (.int IntKind.i64),.hol (.int IntKind.i64),.hol .bool],some [.onl 5 (Ty.int IntKind.u8) 6658,.hol (.int IntKind.i64)]]⟩)]⟩
abbrev iF:Lo:=⟨⟨(.any::be (.one (.ptr 3 0)::be (.one (.ptr 6 0)::dE (bJ (.one (.hol (.sl 212 (Ty.str.prod ((Ty.sl 214 ((Ty.int IntKind.i32).prod ((Ty.int IntKind.i16).prod ((Ty.int IntKind.i64).prod ((Ty.int IntKind.i64).prod ((Ty.int IntKind.i64).prod Ty.unit)))))).prod Ty.unit))))::.one (.hol (.int IntKind.i64))::.one (.hol (.int IntKind.i64))::.any::ai (ai (bJ []))))))),[none,none,none,some [.hol (.sl 212 (Ty.str.prod ((Ty.sl 214 ((Ty.int IntKind.i32).prod ((Ty.int IntKind.i16).prod ((Ty.int IntKind.i64).prod ((Ty.int IntKind.i64).prod ((Ty.int IntKind.i64).prod Ty.unit)))))).prod Ty.unit))),.hol (.int IntKind.i32)],none,none,some [.ptr 12 0],none,none,none,none,none,some [.ptr 13 0,.hol (.int IntKind.i64),.hol (.int IntKind.i64),.hol .bool],some [.onl 5 (Ty.int IntKind.u8) 6658,.hol (.int IntKind.i64)]]⟩,[(.exit 0,⟨(.any::be (.one (.ptr 3 0)::be (.one (.ptr 6 0)::ai (ai (ai (bJ [])))))),[none,none,none,some [.hol (.sl 212 (Ty.str.prod ((Ty.sl 214 ((Ty.int IntKind.i32).prod ((Ty.int IntKind.i16).prod ((Ty.int IntKind.i64).prod ((Ty.int IntKind.i64).prod ((Ty.int IntKind.i64).prod Ty.unit)))))).prod Ty.unit))),.hol (.int IntKind.i32)],none,none,some [.ptr 12 0],none,none,none,none,none,some [.ptr 13 0,.hol (.int IntKind.i64),.hol (.int IntKind.i64),.hol .bool],some [.onl 5 (Ty.int IntKind.u8) 6658,.hol (.int IntKind.i64)]]⟩)]⟩
abbrev DD (ts:List aq.den)(thr v:Int)(s:aW):(List aq.den×(Int×Unit))×(Unit×((Int×(Int×(Bool×Unit)))×((List Int×(Int×Unit))×Unit))):=((ts,(thr,())),((),((v,(s.1,(s.2.1,()))),((s.2.2,(130048,())),()))))
def sn (d:iG.st.den):Tr (ax iG.xs):=
 .ite (decide (d.1.2.2.2.2.2.1=0)&&(decide (d.1.2.2.2.2.1=(d.1.2.2.2.1.length:Int))&&(decide (d.2.2.2.2.1.2.1=130048)&&decide (d.2.2.2.2.1.1.length≤130048)))) (.ret (.ret ((),((d.1.1,(d.1.2.1,(d.1.2.2.1,()))),DD d.2.1.1 d.2.1.2.1 d.2.2.2.1.1 (eB d.2.2.2.1.1 d.1.2.2.2.1 (d.2.2.2.1.2.1,(d.2.2.2.1.2.2.1,d.2.2.2.2.1.1))))))) .no
def sm (d:iF.st.den):Tr (ax iF.xs):=
 .ite (decide (d.1.2.2.1=0)&&(decide (d.1.2.1=(d.1.1.length:Int))&&(decide (d.2.2.2.2.1.2.1=130048)&&decide (d.2.2.2.2.1.1.length≤130048)))) (.ret (.ret ((),((),DD d.2.1.1 d.2.1.2.1 d.2.2.2.1.1 (og d.2.2.2.1.1 d.1.1 (d.2.2.2.1.2.1,(d.2.2.2.1.2.2.1,d.2.2.2.2.1.1))))))) .no
def vh:Lp:=bo [(5,aP iF sm),(8,aP iG sn)]
def Bk {R:Type}(h13:List aq.den)(h14 h15:Int)(h16:List bn.den)(h17 h18:Int)(h19:List aq.den)(h20 h21 h22:Int)(h23:Bool)(h24:List Int)(h25:Int)(next:List aq.den→Int→Int→List bn.den→Int→Int→List aq.den→Int→Int→Int→Bool→List Int→Int→Option R)(out:ax iG.xs→Option R):Option R:=bif decide (h18<h17) then bif decide (0≤h18)&&decide (h18<(↑h16.length:Int)) then bif decide (h25=130048)&&decide (h24.length≤130048) then bif decide (130048=130048)&&decide ((ar h21 ((h16.getD h18.toNat (0,0,0,0,0,())).2.2.2.1 == 0) 2 3 (h22,h23,h24)).2.2.length≤130048) then next (h13) (h14) (h15) (h16) (h17) (IntKind.i64.wrap (h18+1)) (h19) (h20) (h21) ((ar h21 ((h16.getD h18.toNat (0,0,0,0,0,())).2.2.2.2.1 == 0) 3 3 (ar h21 ((h16.getD h18.toNat (0,0,0,0,0,())).2.2.2.1 == 0) 2 3 (h22,h23,h24))).1) ((ar h21 ((h16.getD h18.toNat (0,0,0,0,0,())).2.2.2.2.1 == 0) 3 3 (ar h21 ((h16.getD h18.toNat (0,0,0,0,0,())).2.2.2.1 == 0) 2 3 (h22,h23,h24))).2.1) ((ar h21 ((h16.getD h18.toNat (0,0,0,0,0,())).2.2.2.2.1 == 0) 3 3 (ar h21 ((h16.getD h18.toNat (0,0,0,0,0,())).2.2.2.1 == 0) 2 3 (h22,h23,h24))).2.2) (130048) else none else none else none else out (.ret ((),((h13,(h14,(h15,()))),((h19,(h20,())),((),((h21,(h22,(h23,()))),((h24,(h25,())),())))))))
def zC (n:Nat)(h13:List aq.den)(h14 h15:Int)(h16:List bn.den)(h17 h18:Int)(h19:List aq.den)(h20 h21 h22:Int)(h23:Bool)(h24:List Int)(h25:Int):Option (ax iG.xs):=gk tt Kx dr vh 0 Tryz.f58 (vQ Tryz.f58 (cI Tryz.f58 0) 0) n (iG.st.mk' ((h13,(h14,(h15,(h16,(h17,(h18,())))))),((h19,(h20,())),((),((h21,(h22,(h23,()))),((h24,(h25,())),())))))) (bI iG.xs)
theorem Vf (n:Nat)(h13:List aq.den)(h14 h15:Int)(h16:List bn.den)(h17 h18:Int)(h19:List aq.den)(h20 h21 h22:Int)(h23:Bool)(h24:List Int)(h25:Int):zC (n+1) h13 h14 h15 h16 h17 h18 h19 h20 h21 h22 h23 h24 h25=Bk h13 h14 h15 h16 h17 h18 h19 h20 h21 h22 h23 h24 h25 (zC n) some:=by kernel_rfl
def Bj {R:Type}(h3:List aq.den)(h4 h5:Int)(h6:List aq.den)(h7 h8 h9:Int)(h10:Bool)(h11:List Int)(h12:Int)(next:List aq.den→Int→Int→List aq.den→Int→Int→Int→Bool→List Int→Int→Option R)(out:ax iF.xs→Option R):Option R:=bif decide (h5<h4) then bif decide (0≤h5)&&decide (h5<(↑h3.length:Int)) then (sn ((h3,(h4,(h5,((h3.getD h5.toNat ([],[],())).2.1,((↑(List.length (h3.getD h5.toNat ([],[],())).2.1):Int),(0,())))))),((h6,(h7,())),((),((h8,(h9,(h10,()))),((h11,(h12,())),())))))).run fun y=>match y with | .ret ((),((x49,x50,x51,()),(x52,x53,()),(),(x54,x55,x56,()),(x57,x58,()),()))=>(next (x49) (x50) (IntKind.i64.wrap (x51+1)) (x52) (x53) (x54) (x55) (x56) (x57) (x58)) else none else out (.ret ((),((),((h6,(h7,())),((),((h8,(h9,(h10,()))),((h11,(h12,())),())))))))
def tq (n:Nat)(h3:List aq.den)(h4 h5:Int)(h6:List aq.den)(h7 h8 h9:Int)(h10:Bool)(h11:List Int)(h12:Int):Option (ax iF.xs):=gk tt Kx dr vh 0 Tryz.f58 (cI Tryz.f58 0) n (iF.st.mk' ((h3,(h4,(h5,()))),((h6,(h7,())),((),((h8,(h9,(h10,()))),((h11,(h12,())),())))))) (bI iF.xs)
theorem Ve (n:Nat)(h3:List aq.den)(h4 h5:Int)(h6:List aq.den)(h7 h8 h9:Int)(h10:Bool)(h11:List Int)(h12:Int):tq (n+1) h3 h4 h5 h6 h7 h8 h9 h10 h11 h12=Bj h3 h4 h5 h6 h7 h8 h9 h10 h11 h12 (tq n) some:=by kernel_rfl
theorem AK {s:aW}(v:Int)(p:bn.den)(h:s.2.2.length≤130048):(oe v p s).2.2.length≤130048:=bp _ _ _ _ (bp _ _ _ _ h)
theorem wJ {s:aW}(v:Int)(ps:List bn.den)(h:s.2.2.length≤130048):(eB v ps s).2.2.length≤130048:=gl (fun x s=>AK v x) ps s h
theorem LW {s:aW}(v:Int)(ts:List aq.den)(h:s.2.2.length≤130048):(og v ts s).2.2.length≤130048:=gl (one:=fun (t:aq.den) (s:aW)=>eB v t.2.1 s) (fun x s h=>wJ v x.2.1 h) ts s h
theorem KJ (ts:List aq.den)(n i:Int)(ts':List aq.den)(thr v:Int){ps:List bn.den}(hl:ps.length≤maxLen):∀(k j:Nat) (s:aW),ps.length<j+k→j≤ps.length→s.2.2.length≤130048→
  zC k ts n i ps (ps.length:Int) j ts' thr v s.1 s.2.1 s.2.2 130048=some (.ret ((),((ts,(n,(i,()))),DD ts' thr v ((ps.drop j).foldl (fun s p=>oe v p s) s)))):=by
 intro k
 induction k with
 |zero=>intro j s h;omega
 |succ k ih=>
  intro j s h1 h2 h3
  rw[Vf]
  unfold Bk
  by_cases hi:j<ps.length
  ·refine (aa (decide_eq_true (show (j:Int)<(ps.length:Int) by omega)) _ _).trans ?_
   refine (aa (by simpa using hi) _ _).trans ?_
   simp only[Int.toNat_natCast,aH hi,bb hi hl]
   refine (aa (by simpa using h3) _ _).trans ?_
   refine (aa (by simpa using bp (s:=s) v (ps[j].2.2.2.1 == 0) 2 3 h3) _ _).trans ?_
   rw[List.drop_eq_getElem_cons hi]
   exact ih (j+1) (oe v ps[j] s) (by omega) (by omega) (AK _ _ h3)
  ·refine (ab (by simp;omega) _ _).trans ?_
   rw[List.drop_of_length_le (by omega)]
   rfl
theorem KI {ts:List aq.den}(ts':List aq.den)(thr v:Int)(hl:ts.length≤maxLen):∀(k j:Nat) (s:aW),ts.length<j+k→j≤ts.length→s.2.2.length≤130048→
  tq k ts (ts.length:Int) j ts' thr v s.1 s.2.1 s.2.2 130048=some (.ret ((),((),DD ts' thr v ((ts.drop j).foldl (fun s t=>eB v t.2.1 s) s)))):=by
 intro k
 induction k with
 |zero=>intro j s h;omega
 |succ k ih=>
  intro j s h1 h2 h3
  rw[Ve]
  unfold Bj
  by_cases hi:j<ts.length
  ·refine (aa (decide_eq_true (show (j:Int)<(ts.length:Int) by omega)) _ _).trans ?_
   refine (aa (by simpa using hi) _ _).trans ?_
   simp only[Int.toNat_natCast,aH hi]
   have c1:(decide ((0:Int)=0)&&(decide ((ts[j].2.1.length:Int)=(ts[j].2.1.length:Int))&&(decide ((130048:Int)=130048)&&decide (s.2.2.length≤130048))))=true:=by simpa using h3
   have e1:sn ((ts,((ts.length:Int),((j:Int),(ts[j].2.1,((ts[j].2.1.length:Int),(0,())))))),((ts',(thr,())),((),((v,(s.1,(s.2.1,()))),((s.2.2,(130048,())),())))))=
     .ite true (.ret (.ret ((),((ts,((ts.length:Int),((j:Int),()))),DD ts' thr v (eB v ts[j].2.1 s))))) .no:=congrArg (fun c=>Tr.ite c _ _) c1
   rw[e1]
   show tq k ts (ts.length:Int) (IntKind.i64.wrap ((j:Int)+1)) ts' thr v (eB v ts[j].2.1 s).1 (eB v ts[j].2.1 s).2.1 (eB v ts[j].2.1 s).2.2 130048=_
   rw[bb hi hl,List.drop_eq_getElem_cons hi]
   exact ih (j+1) (eB v ts[j].2.1 s) (by omega) (by omega) (wJ _ _ h3)
  ·refine (ab (by simp;omega) _ _).trans ?_
   rw[List.drop_of_length_le (by omega)]
   rfl
def GV (a0:Int)(a1:List aq.den)(a2:Int):Option rD.Res:=(sm ((a1,((↑a1.length:Int),(0,()))),((a1,(a2,())),((),((a0,((ar a0 (a2 == 0) 1 3 (bc a0,false,[])).1,((ar a0 (a2 == 0) 1 3 (bc a0,false,[])).2.1,()))),(((ar a0 (a2 == 0) 1 3 (bc a0,false,[])).2.2,(130048,())),())))))).run fun y=>match y with | .ret ((),((),(x76,x77,()),(),(x78,x79,x80,()),(x81,x82,()),()))=>(bif decide (x82=130048)&&decide (x81.length≤130048) then bif decide (130048=130048)&&decide ((ez x78 x76 (x79,x80,x81)).2.2.length≤130048) then bif decide (1≤x78)&&decide (x78≤3) then bif decide (130048=130048)&&decide ((ez x78 x76 (x79,x80,x81)).2.2.length≤130048) then bif decide (130048=130048)&&decide ((ac x77 4 (ez x78 x76 (x79,x80,x81))).2.2.length≤130048) then some (Out.ret ((bP (ac x77 4 (ez x78 x76 (x79,x80,x81))),bw (ac x77 4 (ez x78 x76 (x79,x80,x81))),()),())) else none else none else bif decide (130048=130048)&&decide ((ez x78 x76 (x79,x80,x81)).2.2.length≤130048) then some (Out.ret ((bP (ez x78 x76 (x79,x80,x81)),bw (ez x78 x76 (x79,x80,x81)),()),())) else none else none else none)
theorem XS (a0:Int)(a1:List aq.den)(a2:Int):Io.run tt Kx dr vh rD Tryz.f58 ((a0,(a1,a2,()),()),())=GV a0 a1 a2:=by kernel_rfl
theorem aac:HcOk prog 58 (ah rD Yy):=by
 refine aj (n:=400) hm (cs:=EN) (.cons jM (.cons ey (.cons gg (.cons cF (.cons z0 (.cons gD .nil)))))) (lp:=vh) (fn:=Tryz.f58) (by kernel_rfl) (by kernel_rfl) (by kernel_rfl) rD (.step (h0:=aP iF sm) (by kernel_rfl) (aw (n:=400) hm (cs:=EN) (.cons jM (.cons ey (.cons gg (.cons cF (.cons z0 (.cons gD .nil)))))) (lp:=vh) (fn:=Tryz.f58) (.step (h0:=aP iG sn) (by kernel_rfl) (aw (n:=400) hm (cs:=EN) (.cons jM (.cons ey (.cons gg (.cons cF (.cons z0 (.cons gD .nil)))))) (lp:=vh) (fn:=Tryz.f58) (.done (by kernel_rfl)) iG sn ?_) (.done (by kernel_rfl))) iF sm ?_) (.done (by kernel_rfl))) Yy ?_
 ·rintro ⟨⟨(ts:List aq.den),(n:Int),(i:Int),(ps:List bn.den),(pn:Int),(pj:Int),⟨⟩⟩,⟨⟨(ts':List aq.den),(thr:Int),⟨⟩⟩,⟨⟩,⟨(v:Int),(e:Int),(f:Bool),⟨⟩⟩,⟨(b:List Int),(m:Int),⟨⟩⟩,⟨⟩⟩⟩ y hw hy
  obtain ⟨hg,hy⟩:=Tr.guard hy
  simp only[Bool.and_eq_true,decide_eq_true_eq] at hg
  obtain ⟨rfl,rfl,rfl,h4⟩:=hg
  have h4:b.length≤130048:=h4
  have hl:ps.length≤maxLen:=hw.1.2.2.2.1.1
  refine ⟨ps.length+1,(KJ ts n i ts' thr v hl (ps.length+1) 0 (e,(f,b)) (by omega) (by omega) h4).trans ?_⟩
  rw[← hy];rfl
 ·rintro ⟨⟨(ts:List aq.den),(n:Int),(i:Int),⟨⟩⟩,⟨⟨(ts':List aq.den),(thr:Int),⟨⟩⟩,⟨⟩,⟨(v:Int),(e:Int),(f:Bool),⟨⟩⟩,⟨(b:List Int),(m:Int),⟨⟩⟩,⟨⟩⟩⟩ y hw hy
  obtain ⟨hg,hy⟩:=Tr.guard hy
  simp only[Bool.and_eq_true,decide_eq_true_eq] at hg
  obtain ⟨rfl,rfl,rfl,h4⟩:=hg
  have h4:b.length≤130048:=h4
  have hl:ts.length≤maxLen:=hw.1.1.1
  refine ⟨ts.length+1,(KI ts' thr v hl (ts.length+1) 0 (e,(f,b)) (by omega) (by omega) h4).trans ?_⟩
  rw[← hy];rfl
 ·rintro ⟨⟨(v:Int),⟨(ts:List aq.den),(thr:Int),⟨⟩⟩,⟨⟩⟩,⟨⟩⟩ out hw ho
  cases ho
  refine (XS v ts thr).trans ?_
  unfold GV
  have hg:∀s:aW,s.2.2.length≤130048→(decide ((130048:Int)=130048)&&decide (s.2.2.length≤130048))=true:=fun s h=>by simpa using h
  have l0:(ar v (thr == 0) 1 3 (bc v,(false,([]:List Int)))).2.2.length≤130048:=bp _ _ _ _ (by simp)
  have c1:(decide ((0:Int)=0)&&(decide ((ts.length:Int)=(ts.length:Int))&&(decide ((130048:Int)=130048)&&decide ((ar v (thr == 0) 1 3 (bc v,(false,([]:List Int)))).2.2.length≤130048))))=true:=by simpa using l0
  have e1:sm ((ts,((ts.length:Int),(0,()))),((ts,(thr,())),((),((v,((ar v (thr == 0) 1 3 (bc v,(false,([]:List Int)))).1,((ar v (thr == 0) 1 3 (bc v,(false,([]:List Int)))).2.1,()))),(((ar v (thr == 0) 1 3 (bc v,(false,([]:List Int)))).2.2,(130048,())),())))))=
    .ite true (.ret (.ret ((),((),DD ts thr v (og v ts (ar v (thr == 0) 1 3 (bc v,(false,([]:List Int))))))))) .no:=congrArg (fun c=>Tr.ite c _ _) c1
  rw[e1]
  have l1:=LW v ts l0
  have l2:(ez v ts (og v ts (ar v (thr == 0) 1 3 (bc v,(false,([]:List Int)))))).2.2.length≤130048:=cY (fun x s=>AJ v x) _ l1
  refine (aa (hg _ l1) _ _).trans ?_
  refine (aa (hg _ l2) _ _).trans ?_
  show _=some (Out.ret ((bP (mz v (ts,(thr,()))),(bw (mz v (ts,(thr,()))),())),()))
  unfold mz cb
  by_cases h:1≤v∧v≤3
  ·rw[if_pos h]
   refine (aa (show (decide (1≤v)&&decide (v≤3))=true by simpa using h) _ _).trans ?_
   refine (aa (hg _ l2) _ _).trans ?_
   exact aa (hg _ (aA _ _ l2)) _ _
  ·rw[if_neg h]
   refine (ab (show (decide (1≤v)&&decide (v≤3))=false by simp;omega) _ _).trans ?_
   exact aa (hg _ l2) _ _
def av (k:IntKind)(n:Nat)(v lo hi:Int)(b:List Int)(s:aN):Int×aN:=if bg v lo hi s.1=true then ae k n b s else (0,s)
theorem kY {k:IntKind}{n:Nat}{v lo hi:Int}{b:List Int}{s:aN}(h:au b s.2=true):au b (av k n v lo hi b s).2.2=true:=by
 unfold av
 split
 ·exact bF _ _ h
 ·exact h
def Yb (b:List Int)(s:aN):aN:=(ae .i64 8 b (ae .i16 2 b (ae .i32 4 b s).2).2).2
@[irreducible] noncomputable def F9 (v:Int)(b:List Int)(s:aN):bn.den×aN:=
 (((ae .i32 4 b s).1,((ae .i16 2 b (ae .i32 4 b s).2).1,((ae .i64 8 b (ae .i16 2 b (ae .i32 4 b s).2).2).1,((av .i64 8 v 2 3 b (Yb b s)).1,((av .i64 8 v 3 3 b (av .i64 8 v 2 3 b (Yb b s)).2).1,()))))),(av .i64 8 v 3 3 b (av .i64 8 v 2 3 b (Yb b s)).2).2)
@[irreducible] noncomputable def AB (v:Int)(b:List Int)(s:aN):List bn.den×aN:=jP (F9 v b) b s
@[irreducible] noncomputable def Oj (v:Int)(b:List Int)(s:aN):aq.den×aN:=(((cn b s).1,((AB v b (cn b s).2).1,())),(AB v b (cn b s).2).2)
end
end Go.Proofs.YtomeplopmndbgaaGreat.Sym
