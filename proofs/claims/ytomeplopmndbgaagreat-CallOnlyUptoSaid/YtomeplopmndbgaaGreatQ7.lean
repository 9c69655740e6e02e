/- call.Encode: a whole call, written. -/
import Derived.Test.YtomeplopmndbgaaGreatQ6

namespace Go.Proofs.YtomeplopmndbgaaGreat.Sym
open Go
set_option linter.unusedSimpArgs false
set_option linter.unusedVariables false
noncomputable section
abbrev fb:Ty:=.prod (.int .i16) (.prod (.int .i16) (.prod (.int .i32) (.prod cW (.prod iD (.prod bX (.prod cg .unit))))))
abbrev fJ:Ty:=.prod (.int .i16) (.prod (.int .i16) (.prod (.int .i32) (.prod tB (.prod eS (.prod da .unit)))))
def ez (k v:Int):Int:=if k≠0∧k≠1∧k≠2 then 160 else if v<0∨3<v then 8 else 0
abbrev fV:Io:=⟨[N1,N1],[],[],[dI],none⟩
def p4 (d:fV.In):Tr fV.Res:=.ret (.ret ((ez d.1.1 d.1.2.1,()),()))
abbrev I3:List (Nat×Hc):=[]
def RF:Hd:=bR I3
def JE:Lp:=bJ []
def zn (a0 a1:Int):Option fV.Res:=bif a0 != 0 then bif a0 != 1 then bif a0 != 2 then some (Out.ret ((160,()),())) else bif decide (a1<0) then some (Out.ret ((8,()),())) else bif decide (3<a1) then some (Out.ret ((8,()),())) else some (Out.ret ((0,()),())) else bif decide (a1<0) then some (Out.ret ((8,()),())) else bif decide (3<a1) then some (Out.ret ((8,()),())) else some (Out.ret ((0,()),())) else bif decide (a1<0) then some (Out.ret ((8,()),())) else bif decide (3<a1) then some (Out.ret ((8,()),())) else some (Out.ret ((0,()),()))
theorem PV (a0 a1:Int):Io.run tt RF dr JE fV Tryz.f40 ((a0,a1,()),())=zn a0 a1:=by kernel_rfl
theorem rK:HcOk prog 40 (af fV p4):=by
 refine ao (n:=400) hm (cs:=I3) HcsOk.nil (lp:=JE) (fn:=Tryz.f40) (by kernel_rfl) (by kernel_rfl) (by kernel_rfl) fV (.done (by kernel_rfl)) p4 ?_
 rintro ⟨⟨(k:Int),(v:Int),⟨⟩⟩,⟨⟩⟩ out hw ho
 cases ho
 refine (PV k v).trans ?_
 unfold zn
 show _=some (Out.ret ((ez k v,()),()))
 unfold ez
 have key:(bif decide (v<0) then some (Out.ret ((8,()),())) else bif decide (3<v) then some (Out.ret ((8,()),())) else some (Out.ret ((0,()),())):Option fV.Res)=some (Out.ret ((if v<0∨3<v then 8 else 0,()),())):=by
  by_cases h3:v<0
  ·rw[aa (by simpa using h3),if_pos (.inl h3)]
  ·rw[ae (by simpa using h3)]
   by_cases h4:3<v
   ·rw[aa (by simpa using h4),if_pos (.inr h4)]
   ·rw[ae (by simpa using h4),if_neg (by omega)]
 rw[key]
 by_cases h0:k=0
 ·rw[ae (by simpa using h0),if_neg (c:=k≠0∧k≠1∧k≠2) (fun h=>h.1 h0)]
 rw[aa (by simpa using h0)]
 by_cases h1:k=1
 ·rw[ae (by simpa using h1),if_neg (c:=k≠0∧k≠1∧k≠2) (fun h=>h.2.1 h1)]
 rw[aa (by simpa using h1)]
 by_cases h2:k=2
 ·rw[ae (by simpa using h2),if_neg (c:=k≠0∧k≠1∧k≠2) (fun h=>h.2.2 h2)]
 rw[aa (by simpa using h2),if_pos ⟨h0,h1,h2⟩]
def rR (n:cW.den):Int:=if n.1=true∧n.2.1≠[] then 70 else if (cM n.2.1).2=false then 6 else if 255<n.2.1.length then 4 else 0
abbrev gm:Io:=⟨[ww],[],[],[dI],none⟩
def qM (d:gm.In):Tr gm.Res:=.ret (.ret ((rR d.1.1,()),()))
abbrev zT:List (Nat×Hc):=[(92,af lb za)]
def KS:Hd:=bR zT
def Ao:Lp:=bJ []
def tI (a0:Bool)(a1:List Int):Option gm.Res:=bif a0 then bif !decide (a1=[]) then some (Out.ret ((70,()),())) else bif !(cM a1).2 then some (Out.ret ((6,()),())) else bif decide (255<(↑a1.length:Int)) then some (Out.ret ((4,()),())) else some (Out.ret ((0,()),())) else bif !(cM a1).2 then some (Out.ret ((6,()),())) else bif decide (255<(↑a1.length:Int)) then some (Out.ret ((4,()),())) else some (Out.ret ((0,()),()))
theorem HO (a0:Bool)(a1:List Int):Io.run tt KS dr Ao gm Tryz.f41 (((a0,a1,()),()),())=tI a0 a1:=by kernel_rfl
theorem AG:HcOk prog 41 (af gm qM):=by
 refine ao (n:=400) hm (cs:=zT) (.cons CI .nil) (lp:=Ao) (fn:=Tryz.f41) (by kernel_rfl) (by kernel_rfl) (by kernel_rfl) gm (.done (by kernel_rfl)) qM ?_
 rintro ⟨⟨⟨(z:Bool),(s:List Int),⟨⟩⟩,⟨⟩⟩,⟨⟩⟩ out hw ho
 cases ho
 refine (HO z s).trans ?_
 unfold tI
 show _=some (Out.ret ((rR (z,(s,())),()),()))
 unfold rR
 have h4:decide ((255:Int)<(s.length:Int))=decide (255<s.length):=by rw[Bool.eq_iff_iff];simp;omega
 rw[h4]
 cases z <;> by_cases h1:s=[] <;> cases h2:(cM s).2 <;> by_cases h3:255<s.length <;> simp[h1,h2,h3]
def C5 (m:iD.den):Bool:=((m.1.1 == false)&&(decide (m.1.2.1=[])&&true))&&((m.2.1 == 0)&&((m.2.2.1 == 0)&&((m.2.2.2.1.length:Int) == 0)))
def yN (m:bX.den):Bool:=(m.1 == 0)&&((m.2.1 == 0)&&((m.2.2.1 == 0)&&((m.2.2.2.1 == 0)&&((m.2.2.2.2.1 == 0)&&((m.2.2.2.2.2.1.length:Int) == 0)))))
def uN (m:cg.den):Bool:=(m.1 == 0)&&((m.2.1 == 0)&&((m.2.2.1.length:Int) == 0))
def lS (c:fb.den):Bool:=(C5 c.2.2.2.2.1 || (c.1 == 0))&&((yN c.2.2.2.2.2.1 || (c.1 == 1))&&(uN c.2.2.2.2.2.2.1 || (c.1 == 2)))
abbrev gX:Io:=⟨[.dat fb true false],[],[],[dB],none⟩
def vu (d:gX.In):Tr gX.Res:=.ret (.ret ((lS d.1.1,()),()))
abbrev zU:List (Nat×Hc):=[]
def KT:Hd:=bR zU
def Ap:Lp:=bJ []
def tJ (a0 a1 a2:Int)(a3:Bool)(a4:List Int)(a5:Bool)(a6:List Int)(a7 a8:Int)(a9:List aB.den)(a10 a11 a12 a13 a14:Int)(a15:List al.den)(a16 a17:Int)(a18:List aj.den):Option gX.Res:=some (Out.ret ((bif !(a5 == false&&(decide (a6=[])&&true)&&(a7 == 0&&(a8 == 0&&Decidable.rec (fun (h:¬(↑(List.length (((a0,a1,a2,(a3,a4,()),((a5,a6,()),a7,a8,a9,()),(a10,a11,a12,a13,a14,a15,()),(a16,a17,a18,()),()),()),()).1.1.2.2.2.2.1.2.2.2.1):Int)=0)=>false) (fun (h:(↑(List.length (((a0,a1,a2,(a3,a4,()),((a5,a6,()),a7,a8,a9,()),(a10,a11,a12,a13,a14,a15,()),(a16,a17,a18,()),()),()),()).1.1.2.2.2.2.1.2.2.2.1):Int)=0)=>true) ((↑(List.length (((a0,a1,a2,(a3,a4,()),((a5,a6,()),a7,a8,a9,()),(a10,a11,a12,a13,a14,a15,()),(a16,a17,a18,()),()),()),()).1.1.2.2.2.2.1.2.2.2.1):Int).instDecidableEq 0)))) then a0 == 0&&bif !(a10 == 0&&(a11 == 0&&(a12 == 0&&(a13 == 0&&(a14 == 0&&Decidable.rec (fun (h:¬(↑(List.length (((a0,a1,a2,(a3,a4,()),((a5,a6,()),a7,a8,a9,()),(a10,a11,a12,a13,a14,a15,()),(a16,a17,a18,()),()),()),()).1.1.2.2.2.2.2.1.2.2.2.2.2.1):Int)=0)=>false) (fun (h:(↑(List.length (((a0,a1,a2,(a3,a4,()),((a5,a6,()),a7,a8,a9,()),(a10,a11,a12,a13,a14,a15,()),(a16,a17,a18,()),()),()),()).1.1.2.2.2.2.2.1.2.2.2.2.2.1):Int)=0)=>true) ((↑(List.length (((a0,a1,a2,(a3,a4,()),((a5,a6,()),a7,a8,a9,()),(a10,a11,a12,a13,a14,a15,()),(a16,a17,a18,()),()),()),()).1.1.2.2.2.2.2.1.2.2.2.2.2.1):Int).instDecidableEq 0)))))) then a0 == 1&&bif !(a16 == 0&&(a17 == 0&&Decidable.rec (fun (h:¬(↑(List.length (((a0,a1,a2,(a3,a4,()),((a5,a6,()),a7,a8,a9,()),(a10,a11,a12,a13,a14,a15,()),(a16,a17,a18,()),()),()),()).1.1.2.2.2.2.2.2.1.2.2.1):Int)=0)=>false) (fun (h:(↑(List.length (((a0,a1,a2,(a3,a4,()),((a5,a6,()),a7,a8,a9,()),(a10,a11,a12,a13,a14,a15,()),(a16,a17,a18,()),()),()),()).1.1.2.2.2.2.2.2.1.2.2.1):Int)=0)=>true) ((↑(List.length (((a0,a1,a2,(a3,a4,()),((a5,a6,()),a7,a8,a9,()),(a10,a11,a12,a13,a14,a15,()),(a16,a17,a18,()),()),()),()).1.1.2.2.2.2.2.2.1.2.2.1):Int).instDecidableEq 0))) then Decidable.rec (fun (h:¬(((a0,a1,a2,(a3,a4,()),((a5,a6,()),a7,a8,a9,()),(a10,a11,a12,a13,a14,a15,()),(a16,a17,a18,()),()),()),()).1.1.1=2)=>false) (fun (h:(((a0,a1,a2,(a3,a4,()),((a5,a6,()),a7,a8,a9,()),(a10,a11,a12,a13,a14,a15,()),(a16,a17,a18,()),()),()),()).1.1.1=2)=>true) (Int.instDecidableEq (((a0,a1,a2,(a3,a4,()),((a5,a6,()),a7,a8,a9,()),(a10,a11,a12,a13,a14,a15,()),(a16,a17,a18,()),()),()),()).1.1.1 2) else true else bif !(a16 == 0&&(a17 == 0&&Decidable.rec (fun (h:¬(↑(List.length (((a0,a1,a2,(a3,a4,()),((a5,a6,()),a7,a8,a9,()),(a10,a11,a12,a13,a14,a15,()),(a16,a17,a18,()),()),()),()).1.1.2.2.2.2.2.2.1.2.2.1):Int)=0)=>false) (fun (h:(↑(List.length (((a0,a1,a2,(a3,a4,()),((a5,a6,()),a7,a8,a9,()),(a10,a11,a12,a13,a14,a15,()),(a16,a17,a18,()),()),()),()).1.1.2.2.2.2.2.2.1.2.2.1):Int)=0)=>true) ((↑(List.length (((a0,a1,a2,(a3,a4,()),((a5,a6,()),a7,a8,a9,()),(a10,a11,a12,a13,a14,a15,()),(a16,a17,a18,()),()),()),()).1.1.2.2.2.2.2.2.1.2.2.1):Int).instDecidableEq 0))) then Decidable.rec (fun (h:¬(((a0,a1,a2,(a3,a4,()),((a5,a6,()),a7,a8,a9,()),(a10,a11,a12,a13,a14,a15,()),(a16,a17,a18,()),()),()),()).1.1.1=2)=>false) (fun (h:(((a0,a1,a2,(a3,a4,()),((a5,a6,()),a7,a8,a9,()),(a10,a11,a12,a13,a14,a15,()),(a16,a17,a18,()),()),()),()).1.1.1=2)=>true) (Int.instDecidableEq (((a0,a1,a2,(a3,a4,()),((a5,a6,()),a7,a8,a9,()),(a10,a11,a12,a13,a14,a15,()),(a16,a17,a18,()),()),()),()).1.1.1 2) else true else bif !(a10 == 0&&(a11 == 0&&(a12 == 0&&(a13 == 0&&(a14 == 0&&Decidable.rec (fun (h:¬(↑(List.length (((a0,a1,a2,(a3,a4,()),((a5,a6,()),a7,a8,a9,()),(a10,a11,a12,a13,a14,a15,()),(a16,a17,a18,()),()),()),()).1.1.2.2.2.2.2.1.2.2.2.2.2.1):Int)=0)=>false) (fun (h:(↑(List.length (((a0,a1,a2,(a3,a4,()),((a5,a6,()),a7,a8,a9,()),(a10,a11,a12,a13,a14,a15,()),(a16,a17,a18,()),()),()),()).1.1.2.2.2.2.2.1.2.2.2.2.2.1):Int)=0)=>true) ((↑(List.length (((a0,a1,a2,(a3,a4,()),((a5,a6,()),a7,a8,a9,()),(a10,a11,a12,a13,a14,a15,()),(a16,a17,a18,()),()),()),()).1.1.2.2.2.2.2.1.2.2.2.2.2.1):Int).instDecidableEq 0)))))) then a0 == 1&&bif !(a16 == 0&&(a17 == 0&&Decidable.rec (fun (h:¬(↑(List.length (((a0,a1,a2,(a3,a4,()),((a5,a6,()),a7,a8,a9,()),(a10,a11,a12,a13,a14,a15,()),(a16,a17,a18,()),()),()),()).1.1.2.2.2.2.2.2.1.2.2.1):Int)=0)=>false) (fun (h:(↑(List.length (((a0,a1,a2,(a3,a4,()),((a5,a6,()),a7,a8,a9,()),(a10,a11,a12,a13,a14,a15,()),(a16,a17,a18,()),()),()),()).1.1.2.2.2.2.2.2.1.2.2.1):Int)=0)=>true) ((↑(List.length (((a0,a1,a2,(a3,a4,()),((a5,a6,()),a7,a8,a9,()),(a10,a11,a12,a13,a14,a15,()),(a16,a17,a18,()),()),()),()).1.1.2.2.2.2.2.2.1.2.2.1):Int).instDecidableEq 0))) then Decidable.rec (fun (h:¬(((a0,a1,a2,(a3,a4,()),((a5,a6,()),a7,a8,a9,()),(a10,a11,a12,a13,a14,a15,()),(a16,a17,a18,()),()),()),()).1.1.1=2)=>false) (fun (h:(((a0,a1,a2,(a3,a4,()),((a5,a6,()),a7,a8,a9,()),(a10,a11,a12,a13,a14,a15,()),(a16,a17,a18,()),()),()),()).1.1.1=2)=>true) (Int.instDecidableEq (((a0,a1,a2,(a3,a4,()),((a5,a6,()),a7,a8,a9,()),(a10,a11,a12,a13,a14,a15,()),(a16,a17,a18,()),()),()),()).1.1.1 2) else true else bif !(a16 == 0&&(a17 == 0&&Decidable.rec (fun (h:¬(↑(List.length (((a0,a1,a2,(a3,a4,()),((a5,a6,()),a7,a8,a9,()),(a10,a11,a12,a13,a14,a15,()),(a16,a17,a18,()),()),()),()).1.1.2.2.2.2.2.2.1.2.2.1):Int)=0)=>false) (fun (h:(↑(List.length (((a0,a1,a2,(a3,a4,()),((a5,a6,()),a7,a8,a9,()),(a10,a11,a12,a13,a14,a15,()),(a16,a17,a18,()),()),()),()).1.1.2.2.2.2.2.2.1.2.2.1):Int)=0)=>true) ((↑(List.length (((a0,a1,a2,(a3,a4,()),((a5,a6,()),a7,a8,a9,()),(a10,a11,a12,a13,a14,a15,()),(a16,a17,a18,()),()),()),()).1.1.2.2.2.2.2.2.1.2.2.1):Int).instDecidableEq 0))) then Decidable.rec (fun (h:¬(((a0,a1,a2,(a3,a4,()),((a5,a6,()),a7,a8,a9,()),(a10,a11,a12,a13,a14,a15,()),(a16,a17,a18,()),()),()),()).1.1.1=2)=>false) (fun (h:(((a0,a1,a2,(a3,a4,()),((a5,a6,()),a7,a8,a9,()),(a10,a11,a12,a13,a14,a15,()),(a16,a17,a18,()),()),()),()).1.1.1=2)=>true) (Int.instDecidableEq (((a0,a1,a2,(a3,a4,()),((a5,a6,()),a7,a8,a9,()),(a10,a11,a12,a13,a14,a15,()),(a16,a17,a18,()),()),()),()).1.1.1 2) else true,()),()))
theorem HP (a0 a1 a2:Int)(a3:Bool)(a4:List Int)(a5:Bool)(a6:List Int)(a7 a8:Int)(a9:List aB.den)(a10 a11 a12 a13 a14:Int)(a15:List al.den)(a16 a17:Int)(a18:List aj.den):Io.run tt KT XF Ap gX Tryz.f42 (((a0,a1,a2,(a3,a4,()),((a5,a6,()),a7,a8,a9,()),(a10,a11,a12,a13,a14,a15,()),(a16,a17,a18,()),()),()),())=tJ a0 a1 a2 a3 a4 a5 a6 a7 a8 a9 a10 a11 a12 a13 a14 a15 a16 a17 a18:=by kernel_rfl
theorem Ld:HcOk prog 42 (af gX vu):=by
 refine sF (n:=400) hm (cs:=zU) HcsOk.nil (lp:=Ap) (fn:=Tryz.f42) (by kernel_rfl) (by kernel_rfl) (by kernel_rfl) gX (.done (by kernel_rfl)) vu ?_
 rintro ⟨⟨⟨(k:Int),(v:Int),(co:Int),⟨(cz:Bool),(cs:List Int),⟨⟩⟩,⟨⟨(nz:Bool),(ns:List Int),⟨⟩⟩,(ak:Int),(wt:Int),(ts:List aB.den),⟨⟩⟩,⟨(fr:Int),(fw:Int),(fm:Int),(fx:Int),(fl:Int),(ft:List al.den),⟨⟩⟩,⟨(lr:Int),(ll:Int),(lt:List aj.den),⟨⟩⟩,⟨⟩⟩,⟨⟩⟩,⟨⟩⟩ out hw ho
 cases ho
 refine (HP k v co cz cs nz ns ak wt ts fr fw fm fx fl ft lr ll lt).trans ?_
 have e:tJ k v co cz cs nz ns ak wt ts fr fw fm fx fl ft lr ll lt=some (Out.ret ((bif !(C5 ((nz,(ns,())),(ak,(wt,(ts,()))))) then ((k == 0)&&(bif !(yN (fr,(fw,(fm,(fx,(fl,(ft,()))))))) then ((k == 1)&&(bif !(uN (lr,(ll,(lt,())))) then (k == 2) else true)) else (bif !(uN (lr,(ll,(lt,())))) then (k == 2) else true)))
   else (bif !(yN (fr,(fw,(fm,(fx,(fl,(ft,()))))))) then ((k == 1)&&(bif !(uN (lr,(ll,(lt,())))) then (k == 2) else true)) else (bif !(uN (lr,(ll,(lt,())))) then (k == 2) else true)),()),())):=by kernel_rfl
 rw[e]
 show _=some (Out.ret ((lS (k,(v,(co,((cz,(cs,())),(((nz,(ns,())),(ak,(wt,(ts,())))),((fr,(fw,(fm,(fx,(fl,(ft,())))))),((lr,(ll,(lt,()))),()))))))),()),()))
 unfold lS
 show _=some (Out.ret (((C5 ((nz,(ns,())),(ak,(wt,(ts,())))) || (k == 0))&&((yN (fr,(fw,(fm,(fx,(fl,(ft,())))))) || (k == 1))&&(uN (lr,(ll,(lt,()))) || (k == 2))),()),()))
 cases C5 ((nz,(ns,())),(ak,(wt,(ts,())))) <;> cases yN (fr,(fw,(fm,(fx,(fl,(ft,())))))) <;> cases uN (lr,(ll,(lt,()))) <;> simp
def Tt (c:fb.den):fJ.den:=(c.1,(c.2.1,(c.2.2.1,((([]:List aW.den),(0,())),((0,(([]:List ax.den),())),((0,(([]:List au.den),())),()))))))
abbrev iU:Io:=⟨[.dat fb true false],[],[],[.dat fJ true false],none⟩
def uR (d:iU.In):Tr iU.Res:=.ret (.ret ((Tt d.1.1,()),()))
abbrev D9:List (Nat×Hc):=[]
def Oi:Hd:=bR D9
def E0:Lp:=bJ []
def GU (a0 a1 a2:Int)(a3:Bool)(a4:List Int)(a5:Bool)(a6:List Int)(a7 a8:Int)(a9:List aB.den)(a10 a11 a12 a13 a14:Int)(a15:List al.den)(a16 a17:Int)(a18:List aj.den):Option iU.Res:=some (Out.ret (((a0,a1,a2,([],0,()),(0,[],()),(0,[],()),()),()),()))
theorem LF (a0 a1 a2:Int)(a3:Bool)(a4:List Int)(a5:Bool)(a6:List Int)(a7 a8:Int)(a9:List aB.den)(a10 a11 a12 a13 a14:Int)(a15:List al.den)(a16 a17:Int)(a18:List aj.den):Io.run tt Oi dr E0 iU Tryz.f13 (((a0,a1,a2,(a3,a4,()),((a5,a6,()),a7,a8,a9,()),(a10,a11,a12,a13,a14,a15,()),(a16,a17,a18,()),()),()),())=GU a0 a1 a2 a3 a4 a5 a6 a7 a8 a9 a10 a11 a12 a13 a14 a15 a16 a17 a18:=by kernel_rfl
theorem Fu:HcOk prog 13 (af iU uR):=by
 refine ao (n:=400) hm (cs:=D9) HcsOk.nil (lp:=E0) (fn:=Tryz.f13) (by kernel_rfl) (by kernel_rfl) (by kernel_rfl) iU (.done (by kernel_rfl)) uR ?_
 rintro ⟨⟨⟨(k:Int),(v:Int),(co:Int),⟨(cz:Bool),(cs:List Int),⟨⟩⟩,⟨⟨(nz:Bool),(ns:List Int),⟨⟩⟩,(ak:Int),(wt:Int),(ts:List aB.den),⟨⟩⟩,⟨(fr:Int),(fw:Int),(fm:Int),(fx:Int),(fl:Int),(ft:List al.den),⟨⟩⟩,⟨(lr:Int),(ll:Int),(lt:List aj.den),⟨⟩⟩,⟨⟩⟩,⟨⟩⟩,⟨⟩⟩ out hw ho
 cases ho
 exact LF k v co cz cs nz ns ak wt ts fr fw fm fx fl ft lr ll lt
theorem pw {b:List Int}{v:Int}{n:Nat}(h:b.length+n≤131072):ay b 131072 v n=(0,b++aE v n):=by unfold ay;rw[if_neg (by omega)]
theorem rW {b y:List Int}(h:b.length+y.length≤131072):bb b 131072 [y]=(0,b++y):=by
 unfold bb
 rw[if_neg (by simp only[aN];omega)]
 simp[kq]
theorem i4 {b:List Int}(h:b.length≤131072):bc b 131072=true:=by
 unfold bc
 simp;omega
def rT (n:cW.den):List Int:=if n.1=true then aE (-1) 2 else aE n.2.1.length 2++n.2.1
def F2 (k v co:Int)(n:cW.den):List Int:=aE k 2++(aE v 2++(aE co 4++rT n))
theorem GY (k v co:Int)(z:Bool)(cs y:List Int)(hy:y.length≤130048)(hc:cs.length≤255):
  (bif bc (ay [] (ai (ah 131072 0) 1048576) k 2).2 (ai (ah 131072 0) 1048576) then (bif bc (ay (ay [] (ai (ah 131072 0) 1048576) k 2).2 (ai (ah 131072 0) 1048576) v 2).2 (ai (ah 131072 0) 1048576) then (bif z then (bif bc (ay (ay (ay [] (ai (ah 131072 0) 1048576) k 2).2 (ai (ah 131072 0) 1048576) v 2).2 (ai (ah 131072 0) 1048576) co 4).2 (ai (ah 131072 0) 1048576) then (bif bc (ay (ay (ay (ay [] (ai (ah 131072 0) 1048576) k 2).2 (ai (ah 131072 0) 1048576) v 2).2 (ai (ah 131072 0) 1048576) co 4).2 (ai (ah 131072 0) 1048576) (-1) 2).2 (ai (ah 131072 0) 1048576)&&decide (aN [y]≤4294960000) then (bif decide ((bb (ay (ay (ay (ay [] (ai (ah 131072 0) 1048576) k 2).2 (ai (ah 131072 0) 1048576) v 2).2 (ai (ah 131072 0) 1048576) co 4).2 (ai (ah 131072 0) 1048576) (-1) 2).2 (ai (ah 131072 0) 1048576) [y]).2.length≤4294967296) then some (Out.ret (((bb (ay (ay (ay (ay [] (ai (ah 131072 0) 1048576) k 2).2 (ai (ah 131072 0) 1048576) v 2).2 (ai (ah 131072 0) 1048576) co 4).2 (ai (ah 131072 0) 1048576) (-1) 2).2 (ai (ah 131072 0) 1048576) [y]).2,(0,())),())) else none) else none) else none) else (bif bc (ay (ay (ay [] (ai (ah 131072 0) 1048576) k 2).2 (ai (ah 131072 0) 1048576) v 2).2 (ai (ah 131072 0) 1048576) co 4).2 (ai (ah 131072 0) 1048576) then (bif bc (ay (ay (ay (ay [] (ai (ah 131072 0) 1048576) k 2).2 (ai (ah 131072 0) 1048576) v 2).2 (ai (ah 131072 0) 1048576) co 4).2 (ai (ah 131072 0) 1048576) (IntKind.i16.wrap (cs.length:Int)) 2).2 (ai (ah 131072 0) 1048576)&&decide (aN [cs]≤4294960000) then (bif bc (bb (ay (ay (ay (ay [] (ai (ah 131072 0) 1048576) k 2).2 (ai (ah 131072 0) 1048576) v 2).2 (ai (ah 131072 0) 1048576) co 4).2 (ai (ah 131072 0) 1048576) (IntKind.i16.wrap (cs.length:Int)) 2).2 (ai (ah 131072 0) 1048576) [cs]).2 (ai (ah 131072 0) 1048576)&&decide (aN [y]≤4294960000) then (bif decide ((bb (bb (ay (ay (ay (ay [] (ai (ah 131072 0) 1048576) k 2).2 (ai (ah 131072 0) 1048576) v 2).2 (ai (ah 131072 0) 1048576) co 4).2 (ai (ah 131072 0) 1048576) (IntKind.i16.wrap (cs.length:Int)) 2).2 (ai (ah 131072 0) 1048576) [cs]).2 (ai (ah 131072 0) 1048576) [y]).2.length≤4294967296) then some (Out.ret (((bb (bb (ay (ay (ay (ay [] (ai (ah 131072 0) 1048576) k 2).2 (ai (ah 131072 0) 1048576) v 2).2 (ai (ah 131072 0) 1048576) co 4).2 (ai (ah 131072 0) 1048576) (IntKind.i16.wrap (cs.length:Int)) 2).2 (ai (ah 131072 0) 1048576) [cs]).2 (ai (ah 131072 0) 1048576) [y]).2,(0,())),())) else none) else none) else none) else none)) else none) else none:Option (Out ((List Int×(Int×Unit))×Unit) Empty))=some (Out.ret ((F2 k v co (z,(cs,()))++y,(0,())),())):=by
 have hM:ai (ah 131072 0) 1048576=131072:=by decide
 rw[hM]
 have e1:=pw (b:=[]) (v:=k) (n:=2) (by simp)
 have l1:(([]:List Int)++aE k 2).length=2:=by simp[di]
 have e2:=pw (b:=[]++aE k 2) (v:=v) (n:=2) (by omega)
 have l2:(([]++aE k 2)++aE v 2).length=4:=by rw[List.length_append,l1,di]
 have e3:=pw (b:=([]++aE k 2)++aE v 2) (v:=co) (n:=4) (by omega)
 have l3:((([]++aE k 2)++aE v 2)++aE co 4).length=8:=by rw[List.length_append,l2,di]
 simp only[e1,e2,e3]
 rw[aa (i4 (by omega)),aa (i4 (by omega))]
 unfold F2 rT
 cases z with
 |true=>
  have e4:=pw (b:=(([]++aE k 2)++aE v 2)++aE co 4) (v:=-1) (n:=2) (by omega)
  have l4:(((([]++aE k 2)++aE v 2)++aE co 4)++aE (-1) 2).length=10:=by rw[List.length_append,l3,di]
  have e5:=rW (b:=((([]++aE k 2)++aE v 2)++aE co 4)++aE (-1) 2) (y:=y) (by omega)
  simp only[e4,e5,cond_true]
  refine (aa (i4 (by omega)) _ _).trans ?_
  refine (aa (Bool.and_eq_true_iff.2 ⟨i4 (by omega),decide_eq_true (show y.length+0≤4294960000 by omega)⟩) _ _).trans ?_
  refine (aa (decide_eq_true (by rw[List.length_append,l4];omega)) _ _).trans ?_
  simp
 |false=>
  have hw:IntKind.i16.wrap (cs.length:Int)=cs.length:=dP (by simp[cT,IntKind.min,IntKind.max,IntKind.signed,IntKind.bits];omega)
  rw[hw]
  have e4:=pw (b:=(([]++aE k 2)++aE v 2)++aE co 4) (v:=cs.length) (n:=2) (by omega)
  have l4:(((([]++aE k 2)++aE v 2)++aE co 4)++aE cs.length 2).length=10:=by rw[List.length_append,l3,di]
  have e5:=rW (b:=((([]++aE k 2)++aE v 2)++aE co 4)++aE cs.length 2) (y:=cs) (by omega)
  have l5:((((([]++aE k 2)++aE v 2)++aE co 4)++aE cs.length 2)++cs).length=10+cs.length:=by rw[List.length_append,l4]
  have e6:=rW (b:=(((([]++aE k 2)++aE v 2)++aE co 4)++aE cs.length 2)++cs) (y:=y) (by omega)
  simp only[e4,e5,e6,cond_false]
  refine (aa (i4 (by omega)) _ _).trans ?_
  refine (aa (Bool.and_eq_true_iff.2 ⟨i4 (by omega),decide_eq_true (show cs.length+0≤4294960000 by omega)⟩) _ _).trans ?_
  refine (aa (Bool.and_eq_true_iff.2 ⟨i4 (by omega),decide_eq_true (show y.length+0≤4294960000 by omega)⟩) _ _).trans ?_
  refine (aa (decide_eq_true (by rw[List.length_append,l5];omega)) _ _).trans ?_
  simp
def kT (c:fb.den):List Int×Int:=if c.1=0 then dT c.2.1 c.2.2.2.2.1 else if c.1=1 then fQ c.2.1 c.2.2.2.2.2.1 else fI c.2.1 c.2.2.2.2.2.2.1
def gd (c:fb.den):List Int×Int:=if ez c.1 c.2.1≠0 then ([],ez c.1 c.2.1) else if rR c.2.2.2.1≠0 then ([],rR c.2.2.2.1) else if lS c=false then ([],7) else
 if (kT c).2≠0 then ([],(kT c).2) else (F2 c.1 c.2.1 c.2.2.1 c.2.2.2.1++(kT c).1,0)
abbrev nV:Io:=⟨[.dat fb true false],[],[],[dO,dI],none⟩
def IH (d:nV.In):Tr nV.Res:=.ite (ci d.1.1.2.2.2.2.1.2.2.2.1) (.ret (.ret (((gd d.1.1).1,((gd d.1.1).2,())),()))) .no
abbrev Nt:List (Nat×Hc):=[(40,af fV p4),(41,af gm qM),(42,af gX vu),(43,af vd MZ),(44,af rm IJ),(45,af rp IL),(46,af ld zd),(47,af nY IR),(48,af lc zc),(49,af kg vR),(50,af fP oM)]
def U2:Hd:=bR Nt
def OT:Lp:=bJ []
def DF (a0 a1 a2:Int)(a3:Bool)(a4:List Int)(a5:Bool)(a6:List Int)(a7 a8:Int)(a9:List aB.den)(a10 a11 a12 a13 a14:Int)(a15:List al.den)(a16 a17:Int)(a18:List aj.den):Option nV.Res:=bif ez a0 a1 != 0 then some (Out.ret (([],ez a0 a1,()),())) else bif rR (a3,a4,()) != 0 then some (Out.ret (([],rR (a3,a4,()),()),())) else bif !lS (a0,a1,a2,(a3,a4,()),((a5,a6,()),a7,a8,a9,()),(a10,a11,a12,a13,a14,a15,()),(a16,a17,a18,()),()) then some (Out.ret (([],7,()),())) else bif a0 == 0 then bif ci a9 then bif (dT (IntKind.i64.wrap a1) ((a5,a6,()),a7,a8,a9,())).2 != 0 then some (Out.ret (([],(dT (IntKind.i64.wrap a1) ((a5,a6,()),a7,a8,a9,())).2,()),())) else bif bc (ay [] (ai (ah 131072 0) 1048576) a0 2).2 (ai (ah 131072 0) 1048576) then bif bc (ay (ay [] (ai (ah 131072 0) 1048576) a0 2).2 (ai (ah 131072 0) 1048576) a1 2).2 (ai (ah 131072 0) 1048576) then bif a3 then bif bc (ay (ay (ay [] (ai (ah 131072 0) 1048576) a0 2).2 (ai (ah 131072 0) 1048576) a1 2).2 (ai (ah 131072 0) 1048576) a2 4).2 (ai (ah 131072 0) 1048576) then bif bc (ay (ay (ay (ay [] (ai (ah 131072 0) 1048576) a0 2).2 (ai (ah 131072 0) 1048576) a1 2).2 (ai (ah 131072 0) 1048576) a2 4).2 (ai (ah 131072 0) 1048576) (-1) 2).2 (ai (ah 131072 0) 1048576)&&decide (aN [(dT (IntKind.i64.wrap a1) ((a5,a6,()),a7,a8,a9,())).1]≤4294960000) then bif decide ((bb (ay (ay (ay (ay [] (ai (ah 131072 0) 1048576) a0 2).2 (ai (ah 131072 0) 1048576) a1 2).2 (ai (ah 131072 0) 1048576) a2 4).2 (ai (ah 131072 0) 1048576) (-1) 2).2 (ai (ah 131072 0) 1048576) [(dT (IntKind.i64.wrap a1) ((a5,a6,()),a7,a8,a9,())).1]).2.length≤4294967296) then some (Out.ret (((bb (ay (ay (ay (ay [] (ai (ah 131072 0) 1048576) a0 2).2 (ai (ah 131072 0) 1048576) a1 2).2 (ai (ah 131072 0) 1048576) a2 4).2 (ai (ah 131072 0) 1048576) (-1) 2).2 (ai (ah 131072 0) 1048576) [(dT (IntKind.i64.wrap a1) ((a5,a6,()),a7,a8,a9,())).1]).2,0,()),())) else none else none else none else bif bc (ay (ay (ay [] (ai (ah 131072 0) 1048576) a0 2).2 (ai (ah 131072 0) 1048576) a1 2).2 (ai (ah 131072 0) 1048576) a2 4).2 (ai (ah 131072 0) 1048576) then bif bc (ay (ay (ay (ay [] (ai (ah 131072 0) 1048576) a0 2).2 (ai (ah 131072 0) 1048576) a1 2).2 (ai (ah 131072 0) 1048576) a2 4).2 (ai (ah 131072 0) 1048576) (IntKind.i16.wrap (↑a4.length:Int)) 2).2 (ai (ah 131072 0) 1048576)&&decide (aN [a4]≤4294960000) then bif bc (bb (ay (ay (ay (ay [] (ai (ah 131072 0) 1048576) a0 2).2 (ai (ah 131072 0) 1048576) a1 2).2 (ai (ah 131072 0) 1048576) a2 4).2 (ai (ah 131072 0) 1048576) (IntKind.i16.wrap (↑a4.length:Int)) 2).2 (ai (ah 131072 0) 1048576) [a4]).2 (ai (ah 131072 0) 1048576)&&decide (aN [(dT (IntKind.i64.wrap a1) ((a5,a6,()),a7,a8,a9,())).1]≤4294960000) then bif decide ((bb (bb (ay (ay (ay (ay [] (ai (ah 131072 0) 1048576) a0 2).2 (ai (ah 131072 0) 1048576) a1 2).2 (ai (ah 131072 0) 1048576) a2 4).2 (ai (ah 131072 0) 1048576) (IntKind.i16.wrap (↑a4.length:Int)) 2).2 (ai (ah 131072 0) 1048576) [a4]).2 (ai (ah 131072 0) 1048576) [(dT (IntKind.i64.wrap a1) ((a5,a6,()),a7,a8,a9,())).1]).2.length≤4294967296) then some (Out.ret (((bb (bb (ay (ay (ay (ay [] (ai (ah 131072 0) 1048576) a0 2).2 (ai (ah 131072 0) 1048576) a1 2).2 (ai (ah 131072 0) 1048576) a2 4).2 (ai (ah 131072 0) 1048576) (IntKind.i16.wrap (↑a4.length:Int)) 2).2 (ai (ah 131072 0) 1048576) [a4]).2 (ai (ah 131072 0) 1048576) [(dT (IntKind.i64.wrap a1) ((a5,a6,()),a7,a8,a9,())).1]).2,0,()),())) else none else none else none else none else none else none else none else bif a0 == 1 then bif (fQ (IntKind.i64.wrap a1) (a10,a11,a12,a13,a14,a15,())).2 != 0 then some (Out.ret (([],(fQ (IntKind.i64.wrap a1) (a10,a11,a12,a13,a14,a15,())).2,()),())) else bif bc (ay [] (ai (ah 131072 0) 1048576) a0 2).2 (ai (ah 131072 0) 1048576) then bif bc (ay (ay [] (ai (ah 131072 0) 1048576) a0 2).2 (ai (ah 131072 0) 1048576) a1 2).2 (ai (ah 131072 0) 1048576) then bif a3 then bif bc (ay (ay (ay [] (ai (ah 131072 0) 1048576) a0 2).2 (ai (ah 131072 0) 1048576) a1 2).2 (ai (ah 131072 0) 1048576) a2 4).2 (ai (ah 131072 0) 1048576) then bif bc (ay (ay (ay (ay [] (ai (ah 131072 0) 1048576) a0 2).2 (ai (ah 131072 0) 1048576) a1 2).2 (ai (ah 131072 0) 1048576) a2 4).2 (ai (ah 131072 0) 1048576) (-1) 2).2 (ai (ah 131072 0) 1048576)&&decide (aN [(fQ (IntKind.i64.wrap a1) (a10,a11,a12,a13,a14,a15,())).1]≤4294960000) then bif decide ((bb (ay (ay (ay (ay [] (ai (ah 131072 0) 1048576) a0 2).2 (ai (ah 131072 0) 1048576) a1 2).2 (ai (ah 131072 0) 1048576) a2 4).2 (ai (ah 131072 0) 1048576) (-1) 2).2 (ai (ah 131072 0) 1048576) [(fQ (IntKind.i64.wrap a1) (a10,a11,a12,a13,a14,a15,())).1]).2.length≤4294967296) then some (Out.ret (((bb (ay (ay (ay (ay [] (ai (ah 131072 0) 1048576) a0 2).2 (ai (ah 131072 0) 1048576) a1 2).2 (ai (ah 131072 0) 1048576) a2 4).2 (ai (ah 131072 0) 1048576) (-1) 2).2 (ai (ah 131072 0) 1048576) [(fQ (IntKind.i64.wrap a1) (a10,a11,a12,a13,a14,a15,())).1]).2,0,()),())) else none else none else none else bif bc (ay (ay (ay [] (ai (ah 131072 0) 1048576) a0 2).2 (ai (ah 131072 0) 1048576) a1 2).2 (ai (ah 131072 0) 1048576) a2 4).2 (ai (ah 131072 0) 1048576) then bif bc (ay (ay (ay (ay [] (ai (ah 131072 0) 1048576) a0 2).2 (ai (ah 131072 0) 1048576) a1 2).2 (ai (ah 131072 0) 1048576) a2 4).2 (ai (ah 131072 0) 1048576) (IntKind.i16.wrap (↑a4.length:Int)) 2).2 (ai (ah 131072 0) 1048576)&&decide (aN [a4]≤4294960000) then bif bc (bb (ay (ay (ay (ay [] (ai (ah 131072 0) 1048576) a0 2).2 (ai (ah 131072 0) 1048576) a1 2).2 (ai (ah 131072 0) 1048576) a2 4).2 (ai (ah 131072 0) 1048576) (IntKind.i16.wrap (↑a4.length:Int)) 2).2 (ai (ah 131072 0) 1048576) [a4]).2 (ai (ah 131072 0) 1048576)&&decide (aN [(fQ (IntKind.i64.wrap a1) (a10,a11,a12,a13,a14,a15,())).1]≤4294960000) then bif decide ((bb (bb (ay (ay (ay (ay [] (ai (ah 131072 0) 1048576) a0 2).2 (ai (ah 131072 0) 1048576) a1 2).2 (ai (ah 131072 0) 1048576) a2 4).2 (ai (ah 131072 0) 1048576) (IntKind.i16.wrap (↑a4.length:Int)) 2).2 (ai (ah 131072 0) 1048576) [a4]).2 (ai (ah 131072 0) 1048576) [(fQ (IntKind.i64.wrap a1) (a10,a11,a12,a13,a14,a15,())).1]).2.length≤4294967296) then some (Out.ret (((bb (bb (ay (ay (ay (ay [] (ai (ah 131072 0) 1048576) a0 2).2 (ai (ah 131072 0) 1048576) a1 2).2 (ai (ah 131072 0) 1048576) a2 4).2 (ai (ah 131072 0) 1048576) (IntKind.i16.wrap (↑a4.length:Int)) 2).2 (ai (ah 131072 0) 1048576) [a4]).2 (ai (ah 131072 0) 1048576) [(fQ (IntKind.i64.wrap a1) (a10,a11,a12,a13,a14,a15,())).1]).2,0,()),())) else none else none else none else none else none else none else bif a0 == 2 then bif (fI (IntKind.i64.wrap a1) (a16,a17,a18,())).2 != 0 then some (Out.ret (([],(fI (IntKind.i64.wrap a1) (a16,a17,a18,())).2,()),())) else bif bc (ay [] (ai (ah 131072 0) 1048576) a0 2).2 (ai (ah 131072 0) 1048576) then bif bc (ay (ay [] (ai (ah 131072 0) 1048576) a0 2).2 (ai (ah 131072 0) 1048576) a1 2).2 (ai (ah 131072 0) 1048576) then bif a3 then bif bc (ay (ay (ay [] (ai (ah 131072 0) 1048576) a0 2).2 (ai (ah 131072 0) 1048576) a1 2).2 (ai (ah 131072 0) 1048576) a2 4).2 (ai (ah 131072 0) 1048576) then bif bc (ay (ay (ay (ay [] (ai (ah 131072 0) 1048576) a0 2).2 (ai (ah 131072 0) 1048576) a1 2).2 (ai (ah 131072 0) 1048576) a2 4).2 (ai (ah 131072 0) 1048576) (-1) 2).2 (ai (ah 131072 0) 1048576)&&decide (aN [(fI (IntKind.i64.wrap a1) (a16,a17,a18,())).1]≤4294960000) then bif decide ((bb (ay (ay (ay (ay [] (ai (ah 131072 0) 1048576) a0 2).2 (ai (ah 131072 0) 1048576) a1 2).2 (ai (ah 131072 0) 1048576) a2 4).2 (ai (ah 131072 0) 1048576) (-1) 2).2 (ai (ah 131072 0) 1048576) [(fI (IntKind.i64.wrap a1) (a16,a17,a18,())).1]).2.length≤4294967296) then some (Out.ret (((bb (ay (ay (ay (ay [] (ai (ah 131072 0) 1048576) a0 2).2 (ai (ah 131072 0) 1048576) a1 2).2 (ai (ah 131072 0) 1048576) a2 4).2 (ai (ah 131072 0) 1048576) (-1) 2).2 (ai (ah 131072 0) 1048576) [(fI (IntKind.i64.wrap a1) (a16,a17,a18,())).1]).2,0,()),())) else none else none else none else bif bc (ay (ay (ay [] (ai (ah 131072 0) 1048576) a0 2).2 (ai (ah 131072 0) 1048576) a1 2).2 (ai (ah 131072 0) 1048576) a2 4).2 (ai (ah 131072 0) 1048576) then bif bc (ay (ay (ay (ay [] (ai (ah 131072 0) 1048576) a0 2).2 (ai (ah 131072 0) 1048576) a1 2).2 (ai (ah 131072 0) 1048576) a2 4).2 (ai (ah 131072 0) 1048576) (IntKind.i16.wrap (↑a4.length:Int)) 2).2 (ai (ah 131072 0) 1048576)&&decide (aN [a4]≤4294960000) then bif bc (bb (ay (ay (ay (ay [] (ai (ah 131072 0) 1048576) a0 2).2 (ai (ah 131072 0) 1048576) a1 2).2 (ai (ah 131072 0) 1048576) a2 4).2 (ai (ah 131072 0) 1048576) (IntKind.i16.wrap (↑a4.length:Int)) 2).2 (ai (ah 131072 0) 1048576) [a4]).2 (ai (ah 131072 0) 1048576)&&decide (aN [(fI (IntKind.i64.wrap a1) (a16,a17,a18,())).1]≤4294960000) then bif decide ((bb (bb (ay (ay (ay (ay [] (ai (ah 131072 0) 1048576) a0 2).2 (ai (ah 131072 0) 1048576) a1 2).2 (ai (ah 131072 0) 1048576) a2 4).2 (ai (ah 131072 0) 1048576) (IntKind.i16.wrap (↑a4.length:Int)) 2).2 (ai (ah 131072 0) 1048576) [a4]).2 (ai (ah 131072 0) 1048576) [(fI (IntKind.i64.wrap a1) (a16,a17,a18,())).1]).2.length≤4294967296) then some (Out.ret (((bb (bb (ay (ay (ay (ay [] (ai (ah 131072 0) 1048576) a0 2).2 (ai (ah 131072 0) 1048576) a1 2).2 (ai (ah 131072 0) 1048576) a2 4).2 (ai (ah 131072 0) 1048576) (IntKind.i16.wrap (↑a4.length:Int)) 2).2 (ai (ah 131072 0) 1048576) [a4]).2 (ai (ah 131072 0) 1048576) [(fI (IntKind.i64.wrap a1) (a16,a17,a18,())).1]).2,0,()),())) else none else none else none else none else none else none else bif bc (ay [] (ai (ah 131072 0) 1048576) a0 2).2 (ai (ah 131072 0) 1048576) then bif bc (ay (ay [] (ai (ah 131072 0) 1048576) a0 2).2 (ai (ah 131072 0) 1048576) a1 2).2 (ai (ah 131072 0) 1048576) then bif a3 then bif bc (ay (ay (ay [] (ai (ah 131072 0) 1048576) a0 2).2 (ai (ah 131072 0) 1048576) a1 2).2 (ai (ah 131072 0) 1048576) a2 4).2 (ai (ah 131072 0) 1048576) then bif bc (ay (ay (ay (ay [] (ai (ah 131072 0) 1048576) a0 2).2 (ai (ah 131072 0) 1048576) a1 2).2 (ai (ah 131072 0) 1048576) a2 4).2 (ai (ah 131072 0) 1048576) (-1) 2).2 (ai (ah 131072 0) 1048576)&&decide (aN [[]]≤4294960000) then bif decide ((bb (ay (ay (ay (ay [] (ai (ah 131072 0) 1048576) a0 2).2 (ai (ah 131072 0) 1048576) a1 2).2 (ai (ah 131072 0) 1048576) a2 4).2 (ai (ah 131072 0) 1048576) (-1) 2).2 (ai (ah 131072 0) 1048576) [[]]).2.length≤4294967296) then some (Out.ret (((bb (ay (ay (ay (ay [] (ai (ah 131072 0) 1048576) a0 2).2 (ai (ah 131072 0) 1048576) a1 2).2 (ai (ah 131072 0) 1048576) a2 4).2 (ai (ah 131072 0) 1048576) (-1) 2).2 (ai (ah 131072 0) 1048576) [[]]).2,0,()),())) else none else none else none else bif bc (ay (ay (ay [] (ai (ah 131072 0) 1048576) a0 2).2 (ai (ah 131072 0) 1048576) a1 2).2 (ai (ah 131072 0) 1048576) a2 4).2 (ai (ah 131072 0) 1048576) then bif bc (ay (ay (ay (ay [] (ai (ah 131072 0) 1048576) a0 2).2 (ai (ah 131072 0) 1048576) a1 2).2 (ai (ah 131072 0) 1048576) a2 4).2 (ai (ah 131072 0) 1048576) (IntKind.i16.wrap (↑a4.length:Int)) 2).2 (ai (ah 131072 0) 1048576)&&decide (aN [a4]≤4294960000) then bif bc (bb (ay (ay (ay (ay [] (ai (ah 131072 0) 1048576) a0 2).2 (ai (ah 131072 0) 1048576) a1 2).2 (ai (ah 131072 0) 1048576) a2 4).2 (ai (ah 131072 0) 1048576) (IntKind.i16.wrap (↑a4.length:Int)) 2).2 (ai (ah 131072 0) 1048576) [a4]).2 (ai (ah 131072 0) 1048576)&&decide (aN [[]]≤4294960000) then bif decide ((bb (bb (ay (ay (ay (ay [] (ai (ah 131072 0) 1048576) a0 2).2 (ai (ah 131072 0) 1048576) a1 2).2 (ai (ah 131072 0) 1048576) a2 4).2 (ai (ah 131072 0) 1048576) (IntKind.i16.wrap (↑a4.length:Int)) 2).2 (ai (ah 131072 0) 1048576) [a4]).2 (ai (ah 131072 0) 1048576) [[]]).2.length≤4294967296) then some (Out.ret (((bb (bb (ay (ay (ay (ay [] (ai (ah 131072 0) 1048576) a0 2).2 (ai (ah 131072 0) 1048576) a1 2).2 (ai (ah 131072 0) 1048576) a2 4).2 (ai (ah 131072 0) 1048576) (IntKind.i16.wrap (↑a4.length:Int)) 2).2 (ai (ah 131072 0) 1048576) [a4]).2 (ai (ah 131072 0) 1048576) [[]]).2,0,()),())) else none else none else none else none else none else none
theorem SR (a0 a1 a2:Int)(a3:Bool)(a4:List Int)(a5:Bool)(a6:List Int)(a7 a8:Int)(a9:List aB.den)(a10 a11 a12 a13 a14:Int)(a15:List al.den)(a16 a17:Int)(a18:List aj.den):Io.run tt U2 dr OT nV Tryz.f11 (((a0,a1,a2,(a3,a4,()),((a5,a6,()),a7,a8,a9,()),(a10,a11,a12,a13,a14,a15,()),(a16,a17,a18,()),()),()),())=DF a0 a1 a2 a3 a4 a5 a6 a7 a8 a9 a10 a11 a12 a13 a14 a15 a16 a17 a18:=by kernel_rfl
theorem Ps:HcOk prog 11 (af nV IH):=by
 refine ao (n:=400) hm (cs:=Nt) (.cons rK (.cons AG (.cons Ld (.cons SE (.cons Py (.cons PA (.cons CM (.cons PM (.cons CL (.cons xr (.cons rM .nil))))))))))) (lp:=OT) (fn:=Tryz.f11) (by kernel_rfl) (by kernel_rfl) (by kernel_rfl) nV (.done (by kernel_rfl)) IH ?_
 rintro ⟨⟨⟨(k:Int),(v:Int),(co:Int),⟨(cz:Bool),(cs:List Int),⟨⟩⟩,⟨⟨(nz:Bool),(ns:List Int),⟨⟩⟩,(ak:Int),(wt:Int),(ts:List aB.den),⟨⟩⟩,⟨(fr:Int),(fw:Int),(fm:Int),(fx:Int),(fl:Int),(ft:List al.den),⟨⟩⟩,⟨(lr:Int),(ll:Int),(lt:List aj.den),⟨⟩⟩,⟨⟩⟩,⟨⟩⟩,⟨⟩⟩ out hw ho
 obtain ⟨hg,ho⟩:=Tr.guard ho
 have hg:ci ts=true:=hg
 cases ho
 refine (SR k v co cz cs nz ns ak wt ts fr fw fm fx fl ft lr ll lt).trans ?_
 unfold DF
 have hv:IntKind.i64.wrap v=v:=jq hw.1.1.2.1
 rw[hv]
 show _=some (Out.ret (((gd (k,(v,(co,((cz,(cs,())),(((nz,(ns,())),(ak,(wt,(ts,())))),((fr,(fw,(fm,(fx,(fl,(ft,())))))),((lr,(ll,(lt,()))),())))))))).1,((gd (k,(v,(co,((cz,(cs,())),(((nz,(ns,())),(ak,(wt,(ts,())))),((fr,(fw,(fm,(fx,(fl,(ft,())))))),((lr,(ll,(lt,()))),())))))))).2,())),()))
 unfold gd kT
 dsimp only
 generalize lS (k,(v,(co,((cz,(cs,())),(((nz,(ns,())),(ak,(wt,(ts,())))),((fr,(fw,(fm,(fx,(fl,(ft,())))))),((lr,(ll,(lt,()))),())))))))=ot
 by_cases h1:ez k v=0
 ·rw[ae (by simpa using h1),if_neg (not_not_intro h1)]
  by_cases h2:rR (cz,(cs,()))=0
  ·rw[ae (by simpa using h2),if_neg (not_not_intro h2)]
   cases ot with
   |false=>rw[Bool.not_false,cond_true,if_pos rfl]
   |true=>
    rw[Bool.not_true,cond_false,if_neg (by decide)]
    have hcs:cs.length≤255:=by
     unfold rR at h2
     split at h2
     ·cases h2
     ·split at h2
      ·cases h2
      ·split at h2
       ·cases h2
       ·rename_i h;exact Nat.le_of_not_lt h
    have hk:k=0∨k=1∨k=2:=by
     unfold ez at h1
     split at h1
     ·cases h1
     ·omega
    have lq:(dT v ((nz,(ns,())),(ak,(wt,(ts,()))))).1.length≤130048:=by unfold dT;exact iY _ _ _ _
    have lf:(fQ v (fr,(fw,(fm,(fx,(fl,(ft,()))))))).1.length≤130048:=by unfold fQ;exact iY _ _ _ _
    have lo:(fI v (lr,(ll,(lt,())))).1.length≤130048:=by unfold fI;exact iY _ _ _ _
    by_cases k0:k=0
    ·rw[aa (by simpa using k0),if_pos k0,aa hg]
     by_cases h4:(dT v ((nz,(ns,())),(ak,(wt,(ts,()))))).2=0
     ·rw[ae (by simpa using h4),if_neg (not_not_intro h4)]
      exact GY k v co cz cs _ lq hcs
     ·rw[aa (by simpa using h4),if_pos h4]
    rw[ae (by simpa using k0),if_neg k0]
    by_cases k1:k=1
    ·rw[aa (by simpa using k1),if_pos k1]
     by_cases h4:(fQ v (fr,(fw,(fm,(fx,(fl,(ft,()))))))).2=0
     ·rw[ae (by simpa using h4),if_neg (not_not_intro h4)]
      exact GY k v co cz cs _ lf hcs
     ·rw[aa (by simpa using h4),if_pos h4]
    rw[ae (by simpa using k1),if_neg k1]
    have k2:k=2:=by omega
    rw[aa (by simpa using k2)]
    by_cases h4:(fI v (lr,(ll,(lt,())))).2=0
    ·rw[ae (by simpa using h4),if_neg (not_not_intro h4)]
     exact GY k v co cz cs _ lo hcs
    ·rw[aa (by simpa using h4),if_pos h4]
  ·rw[aa (by simpa using h2),if_pos h2]
 ·rw[aa (by simpa using h1),if_pos h1]
def nB (m:tB.den):Bool:=(m.2.1 == 0)&&((m.1.length:Int) == 0)
def nw (m:eS.den):Bool:=(m.1 == 0)&&((m.2.1.length:Int) == 0)
def ny (m:da.den):Bool:=(m.1 == 0)&&((m.2.1.length:Int) == 0)
def jf (c:fJ.den):Bool:=((c.1 == 0) || nB c.2.2.2.1)&&(((c.1 == 1) || nw c.2.2.2.2.1)&&((c.1 == 2) || ny c.2.2.2.2.2.1))
theorem uV (co:Int)(y:List Int)(hy:y.length≤130048):
  (bif bc (ay [] (ai (ah 131072 0) 1048576) co 4).2 (ai (ah 131072 0) 1048576)&&decide (aN [y]≤4294960000) then (bif decide ((bb (ay [] (ai (ah 131072 0) 1048576) co 4).2 (ai (ah 131072 0) 1048576) [y]).2.length≤4294967296) then some (Out.ret (((bb (ay [] (ai (ah 131072 0) 1048576) co 4).2 (ai (ah 131072 0) 1048576) [y]).2,(0,())),())) else none) else none:Option (Out ((List Int×(Int×Unit))×Unit) Empty))=some (Out.ret ((aE co 4++y,(0,())),())):=by
 have hM:ai (ah 131072 0) 1048576=131072:=by decide
 rw[hM]
 have e1:=pw (b:=[]) (v:=co) (n:=4) (by simp)
 have l1:(([]:List Int)++aE co 4).length=4:=by simp[di]
 have e2:=rW (b:=[]++aE co 4) (y:=y) (by omega)
 simp only[e1,e2]
 refine (aa (Bool.and_eq_true_iff.2 ⟨i4 (by omega),decide_eq_true (show y.length+0≤4294960000 by omega)⟩) _ _).trans ?_
 refine (aa (decide_eq_true (by rw[List.length_append,l1];omega)) _ _).trans ?_
 rfl
theorem D4 (k v co:Int)(pt:List aW.den)(ph fh lh:Int)(ft:List ax.den)(lt:List au.den):(bif !!(bif !(k == 0) then nB (pt,(ph,())) else true) then (bif !!(bif !(k == 1) then nw (fh,(ft,())) else true) then !(bif !(k == 2) then ny (lh,(lt,())) else true) else true) else true) = !(jf (k,(v,(co,((pt,(ph,())),((fh,(ft,())),((lh,(lt,())),()))))))):=by
 unfold jf
 show _ = !(((k == 0) || nB (pt,(ph,())))&&(((k == 1) || nw (fh,(ft,())))&&((k == 2) || ny (lh,(lt,())))))
 cases nB (pt,(ph,())) <;> cases nw (fh,(ft,())) <;> cases ny (lh,(lt,())) <;> cases (k == 0) <;> cases (k == 1) <;> cases (k == 2) <;> rfl
def jK (c:fJ.den):List Int×Int:=if c.1=0 then fa c.2.1 c.2.2.2.1 else if c.1=1 then i5 c.2.1 c.2.2.2.2.1 else dN c.2.1 c.2.2.2.2.2.1
def gH (c:fJ.den):List Int×Int:=if ez c.1 c.2.1≠0 then ([],ez c.1 c.2.1) else if jf c=false then ([],7) else
 if (jK c).2≠0 then ([],(jK c).2) else (aE c.2.2.1 4++(jK c).1,0)
abbrev mz:Io:=⟨[.dat fJ true false],[],[],[dO,dI],none⟩
def GF (d:mz.In):Tr mz.Res:=.ite (fR d.1.1.2.2.2.2.1.2.1) (.ret (.ret (((gH d.1.1).1,((gH d.1.1).2,())),()))) .no
abbrev I2:List (Nat×Hc):=[(40,af fV p4),(58,af ve M0),(59,af rn IK),(60,af nX BB),(46,af ld zd),(48,af lc zc),(49,af kg vR),(50,af fP oM)]
def RE:Hd:=bR I2
def JD:Lp:=bJ []
def zm (a0 a1 a2:Int)(a3:List aW.den)(a4 a5:Int)(a6:List ax.den)(a7:Int)(a8:List au.den):Option mz.Res:=bif ez a0 a1 != 0 then some (Out.ret (([],ez a0 a1,()),())) else bif bif !!bif !a0 == 0 then a4 == 0&&Decidable.rec (fun (h:¬(↑(List.length (((a0,a1,a2,(a3,a4,()),(a5,a6,()),(a7,a8,()),()),()),()).1.1.2.2.2.1.1):Int)=0)=>false) (fun (h:(↑(List.length (((a0,a1,a2,(a3,a4,()),(a5,a6,()),(a7,a8,()),()),()),()).1.1.2.2.2.1.1):Int)=0)=>true) ((↑(List.length (((a0,a1,a2,(a3,a4,()),(a5,a6,()),(a7,a8,()),()),()),()).1.1.2.2.2.1.1):Int).instDecidableEq 0) else true then bif !!bif !a0 == 1 then a5 == 0&&Decidable.rec (fun (h:¬(↑(List.length (((a0,a1,a2,(a3,a4,()),(a5,a6,()),(a7,a8,()),()),()),()).1.1.2.2.2.2.1.2.1):Int)=0)=>false) (fun (h:(↑(List.length (((a0,a1,a2,(a3,a4,()),(a5,a6,()),(a7,a8,()),()),()),()).1.1.2.2.2.2.1.2.1):Int)=0)=>true) ((↑(List.length (((a0,a1,a2,(a3,a4,()),(a5,a6,()),(a7,a8,()),()),()),()).1.1.2.2.2.2.1.2.1):Int).instDecidableEq 0) else true then !bif !a0 == 2 then a7 == 0&&Decidable.rec (fun (h:¬(↑(List.length (((a0,a1,a2,(a3,a4,()),(a5,a6,()),(a7,a8,()),()),()),()).1.1.2.2.2.2.2.1.2.1):Int)=0)=>false) (fun (h:(↑(List.length (((a0,a1,a2,(a3,a4,()),(a5,a6,()),(a7,a8,()),()),()),()).1.1.2.2.2.2.2.1.2.1):Int)=0)=>true) ((↑(List.length (((a0,a1,a2,(a3,a4,()),(a5,a6,()),(a7,a8,()),()),()),()).1.1.2.2.2.2.2.1.2.1):Int).instDecidableEq 0) else true else true else true then some (Out.ret (([],7,()),())) else bif a0 == 0 then bif (fa (IntKind.i64.wrap a1) (a3,a4,())).2 != 0 then some (Out.ret (([],(fa (IntKind.i64.wrap a1) (a3,a4,())).2,()),())) else bif bc (ay [] (ai (ah 131072 0) 1048576) a2 4).2 (ai (ah 131072 0) 1048576)&&decide (aN [(fa (IntKind.i64.wrap a1) (a3,a4,())).1]≤4294960000) then bif decide ((bb (ay [] (ai (ah 131072 0) 1048576) a2 4).2 (ai (ah 131072 0) 1048576) [(fa (IntKind.i64.wrap a1) (a3,a4,())).1]).2.length≤4294967296) then some (Out.ret (((bb (ay [] (ai (ah 131072 0) 1048576) a2 4).2 (ai (ah 131072 0) 1048576) [(fa (IntKind.i64.wrap a1) (a3,a4,())).1]).2,0,()),())) else none else none else bif a0 == 1 then bif fR a6 then bif (i5 (IntKind.i64.wrap a1) (a5,a6,())).2 != 0 then some (Out.ret (([],(i5 (IntKind.i64.wrap a1) (a5,a6,())).2,()),())) else bif bc (ay [] (ai (ah 131072 0) 1048576) a2 4).2 (ai (ah 131072 0) 1048576)&&decide (aN [(i5 (IntKind.i64.wrap a1) (a5,a6,())).1]≤4294960000) then bif decide ((bb (ay [] (ai (ah 131072 0) 1048576) a2 4).2 (ai (ah 131072 0) 1048576) [(i5 (IntKind.i64.wrap a1) (a5,a6,())).1]).2.length≤4294967296) then some (Out.ret (((bb (ay [] (ai (ah 131072 0) 1048576) a2 4).2 (ai (ah 131072 0) 1048576) [(i5 (IntKind.i64.wrap a1) (a5,a6,())).1]).2,0,()),())) else none else none else none else bif a0 == 2 then bif (dN (IntKind.i64.wrap a1) (a7,a8,())).2 != 0 then some (Out.ret (([],(dN (IntKind.i64.wrap a1) (a7,a8,())).2,()),())) else bif bc (ay [] (ai (ah 131072 0) 1048576) a2 4).2 (ai (ah 131072 0) 1048576)&&decide (aN [(dN (IntKind.i64.wrap a1) (a7,a8,())).1]≤4294960000) then bif decide ((bb (ay [] (ai (ah 131072 0) 1048576) a2 4).2 (ai (ah 131072 0) 1048576) [(dN (IntKind.i64.wrap a1) (a7,a8,())).1]).2.length≤4294967296) then some (Out.ret (((bb (ay [] (ai (ah 131072 0) 1048576) a2 4).2 (ai (ah 131072 0) 1048576) [(dN (IntKind.i64.wrap a1) (a7,a8,())).1]).2,0,()),())) else none else none else bif bc (ay [] (ai (ah 131072 0) 1048576) a2 4).2 (ai (ah 131072 0) 1048576)&&decide (aN [[]]≤4294960000) then bif decide ((bb (ay [] (ai (ah 131072 0) 1048576) a2 4).2 (ai (ah 131072 0) 1048576) [[]]).2.length≤4294967296) then some (Out.ret (((bb (ay [] (ai (ah 131072 0) 1048576) a2 4).2 (ai (ah 131072 0) 1048576) [[]]).2,0,()),())) else none else none
theorem PU (a0 a1 a2:Int)(a3:List aW.den)(a4 a5:Int)(a6:List ax.den)(a7:Int)(a8:List au.den):Io.run tt RE XF JD mz Tryz.f18 (((a0,a1,a2,(a3,a4,()),(a5,a6,()),(a7,a8,()),()),()),())=zm a0 a1 a2 a3 a4 a5 a6 a7 a8:=by kernel_rfl
theorem Sr:HcOk prog 18 (af mz GF):=by
 refine sF (n:=400) hm (cs:=I2) (.cons rK (.cons SH (.cons Pz (.cons FA (.cons CM (.cons CL (.cons xr (.cons rM .nil)))))))) (lp:=JD) (fn:=Tryz.f18) (by kernel_rfl) (by kernel_rfl) (by kernel_rfl) mz (.done (by kernel_rfl)) GF ?_
 rintro ⟨⟨⟨(k:Int),(v:Int),(co:Int),⟨(pt:List aW.den),(ph:Int),⟨⟩⟩,⟨(fh:Int),(ft:List ax.den),⟨⟩⟩,⟨(lh:Int),(lt:List au.den),⟨⟩⟩,⟨⟩⟩,⟨⟩⟩,⟨⟩⟩ out hw ho
 obtain ⟨hg,ho⟩:=Tr.guard ho
 have hg:fR ft=true:=hg
 cases ho
 refine (PU k v co pt ph fh ft lh lt).trans ?_
 unfold zm
 have hv:IntKind.i64.wrap v=v:=jq hw.1.1.2.1
 rw[hv]
 show _=some (Out.ret (((gH (k,(v,(co,((pt,(ph,())),((fh,(ft,())),((lh,(lt,())),()))))))).1,((gH (k,(v,(co,((pt,(ph,())),((fh,(ft,())),((lh,(lt,())),()))))))).2,())),()))
 unfold gH jK
 dsimp only
 by_cases h1:ez k v=0
 ·rw[ae (by simpa using h1),if_neg (not_not_intro h1)]
  show (bif (bif !!(bif !(k == 0) then nB (pt,(ph,())) else true) then (bif !!(bif !(k == 1) then nw (fh,(ft,())) else true) then !(bif !(k == 2) then ny (lh,(lt,())) else true) else true) else true) then _ else _)=_
  rw[D4 k v co pt ph fh lh ft lt]
  generalize jf (k,(v,(co,((pt,(ph,())),((fh,(ft,())),((lh,(lt,())),()))))))=ot
  cases ot with
  |false=>rw[Bool.not_false,cond_true,if_pos rfl]
  |true=>
   rw[Bool.not_true,cond_false,if_neg (by decide)]
   have hk:k=0∨k=1∨k=2:=by
    unfold ez at h1
    split at h1
    ·cases h1
    ·omega
   have lq:(fa v (pt,(ph,()))).1.length≤130048:=by unfold fa;exact iY _ _ _ _
   have lf:(i5 v (fh,(ft,()))).1.length≤130048:=by unfold i5;exact iY _ _ _ _
   have lo:(dN v (lh,(lt,()))).1.length≤130048:=by unfold dN;exact iY _ _ _ _
   by_cases k0:k=0
   ·rw[aa (by simpa using k0),if_pos k0]
    by_cases h4:(fa v (pt,(ph,()))).2=0
    ·rw[ae (by simpa using h4),if_neg (not_not_intro h4)]
     exact uV co _ lq
    ·rw[aa (by simpa using h4),if_pos h4]
   rw[ae (by simpa using k0),if_neg k0]
   by_cases k1:k=1
   ·rw[aa (by simpa using k1),if_pos k1,aa hg]
    by_cases h4:(i5 v (fh,(ft,()))).2=0
    ·rw[ae (by simpa using h4),if_neg (not_not_intro h4)]
     exact uV co _ lf
    ·rw[aa (by simpa using h4),if_pos h4]
   rw[ae (by simpa using k1),if_neg k1]
   have k2:k=2:=by omega
   rw[aa (by simpa using k2)]
   by_cases h4:(dN v (lh,(lt,()))).2=0
   ·rw[ae (by simpa using h4),if_neg (not_not_intro h4)]
    exact uV co _ lo
   ·rw[aa (by simpa using h4),if_pos h4]
 ·rw[aa (by simpa using h1),if_pos h1]
abbrev Ct:cW.den:=(false,([],()))
def eJ (b:List Int)(p:Int):cW.den×(Int×Int):=
 if (am b p 2).2.2≠0 then (Ct,((am b p 2).2.1,(am b p 2).2.2)) else if IntKind.i16.wrap (am b p 2).1 = -1 then ((true,([],())),((am b p 2).2.1,0)) else
 if IntKind.i16.wrap (am b p 2).1<0 then (Ct,((am b p 2).2.1,5)) else if 255<IntKind.i16.wrap (am b p 2).1 then (Ct,((am b p 2).2.1,4)) else
 if (aG b (am b p 2).2.1 (IntKind.i16.wrap (am b p 2).1)).2.2≠0 then (Ct,(aG b (am b p 2).2.1 (IntKind.i16.wrap (am b p 2).1)).2) else
 ((false,((aG b (am b p 2).2.1 (IntKind.i16.wrap (am b p 2).1)).1,())),((aG b (am b p 2).2.1 (IntKind.i16.wrap (am b p 2).1)).2.1,rR (false,((aG b (am b p 2).2.1 (IntKind.i16.wrap (am b p 2).1)).1,()))))
theorem rX {b:List Int}{p:Int}(n:Nat)(h:bg b p=true):bg b (am b p n).2.1=true:=by
 unfold bg at h ⊢
 simp only[Bool.and_eq_true,decide_eq_true_eq] at h
 unfold am
 split
 ·simpa using h
 ·simp;omega
theorem TA {b:List Int}{p:Int}(n:Int)(h:bg b p=true):bg b (aG b p n).2.1=true:=by
 unfold bg at h ⊢
 simp only[Bool.and_eq_true,decide_eq_true_eq] at h
 unfold aG
 split
 ·simpa using h
 ·split
  ·simpa using h
  ·simp;omega
theorem QE {b:List Int}{p:Int}(h:bg b p=true):bg b (eJ b p).2.1=true:=by
 unfold eJ
 have h1:=rX 2 h
 have h2:=TA (IntKind.i16.wrap (am b p 2).1) h1
 repeat' split
 all_goals first | exact h1 | exact h2
abbrev mA:Io:=⟨[.ptr 0 0],[ML],[],[ww,dI],none⟩
def GG (d:mA.In):Tr mA.Res:=.ite (bg d.2.1.1 d.2.1.2.1) (.ret (.ret (((eJ d.2.1.1 d.2.1.2.1).1,((eJ d.2.1.1 d.2.1.2.1).2.2,())),((d.2.1.1,((eJ d.2.1.1 d.2.1.2.1).2.1,())),())))) .no
abbrev I4:List (Nat×Hc):=[(136,af jy vM),(63,af e9 ma),(41,af gm qM)]
def RG:Hd:=bR I4
def JF:Lp:=bJ []
def zo (a0:List Int)(a1:Int):Option mA.Res:=bif bg a0 a1 then bif (am a0 a1 2).2.2 != 0 then some (Out.ret (((false,[],()),(am a0 a1 2).2.2,()),(a0,(am a0 a1 2).2.1,()),())) else bif IntKind.i16.wrap (am a0 a1 2).1 == -1 then some (Out.ret (((true,[],()),0,()),(a0,(am a0 a1 2).2.1,()),())) else bif decide (IntKind.i16.wrap (am a0 a1 2).1<0) then some (Out.ret (((false,[],()),5,()),(a0,(am a0 a1 2).2.1,()),())) else bif decide (255<IntKind.i16.wrap (am a0 a1 2).1) then some (Out.ret (((false,[],()),4,()),(a0,(am a0 a1 2).2.1,()),())) else bif bg a0 (am a0 a1 2).2.1 then bif (aG a0 (am a0 a1 2).2.1 (IntKind.i64.wrap (IntKind.i16.wrap (am a0 a1 2).1))).2.2 != 0 then some (Out.ret (((false,[],()),(aG a0 (am a0 a1 2).2.1 (IntKind.i64.wrap (IntKind.i16.wrap (am a0 a1 2).1))).2.2,()),(a0,(aG a0 (am a0 a1 2).2.1 (IntKind.i64.wrap (IntKind.i16.wrap (am a0 a1 2).1))).2.1,()),())) else some (Out.ret (((false,(aG a0 (am a0 a1 2).2.1 (IntKind.i64.wrap (IntKind.i16.wrap (am a0 a1 2).1))).1,()),rR (false,(aG a0 (am a0 a1 2).2.1 (IntKind.i64.wrap (IntKind.i16.wrap (am a0 a1 2).1))).1,()),()),(a0,(aG a0 (am a0 a1 2).2.1 (IntKind.i64.wrap (IntKind.i16.wrap (am a0 a1 2).1))).2.1,()),())) else none else none
theorem PW (a0:List Int)(a1:Int):Io.run tt RG dr JF mA Tryz.f137 (((),()),(a0,a1,()),())=zo a0 a1:=by kernel_rfl
theorem Ss:HcOk prog 137 (af mA GG):=by
 refine ao (n:=400) hm (cs:=I4) (.cons CJ (.cons n7 (.cons AG .nil))) (lp:=JF) (fn:=Tryz.f137) (by kernel_rfl) (by kernel_rfl) (by kernel_rfl) mA (.done (by kernel_rfl)) GG ?_
 rintro ⟨⟨⟨⟩,⟨⟩⟩,⟨⟨(b:List Int),(p:Int),⟨⟩⟩,⟨⟩⟩⟩ out hw ho
 obtain ⟨hg,ho⟩:=Tr.guard ho
 have hg:bg b p=true:=hg
 cases ho
 refine (PW b p).trans ?_
 unfold zo
 show _=some (Out.ret (((eJ b p).1,((eJ b p).2.2,())),((b,((eJ b p).2.1,())),())))
 have hw64:IntKind.i64.wrap (IntKind.i16.wrap (am b p 2).1)=IntKind.i16.wrap (am b p 2).1:=jq (cD _ _)
 rw[hw64]
 unfold eJ
 have hr:=rX 2 hg
 generalize am b p 2=r at hr ⊢
 obtain ⟨n,q,e⟩:=r
 have hr:bg b q=true:=hr
 refine (aa hg _ _).trans ?_
 dsimp only
 generalize IntKind.i16.wrap n=m
 by_cases h1:e=0
 ·rw[ae (by simpa using h1),if_neg (not_not_intro h1)]
  by_cases h2:m = -1
  ·rw[aa (by simpa using h2),if_pos h2]
  rw[ae (by simpa using h2),if_neg h2]
  by_cases h3:m<0
  ·rw[aa (by simpa using h3),if_pos h3]
  rw[ae (by simpa using h3),if_neg h3]
  by_cases h4:255<m
  ·rw[aa (by simpa using h4),if_pos h4]
  rw[ae (by simpa using h4),if_neg h4,aa hr]
  generalize aG b q m=t
  obtain ⟨x,q2,e2⟩:=t
  dsimp only
  by_cases h5:e2=0
  ·rw[ae (by simpa using h5),if_neg (not_not_intro h5)]
  ·rw[aa (by simpa using h5),if_pos h5]
 ·rw[aa (by simpa using h1),if_pos h1]
def aO (b:List Int)(p:Int):(Int×(Int×(Int×cW.den)))×(Int×Int):=
 if (am b p 2).2.2≠0 then ((IntKind.i16.wrap (am b p 2).1,(0,(0,Ct))),(am b p 2).2) else
 if (am b (am b p 2).2.1 2).2.2≠0 then ((IntKind.i16.wrap (am b p 2).1,(IntKind.i16.wrap (am b (am b p 2).2.1 2).1,(0,Ct))),(am b (am b p 2).2.1 2).2) else
 if (am b (am b (am b p 2).2.1 2).2.1 4).2.2≠0 then ((IntKind.i16.wrap (am b p 2).1,(IntKind.i16.wrap (am b (am b p 2).2.1 2).1,(IntKind.i32.wrap (am b (am b (am b p 2).2.1 2).2.1 4).1,Ct))),(am b (am b (am b p 2).2.1 2).2.1 4).2) else
 ((IntKind.i16.wrap (am b p 2).1,(IntKind.i16.wrap (am b (am b p 2).2.1 2).1,(IntKind.i32.wrap (am b (am b (am b p 2).2.1 2).2.1 4).1,(eJ b (am b (am b (am b p 2).2.1 2).2.1 4).2.1).1))),
  ((eJ b (am b (am b (am b p 2).2.1 2).2.1 4).2.1).2.1,if (eJ b (am b (am b (am b p 2).2.1 2).2.1 4).2.1).2.2≠0 then (eJ b (am b (am b (am b p 2).2.1 2).2.1 4).2.1).2.2 else ez (IntKind.i16.wrap (am b p 2).1) (IntKind.i16.wrap (am b (am b p 2).2.1 2).1)))
abbrev s9:iD.den:=(Ct,(0,(0,(([]:List aB.den),()))))
abbrev KR:bX.den:=(0,(0,(0,(0,(0,(([]:List al.den),()))))))
abbrev MM:cg.den:=(0,(0,(([]:List aj.den),())))
abbrev sG (h:Int×(Int×(Int×cW.den)))(q:iD.den)(f:bX.den)(l:cg.den):fb.den:=(h.1,(h.2.1,(h.2.2.1,(h.2.2.2,(q,(f,(l,())))))))
abbrev iT:Io:=⟨[.ptr 0 0],[ML],[],[.dat fb true false,dI],none⟩
def uQ (d:iT.In):Tr iT.Res:=.ite (bg d.2.1.1 d.2.1.2.1) (.ret (.ret ((sG (aO d.2.1.1 d.2.1.2.1).1 s9 KR MM,((aO d.2.1.1 d.2.1.2.1).2.2,())),((d.2.1.1,((aO d.2.1.1 d.2.1.2.1).2.1,())),())))) .no
abbrev D8:List (Nat×Hc):=[(136,af jy vM),(74,af jz vN),(137,af mA GG),(40,af fV p4)]
def Oh:Hd:=bR D8
def EZ:Lp:=bJ []
def vW (a0:List Int)(a1:Int):Option iT.Res:=bif bg a0 a1 then bif (am a0 a1 2).2.2 != 0 then some (Out.ret (((IntKind.i16.wrap (am a0 a1 2).1,0,0,(false,[],()),((false,[],()),0,0,[],()),(0,0,0,0,0,[],()),(0,0,[],()),()),(am a0 a1 2).2.2,()),(a0,(am a0 a1 2).2.1,()),())) else bif bg a0 (am a0 a1 2).2.1 then bif (am a0 (am a0 a1 2).2.1 2).2.2 != 0 then some (Out.ret (((IntKind.i16.wrap (am a0 a1 2).1,IntKind.i16.wrap (am a0 (am a0 a1 2).2.1 2).1,0,(false,[],()),((false,[],()),0,0,[],()),(0,0,0,0,0,[],()),(0,0,[],()),()),(am a0 (am a0 a1 2).2.1 2).2.2,()),(a0,(am a0 (am a0 a1 2).2.1 2).2.1,()),())) else bif bg a0 (am a0 (am a0 a1 2).2.1 2).2.1 then bif (am a0 (am a0 (am a0 a1 2).2.1 2).2.1 4).2.2 != 0 then some (Out.ret (((IntKind.i16.wrap (am a0 a1 2).1,IntKind.i16.wrap (am a0 (am a0 a1 2).2.1 2).1,IntKind.i32.wrap (am a0 (am a0 (am a0 a1 2).2.1 2).2.1 4).1,(false,[],()),((false,[],()),0,0,[],()),(0,0,0,0,0,[],()),(0,0,[],()),()),(am a0 (am a0 (am a0 a1 2).2.1 2).2.1 4).2.2,()),(a0,(am a0 (am a0 (am a0 a1 2).2.1 2).2.1 4).2.1,()),())) else bif bg a0 (am a0 (am a0 (am a0 a1 2).2.1 2).2.1 4).2.1 then bif (eJ a0 (am a0 (am a0 (am a0 a1 2).2.1 2).2.1 4).2.1).2.2 != 0 then some (Out.ret (((IntKind.i16.wrap (am a0 a1 2).1,IntKind.i16.wrap (am a0 (am a0 a1 2).2.1 2).1,IntKind.i32.wrap (am a0 (am a0 (am a0 a1 2).2.1 2).2.1 4).1,(eJ a0 (am a0 (am a0 (am a0 a1 2).2.1 2).2.1 4).2.1).1,((false,[],()),0,0,[],()),(0,0,0,0,0,[],()),(0,0,[],()),()),(eJ a0 (am a0 (am a0 (am a0 a1 2).2.1 2).2.1 4).2.1).2.2,()),(a0,(eJ a0 (am a0 (am a0 (am a0 a1 2).2.1 2).2.1 4).2.1).2.1,()),())) else some (Out.ret (((IntKind.i16.wrap (am a0 a1 2).1,IntKind.i16.wrap (am a0 (am a0 a1 2).2.1 2).1,IntKind.i32.wrap (am a0 (am a0 (am a0 a1 2).2.1 2).2.1 4).1,(eJ a0 (am a0 (am a0 (am a0 a1 2).2.1 2).2.1 4).2.1).1,((false,[],()),0,0,[],()),(0,0,0,0,0,[],()),(0,0,[],()),()),ez (IntKind.i16.wrap (am a0 a1 2).1) (IntKind.i16.wrap (am a0 (am a0 a1 2).2.1 2).1),()),(a0,(eJ a0 (am a0 (am a0 (am a0 a1 2).2.1 2).2.1 4).2.1).2.1,()),())) else none else none else none else none
theorem LE (a0:List Int)(a1:Int):Io.run tt Oh dr EZ iT Tryz.f62 (((),()),(a0,a1,()),())=vW a0 a1:=by kernel_rfl
theorem Ft:HcOk prog 62 (af iT uQ):=by
 refine ao (n:=400) hm (cs:=D8) (.cons CJ (.cons CK (.cons Ss (.cons rK .nil)))) (lp:=EZ) (fn:=Tryz.f62) (by kernel_rfl) (by kernel_rfl) (by kernel_rfl) iT (.done (by kernel_rfl)) uQ ?_
 rintro ⟨⟨⟨⟩,⟨⟩⟩,⟨⟨(b:List Int),(p:Int),⟨⟩⟩,⟨⟩⟩⟩ out hw ho
 obtain ⟨hg,ho⟩:=Tr.guard ho
 have hg:bg b p=true:=hg
 cases ho
 refine (LE b p).trans ?_
 unfold vW
 show _=some (Out.ret ((sG (aO b p).1 s9 KR MM,((aO b p).2.2,())),((b,((aO b p).2.1,())),())))
 unfold aO
 have g1:=rX 2 hg
 have g2:=rX 2 g1
 have g3:=rX 4 g2
 refine (aa hg _ _).trans ?_
 by_cases h1:(am b p 2).2.2=0
 ·rw[ae (by simpa using h1),if_neg (not_not_intro h1),aa g1]
  by_cases h2:(am b (am b p 2).2.1 2).2.2=0
  ·rw[ae (by simpa using h2),if_neg (not_not_intro h2),aa g2]
   by_cases h3:(am b (am b (am b p 2).2.1 2).2.1 4).2.2=0
   ·rw[ae (by simpa using h3),if_neg (not_not_intro h3),aa g3]
    dsimp only
    by_cases h4:(eJ b (am b (am b (am b p 2).2.1 2).2.1 4).2.1).2.2=0
    ·rw[ae (by simpa using h4),if_neg (not_not_intro h4)]
    ·rw[aa (by simpa using h4),if_pos h4]
   ·rw[aa (by simpa using h3),if_pos h3]
  ·rw[aa (by simpa using h2),if_pos h2]
 ·rw[aa (by simpa using h1),if_pos h1]
theorem Kp {b:List Int}{p:Int}(h:bg b p=true):bg b (aO b p).2.1=true:=by
 have g1:=rX 2 h
 have g2:=rX 2 g1
 have g3:=rX 4 g2
 have g4:=QE g3
 unfold aO
 split
 ·exact g1
 ·split
  ·exact g2
  ·split
   ·exact g3
   ·exact g4
theorem tn {b:List Int}{p:Int}(h:bg b p=true):aG b p ((b.length:Int) - p)=(b.drop p.toNat,((b.length:Int),0)):=by
 unfold bg at h
 simp only[Bool.and_eq_true,decide_eq_true_eq] at h
 unfold aG
 rw[if_neg (by omega),if_neg (by omega)]
 rw[List.take_of_length_le (by rw[List.length_drop];omega),show p+((b.length:Int) - p)=b.length by omega]
theorem xI {k v:Int}(h:ez k v=0):k=0∨k=1∨k=2:=by
 unfold ez at h
 split at h
 ·cases h
 ·omega
theorem QC {b:List Int}{p:Int}:(aO b p).2.2=0→(aO b p).1.1=0∨(aO b p).1.1=1∨(aO b p).1.1=2:=by
 unfold aO
 split
 ·rename_i h;exact fun h'=>absurd h' h
 ·split
  ·rename_i h;exact fun h'=>absurd h' h
  ·split
   ·rename_i h;exact fun h'=>absurd h' h
   ·intro h
    dsimp only at h ⊢
    split at h
    ·rename_i h';exact absurd h h'
    ·exact xI h
theorem MJ:IntKind.i64.wrap 0=0:=bx (by decide) (by decide)
theorem F1 {b:List Int}{p:Int}:IntKind.i64.wrap (aO b p).1.2.1=(aO b p).1.2.1:=by
 unfold aO
 split
 ·exact MJ
 ·split
  ·exact jq (cD _ _)
  ·split
   ·exact jq (cD _ _)
   ·exact jq (cD _ _)
abbrev nQ:fb.den:=sG (0,(0,(0,Ct))) s9 KR MM
def b7 (b:List Int):fb.den×Int:=
 if (aO b 0).2.2≠0 then (nQ,(aO b 0).2.2) else
 if (aO b 0).1.1=0 then (if (cl (aO b 0).1.2.1 (b.drop (aO b 0).2.1.toNat)).2≠0 then (nQ,(cl (aO b 0).1.2.1 (b.drop (aO b 0).2.1.toNat)).2) else (sG (aO b 0).1 (cl (aO b 0).1.2.1 (b.drop (aO b 0).2.1.toNat)).1 KR MM,0)) else
 if (aO b 0).1.1=1 then (if (gM (aO b 0).1.2.1 (b.drop (aO b 0).2.1.toNat)).2≠0 then (nQ,(gM (aO b 0).1.2.1 (b.drop (aO b 0).2.1.toNat)).2) else (sG (aO b 0).1 s9 (gM (aO b 0).1.2.1 (b.drop (aO b 0).2.1.toNat)).1 MM,0)) else
 (if (ei (aO b 0).1.2.1 (b.drop (aO b 0).2.1.toNat)).2≠0 then (nQ,(ei (aO b 0).1.2.1 (b.drop (aO b 0).2.1.toNat)).2) else (sG (aO b 0).1 s9 KR (ei (aO b 0).1.2.1 (b.drop (aO b 0).2.1.toNat)).1,0))
abbrev qf:Io:=⟨[dL],[],[],[.dat fb true false,dI],none⟩
def MQ (d:qf.In):Tr qf.Res:=.ite (decide (d.1.1.length≤4294960000)) (.ret (.ret (((b7 d.1.1).1,((b7 d.1.1).2,())),()))) .no
abbrev Ns:List (Nat×Hc):=[(61,af gy p5),(62,af iT uQ),(64,af e8 l9),(63,af e9 ma),(65,af qn M2),(66,af j4 By),(67,af iW uT)]
def U1:Hd:=bR Ns
def OS:Lp:=bJ []
def DE (a0:List Int):Option qf.Res:=bif decide (a0.length≤4294967296) then bif bg a0 0 then bif (aO a0 0).2.2 != 0 then some (Out.ret (((0,0,0,(false,[],()),((false,[],()),0,0,[],()),(0,0,0,0,0,[],()),(0,0,[],()),()),(aO a0 0).2.2,()),())) else bif bg a0 (aO a0 0).2.1 then bif (aO a0 0).1.1 == 0 then bif (cl (IntKind.i64.wrap (aO a0 0).1.2.1) (aG a0 (aO a0 0).2.1 (IntKind.i64.wrap ((↑a0.length:Int) - (aO a0 0).2.1))).1).2 != 0 then some (Out.ret (((0,0,0,(false,[],()),((false,[],()),0,0,[],()),(0,0,0,0,0,[],()),(0,0,[],()),()),(cl (IntKind.i64.wrap (aO a0 0).1.2.1) (aG a0 (aO a0 0).2.1 (IntKind.i64.wrap ((↑a0.length:Int) - (aO a0 0).2.1))).1).2,()),())) else some (Out.ret ((((aO a0 0).1.1,(aO a0 0).1.2.1,(aO a0 0).1.2.2.1,(aO a0 0).1.2.2.2,(cl (IntKind.i64.wrap (aO a0 0).1.2.1) (aG a0 (aO a0 0).2.1 (IntKind.i64.wrap ((↑a0.length:Int) - (aO a0 0).2.1))).1).1,(0,0,0,0,0,[],()),(0,0,[],()),()),0,()),())) else bif (aO a0 0).1.1 == 1 then bif (gM (IntKind.i64.wrap (aO a0 0).1.2.1) (aG a0 (aO a0 0).2.1 (IntKind.i64.wrap ((↑a0.length:Int) - (aO a0 0).2.1))).1).2 != 0 then some (Out.ret (((0,0,0,(false,[],()),((false,[],()),0,0,[],()),(0,0,0,0,0,[],()),(0,0,[],()),()),(gM (IntKind.i64.wrap (aO a0 0).1.2.1) (aG a0 (aO a0 0).2.1 (IntKind.i64.wrap ((↑a0.length:Int) - (aO a0 0).2.1))).1).2,()),())) else some (Out.ret ((((aO a0 0).1.1,(aO a0 0).1.2.1,(aO a0 0).1.2.2.1,(aO a0 0).1.2.2.2,((false,[],()),0,0,[],()),(gM (IntKind.i64.wrap (aO a0 0).1.2.1) (aG a0 (aO a0 0).2.1 (IntKind.i64.wrap ((↑a0.length:Int) - (aO a0 0).2.1))).1).1,(0,0,[],()),()),0,()),())) else bif (aO a0 0).1.1 == 2 then bif (ei (IntKind.i64.wrap (aO a0 0).1.2.1) (aG a0 (aO a0 0).2.1 (IntKind.i64.wrap ((↑a0.length:Int) - (aO a0 0).2.1))).1).2 != 0 then some (Out.ret (((0,0,0,(false,[],()),((false,[],()),0,0,[],()),(0,0,0,0,0,[],()),(0,0,[],()),()),(ei (IntKind.i64.wrap (aO a0 0).1.2.1) (aG a0 (aO a0 0).2.1 (IntKind.i64.wrap ((↑a0.length:Int) - (aO a0 0).2.1))).1).2,()),())) else some (Out.ret ((((aO a0 0).1.1,(aO a0 0).1.2.1,(aO a0 0).1.2.2.1,(aO a0 0).1.2.2.2,((false,[],()),0,0,[],()),(0,0,0,0,0,[],()),(ei (IntKind.i64.wrap (aO a0 0).1.2.1) (aG a0 (aO a0 0).2.1 (IntKind.i64.wrap ((↑a0.length:Int) - (aO a0 0).2.1))).1).1,()),0,()),())) else bif (aO a0 0).2.2 != 0 then some (Out.ret (((0,0,0,(false,[],()),((false,[],()),0,0,[],()),(0,0,0,0,0,[],()),(0,0,[],()),()),(aO a0 0).2.2,()),())) else some (Out.ret ((((aO a0 0).1.1,(aO a0 0).1.2.1,(aO a0 0).1.2.2.1,(aO a0 0).1.2.2.2,((false,[],()),0,0,[],()),(0,0,0,0,0,[],()),(0,0,[],()),()),0,()),())) else none else none else none
theorem SQ (a0:List Int):Io.run tt U1 dr OS qf Tryz.f20 ((a0,()),())=DE a0:=by kernel_rfl
theorem Vw:HcOk prog 20 (af qf MQ):=by
 refine ao (n:=400) hm (cs:=Ns) (.cons rL (.cons Ft (.cons lK (.cons n7 (.cons VD (.cons Pw (.cons Fx .nil))))))) (lp:=OS) (fn:=Tryz.f20) (by kernel_rfl) (by kernel_rfl) (by kernel_rfl) qf (.done (by kernel_rfl)) MQ ?_
 rintro ⟨⟨(b:List Int),⟨⟩⟩,⟨⟩⟩ out hw ho
 obtain ⟨hg,ho⟩:=Tr.guard ho
 have hg:b.length≤4294960000:=of_decide_eq_true hg
 cases ho
 refine (SQ b).trans ?_
 unfold DE
 show _=some (Out.ret (((b7 b).1,((b7 b).2,())),()))
 have g0:bg b 0=true:=by simp[bg];omega
 have g1:=Kp g0
 have hl:IntKind.i64.wrap ((b.length:Int) - (aO b 0).2.1)=(b.length:Int) - (aO b 0).2.1:=by
  unfold bg at g1
  simp only[Bool.and_eq_true,decide_eq_true_eq] at g1
  exact bx (by omega) (by omega)
 rw[hl,tn g1,F1]
 refine (aa (decide_eq_true (show b.length≤4294967296 by omega)) _ _).trans ?_
 refine (aa g0 _ _).trans ?_
 unfold b7
 have hk:=QC (b:=b) (p:=0)
 generalize aO b 0=r at g1 hk ⊢
 obtain ⟨⟨k,v,co,n⟩,q,e⟩:=r
 have g1:bg b q=true:=g1
 have hk:e=0→k=0∨k=1∨k=2:=hk
 dsimp only
 generalize b.drop q.toNat=rest
 by_cases h1:e=0
 ·have hk:=hk h1
  rw[ae (by simpa using h1),if_neg (not_not_intro h1),aa g1]
  by_cases k0:k=0
  ·rw[aa (by simpa using k0),if_pos k0]
   by_cases hd:(cl v rest).2=0
   ·rw[ae (by simpa using hd),if_neg (not_not_intro hd)]
   ·rw[aa (by simpa using hd),if_pos hd]
  rw[ae (by simpa using k0),if_neg k0]
  by_cases k1:k=1
  ·rw[aa (by simpa using k1),if_pos k1]
   by_cases hd:(gM v rest).2=0
   ·rw[ae (by simpa using hd),if_neg (not_not_intro hd)]
   ·rw[aa (by simpa using hd),if_pos hd]
  rw[ae (by simpa using k1),if_neg k1]
  have k2:k=2:=by omega
  rw[aa (by simpa using k2)]
  by_cases hd:(ei v rest).2=0
  ·rw[ae (by simpa using hd),if_neg (not_not_intro hd)]
  ·rw[aa (by simpa using hd),if_pos hd]
 ·rw[aa (by simpa using h1),if_pos h1]
abbrev nC:tB.den:=(([]:List aW.den),(0,()))
abbrev Dk:eS.den:=(0,(([]:List ax.den),()))
abbrev CN:da.den:=(0,(([]:List au.den),()))
abbrev WW (k v co:Int)(q:tB.den)(f:eS.den)(l:da.den):fJ.den:=(k,(v,(co,(q,(f,(l,()))))))
abbrev PR:fJ.den:=WW 0 0 0 nC Dk CN
theorem De (n:Nd):Tre.mk n.lab n.kids=n:=by cases n;rfl
def bu (c:fb.den)(k:Int):Nd:=if k=0 then cQ c.2.2.2.2.1 else if k=1 then dK c.2.2.2.2.2.1 else dM c.2.2.2.2.2.2.1
def dE (c:fb.den):Bool:=fB c.2.2.2.2.1.2.2.2.1&&(gN c.2.2.2.2.2.1.2.2.2.2.2.1&&gO c.2.2.2.2.2.2.1.2.2.1)
abbrev kc:Io:=⟨[.dat fb true false,N1],[],[],[np],none⟩
def BH (d:kc.In):Tr kc.Res:=.ite (dE d.1.1) (.ret (.ret ((bu d.1.1 d.1.2.1,()),()))) .no
abbrev Et:List (Nat×Hc):=[(84,af ga sn),(85,af il vS),(86,af im vT)]
def OB:Hd:=bR Et
def Fh:Lp:=bJ []
def wi (a0 a1 a2:Int)(a3:Bool)(a4:List Int)(a5:Bool)(a6:List Int)(a7 a8:Int)(a9:List aB.den)(a10 a11 a12 a13 a14:Int)(a15:List al.den)(a16 a17:Int)(a18:List aj.den)(a19:Int):Option kc.Res:=bif a19 == 0 then bif fB a9 then some (Out.ret ((Tre.mk (cQ ((a5,a6,()),a7,a8,a9,())).1 (cQ ((a5,a6,()),a7,a8,a9,())).2,()),())) else none else bif a19 == 1 then bif gN a15 then some (Out.ret ((Tre.mk (dK (a10,a11,a12,a13,a14,a15,())).1 (dK (a10,a11,a12,a13,a14,a15,())).2,()),())) else none else bif gO a18 then some (Out.ret ((Tre.mk (dM (a16,a17,a18,())).1 (dM (a16,a17,a18,())).2,()),())) else none
theorem LW (a0 a1 a2:Int)(a3:Bool)(a4:List Int)(a5:Bool)(a6:List Int)(a7 a8:Int)(a9:List aB.den)(a10 a11 a12 a13 a14:Int)(a15:List al.den)(a16 a17:Int)(a18:List aj.den)(a19:Int):Io.run tt OB dr Fh kc Tryz.f36 (((a0,a1,a2,(a3,a4,()),((a5,a6,()),a7,a8,a9,()),(a10,a11,a12,a13,a14,a15,()),(a16,a17,a18,()),()),a19,()),())=wi a0 a1 a2 a3 a4 a5 a6 a7 a8 a9 a10 a11 a12 a13 a14 a15 a16 a17 a18 a19:=by kernel_rfl
theorem FD:HcOk prog 36 (af kc BH):=by
 refine ao (n:=400) hm (cs:=Et) (.cons HG (.cons LB (.cons LC .nil))) (lp:=Fh) (fn:=Tryz.f36) (by kernel_rfl) (by kernel_rfl) (by kernel_rfl) kc (.done (by kernel_rfl)) BH ?_
 rintro ⟨⟨⟨(k:Int),(v:Int),(co:Int),⟨(cz:Bool),(cs:List Int),⟨⟩⟩,⟨⟨(nz:Bool),(ns:List Int),⟨⟩⟩,(ak:Int),(wt:Int),(ts:List aB.den),⟨⟩⟩,⟨(fr:Int),(fw:Int),(fm:Int),(fx:Int),(fl:Int),(ft:List al.den),⟨⟩⟩,⟨(lr:Int),(ll:Int),(lt:List aj.den),⟨⟩⟩,⟨⟩⟩,(q:Int),⟨⟩⟩,⟨⟩⟩ out hw ho
 obtain ⟨hg,ho⟩:=Tr.guard ho
 unfold dE at hg
 simp only[Bool.and_eq_true] at hg
 obtain ⟨h1,h2,h3⟩:=hg
 have h1:fB ts=true:=h1
 have h2:gN ft=true:=h2
 have h3:gO lt=true:=h3
 cases ho
 refine (LW k v co cz cs nz ns ak wt ts fr fw fm fx fl ft lr ll lt q).trans ?_
 unfold wi
 show _=some (Out.ret ((bu (k,(v,(co,((cz,(cs,())),(((nz,(ns,())),(ak,(wt,(ts,())))),((fr,(fw,(fm,(fx,(fl,(ft,())))))),((lr,(ll,(lt,()))),()))))))) q,()),()))
 unfold bu
 dsimp only
 by_cases k0:q=0
 ·rw[aa (by simpa using k0),if_pos k0,aa h1]
  exact congrArg (fun n:Nd=>some (Out.ret ((n,()),()))) (De _)
 rw[ae (by simpa using k0),if_neg k0]
 by_cases k1:q=1
 ·rw[aa (by simpa using k1),if_pos k1,aa h2]
  exact congrArg (fun n:Nd=>some (Out.ret ((n,()),()))) (De _)
 rw[ae (by simpa using k1),if_neg k1,aa h3]
 exact congrArg (fun n:Nd=>some (Out.ret ((n,()),()))) (De _)
def dp (c:fJ.den)(k:Int):Nd:=if k=0 then lR c.2.2.2.1 else if k=1 then oF c.2.2.2.2.1 else oG c.2.2.2.2.2.1
def C7 (c:fJ.den):Bool:=AQ c.2.2.2.1.1&&(Gr c.2.2.2.2.1.2.1&&Gv c.2.2.2.2.2.1.2.1)
def eU (n:Nd):Bool:=if n.kids.all dJ=true then true else false
abbrev wY:Lo:=⟨⟨(.any::.one (.ptr 1 0)::.any::.one (.hol (.int IntKind.i64))::dq (bQ (bt []))),[none,some [.hol (.int IntKind.i64),.hol (.int IntKind.i64),.hol .bool,.hol (.sl 5 (Ty.int IntKind.u8)),.hol (.sl 91 az)]]⟩,[(.ret,⟨(bt (.one (.hol .bool)::.any::dq (bQ (bt [])))),[]⟩),(.exit 0,⟨(ag (bt [])),[]⟩)]⟩
def Wb (d:wY.st.den):Tr (aJ wY.xs):=
 .ite (decide (d.1.1=0)) (.ite (d.2.1.2.2.2.2.1.all dJ) (.ret (.pan (.ret ((),((),()))))) (.ret (.ret ((),((false,()),()))))) .no
def XH (c:fb.den):Bool:=if ((c.1=0∨eU (bu c 0)=true)∧(c.1=1∨eU (bu c 1)=true)∧(c.1=2∨eU (bu c 2)=true)) then true else false
def Wp (x:(Int×(Int×(Int×(Bool×(List Int×(Bool×(List Int×(Int×(Int×(List aB.den×(Int×(Int×(Int×(Int×(Int×(List al.den×(Int×(Int×(List aj.den×Unit)))))))))))))))))))):fb.den:=(x.1,(x.2.1,(x.2.2.1,((x.2.2.2.1,(x.2.2.2.2.1,())),(((x.2.2.2.2.2.1,(x.2.2.2.2.2.2.1,())),(x.2.2.2.2.2.2.2.1,(x.2.2.2.2.2.2.2.2.1,(x.2.2.2.2.2.2.2.2.2.1,())))),((x.2.2.2.2.2.2.2.2.2.2.1,(x.2.2.2.2.2.2.2.2.2.2.2.1,(x.2.2.2.2.2.2.2.2.2.2.2.2.1,(x.2.2.2.2.2.2.2.2.2.2.2.2.2.1,(x.2.2.2.2.2.2.2.2.2.2.2.2.2.2.1,(x.2.2.2.2.2.2.2.2.2.2.2.2.2.2.2.1,())))))),((x.2.2.2.2.2.2.2.2.2.2.2.2.2.2.2.2.1,(x.2.2.2.2.2.2.2.2.2.2.2.2.2.2.2.2.2.1,(x.2.2.2.2.2.2.2.2.2.2.2.2.2.2.2.2.2.2.1,()))),())))))))
abbrev wX:Lo:=⟨⟨(.any::.one (.ptr 1 0)::.any::bQ (.one (.hol (.int IntKind.i16))::ag (ag (ag (ag (ag (ag (dq [])))))))),[none,some [.hol (.int IntKind.i16),.hol (.int IntKind.i16),.hol (.int IntKind.i32),.hol .bool,.hol .str,.hol .bool,.hol .str,.hol (.int IntKind.i16),.hol (.int IntKind.i32),.hol (.sl 172 aB),.hol (.int IntKind.i32),.hol (.int IntKind.i32),.hol (.int IntKind.i32),.hol (.int IntKind.i32),.hol (.int IntKind.i8),.hol (.sl 185 al),.hol (.int IntKind.i32),.hol (.int IntKind.i8),.hol (.sl 196 aj)]]⟩,[(.ret,⟨(bt (.one (.onl 5 (Ty.int IntKind.u8) 5)::.one (.hol (.int IntKind.i64))::ag (ag (ag (ag (ag (ag (dq (bQ []))))))))),[]⟩),(.exit 0,⟨(.any::.one (.ptr 1 0)::ag (ag (ag (ag (ag (ag (dq (bQ (bt []))))))))),[none,some [.hol (.int IntKind.i16),.hol (.int IntKind.i16),.hol (.int IntKind.i32),.hol .bool,.hol .str,.hol .bool,.hol .str,.hol (.int IntKind.i16),.hol (.int IntKind.i32),.hol (.sl 172 aB),.hol (.int IntKind.i32),.hol (.int IntKind.i32),.hol (.int IntKind.i32),.hol (.int IntKind.i32),.hol (.int IntKind.i8),.hol (.sl 185 al),.hol (.int IntKind.i32),.hol (.int IntKind.i8),.hol (.sl 196 aj)]]⟩)]⟩
def Wa (d:wX.st.den):Tr (aJ wX.xs):=
 .ite (decide (d.1.1=0)&&dE (Wp d.2.1)) (.ite (XH (Wp d.2.1)) (.ret (.pan (.ret ((),((),(d.2.1,())))))) (.ret (.ret ((),(([],(7,())),()))))) .no
def Tx (c:fJ.den):Bool:=if ((c.1=0∨eU (dp c 0)=true)∧(c.1=1∨eU (dp c 1)=true)∧(c.1=2∨eU (dp c 2)=true)) then true else false
def c9 (x:(Int×(Int×(Int×(List aW.den×(Int×(Int×(List ax.den×(Int×(List au.den×Unit)))))))))):fJ.den:=(x.1,(x.2.1,(x.2.2.1,((x.2.2.2.1,(x.2.2.2.2.1,())),((x.2.2.2.2.2.1,(x.2.2.2.2.2.2.1,())),((x.2.2.2.2.2.2.2.1,(x.2.2.2.2.2.2.2.2.1,())),()))))))
def C6 (c:fJ.den):List Int×Int:=if ez c.1 c.2.1≠0 then ([],ez c.1 c.2.1) else
 if Tx c=true then
 (if (qC c.1 true c.2.1 (dp c c.1)).2≠0 then ([],(qC c.1 true c.2.1 (dp c c.1)).2) else (aE c.2.2.1 4++(qC c.1 true c.2.1 (dp c c.1)).1,0)) else ([],7)
abbrev wW:Lo:=⟨⟨(.any::.one (.ptr 1 0)::.any::bt (.one (.hol (.int IntKind.i16))::.any::ag (ag (dq (bQ (bt [])))))),[none,some [.hol (.int IntKind.i16),.hol (.int IntKind.i16),.hol (.int IntKind.i32),.hol (.sl 212 aW),.hol (.int IntKind.i32),.hol (.int IntKind.i32),.hol (.sl 221 ax),.hol (.int IntKind.i32),.hol (.sl 230 au)]]⟩,[(.ret,⟨(bt (.one (.onl 5 (Ty.int IntKind.u8) 5)::.one (.hol (.int IntKind.i64))::.any::ag (ag (ag [])))),[]⟩),(.exit 0,⟨(.any::.one (.ptr 1 0)::.any::ag (ag (ag (bt [])))),[none,some [.hol (.int IntKind.i16),.hol (.int IntKind.i16),.hol (.int IntKind.i32),.hol (.sl 212 aW),.hol (.int IntKind.i32),.hol (.int IntKind.i32),.hol (.sl 221 ax),.hol (.int IntKind.i32),.hol (.sl 230 au)]]⟩)]⟩
def V9 (d:wW.st.den):Tr (aJ wW.xs):=
 .ite (decide (d.1.1=0)&&C7 (c9 d.2.1)) (.ite (Tx (c9 d.2.1)) (.ret (.pan (.ret ((),((),(d.2.1,())))))) (.ret (.ret ((),(([],(7,())),()))))) .no
abbrev gn:Io:=⟨[.dat fb true false,.dat fb true false],[],[],[dB],none⟩
def qz (a b:fb.den):Bool:=if (dF (bu a 0) (bu b 0)=true∧dF (bu a 1) (bu b 1)=true∧dF (bu a 2) (bu b 2)=true) then true else false
def vL (d:gn.In):Tr gn.Res:=.ite (dE d.1.1&&dE d.1.2.1) (.ret (.ret ((pQ d.1.1 d.1.2.1,()),()))) .no
abbrev sw:List (Nat×Hc):=[(36,af kc BH),(51,af d6 IP)]
def z6:Hd:=bR sw
abbrev dx:Lo:=⟨⟨(bt (.one (.ptr 2 0)::.one (.ptr 3 0)::.any::.one (.hol (.int IntKind.i16))::ag (ag (bQ (bt []))))),[none,none,some [.hol (.int IntKind.i16),.hol (.int IntKind.i16),.hol (.int IntKind.i32),.hol .bool,.hol .str,.hol .bool,.hol .str,.hol (.int IntKind.i16),.hol (.int IntKind.i32),.hol (.sl 172 aB),.hol (.int IntKind.i32),.hol (.int IntKind.i32),.hol (.int IntKind.i32),.hol (.int IntKind.i32),.hol (.int IntKind.i8),.hol (.sl 185 al),.hol (.int IntKind.i32),.hol (.int IntKind.i8),.hol (.sl 196 aj)],some [.hol (.int IntKind.i16),.hol (.int IntKind.i16),.hol (.int IntKind.i32),.hol .bool,.hol .str,.hol .bool,.hol .str,.hol (.int IntKind.i16),.hol (.int IntKind.i32),.hol (.sl 172 aB),.hol (.int IntKind.i32),.hol (.int IntKind.i32),.hol (.int IntKind.i32),.hol (.int IntKind.i32),.hol (.int IntKind.i8),.hol (.sl 185 al),.hol (.int IntKind.i32),.hol (.int IntKind.i8),.hol (.sl 196 aj)]]⟩,[(.ret,⟨(bQ (.one (.hol .bool)::.any::ag (ag (bQ (bt []))))),[]⟩),(.exit 0,⟨(ag (ag (dq (bQ [])))),[]⟩)]⟩
def l8 (d:dx.st.den):Tr (aJ dx.xs):=
 .ite (decide (d.1.1=0)&&(dE (Wp d.2.1)&&dE (Wp d.2.2.1))) (.ite (qz (Wp d.2.1) (Wp d.2.2.1)) (.ret (.pan (.ret ((),((),()))))) (.ret (.ret ((),((false,()),()))))) .no
def pa:Lp:=bJ [(5,bv dx l8)]
def lw {R:Type}(h38 h39 h40 h41:Int)(h42:Bool)(h43:List Int)(h44:Bool)(h45:List Int)(h46 h47:Int)(h48:List aB.den)(h49 h50 h51 h52 h53:Int)(h54:List al.den)(h55 h56:Int)(h57:List aj.den)(h58 h59 h60:Int)(h61:Bool)(h62:List Int)(h63:Bool)(h64:List Int)(h65 h66:Int)(h67:List aB.den)(h68 h69 h70 h71 h72:Int)(h73:List al.den)(h74 h75:Int)(h76:List aj.den)(next:Int→Int→Int→Int→Bool→List Int→Bool→List Int→Int→Int→List aB.den→Int→Int→Int→Int→Int→List al.den→Int→Int→List aj.den→Int→Int→Int→Bool→List Int→Bool→List Int→Int→Int→List aB.den→Int→Int→Int→Int→Int→List al.den→Int→Int→List aj.den→Option R)(out:aJ dx.xs→Option R):Option R:=bif decide (h38<3) then bif dE (h39,h40,h41,(h42,h43,()),((h44,h45,()),h46,h47,h48,()),(h49,h50,h51,h52,h53,h54,()),(h55,h56,h57,()),()) then bif dE (h58,h59,h60,(h61,h62,()),((h63,h64,()),h65,h66,h67,()),(h68,h69,h70,h71,h72,h73,()),(h74,h75,h76,()),()) then bif !dF (Tre.mk (bu (h39,h40,h41,(h42,h43,()),((h44,h45,()),h46,h47,h48,()),(h49,h50,h51,h52,h53,h54,()),(h55,h56,h57,()),()) h38).1 (bu (h39,h40,h41,(h42,h43,()),((h44,h45,()),h46,h47,h48,()),(h49,h50,h51,h52,h53,h54,()),(h55,h56,h57,()),()) h38).2) (Tre.mk (bu (h58,h59,h60,(h61,h62,()),((h63,h64,()),h65,h66,h67,()),(h68,h69,h70,h71,h72,h73,()),(h74,h75,h76,()),()) h38).1 (bu (h58,h59,h60,(h61,h62,()),((h63,h64,()),h65,h66,h67,()),(h68,h69,h70,h71,h72,h73,()),(h74,h75,h76,()),()) h38).2) then out (.ret ((),((false,()),()))) else next (IntKind.i16.wrap (h38+1)) (h39) (h40) (h41) (h42) (h43) (h44) (h45) (h46) (h47) (h48) (h49) (h50) (h51) (h52) (h53) (h54) (h55) (h56) (h57) (h58) (h59) (h60) (h61) (h62) (h63) (h64) (h65) (h66) (h67) (h68) (h69) (h70) (h71) (h72) (h73) (h74) (h75) (h76) else none else none else out (.pan (.ret ((),((),()))))
def cy (n:Nat)(h38 h39 h40 h41:Int)(h42:Bool)(h43:List Int)(h44:Bool)(h45:List Int)(h46 h47:Int)(h48:List aB.den)(h49 h50 h51 h52 h53:Int)(h54:List al.den)(h55 h56:Int)(h57:List aj.den)(h58 h59 h60:Int)(h61:Bool)(h62:List Int)(h63:Bool)(h64:List Int)(h65 h66:Int)(h67:List aB.den)(h68 h69 h70 h71 h72:Int)(h73:List al.den)(h74 h75:Int)(h76:List aj.den):Option (aJ dx.xs):=lD tt z6 dr pa 0 Tryz.f14 (gQ Tryz.f14 0) n (dx.st.mk' ((h38,()),((h39,(h40,(h41,(h42,(h43,(h44,(h45,(h46,(h47,(h48,(h49,(h50,(h51,(h52,(h53,(h54,(h55,(h56,(h57,()))))))))))))))))))),((h58,(h59,(h60,(h61,(h62,(h63,(h64,(h65,(h66,(h67,(h68,(h69,(h70,(h71,(h72,(h73,(h74,(h75,(h76,()))))))))))))))))))),())))) (dc dx.xs)
theorem um (n:Nat)(h38 h39 h40 h41:Int)(h42:Bool)(h43:List Int)(h44:Bool)(h45:List Int)(h46 h47:Int)(h48:List aB.den)(h49 h50 h51 h52 h53:Int)(h54:List al.den)(h55 h56:Int)(h57:List aj.den)(h58 h59 h60:Int)(h61:Bool)(h62:List Int)(h63:Bool)(h64:List Int)(h65 h66:Int)(h67:List aB.den)(h68 h69 h70 h71 h72:Int)(h73:List al.den)(h74 h75:Int)(h76:List aj.den):cy (n+1) h38 h39 h40 h41 h42 h43 h44 h45 h46 h47 h48 h49 h50 h51 h52 h53 h54 h55 h56 h57 h58 h59 h60 h61 h62 h63 h64 h65 h66 h67 h68 h69 h70 h71 h72 h73 h74 h75 h76=lw h38 h39 h40 h41 h42 h43 h44 h45 h46 h47 h48 h49 h50 h51 h52 h53 h54 h55 h56 h57 h58 h59 h60 h61 h62 h63 h64 h65 h66 h67 h68 h69 h70 h71 h72 h73 h74 h75 h76 (cy n) some:=by kernel_rfl
theorem m1 (kA vA coA:Int)(czA:Bool)(csA:List Int)(nzA:Bool)(nsA:List Int)(akA wtA:Int)(tsA:List aB.den)(frA fwA fmA fxA flA:Int)(ftA:List al.den)(lrA llA:Int)(ltA:List aj.den)(kB vB coB:Int)(czB:Bool)(csB:List Int)(nzB:Bool)(nsB:List Int)(akB wtB:Int)(tsB:List aB.den)(frB fwB fmB fxB flB:Int)(ftB:List al.den)(lrB llB:Int)(ltB:List aj.den)(hA:dE (kA,(vA,(coA,((czA,(csA,())),(((nzA,(nsA,())),(akA,(wtA,(tsA,())))),((frA,(fwA,(fmA,(fxA,(flA,(ftA,())))))),((lrA,(llA,(ltA,()))),())))))))=true)(hB:dE (kB,(vB,(coB,((czB,(csB,())),(((nzB,(nsB,())),(akB,(wtB,(tsB,())))),((frB,(fwB,(fmB,(fxB,(flB,(ftB,())))))),((lrB,(llB,(ltB,()))),())))))))=true)(n j:Nat)(hj:j<3):cy (n+1) (j:Int) kA vA coA czA csA nzA nsA akA wtA tsA frA fwA fmA fxA flA ftA lrA llA ltA kB vB coB czB csB nzB nsB akB wtB tsB frB fwB fmB fxB flB ftB lrB llB ltB=
  if dF (bu (kA,(vA,(coA,((czA,(csA,())),(((nzA,(nsA,())),(akA,(wtA,(tsA,())))),((frA,(fwA,(fmA,(fxA,(flA,(ftA,())))))),((lrA,(llA,(ltA,()))),()))))))) (j:Int)) (bu (kB,(vB,(coB,((czB,(csB,())),(((nzB,(nsB,())),(akB,(wtB,(tsB,())))),((frB,(fwB,(fmB,(fxB,(flB,(ftB,())))))),((lrB,(llB,(ltB,()))),()))))))) (j:Int))=true then cy n ((j+1:Nat):Int) kA vA coA czA csA nzA nsA akA wtA tsA frA fwA fmA fxA flA ftA lrA llA ltA kB vB coB czB csB nzB nsB akB wtB tsB frB fwB fmB fxB flB ftB lrB llB ltB else some (.ret ((),((false,()),()))):=by
 rw[um]
 unfold lw
 have hw:IntKind.i16.wrap ((j:Int)+1)=((j+1:Nat):Int):=dP (by simp[cT,IntKind.min,IntKind.max,IntKind.signed,IntKind.bits];omega)
 refine (aa (decide_eq_true (show (j:Int)<3 by omega)) _ _).trans ?_
 refine (aa hA _ _).trans ?_
 refine (aa hB _ _).trans ?_
 generalize bu (kA,(vA,(coA,((czA,(csA,())),(((nzA,(nsA,())),(akA,(wtA,(tsA,())))),((frA,(fwA,(fmA,(fxA,(flA,(ftA,())))))),((lrA,(llA,(ltA,()))),()))))))) (j:Int)=n0
 generalize bu (kB,(vB,(coB,((czB,(csB,())),(((nzB,(nsB,())),(akB,(wtB,(tsB,())))),((frB,(fwB,(fmB,(fxB,(flB,(ftB,())))))),((lrB,(llB,(ltB,()))),()))))))) (j:Int)=n1
 obtain ⟨nl,nk⟩:=n0
 obtain ⟨ml,mk⟩:=n1
 by_cases h2:dF (Tre.mk nl nk) (Tre.mk ml mk)=true
 ·rw[if_pos h2,h2,Bool.not_true,cond_false,hw]
 ·rw[if_neg h2,Bool.eq_false_iff.2 h2,Bool.not_false,cond_true]
theorem EU (kA vA coA:Int)(czA:Bool)(csA:List Int)(nzA:Bool)(nsA:List Int)(akA wtA:Int)(tsA:List aB.den)(frA fwA fmA fxA flA:Int)(ftA:List al.den)(lrA llA:Int)(ltA:List aj.den)(kB vB coB:Int)(czB:Bool)(csB:List Int)(nzB:Bool)(nsB:List Int)(akB wtB:Int)(tsB:List aB.den)(frB fwB fmB fxB flB:Int)(ftB:List al.den)(lrB llB:Int)(ltB:List aj.den)(hA:dE (kA,(vA,(coA,((czA,(csA,())),(((nzA,(nsA,())),(akA,(wtA,(tsA,())))),((frA,(fwA,(fmA,(fxA,(flA,(ftA,())))))),((lrA,(llA,(ltA,()))),())))))))=true)(hB:dE (kB,(vB,(coB,((czB,(csB,())),(((nzB,(nsB,())),(akB,(wtB,(tsB,())))),((frB,(fwB,(fmB,(fxB,(flB,(ftB,())))))),((lrB,(llB,(ltB,()))),())))))))=true):cy 4 0 kA vA coA czA csA nzA nsA akA wtA tsA frA fwA fmA fxA flA ftA lrA llA ltA kB vB coB czB csB nzB nsB akB wtB tsB frB fwB fmB fxB flB ftB lrB llB ltB=
  if qz (kA,(vA,(coA,((czA,(csA,())),(((nzA,(nsA,())),(akA,(wtA,(tsA,())))),((frA,(fwA,(fmA,(fxA,(flA,(ftA,())))))),((lrA,(llA,(ltA,()))),()))))))) (kB,(vB,(coB,((czB,(csB,())),(((nzB,(nsB,())),(akB,(wtB,(tsB,())))),((frB,(fwB,(fmB,(fxB,(flB,(ftB,())))))),((lrB,(llB,(ltB,()))),())))))))=true then some (.pan (.ret ((),((),())))) else some (.ret ((),((false,()),()))):=by
 have s0:cy 4 0 kA vA coA czA csA nzA nsA akA wtA tsA frA fwA fmA fxA flA ftA lrA llA ltA kB vB coB czB csB nzB nsB akB wtB tsB frB fwB fmB fxB flB ftB lrB llB ltB=if dF (bu (kA,(vA,(coA,((czA,(csA,())),(((nzA,(nsA,())),(akA,(wtA,(tsA,())))),((frA,(fwA,(fmA,(fxA,(flA,(ftA,())))))),((lrA,(llA,(ltA,()))),()))))))) 0) (bu (kB,(vB,(coB,((czB,(csB,())),(((nzB,(nsB,())),(akB,(wtB,(tsB,())))),((frB,(fwB,(fmB,(fxB,(flB,(ftB,())))))),((lrB,(llB,(ltB,()))),()))))))) 0)=true then cy 3 ((1:Nat):Int) kA vA coA czA csA nzA nsA akA wtA tsA frA fwA fmA fxA flA ftA lrA llA ltA kB vB coB czB csB nzB nsB akB wtB tsB frB fwB fmB fxB flB ftB lrB llB ltB else some (.ret ((),((false,()),()))):=m1 kA vA coA czA csA nzA nsA akA wtA tsA frA fwA fmA fxA flA ftA lrA llA ltA kB vB coB czB csB nzB nsB akB wtB tsB frB fwB fmB fxB flB ftB lrB llB ltB hA hB 3 0 (by decide)
 have s1:cy 3 ((1:Nat):Int) kA vA coA czA csA nzA nsA akA wtA tsA frA fwA fmA fxA flA ftA lrA llA ltA kB vB coB czB csB nzB nsB akB wtB tsB frB fwB fmB fxB flB ftB lrB llB ltB=if dF (bu (kA,(vA,(coA,((czA,(csA,())),(((nzA,(nsA,())),(akA,(wtA,(tsA,())))),((frA,(fwA,(fmA,(fxA,(flA,(ftA,())))))),((lrA,(llA,(ltA,()))),()))))))) 1) (bu (kB,(vB,(coB,((czB,(csB,())),(((nzB,(nsB,())),(akB,(wtB,(tsB,())))),((frB,(fwB,(fmB,(fxB,(flB,(ftB,())))))),((lrB,(llB,(ltB,()))),()))))))) 1)=true then cy 2 ((2:Nat):Int) kA vA coA czA csA nzA nsA akA wtA tsA frA fwA fmA fxA flA ftA lrA llA ltA kB vB coB czB csB nzB nsB akB wtB tsB frB fwB fmB fxB flB ftB lrB llB ltB else some (.ret ((),((false,()),()))):=m1 kA vA coA czA csA nzA nsA akA wtA tsA frA fwA fmA fxA flA ftA lrA llA ltA kB vB coB czB csB nzB nsB akB wtB tsB frB fwB fmB fxB flB ftB lrB llB ltB hA hB 2 1 (by decide)
 have s2:cy 2 ((2:Nat):Int) kA vA coA czA csA nzA nsA akA wtA tsA frA fwA fmA fxA flA ftA lrA llA ltA kB vB coB czB csB nzB nsB akB wtB tsB frB fwB fmB fxB flB ftB lrB llB ltB=if dF (bu (kA,(vA,(coA,((czA,(csA,())),(((nzA,(nsA,())),(akA,(wtA,(tsA,())))),((frA,(fwA,(fmA,(fxA,(flA,(ftA,())))))),((lrA,(llA,(ltA,()))),()))))))) 2) (bu (kB,(vB,(coB,((czB,(csB,())),(((nzB,(nsB,())),(akB,(wtB,(tsB,())))),((frB,(fwB,(fmB,(fxB,(flB,(ftB,())))))),((lrB,(llB,(ltB,()))),()))))))) 2)=true then cy 1 ((3:Nat):Int) kA vA coA czA csA nzA nsA akA wtA tsA frA fwA fmA fxA flA ftA lrA llA ltA kB vB coB czB csB nzB nsB akB wtB tsB frB fwB fmB fxB flB ftB lrB llB ltB else some (.ret ((),((false,()),()))):=m1 kA vA coA czA csA nzA nsA akA wtA tsA frA fwA fmA fxA flA ftA lrA llA ltA kB vB coB czB csB nzB nsB akB wtB tsB frB fwB fmB fxB flB ftB lrB llB ltB hA hB 1 2 (by decide)
 have s3:cy 1 ((3:Nat):Int) kA vA coA czA csA nzA nsA akA wtA tsA frA fwA fmA fxA flA ftA lrA llA ltA kB vB coB czB csB nzB nsB akB wtB tsB frB fwB fmB fxB flB ftB lrB llB ltB=some (.pan (.ret ((),((),())))):=by
  rw[um]
  unfold lw
  exact ae (by decide) _ _
 rw[s0,s1,s2,s3]
 unfold qz
 by_cases h0:dF (bu (kA,(vA,(coA,((czA,(csA,())),(((nzA,(nsA,())),(akA,(wtA,(tsA,())))),((frA,(fwA,(fmA,(fxA,(flA,(ftA,())))))),((lrA,(llA,(ltA,()))),()))))))) 0) (bu (kB,(vB,(coB,((czB,(csB,())),(((nzB,(nsB,())),(akB,(wtB,(tsB,())))),((frB,(fwB,(fmB,(fxB,(flB,(ftB,())))))),((lrB,(llB,(ltB,()))),()))))))) 0)=true
 ·rw[if_pos h0]
  by_cases h1:dF (bu (kA,(vA,(coA,((czA,(csA,())),(((nzA,(nsA,())),(akA,(wtA,(tsA,())))),((frA,(fwA,(fmA,(fxA,(flA,(ftA,())))))),((lrA,(llA,(ltA,()))),()))))))) 1) (bu (kB,(vB,(coB,((czB,(csB,())),(((nzB,(nsB,())),(akB,(wtB,(tsB,())))),((frB,(fwB,(fmB,(fxB,(flB,(ftB,())))))),((lrB,(llB,(ltB,()))),()))))))) 1)=true
  ·rw[if_pos h1]
   by_cases h2:dF (bu (kA,(vA,(coA,((czA,(csA,())),(((nzA,(nsA,())),(akA,(wtA,(tsA,())))),((frA,(fwA,(fmA,(fxA,(flA,(ftA,())))))),((lrA,(llA,(ltA,()))),()))))))) 2) (bu (kB,(vB,(coB,((czB,(csB,())),(((nzB,(nsB,())),(akB,(wtB,(tsB,())))),((frB,(fwB,(fmB,(fxB,(flB,(ftB,())))))),((lrB,(llB,(ltB,()))),()))))))) 2)=true
   ·rw[if_pos h2,if_pos (by rw[if_pos ⟨h0,h1,h2⟩])]
   ·rw[if_neg h2,if_neg (by rw[if_neg (fun h=>h2 h.2.2)];decide)]
  ·rw[if_neg h1,if_neg (by rw[if_neg (fun h=>h1 h.2.1)];decide)]
 ·rw[if_neg h0,if_neg (by rw[if_neg (fun h=>h0 h.1)];decide)]
def tS (a0 a1 a2:Int)(a3:Bool)(a4:List Int)(a5:Bool)(a6:List Int)(a7 a8:Int)(a9:List aB.den)(a10 a11 a12 a13 a14:Int)(a15:List al.den)(a16 a17:Int)(a18:List aj.den)(a19 a20 a21:Int)(a22:Bool)(a23:List Int)(a24:Bool)(a25:List Int)(a26 a27:Int)(a28:List aB.den)(a29 a30 a31 a32 a33:Int)(a34:List al.den)(a35 a36:Int)(a37:List aj.den):Option gn.Res:=bif a0 != a19 then some (Out.ret ((false,()),())) else bif a1 != a20 then some (Out.ret ((false,()),())) else bif a2 != a21 then some (Out.ret ((false,()),())) else bif !(a3 == a22&&(decide (a4=a23)&&true)) then some (Out.ret ((false,()),())) else (l8 ((0,()),((a0,(a1,(a2,(a3,(a4,(a5,(a6,(a7,(a8,(a9,(a10,(a11,(a12,(a13,(a14,(a15,(a16,(a17,(a18,()))))))))))))))))))),((a19,(a20,(a21,(a22,(a23,(a24,(a25,(a26,(a27,(a28,(a29,(a30,(a31,(a32,(a33,(a34,(a35,(a36,(a37,()))))))))))))))))))),())))).run fun y=>match y with | .ret ((),((x117,()),()))=>(some (Out.ret ((x117,()),()))) | .pan (.ret ((),((),())))=>(some (Out.ret ((true,()),())))
theorem HY (a0 a1 a2:Int)(a3:Bool)(a4:List Int)(a5:Bool)(a6:List Int)(a7 a8:Int)(a9:List aB.den)(a10 a11 a12 a13 a14:Int)(a15:List al.den)(a16 a17:Int)(a18:List aj.den)(a19 a20 a21:Int)(a22:Bool)(a23:List Int)(a24:Bool)(a25:List Int)(a26 a27:Int)(a28:List aB.den)(a29 a30 a31 a32 a33:Int)(a34:List al.den)(a35 a36:Int)(a37:List aj.den):Io.run tt z6 dr pa gn Tryz.f14 (((a0,a1,a2,(a3,a4,()),((a5,a6,()),a7,a8,a9,()),(a10,a11,a12,a13,a14,a15,()),(a16,a17,a18,()),()),(a19,a20,a21,(a22,a23,()),((a24,a25,()),a26,a27,a28,()),(a29,a30,a31,a32,a33,a34,()),(a35,a36,a37,()),()),()),())=tS a0 a1 a2 a3 a4 a5 a6 a7 a8 a9 a10 a11 a12 a13 a14 a15 a16 a17 a18 a19 a20 a21 a22 a23 a24 a25 a26 a27 a28 a29 a30 a31 a32 a33 a34 a35 a36 a37:=by kernel_rfl
theorem Lw:HcOk prog 14 (af gn vL):=by
 refine ao (n:=400) hm (cs:=sw) (.cons FD (.cons FE .nil)) (lp:=pa) (fn:=Tryz.f14) (by kernel_rfl) (by kernel_rfl) (by kernel_rfl) gn (.step (h0:=bv dx l8) (by kernel_rfl) (aQ (n:=400) hm (cs:=sw) (.cons FD (.cons FE .nil)) (lp:=pa) (fn:=Tryz.f14) (.done (by kernel_rfl)) dx l8 ?_) (.done (by kernel_rfl))) vL ?_
 ·rintro ⟨⟨(j:Int),⟨⟩⟩,⟨⟨(kA:Int),(vA:Int),(coA:Int),(czA:Bool),(csA:List Int),(nzA:Bool),(nsA:List Int),(akA:Int),(wtA:Int),(tsA:List aB.den),(frA:Int),(fwA:Int),(fmA:Int),(fxA:Int),(flA:Int),(ftA:List al.den),(lrA:Int),(llA:Int),(ltA:List aj.den),⟨⟩⟩,⟨(kB:Int),(vB:Int),(coB:Int),(czB:Bool),(csB:List Int),(nzB:Bool),(nsB:List Int),(akB:Int),(wtB:Int),(tsB:List aB.den),(frB:Int),(fwB:Int),(fmB:Int),(fxB:Int),(flB:Int),(ftB:List al.den),(lrB:Int),(llB:Int),(ltB:List aj.den),⟨⟩⟩,⟨⟩⟩⟩ y hw hy
  obtain ⟨hg,hy⟩:=Tr.guard hy
  simp only[Bool.and_eq_true,decide_eq_true_eq] at hg
  obtain ⟨h1,h2,h3⟩:=hg
  have h1:j=0:=h1
  subst h1
  refine ⟨4,(EU kA vA coA czA csA nzA nsA akA wtA tsA frA fwA fmA fxA flA ftA lrA llA ltA kB vB coB czB csB nzB nsB akB wtB tsB frB fwB fmB fxB flB ftB lrB llB ltB h2 h3).trans ?_⟩
  rw[← hy]
  show _=(Tr.ite (qz (kA,(vA,(coA,((czA,(csA,())),(((nzA,(nsA,())),(akA,(wtA,(tsA,())))),((frA,(fwA,(fmA,(fxA,(flA,(ftA,())))))),((lrA,(llA,(ltA,()))),()))))))) (kB,(vB,(coB,((czB,(csB,())),(((nzB,(nsB,())),(akB,(wtB,(tsB,())))),((frB,(fwB,(fmB,(fxB,(flB,(ftB,())))))),((lrB,(llB,(ltB,()))),())))))))) _ _).val
  rw[Tr.val_ite]
  rfl
 ·rintro ⟨⟨⟨(kA:Int),(vA:Int),(coA:Int),⟨(czA:Bool),(csA:List Int),⟨⟩⟩,⟨⟨(nzA:Bool),(nsA:List Int),⟨⟩⟩,(akA:Int),(wtA:Int),(tsA:List aB.den),⟨⟩⟩,⟨(frA:Int),(fwA:Int),(fmA:Int),(fxA:Int),(flA:Int),(ftA:List al.den),⟨⟩⟩,⟨(lrA:Int),(llA:Int),(ltA:List aj.den),⟨⟩⟩,⟨⟩⟩,⟨(kB:Int),(vB:Int),(coB:Int),⟨(czB:Bool),(csB:List Int),⟨⟩⟩,⟨⟨(nzB:Bool),(nsB:List Int),⟨⟩⟩,(akB:Int),(wtB:Int),(tsB:List aB.den),⟨⟩⟩,⟨(frB:Int),(fwB:Int),(fmB:Int),(fxB:Int),(flB:Int),(ftB:List al.den),⟨⟩⟩,⟨(lrB:Int),(llB:Int),(ltB:List aj.den),⟨⟩⟩,⟨⟩⟩,⟨⟩⟩,⟨⟩⟩ out hw ho
  obtain ⟨hg,ho⟩:=Tr.guard ho
  obtain ⟨hA,hB⟩:=Bool.and_eq_true_iff.1 hg
  have hA:dE (kA,(vA,(coA,((czA,(csA,())),(((nzA,(nsA,())),(akA,(wtA,(tsA,())))),((frA,(fwA,(fmA,(fxA,(flA,(ftA,())))))),((lrA,(llA,(ltA,()))),())))))))=true:=hA
  have hB:dE (kB,(vB,(coB,((czB,(csB,())),(((nzB,(nsB,())),(akB,(wtB,(tsB,())))),((frB,(fwB,(fmB,(fxB,(flB,(ftB,())))))),((lrB,(llB,(ltB,()))),())))))))=true:=hB
  cases ho
  have wA:=hw.1.1
  have wB:=hw.1.2.1
  refine (HY kA vA coA czA csA nzA nsA akA wtA tsA frA fwA fmA fxA flA ftA lrA llA ltA kB vB coB czB csB nzB nsB akB wtB tsB frB fwB fmB fxB flB ftB lrB llB ltB).trans ?_
  unfold tS
  show _=some (Out.ret ((pQ (kA,(vA,(coA,((czA,(csA,())),(((nzA,(nsA,())),(akA,(wtA,(tsA,())))),((frA,(fwA,(fmA,(fxA,(flA,(ftA,())))))),((lrA,(llA,(ltA,()))),()))))))) (kB,(vB,(coB,((czB,(csB,())),(((nzB,(nsB,())),(akB,(wtB,(tsB,())))),((frB,(fwB,(fmB,(fxB,(flB,(ftB,())))))),((lrB,(llB,(ltB,()))),()))))))),()),()))
  have key:qz (kA,(vA,(coA,((czA,(csA,())),(((nzA,(nsA,())),(akA,(wtA,(tsA,())))),((frA,(fwA,(fmA,(fxA,(flA,(ftA,())))))),((lrA,(llA,(ltA,()))),()))))))) (kB,(vB,(coB,((czB,(csB,())),(((nzB,(nsB,())),(akB,(wtB,(tsB,())))),((frB,(fwB,(fmB,(fxB,(flB,(ftB,())))))),((lrB,(llB,(ltB,()))),())))))))=true↔(((nzA,(nsA,())),(akA,(wtA,(tsA,()))))=((nzB,(nsB,())),(akB,(wtB,(tsB,()))))∧(frA,(fwA,(fmA,(fxA,(flA,(ftA,()))))))=(frB,(fwB,(fmB,(fxB,(flB,(ftB,()))))))∧(lrA,(llA,(ltA,())))=(lrB,(llB,(ltB,())))):=by
   unfold qz
   have i0:dF (bu (kA,(vA,(coA,((czA,(csA,())),(((nzA,(nsA,())),(akA,(wtA,(tsA,())))),((frA,(fwA,(fmA,(fxA,(flA,(ftA,())))))),((lrA,(llA,(ltA,()))),()))))))) 0) (bu (kB,(vB,(coB,((czB,(csB,())),(((nzB,(nsB,())),(akB,(wtB,(tsB,())))),((frB,(fwB,(fmB,(fxB,(flB,(ftB,())))))),((lrB,(llB,(ltB,()))),()))))))) 0)=true↔((nzA,(nsA,())),(akA,(wtA,(tsA,()))))=((nzB,(nsB,())),(akB,(wtB,(tsB,())))):=by
    rw[jV]
    refine ⟨fun h=>?_,fun h=>congrArg cQ h⟩
    have h:cQ ((nzA,(nsA,())),(akA,(wtA,(tsA,()))))=cQ ((nzB,(nsB,())),(akB,(wtB,(tsB,())))):=h
    rw[← rY (m:=((nzA,(nsA,())),(akA,(wtA,(tsA,()))))) wA.2.2.2.2.1,← rY (m:=((nzB,(nsB,())),(akB,(wtB,(tsB,()))))) wB.2.2.2.2.1,h]
   have i1:dF (bu (kA,(vA,(coA,((czA,(csA,())),(((nzA,(nsA,())),(akA,(wtA,(tsA,())))),((frA,(fwA,(fmA,(fxA,(flA,(ftA,())))))),((lrA,(llA,(ltA,()))),()))))))) 1) (bu (kB,(vB,(coB,((czB,(csB,())),(((nzB,(nsB,())),(akB,(wtB,(tsB,())))),((frB,(fwB,(fmB,(fxB,(flB,(ftB,())))))),((lrB,(llB,(ltB,()))),()))))))) 1)=true↔(frA,(fwA,(fmA,(fxA,(flA,(ftA,()))))))=(frB,(fwB,(fmB,(fxB,(flB,(ftB,())))))):=by
    rw[jV]
    refine ⟨fun h=>?_,fun h=>congrArg dK h⟩
    have h:dK (frA,(fwA,(fmA,(fxA,(flA,(ftA,()))))))=dK (frB,(fwB,(fmB,(fxB,(flB,(ftB,())))))):=h
    rw[← uv (m:=(frA,(fwA,(fmA,(fxA,(flA,(ftA,()))))))) wA.2.2.2.2.2.1,← uv (m:=(frB,(fwB,(fmB,(fxB,(flB,(ftB,()))))))) wB.2.2.2.2.2.1,h]
   have i2:dF (bu (kA,(vA,(coA,((czA,(csA,())),(((nzA,(nsA,())),(akA,(wtA,(tsA,())))),((frA,(fwA,(fmA,(fxA,(flA,(ftA,())))))),((lrA,(llA,(ltA,()))),()))))))) 2) (bu (kB,(vB,(coB,((czB,(csB,())),(((nzB,(nsB,())),(akB,(wtB,(tsB,())))),((frB,(fwB,(fmB,(fxB,(flB,(ftB,())))))),((lrB,(llB,(ltB,()))),()))))))) 2)=true↔(lrA,(llA,(ltA,())))=(lrB,(llB,(ltB,()))):=by
    rw[jV]
    refine ⟨fun h=>?_,fun h=>congrArg dM h⟩
    have h:dM (lrA,(llA,(ltA,())))=dM (lrB,(llB,(ltB,()))):=h
    rw[← uw (m:=(lrA,(llA,(ltA,())))) wA.2.2.2.2.2.2.1,← uw (m:=(lrB,(llB,(ltB,())))) wB.2.2.2.2.2.2.1,h]
   rw[← i0,← i1,← i2]
   constructor
   ·intro h
    split at h
    ·assumption
    ·cases h
   ·intro h
    rw[if_pos h]
  have no:∀h:(kA,(vA,(coA,((czA,(csA,())),(((nzA,(nsA,())),(akA,(wtA,(tsA,())))),((frA,(fwA,(fmA,(fxA,(flA,(ftA,())))))),((lrA,(llA,(ltA,()))),())))))))≠(kB,(vB,(coB,((czB,(csB,())),(((nzB,(nsB,())),(akB,(wtB,(tsB,())))),((frB,(fwB,(fmB,(fxB,(flB,(ftB,())))))),((lrB,(llB,(ltB,()))),()))))))),pQ (kA,(vA,(coA,((czA,(csA,())),(((nzA,(nsA,())),(akA,(wtA,(tsA,())))),((frA,(fwA,(fmA,(fxA,(flA,(ftA,())))))),((lrA,(llA,(ltA,()))),()))))))) (kB,(vB,(coB,((czB,(csB,())),(((nzB,(nsB,())),(akB,(wtB,(tsB,())))),((frB,(fwB,(fmB,(fxB,(flB,(ftB,())))))),((lrB,(llB,(ltB,()))),())))))))=false:=fun h=>Bool.eq_false_iff.2 fun h'=>h (tf.1 h')
  have fin:∀{b:Bool},pQ (kA,(vA,(coA,((czA,(csA,())),(((nzA,(nsA,())),(akA,(wtA,(tsA,())))),((frA,(fwA,(fmA,(fxA,(flA,(ftA,())))))),((lrA,(llA,(ltA,()))),()))))))) (kB,(vB,(coB,((czB,(csB,())),(((nzB,(nsB,())),(akB,(wtB,(tsB,())))),((frB,(fwB,(fmB,(fxB,(flB,(ftB,())))))),((lrB,(llB,(ltB,()))),())))))))=b→(some (Out.ret ((b,()),())):Option gn.Res)=some (Out.ret ((pQ (kA,(vA,(coA,((czA,(csA,())),(((nzA,(nsA,())),(akA,(wtA,(tsA,())))),((frA,(fwA,(fmA,(fxA,(flA,(ftA,())))))),((lrA,(llA,(ltA,()))),()))))))) (kB,(vB,(coB,((czB,(csB,())),(((nzB,(nsB,())),(akB,(wtB,(tsB,())))),((frB,(fwB,(fmB,(fxB,(flB,(ftB,())))))),((lrB,(llB,(ltB,()))),()))))))),()),())):=fun h=>by rw[h]
  by_cases ek:kA=kB
  rotate_left
  ·refine (aa (by simpa using ek) _ _).trans ?_
   exact fin (no fun h=>ek (by simp only[Prod.mk.injEq] at h;exact h.1))
  refine (ae (by simpa using ek) _ _).trans ?_
  by_cases ev:vA=vB
  rotate_left
  ·refine (aa (by simpa using ev) _ _).trans ?_
   exact fin (no fun h=>ev (by simp only[Prod.mk.injEq] at h;exact h.2.1))
  refine (ae (by simpa using ev) _ _).trans ?_
  by_cases eo:coA=coB
  rotate_left
  ·refine (aa (by simpa using eo) _ _).trans ?_
   exact fin (no fun h=>eo (by simp only[Prod.mk.injEq] at h;exact h.2.2.1))
  refine (ae (by simpa using eo) _ _).trans ?_
  by_cases ec:czA=czB∧csA=csB
  rotate_left
  ·refine (aa (by cases hh:(czA == czB&&(decide (csA=csB)&&true)) with | false=>rfl | true=>exact absurd (by simpa using hh) ec) _ _).trans ?_
   exact fin (no fun h=>ec (by simp only[Prod.mk.injEq] at h;exact ⟨h.2.2.2.1.1,h.2.2.2.1.2.1⟩))
  refine (ae (by simpa using ec) _ _).trans ?_
  refine (aa (Bool.and_eq_true_iff.2 ⟨rfl,Bool.and_eq_true_iff.2 ⟨hA,hB⟩⟩) _ _).trans ?_
  by_cases h6:qz (kA,(vA,(coA,((czA,(csA,())),(((nzA,(nsA,())),(akA,(wtA,(tsA,())))),((frA,(fwA,(fmA,(fxA,(flA,(ftA,())))))),((lrA,(llA,(ltA,()))),()))))))) (kB,(vB,(coB,((czB,(csB,())),(((nzB,(nsB,())),(akB,(wtB,(tsB,())))),((frB,(fwB,(fmB,(fxB,(flB,(ftB,())))))),((lrB,(llB,(ltB,()))),())))))))=true
  ·refine (aa h6 _ _).trans ?_
   obtain ⟨e0,e1,e2⟩:=key.1 h6
   refine fin (tf.2 ?_)
   simp only[Prod.mk.injEq] at e0 e1 e2 ⊢
   simp only[ec,ek,ev,eo,e0,e1,e2,and_self]
  ·refine (ae (Bool.eq_false_iff.2 h6) _ _).trans ?_
   refine fin (no fun h=>h6 (key.2 ?_))
   simp only[Prod.mk.injEq] at h ⊢
   simp only[h,and_self]
def VR (a b:fJ.den):Bool:=if (dF (dp a 0) (dp b 0)=true∧dF (dp a 1) (dp b 1)=true∧dF (dp a 2) (dp b 2)=true) then true else false
abbrev rB:Lo:=⟨⟨(bt (.one (.ptr 2 0)::.one (.ptr 3 0)::.any::.one (.hol (.int IntKind.i16))::.any::ag (dq (bQ (bt []))))),[none,none,some [.hol (.int IntKind.i16),.hol (.int IntKind.i16),.hol (.int IntKind.i32),.hol (.sl 212 aW),.hol (.int IntKind.i32),.hol (.int IntKind.i32),.hol (.sl 221 ax),.hol (.int IntKind.i32),.hol (.sl 230 au)],some [.hol (.int IntKind.i16),.hol (.int IntKind.i16),.hol (.int IntKind.i32),.hol (.sl 212 aW),.hol (.int IntKind.i32),.hol (.int IntKind.i32),.hol (.sl 221 ax),.hol (.int IntKind.i32),.hol (.sl 230 au)]]⟩,[(.ret,⟨(bQ (.one (.hol .bool)::ag (ag ([])))),[]⟩),(.exit 0,⟨(.any::ag (ag (bQ []))),[]⟩)]⟩
def TX (d:rB.st.den):Tr (aJ rB.xs):=
 .ite (decide (d.1.1=0)&&(C7 (c9 d.2.1)&&C7 (c9 d.2.2.1))) (.ite (VR (c9 d.2.1) (c9 d.2.2.1)) (.ret (.pan (.ret ((),((),()))))) (.ret (.ret ((),((false,()),()))))) .no
theorem oC (l:List Nd):dJ (bw l)=((l.length:Int) == 0):=by
 unfold dJ
 by_cases h:l=[]
 ·subst h;rfl
 ·have h1:l.length≠0:=by simpa using h
  have h2:((l.length:Int) == 0)=false:=by simpa using h
  rw[h2]
  exact if_neg h1
theorem Cw {n:Nd}{b:Bool}(h:n.kids.all dJ=b):eU n=b:=by
 unfold eU
 rw[h]
 cases b <;> rfl
theorem Po (m:tB.den):eU (lR m)=nB m:=by
 unfold lR
 refine Cw ?_
 show (List.all [bw (m.1.map iL),aF 3 m.2.1] dJ)=_
 simp only[List.all_cons,List.all_nil]
 rw[oC,bI,List.length_map]
 unfold nB
 simp only[Bool.and_true]
 exact Bool.and_comm _ _
theorem Sl (m:eS.den):eU (oF m)=nw m:=by
 unfold oF
 refine Cw ?_
 show (List.all [aF 3 m.1,bw (m.2.1.map lk)] dJ)=_
 simp only[List.all_cons,List.all_nil]
 rw[bI,oC,List.length_map]
 unfold nw
 simp only[Bool.and_true]
theorem Sm (m:da.den):eU (oG m)=ny m:=by
 unfold oG
 refine Cw ?_
 show (List.all [aF 3 m.1,bw (m.2.1.map lu)] dJ)=_
 simp only[List.all_cons,List.all_nil]
 rw[bI,oC,List.length_map]
 unfold ny
 simp only[Bool.and_true]
theorem QQ (c:fJ.den):Tx c=jf c:=by
 have e0:eU (dp c 0)=nB c.2.2.2.1:=Po _
 have e1:eU (dp c 1)=nw c.2.2.2.2.1:=Sl _
 have e2:eU (dp c 2)=ny c.2.2.2.2.2.1:=Sm _
 unfold Tx jf
 rw[e0,e1,e2]
 cases nB c.2.2.2.1 <;> cases nw c.2.2.2.2.1 <;> cases ny c.2.2.2.2.2.1 <;> by_cases h0:c.1=0 <;> by_cases h1:c.1=1 <;> by_cases h2:c.1=2 <;> simp[h0,h1,h2]
theorem Na (c:fJ.den)(h:c.1=0∨c.1=1∨c.1=2):jK c=qC c.1 true c.2.1 (dp c c.1):=by
 unfold jK dp
 rcases h with h | h | h
 ·rw[if_pos h,if_pos h,h]
  unfold fa;rfl
 ·have n0:¬ c.1=0:=fun e=>absurd (h.symm.trans e) (by decide)
  rw[if_neg n0,if_pos h,if_neg n0,if_pos h,h]
  unfold i5;rfl
 ·have n0:¬ c.1=0:=fun e=>absurd (h.symm.trans e) (by decide)
  have n1:¬ c.1=1:=fun e=>absurd (h.symm.trans e) (by decide)
  rw[if_neg n0,if_neg n1,if_neg n0,if_neg n1,h]
  unfold dN;rfl
theorem LD (c:fJ.den):gH c=C6 c:=by
 unfold gH C6
 rw[QQ]
 by_cases h1:ez c.1 c.2.1=0
 ·rw[if_neg (not_not_intro h1),if_neg (not_not_intro h1),Na c (xI h1)]
  cases jf c with
  |false=>rw[if_pos rfl,if_neg (by decide)]
  |true=>rw[if_neg (by decide),if_pos rfl]
 ·rw[if_pos h1,if_pos h1]
def iP (c:fJ.den):List Int×Int:=if ez c.1 c.2.1≠0 then ([],ez c.1 c.2.1) else if jf c=false then ([],7) else
 if (dN c.2.1 c.2.2.2.2.2.1).2≠0 then ([],(dN c.2.1 c.2.2.2.2.2.1).2) else (aE c.2.2.1 4++(dN c.2.1 c.2.2.2.2.2.1).1,0)
abbrev j1:Io:=⟨[.dat fJ true false],[],[],[dO,dI],none⟩
def Bu (d:j1.In):Tr j1.Res:=.ite (decide (d.1.1.1=2)) (.ret (.ret (((iP d.1.1).1,((iP d.1.1).2,())),()))) .no
abbrev Eb:List (Nat×Hc):=[(40,af fV p4),(60,af nX BB),(46,af ld zd),(48,af lc zc),(49,af kg vR),(50,af fP oM)]
def Ok:Hd:=bR Eb
def E2:Lp:=bJ []
def vY (a0 a1 a2:Int)(a3:List aW.den)(a4 a5:Int)(a6:List ax.den)(a7:Int)(a8:List au.den):Option j1.Res:=bif ez a0 a1 != 0 then some (Out.ret (([],ez a0 a1,()),())) else bif bif !!bif !a0 == 0 then a4 == 0&&Decidable.rec (fun (h:¬(↑(List.length (((a0,a1,a2,(a3,a4,()),(a5,a6,()),(a7,a8,()),()),()),()).1.1.2.2.2.1.1):Int)=0)=>false) (fun (h:(↑(List.length (((a0,a1,a2,(a3,a4,()),(a5,a6,()),(a7,a8,()),()),()),()).1.1.2.2.2.1.1):Int)=0)=>true) ((↑(List.length (((a0,a1,a2,(a3,a4,()),(a5,a6,()),(a7,a8,()),()),()),()).1.1.2.2.2.1.1):Int).instDecidableEq 0) else true then bif !!bif !a0 == 1 then a5 == 0&&Decidable.rec (fun (h:¬(↑(List.length (((a0,a1,a2,(a3,a4,()),(a5,a6,()),(a7,a8,()),()),()),()).1.1.2.2.2.2.1.2.1):Int)=0)=>false) (fun (h:(↑(List.length (((a0,a1,a2,(a3,a4,()),(a5,a6,()),(a7,a8,()),()),()),()).1.1.2.2.2.2.1.2.1):Int)=0)=>true) ((↑(List.length (((a0,a1,a2,(a3,a4,()),(a5,a6,()),(a7,a8,()),()),()),()).1.1.2.2.2.2.1.2.1):Int).instDecidableEq 0) else true then !bif !a0 == 2 then a7 == 0&&Decidable.rec (fun (h:¬(↑(List.length (((a0,a1,a2,(a3,a4,()),(a5,a6,()),(a7,a8,()),()),()),()).1.1.2.2.2.2.2.1.2.1):Int)=0)=>false) (fun (h:(↑(List.length (((a0,a1,a2,(a3,a4,()),(a5,a6,()),(a7,a8,()),()),()),()).1.1.2.2.2.2.2.1.2.1):Int)=0)=>true) ((↑(List.length (((a0,a1,a2,(a3,a4,()),(a5,a6,()),(a7,a8,()),()),()),()).1.1.2.2.2.2.2.1.2.1):Int).instDecidableEq 0) else true else true else true then some (Out.ret (([],7,()),())) else bif a0 == 0 then none else bif a0 == 1 then none else bif a0 == 2 then bif (dN (IntKind.i64.wrap a1) (a7,a8,())).2 != 0 then some (Out.ret (([],(dN (IntKind.i64.wrap a1) (a7,a8,())).2,()),())) else bif bc (ay [] (ai (ah 131072 0) 1048576) a2 4).2 (ai (ah 131072 0) 1048576)&&decide (aN [(dN (IntKind.i64.wrap a1) (a7,a8,())).1]≤4294960000) then bif decide ((bb (ay [] (ai (ah 131072 0) 1048576) a2 4).2 (ai (ah 131072 0) 1048576) [(dN (IntKind.i64.wrap a1) (a7,a8,())).1]).2.length≤4294967296) then some (Out.ret (((bb (ay [] (ai (ah 131072 0) 1048576) a2 4).2 (ai (ah 131072 0) 1048576) [(dN (IntKind.i64.wrap a1) (a7,a8,())).1]).2,0,()),())) else none else none else bif bc (ay [] (ai (ah 131072 0) 1048576) a2 4).2 (ai (ah 131072 0) 1048576)&&decide (aN [[]]≤4294960000) then bif decide ((bb (ay [] (ai (ah 131072 0) 1048576) a2 4).2 (ai (ah 131072 0) 1048576) [[]]).2.length≤4294967296) then some (Out.ret (((bb (ay [] (ai (ah 131072 0) 1048576) a2 4).2 (ai (ah 131072 0) 1048576) [[]]).2,0,()),())) else none else none
theorem LH (a0 a1 a2:Int)(a3:List aW.den)(a4 a5:Int)(a6:List ax.den)(a7:Int)(a8:List au.den):Io.run tt Ok XF E2 j1 Tryz.f18 (((a0,a1,a2,(a3,a4,()),(a5,a6,()),(a7,a8,()),()),()),())=vY a0 a1 a2 a3 a4 a5 a6 a7 a8:=by kernel_rfl
theorem Pt:HcOk prog 18 (af j1 Bu):=by
 refine sF (n:=400) hm (cs:=Eb) (.cons rK (.cons FA (.cons CM (.cons CL (.cons xr (.cons rM .nil)))))) (lp:=E2) (fn:=Tryz.f18) (by kernel_rfl) (by kernel_rfl) (by kernel_rfl) j1 (.done (by kernel_rfl)) Bu ?_
 rintro ⟨⟨⟨(k:Int),(v:Int),(co:Int),⟨(pt:List aW.den),(ph:Int),⟨⟩⟩,⟨(fh:Int),(ft:List ax.den),⟨⟩⟩,⟨(lh:Int),(lt:List au.den),⟨⟩⟩,⟨⟩⟩,⟨⟩⟩,⟨⟩⟩ out hw ho
 obtain ⟨hg,ho⟩:=Tr.guard ho
 have hg:k=2:=of_decide_eq_true hg
 cases ho
 refine (LH k v co pt ph fh ft lh lt).trans ?_
 unfold vY
 have hv:IntKind.i64.wrap v=v:=jq hw.1.1.2.1
 rw[hv]
 show _=some (Out.ret (((iP (k,(v,(co,((pt,(ph,())),((fh,(ft,())),((lh,(lt,())),()))))))).1,((iP (k,(v,(co,((pt,(ph,())),((fh,(ft,())),((lh,(lt,())),()))))))).2,())),()))
 unfold iP
 dsimp only
 by_cases h1:ez k v=0
 ·rw[ae (by simpa using h1),if_neg (not_not_intro h1)]
  show (bif (bif !!(bif !(k == 0) then nB (pt,(ph,())) else true) then (bif !!(bif !(k == 1) then nw (fh,(ft,())) else true) then !(bif !(k == 2) then ny (lh,(lt,())) else true) else true) else true) then _ else _)=_
  rw[D4 k v co pt ph fh lh ft lt]
  generalize jf (k,(v,(co,((pt,(ph,())),((fh,(ft,())),((lh,(lt,())),()))))))=ot
  cases ot with
  |false=>rw[Bool.not_false,cond_true,if_pos rfl]
  |true=>
   rw[Bool.not_true,cond_false,if_neg (by decide)]
   have lo:(dN v (lh,(lt,()))).1.length≤130048:=by unfold dN;exact iY _ _ _ _
   have k0:k≠0:=by omega
   have k1:k≠1:=by omega
   rw[ae (by simpa using k0)]
   rw[ae (by simpa using k1)]
   have k2:k=2:=hg
   rw[aa (by simpa using k2)]
   by_cases h4:(dN v (lh,(lt,()))).2=0
   ·rw[ae (by simpa using h4),if_neg (not_not_intro h4)]
    exact uV co _ lo
   ·rw[aa (by simpa using h4),if_pos h4]
 ·rw[aa (by simpa using h1),if_pos h1]
def ey (b:List Int):fb.den×Int:=
 if (aO b 0).2.2≠0 then (nQ,(aO b 0).2.2) else
 (if (ei (aO b 0).1.2.1 (b.drop (aO b 0).2.1.toNat)).2≠0 then (nQ,(ei (aO b 0).1.2.1 (b.drop (aO b 0).2.1.toNat)).2) else (sG (aO b 0).1 s9 KR (ei (aO b 0).1.2.1 (b.drop (aO b 0).2.1.toNat)).1,0))
abbrev my:Io:=⟨[dL],[],[],[.dat fb true false,dI],none⟩
def GE (d:my.In):Tr my.Res:=.ite (decide (d.1.1.length≤4294960000)&&decide ((aO d.1.1 0).1.1=2)) (.ret (.ret (((ey d.1.1).1,((ey d.1.1).2,())),()))) .no
abbrev I1:List (Nat×Hc):=[(61,af gy p5),(62,af iT uQ),(64,af e8 l9),(63,af e9 ma),(67,af iW uT)]
def RD:Hd:=bR I1
def JC:Lp:=bJ []
def zl (a0:List Int):Option my.Res:=bif decide (a0.length≤4294967296) then bif bg a0 0 then bif (aO a0 0).2.2 != 0 then some (Out.ret (((0,0,0,(false,[],()),((false,[],()),0,0,[],()),(0,0,0,0,0,[],()),(0,0,[],()),()),(aO a0 0).2.2,()),())) else bif bg a0 (aO a0 0).2.1 then bif (aO a0 0).1.1 == 0 then none else bif (aO a0 0).1.1 == 1 then none else bif (aO a0 0).1.1 == 2 then bif (ei (IntKind.i64.wrap (aO a0 0).1.2.1) (aG a0 (aO a0 0).2.1 (IntKind.i64.wrap ((↑a0.length:Int) - (aO a0 0).2.1))).1).2 != 0 then some (Out.ret (((0,0,0,(false,[],()),((false,[],()),0,0,[],()),(0,0,0,0,0,[],()),(0,0,[],()),()),(ei (IntKind.i64.wrap (aO a0 0).1.2.1) (aG a0 (aO a0 0).2.1 (IntKind.i64.wrap ((↑a0.length:Int) - (aO a0 0).2.1))).1).2,()),())) else some (Out.ret ((((aO a0 0).1.1,(aO a0 0).1.2.1,(aO a0 0).1.2.2.1,(aO a0 0).1.2.2.2,((false,[],()),0,0,[],()),(0,0,0,0,0,[],()),(ei (IntKind.i64.wrap (aO a0 0).1.2.1) (aG a0 (aO a0 0).2.1 (IntKind.i64.wrap ((↑a0.length:Int) - (aO a0 0).2.1))).1).1,()),0,()),())) else bif (aO a0 0).2.2 != 0 then some (Out.ret (((0,0,0,(false,[],()),((false,[],()),0,0,[],()),(0,0,0,0,0,[],()),(0,0,[],()),()),(aO a0 0).2.2,()),())) else some (Out.ret ((((aO a0 0).1.1,(aO a0 0).1.2.1,(aO a0 0).1.2.2.1,(aO a0 0).1.2.2.2,((false,[],()),0,0,[],()),(0,0,0,0,0,[],()),(0,0,[],()),()),0,()),())) else none else none else none
theorem PT (a0:List Int):Io.run tt RD dr JC my Tryz.f20 ((a0,()),())=zl a0:=by kernel_rfl
theorem Sq:HcOk prog 20 (af my GE):=by
 refine ao (n:=400) hm (cs:=I1) (.cons rL (.cons Ft (.cons lK (.cons n7 (.cons Fx .nil))))) (lp:=JC) (fn:=Tryz.f20) (by kernel_rfl) (by kernel_rfl) (by kernel_rfl) my (.done (by kernel_rfl)) GE ?_
 rintro ⟨⟨(b:List Int),⟨⟩⟩,⟨⟩⟩ out hw ho
 obtain ⟨hg,ho⟩:=Tr.guard ho
 obtain ⟨hg,h2⟩:=Bool.and_eq_true_iff.1 hg
 have hg:b.length≤4294960000:=of_decide_eq_true hg
 have h2:(aO b 0).1.1=2:=of_decide_eq_true h2
 cases ho
 refine (PT b).trans ?_
 unfold zl
 show _=some (Out.ret (((ey b).1,((ey b).2,())),()))
 have g0:bg b 0=true:=by simp[bg];omega
 have g1:=Kp g0
 have hl:IntKind.i64.wrap ((b.length:Int) - (aO b 0).2.1)=(b.length:Int) - (aO b 0).2.1:=by
  unfold bg at g1
  simp only[Bool.and_eq_true,decide_eq_true_eq] at g1
  exact bx (by omega) (by omega)
 rw[hl,tn g1,F1]
 refine (aa (decide_eq_true (show b.length≤4294967296 by omega)) _ _).trans ?_
 refine (aa g0 _ _).trans ?_
 unfold ey
 generalize aO b 0=r at g1 h2 ⊢
 obtain ⟨⟨k,v,co,n⟩,q,e⟩:=r
 have g1:bg b q=true:=g1
 have k2:k=2:=h2
 dsimp only
 generalize b.drop q.toNat=rest
 by_cases h1:e=0
 ·rw[ae (by simpa using h1),if_neg (not_not_intro h1),aa g1]
  have k0:k≠0:=by omega
  have k1:k≠1:=by omega
  rw[ae (by simpa using k0)]
  rw[ae (by simpa using k1)]
  rw[aa (by simpa using k2)]
  by_cases hd:(ei v rest).2=0
  ·rw[ae (by simpa using hd),if_neg (not_not_intro hd)]
  ·rw[aa (by simpa using hd),if_pos hd]
 ·rw[aa (by simpa using h1),if_pos h1]
def jL (k v:Int)(b:List Int):fJ.den×Int:=
 if ez k v≠0 then (PR,ez k v) else if (am b 0 4).2.2≠0 then (PR,(am b 0 4).2.2) else
 (if (l6 v (b.drop (am b 0 4).2.1.toNat)).2≠0 then (PR,(l6 v (b.drop (am b 0 4).2.1.toNat)).2) else (WW k v (IntKind.i32.wrap (am b 0 4).1) nC Dk (l6 v (b.drop (am b 0 4).2.1.toNat)).1,0))
abbrev j0:Io:=⟨[N1,N1,dL],[],[],[.dat fJ true false,dI],none⟩
def Bt (d:j0.In):Tr j0.Res:=.ite (decide (d.1.2.2.1.length≤4294960000)&&decide (d.1.1=2)) (.ret (.ret (((jL d.1.1 d.1.2.1 d.1.2.2.1).1,((jL d.1.1 d.1.2.1 d.1.2.2.1).2,())),()))) .no
abbrev Ea:List (Nat×Hc):=[(40,af fV p4),(61,af gy p5),(74,af jz vN),(64,af e8 l9),(63,af e9 ma),(77,af j5 Bz)]
def Oj:Hd:=bR Ea
def E1:Lp:=bJ []
def vX (a0 a1:Int)(a2:List Int):Option j0.Res:=bif ez a0 a1 != 0 then some (Out.ret (((0,0,0,([],0,()),(0,[],()),(0,[],()),()),ez a0 a1,()),())) else bif decide (a2.length≤4294967296) then bif bg a2 0 then bif (am a2 0 4).2.2 != 0 then some (Out.ret (((0,0,0,([],0,()),(0,[],()),(0,[],()),()),(am a2 0 4).2.2,()),())) else bif bg a2 (am a2 0 4).2.1 then bif a0 == 0 then none else bif a0 == 1 then none else bif a0 == 2 then bif (l6 (IntKind.i64.wrap a1) (aG a2 (am a2 0 4).2.1 (IntKind.i64.wrap ((↑a2.length:Int) - (am a2 0 4).2.1))).1).2 != 0 then some (Out.ret (((0,0,0,([],0,()),(0,[],()),(0,[],()),()),(l6 (IntKind.i64.wrap a1) (aG a2 (am a2 0 4).2.1 (IntKind.i64.wrap ((↑a2.length:Int) - (am a2 0 4).2.1))).1).2,()),())) else some (Out.ret (((a0,a1,IntKind.i32.wrap (am a2 0 4).1,([],0,()),(0,[],()),(l6 (IntKind.i64.wrap a1) (aG a2 (am a2 0 4).2.1 (IntKind.i64.wrap ((↑a2.length:Int) - (am a2 0 4).2.1))).1).1,()),0,()),())) else bif (am a2 0 4).2.2 != 0 then some (Out.ret (((0,0,0,([],0,()),(0,[],()),(0,[],()),()),(am a2 0 4).2.2,()),())) else some (Out.ret (((a0,a1,IntKind.i32.wrap (am a2 0 4).1,([],0,()),(0,[],()),(0,[],()),()),0,()),())) else none else none else none
theorem LG (a0 a1:Int)(a2:List Int):Io.run tt Oj dr E1 j0 Tryz.f22 ((a0,a1,a2,()),())=vX a0 a1 a2:=by kernel_rfl
theorem Pq:HcOk prog 22 (af j0 Bt):=by
 refine ao (n:=400) hm (cs:=Ea) (.cons rK (.cons rL (.cons CK (.cons lK (.cons n7 (.cons Px .nil)))))) (lp:=E1) (fn:=Tryz.f22) (by kernel_rfl) (by kernel_rfl) (by kernel_rfl) j0 (.done (by kernel_rfl)) Bt ?_
 rintro ⟨⟨(k:Int),(v:Int),(b:List Int),⟨⟩⟩,⟨⟩⟩ out hw ho
 obtain ⟨hg,ho⟩:=Tr.guard ho
 obtain ⟨hg,k2⟩:=Bool.and_eq_true_iff.1 hg
 have hg:b.length≤4294960000:=of_decide_eq_true hg
 have k2:k=2:=of_decide_eq_true k2
 cases ho
 refine (LG k v b).trans ?_
 unfold vX
 show _=some (Out.ret (((jL k v b).1,((jL k v b).2,())),()))
 have g0:bg b 0=true:=by simp[bg];omega
 have g1:=rX 4 g0
 have hl:IntKind.i64.wrap ((b.length:Int) - (am b 0 4).2.1)=(b.length:Int) - (am b 0 4).2.1:=by
  unfold bg at g1
  simp only[Bool.and_eq_true,decide_eq_true_eq] at g1
  exact bx (by omega) (by omega)
 have hv:IntKind.i64.wrap v=v:=jq hw.1.2.1
 rw[hl,tn g1,hv]
 unfold jL
 by_cases h0:ez k v=0
 ·rw[ae (by simpa using h0),if_neg (not_not_intro h0),aa (decide_eq_true (show b.length≤4294967296 by omega)),aa g0]
  generalize am b 0 4=r at g1 ⊢
  obtain ⟨co,q,e⟩:=r
  have g1:bg b q=true:=g1
  dsimp only
  generalize b.drop q.toNat=rest
  by_cases h1:e=0
  ·rw[ae (by simpa using h1),if_neg (not_not_intro h1),aa g1]
   have k0:k≠0:=by omega
   have k1:k≠1:=by omega
   rw[ae (by simpa using k0)]
   rw[ae (by simpa using k1)]
   rw[aa (by simpa using k2)]
   by_cases hd:(l6 v rest).2=0
   ·rw[ae (by simpa using hd),if_neg (not_not_intro hd)]
   ·rw[aa (by simpa using hd),if_pos hd]
  ·rw[aa (by simpa using h1),if_pos h1]
 ·rw[aa (by simpa using h0),if_pos h0]
theorem Nl:ey [0,2,0,1,0,0,0,7,0,1,99,255,255,255,255,0,0,0,0]=((2,(1,(7,((false,([99],())),(((false,([],())),(0,(0,(([]:List aB.den),())))),((0,(0,(0,(0,(0,(([]:List al.den),())))))),((-1,(0,(([]:List aj.den),()))),()))))))),0):=by kernel_rfl
theorem Nn:iP (2,(1,(7,(nC,(Dk,(CN,()))))))=([0,0,0,7,0,0,0,0],0):=by
 have w1:dN 1 CN=([0,0,0,0],0):=(HH (v:=1) (m:=CN) ⟨⟨by decide,by decide⟩,⟨Nat.zero_le _,fun x h=>absurd h (by simp)⟩,trivial⟩).symm.trans (by kernel_rfl)
 have h1:ez 2 1=0:=by kernel_rfl
 have h3:jf (2,(1,(7,(nC,(Dk,(CN,()))))))=true:=by kernel_rfl
 unfold iP
 rw[h1,h3,w1]
 rfl
theorem Nm:jL 2 1 [0,0,0,7,0,0,0,0]=((2,(1,(7,(nC,(Dk,(CN,())))))),0):=by kernel_rfl
theorem No:gd (2,(1,(7,((false,([99],())),(((false,([],())),(0,(0,(([]:List aB.den),())))),((0,(0,(0,(0,(0,(([]:List al.den),())))))),((-1,(0,(([]:List aj.den),()))),())))))))=([0,2,0,1,0,0,0,7,0,1,99,255,255,255,255,0,0,0,0],0):=by
 have w1:fI 1 (-1,(0,(([]:List aj.den),())))=([255,255,255,255,0,0,0,0],0):=(PN (v:=1) (m:=(-1,(0,(([]:List aj.den),())))) ⟨⟨by decide,by decide⟩,⟨by decide,by decide⟩,⟨Nat.zero_le _,fun x h=>absurd h (by simp)⟩,trivial⟩).symm.trans (by kernel_rfl)
 have hb:kT (2,(1,(7,((false,([99],())),(((false,([],())),(0,(0,(([]:List aB.den),())))),((0,(0,(0,(0,(0,(([]:List al.den),())))))),((-1,(0,(([]:List aj.den),()))),())))))))=([255,255,255,255,0,0,0,0],0):=((if_neg (by decide)).trans (if_neg (by decide))).trans w1
 have h1:ez 2 1=0:=by kernel_rfl
 have h2:rR (false,([99],()))=0:=by kernel_rfl
 have h3:lS (2,(1,(7,((false,([99],())),(((false,([],())),(0,(0,(([]:List aB.den),())))),((0,(0,(0,(0,(0,(([]:List al.den),())))))),((-1,(0,(([]:List aj.den),()))),())))))))=true:=by kernel_rfl
 unfold gd
 rw[hb,h3]
 dsimp only
 rw[h1,h2]
 rfl
abbrev j3:Io:=⟨[],[],[],[dB],none⟩
def Bw (d:j3.In):Tr j3.Res:=.ret (.ret ((true,()),()))
abbrev Ec:List (Nat×Hc):=[(11,af nV IH),(20,af my GE),(13,af iU uR),(18,af j1 Bu),(22,af j0 Bt),(28,af mw Dl)]
def Ol:Hd:=bR Ec
def E3:Lp:=bJ []
def vZ:Option j3.Res:=bif decide ((ey [0,2,0,1,0,0,0,7,0,1,99,255,255,255,255,0,0,0,0]).1.1=2) then bif (gd (2,1,7,(false,[99],()),((false,[],()),0,0,[],()),(0,0,0,0,0,[],()),(-1,0,[],()),())).2 != 0 then some (Out.ret ((false,()),())) else bif (ey [0,2,0,1,0,0,0,7,0,1,99,255,255,255,255,0,0,0,0]).2 != 0 then some (Out.ret ((false,()),())) else bif (iP ((ey [0,2,0,1,0,0,0,7,0,1,99,255,255,255,255,0,0,0,0]).1.1,(ey [0,2,0,1,0,0,0,7,0,1,99,255,255,255,255,0,0,0,0]).1.2.1,(ey [0,2,0,1,0,0,0,7,0,1,99,255,255,255,255,0,0,0,0]).1.2.2.1,([],0,()),(0,[],()),(0,[],()),())).2 != 0 then some (Out.ret ((false,()),())) else bif (jL 2 1 [0,0,0,7,0,0,0,0]).2 != 0 then some (Out.ret ((false,()),())) else bif (ey [0,2,0,1,0,0,0,7,0,1,99,255,255,255,255,0,0,0,0]).1.2.2.1 != 7 then some (Out.ret ((false,()),())) else bif (jL 2 1 [0,0,0,7,0,0,0,0]).1.2.2.1 != 7 then some (Out.ret ((false,()),())) else bif decide ((gd (2,1,7,(false,[99],()),((false,[],()),0,0,[],()),(0,0,0,0,0,[],()),(-1,0,[],()),())).1=[0,2,0,1,0,0,0,7,0,1,99,255,255,255,255,0,0,0,0]) then some (Out.ret ((decide ((iP ((ey [0,2,0,1,0,0,0,7,0,1,99,255,255,255,255,0,0,0,0]).1.1,(ey [0,2,0,1,0,0,0,7,0,1,99,255,255,255,255,0,0,0,0]).1.2.1,(ey [0,2,0,1,0,0,0,7,0,1,99,255,255,255,255,0,0,0,0]).1.2.2.1,([],0,()),(0,[],()),(0,[],()),())).1=[0,0,0,7,0,0,0,0]),()),())) else some (Out.ret ((false,()),())) else none
theorem LI:Io.run tt Ol dr E3 j3 Tryz.f8 ((),())=vZ:=by kernel_rfl
theorem Pu:HcOk prog 8 (af j3 Bw):=by
 refine ao (n:=400) hm (cs:=Ec) (.cons Ps (.cons Sq (.cons Fu (.cons Pt (.cons Pq (.cons Cy .nil)))))) (lp:=E3) (fn:=Tryz.f8) (by kernel_rfl) (by kernel_rfl) (by kernel_rfl) j3 (.done (by kernel_rfl)) Bw ?_
 rintro ⟨⟨⟩,⟨⟩⟩ out hw ho
 cases ho
 refine LI.trans ?_
 unfold vZ
 rw[No,Nl]
 show (bif (iP (2,(1,(7,(nC,(Dk,(CN,()))))))).2 != 0 then _ else _)=_
 rw[Nn]
 show (bif (0:Int) != 0 then _ else (bif (jL 2 1 [0,0,0,7,0,0,0,0]).2 != 0 then _ else _))=_
 rw[Nm]
 rfl
theorem HK (c:fJ.den):(gH c).1.length≤140000:=by
 rw[LD]
 unfold C6
 have hy:(qC c.1 true c.2.1 (dp c c.1)).1.length≤130048:=iY _ _ _ _
 split
 ·simp
 ·split
  ·split
   ·simp
   ·simp only[List.length_append,di]
    omega
  ·simp
theorem lN (x k:Int):∀(n m:Nat),m≤n→aE (x+256 ^ n*k) m=aE x m
 |_,0,_=>rfl
 |n,m+1,h=>by
  rw[aE,aE,lN x k n m (by omega)]
  congr 1
  have hp:(256:Int) ^ n=256 ^ m*(256*256 ^ (n - m - 1)):=by
   rw[← Int.pow_succ',← Int.pow_add]
   congr 1;omega
  have hq:(256:Int) ^ m≠0:=Int.ne_of_gt (Int.pow_pos (by decide))
  rw[hp,Int.mul_assoc,Int.add_mul_ediv_left _ _ hq,Int.mul_assoc,Int.add_mul_emod_self_left]
theorem Ob (l:List Int):∀v:Int,l.foldl (fun v c=>v*256+c) v=v*256 ^ l.length+bC l:=by
 induction l with
 |nil=>intro v;simp[bC]
 |cons c l ih=>
  intro v
  unfold bC
  rw[List.foldl_cons,List.foldl_cons,ih,ih (0*256+c),List.length_cons,Int.pow_succ,Int.add_mul,Int.zero_mul,Int.zero_add,Int.mul_assoc,Int.mul_comm 256]
  omega
theorem ou:∀{l:List Int},byteR l→aE (bC l) l.length=l
 |[],_=>rfl
 |c::l,h=>by
  have hc:=h c (by simp)
  have hl:byteR l:=fun d hd=>h d (by simp[hd])
  have hb:=un l fun d hd=>⟨(hl d hd).1,by have:=(hl d hd).2;omega⟩
  have e:bC (c::l)=bC l+256 ^ l.length*c:=by
   have:=Ob l (0*256+c)
   unfold bC
   rw[List.foldl_cons,this,Int.zero_mul,Int.zero_add,Int.mul_comm]
   unfold bC;omega
  have hq:(0:Int)<256 ^ l.length:=Int.pow_pos (by decide)
  rw[List.length_cons,aE,e,lN _ _ _ _ (Nat.le_refl _),ou hl,Int.add_mul_ediv_left _ _ (Int.ne_of_gt hq),Int.ediv_eq_zero_of_lt hb.1 hb.2]
  congr 1
  omega
theorem Xm {l:List Int}(h:byteR l)(hl:l.length=1):aE (IntKind.i8.wrap (bC l)) 1=l:=by
 have key:∃t,IntKind.i8.wrap (bC l)=bC l+256 ^ 1*t:=⟨(IntKind.i8.wrap (bC l) - bC l) / 256,by simp[IntKind.wrap,IntKind.min,IntKind.max,IntKind.signed,IntKind.bits];omega⟩
 obtain ⟨t,e⟩:=key
 rw[e,lN _ _ _ _ (Nat.le_refl _)]
 have:=ou h;rw[hl] at this;exact this
theorem V3 {l:List Int}(h:byteR l)(hl:l.length=2):aE (IntKind.i16.wrap (bC l)) 2=l:=by
 have key:∃t,IntKind.i16.wrap (bC l)=bC l+256 ^ 2*t:=⟨(IntKind.i16.wrap (bC l) - bC l) / 65536,by simp[IntKind.wrap,IntKind.min,IntKind.max,IntKind.signed,IntKind.bits];omega⟩
 obtain ⟨t,e⟩:=key
 rw[e,lN _ _ _ _ (Nat.le_refl _)]
 have:=ou h;rw[hl] at this;exact this
theorem V4 {l:List Int}(h:byteR l)(hl:l.length=4):aE (IntKind.i32.wrap (bC l)) 4=l:=by
 have key:∃t,IntKind.i32.wrap (bC l)=bC l+256 ^ 4*t:=⟨(IntKind.i32.wrap (bC l) - bC l) / 4294967296,by simp[IntKind.wrap,IntKind.min,IntKind.max,IntKind.signed,IntKind.bits];omega⟩
 obtain ⟨t,e⟩:=key
 rw[e,lN _ _ _ _ (Nat.le_refl _)]
 have:=ou h;rw[hl] at this;exact this
theorem V5 {l:List Int}(h:byteR l)(hl:l.length=8):aE (IntKind.i64.wrap (bC l)) 8=l:=by
 have key:∃t,IntKind.i64.wrap (bC l)=bC l+256 ^ 8*t:=⟨(IntKind.i64.wrap (bC l) - bC l) / 18446744073709551616,by simp[IntKind.wrap,IntKind.min,IntKind.max,IntKind.signed,IntKind.bits];omega⟩
 obtain ⟨t,e⟩:=key
 rw[e,lN _ _ _ _ (Nat.le_refl _)]
 have:=ou h;rw[hl] at this;exact this
def Wd (k:IntKind)(n:Nat):Prop:=∀l,byteR l→l.length=n→aE (k.wrap (bC l)) n=l
theorem XT:Wd .i8 1:=fun _=>Xm
theorem ME:Wd .i16 2:=fun _=>V3
theorem pE:Wd .i32 4:=fun _=>V4
theorem Xj:Wd .i64 8:=fun _=>V5
theorem byteR.drop {b:List Int}(h:byteR b)(n:Nat):byteR (b.drop n):=fun c hc=>h c (List.mem_of_mem_drop hc)
theorem byteR.take {b:List Int}(h:byteR b)(n:Nat):byteR (b.take n):=fun c hc=>h c (List.mem_of_mem_take hc)
structure Ras {α:Type} (b:List Int) (w:α→List Int×Int) (G:α→Prop) (f:aC→α×aC):Prop where
 ok:∀p:Nat,p≤b.length→(f (0,(p:Int))).2.1=0→∃(x:α) (q:Nat),f (0,(p:Int))=(x,(0,(q:Int)))∧q≤b.length∧(w x).2=0∧b.drop p=(w x).1++b.drop q∧G x
 dead:∀s,s.1≠0→(f s).2.1≠0
theorem oz {a b:List Int×Int}(h1:a.2=0)(h2:b.2=0):aI a b=(a.1++b.1,0):=by
 unfold aI
 rw[if_neg (not_not_intro h1),if_neg (not_not_intro h2)]
theorem Ras.seq {α β:Type}{b:List Int}{w1:α→List Int×Int}{w2:β→List Int×Int}{G1:α→Prop}{G2:β→Prop}{f:aC→α×aC}{g:aC→β×aC}(hf:Ras b w1 G1 f)(hg:Ras b w2 G2 g):
  Ras b (fun z:α×β=>aI (w1 z.1) (w2 z.2)) (fun z=>G1 z.1∧G2 z.2) fun s=>(((f s).1,(g (f s).2).1),(g (f s).2).2) where
 ok:=fun p hp h=>by
  by_cases h1:(f (0,(p:Int))).2.1=0
  ·obtain ⟨x,q,e,hq,hw,hd,hG⟩:=hf.ok p hp h1
   rw[e] at h ⊢
   dsimp only at h ⊢
   obtain ⟨y,q2,e2,hq2,hw2,hd2,hG2⟩:=hg.ok q hq h
   rw[e2]
   refine ⟨_,q2,rfl,hq2,?_,?_,hG,hG2⟩
   ·dsimp only;rw[oz hw hw2]
   ·dsimp only;rw[oz hw hw2,hd,hd2,List.append_assoc]
  ·exact absurd h (hg.dead _ h1)
 dead:=fun s hs=>hg.dead _ (hf.dead s hs)
theorem Ras.nop (b:List Int):Ras b (fun _:Unit=>([],0)) (fun _=>True) fun s=>((),s) where
 ok:=fun p hp _=>⟨(),p,rfl,hp,rfl,rfl,trivial⟩
 dead:=fun s hs=>hs
theorem Ras.map {α β:Type}{b:List Int}{w:α→List Int×Int}{w':β→List Int×Int}{G:α→Prop}{G':β→Prop}{f:aC→α×aC}{f':aC→β×aC}(c:α→β)(h:Ras b w G f)(hw:∀x,w' (c x)=w x)(hG:∀x,G x→G' (c x))(hf:∀s,f' s=(c (f s).1,(f s).2)):Ras b w' G' f' where
 ok:=fun p hp h1=>by
  rw[hf] at h1 ⊢
  obtain ⟨x,q,e,hq,hw1,hd,hg⟩:=h.ok p hp h1
  rw[e]
  exact ⟨c x,q,rfl,hq,by rw[hw];exact hw1,by rw[hw];exact hd,hG x hg⟩
 dead:=fun s hs=>by rw[hf];exact h.dead s hs
theorem Ras.num {b:List Int}{k:IntKind}{n:Nat}(hb:byteR b)(hk:Wd k n):Ras b (fun x=>(aE x n,0)) (cT k) (ac k n b) where
 ok:=fun p hp h=>by
  unfold ac at h ⊢
  rw[if_pos rfl] at h ⊢
  dsimp only at h ⊢
  unfold am at h ⊢
  by_cases h1:(b.length:Int) - (p:Int)<(n:Int)
  ·rw[if_pos h1] at h;cases h
  rw[if_neg h1]
  have hl:((b.drop ((p:Int)).toNat).take n).length=n:=by rw[List.length_take,List.length_drop,Int.toNat_natCast];omega
  refine ⟨_,p+n,rfl,by omega,rfl,?_,cD _ _⟩
  dsimp only
  rw[hk _ ((hb.drop _).take _) hl,Int.toNat_natCast,← List.drop_drop,List.take_append_drop]
 dead:=fun s hs=>by rw[iu _ _ _ hs];exact hs
theorem xP {b:List Int}{a:Int}{p:Nat}(hp:p≤b.length)(h:(bz b a (0,(p:Int))).2.1=0):∃m:Nat,a=m∧p+m≤b.length∧bz b a (0,(p:Int))=((b.drop p).take m,(0,((p+m:Nat):Int))):=by
 unfold bz at h ⊢
 rw[if_pos rfl] at h ⊢
 by_cases h1:a<0
 ·rw[if_pos h1] at h;cases h
 rw[if_neg h1] at h ⊢
 dsimp only at h ⊢
 unfold aG at h ⊢
 rw[if_neg h1] at h ⊢
 by_cases h2:(b.length:Int) - (p:Int)<a
 ·rw[if_pos h2] at h;cases h
 rw[if_neg h2]
 refine ⟨a.toNat,by omega,by omega,?_⟩
 rw[Int.toNat_natCast,show ((p+a.toNat:Nat):Int)=(p:Int)+a by omega]
theorem kU {b:List Int}{a:Int}{s:aC}(h:s.1≠0):(bz b a s).2.1≠0:=by rw[jI b a h];exact h
theorem F7 {n:Int}{s:aC}(h:s.1≠0):(d3 n s).1≠0:=by
 unfold d3
 split
 ·show (4:Int)≠0;decide
 ·exact h
theorem up {b:List Int}{a:Int}{s:aC}(h:s.1≠0):(bU b a s).2.1≠0:=by
 unfold bU
 split
 ·exact kU (F7 h)
 ·show (6:Int)≠0;decide
theorem Id {b:List Int}{a:Int}{p:Nat}(hp:p≤b.length)(h:(bU b a (0,(p:Int))).2.1=0):
  ∃m:Nat,a=m∧m≤255∧p+m≤b.length∧(cM ((b.drop p).take m)).2=true∧bU b a (0,(p:Int))=((b.drop p).take m,(0,((p+m:Nat):Int))):=by
 unfold bU at h ⊢
 by_cases hl:255<a
 ·exfalso
  have e:d3 a (0,(p:Int))=(4,(p:Int)):=by unfold d3;rw[if_pos hl]
  rw[e] at h
  split at h
  ·exact kU (show (4:Int)≠0 by decide) h
  ·cases h
 have e:d3 a (0,(p:Int))=(0,(p:Int)):=by unfold d3;rw[if_neg hl]
 rw[e] at h ⊢
 by_cases hu:(cM (bz b a (0,(p:Int))).1).2=true
 ·rw[if_pos hu] at h ⊢
  obtain ⟨m,e1,e2,e3⟩:=xP hp h
  rw[e3] at hu
  exact ⟨m,e1,by omega,e2,hu,e3⟩
 ·rw[if_neg hu] at h;cases h
theorem dU {b:List Int}{p m:Nat}(h:p+m≤b.length):((b.drop p).take m).length=m:=by rw[List.length_take,List.length_drop];omega
theorem eE {b:List Int}{p m:Nat}:b.drop p=(b.drop p).take m++b.drop (p+m):=by rw[← List.drop_drop,List.take_append_drop]
theorem Ras.str {b:List Int}(hb:byteR b):Ras b gr (fun t=>byteR t∧t.length≤maxLen) (bf b) where
 ok:=fun p hp h=>by
  have hn:=Ras.num (b:=b) hb ME
  unfold bf at h ⊢
  by_cases h1:(ac .i16 2 b (0,(p:Int))).2.1=0
  ·obtain ⟨a,q,e,hq,_,hd,_⟩:=hn.ok p hp h1
   rw[e] at h ⊢
   dsimp only at h ⊢
   obtain ⟨m,rfl,hm,hqm,hu,e2⟩:=Id hq h
   rw[e2]
   have hl:=dU hqm
   have hw:gr ((b.drop q).take m)=(aE ((b.drop q).take m).length 2++(b.drop q).take m,0):=by
    unfold gr
    rw[if_neg (by rw[hu];decide),if_neg (by omega)]
   refine ⟨_,q+m,rfl,hqm,by rw[hw],?_,(hb.drop _).take _,by rw[hl];exact Nat.le_trans hm (by decide)⟩
   rw[hw,hl,List.append_assoc,← eE]
   exact hd
  ·exact absurd h (up h1)
 dead:=fun s hs=>by
  unfold bf
  exact up (by rw[iu _ _ _ hs];exact hs)
theorem Ras.nam {b:List Int}(hb:byteR b):Ras b pS cW.wf (ch b) where
 ok:=fun p hp h=>by
  have hn:=Ras.num (b:=b) hb ME
  have hs:=Ras.str (b:=b) hb
  unfold ch at h ⊢
  by_cases h1:(ac .i16 2 b (0,(p:Int))).1 = -1
  ·rw[if_pos h1] at h ⊢
   obtain ⟨a,q,e,hq,_,hd,_⟩:=hn.ok p hp h
   rw[e] at h1 ⊢
   have h1:a = -1:=h1
   subst h1
   exact ⟨(true,(([]:List Int),())),q,rfl,hq,rfl,hd,trivial,⟨(fun c hc=>absurd hc (by simp):byteR []),Nat.zero_le _⟩,trivial⟩
  ·rw[if_neg h1] at h ⊢
   obtain ⟨t,q,e,hq,hw,hd,hG⟩:=hs.ok p hp h
   rw[e]
   exact ⟨(false,(t,())),q,rfl,hq,hw,hd,trivial,hG,trivial⟩
 dead:=fun s hs=>by
  unfold ch
  rw[if_neg (by rw[iu _ _ _ hs];show ¬(0:Int) = -1;decide)]
  exact (Ras.str (b:=b) hb).dead s hs
theorem Ras.blo {b:List Int}(hb:byteR b):Ras b pN (fun n=>ni.wf n∧n.2.1.length≤2147483647) (cP b) where
 ok:=fun p hp h=>by
  have hn:=Ras.num (b:=b) hb pE
  unfold cP at h ⊢
  by_cases h1:(ac .i32 4 b (0,(p:Int))).1 = -1
  ·rw[if_pos h1] at h ⊢
   obtain ⟨a,q,e,hq,_,hd,_⟩:=hn.ok p hp h
   rw[e] at h1 ⊢
   have h1:a = -1:=h1
   subst h1
   exact ⟨(true,(([]:List Int),())),q,rfl,hq,rfl,hd,⟨trivial,⟨Nat.zero_le _,fun c hc=>by cases hc⟩,trivial⟩,Nat.zero_le _⟩
  ·rw[if_neg h1] at h ⊢
   dsimp only at h ⊢
   by_cases h2:(ac .i32 4 b (0,(p:Int))).2.1=0
   ·obtain ⟨a,q,e,hq,_,hd,ha⟩:=hn.ok p hp h2
    rw[e] at h ⊢
    dsimp only at h ⊢
    obtain ⟨m,rfl,hqm,e2⟩:=xP hq h
    rw[e2]
    have hl:=dU hqm
    have hm:m≤2147483647:=by
     simp only[cT,IntKind.min,IntKind.max,IntKind.signed,IntKind.bits] at ha
     simp at ha;omega
    have hw:pN (false,((b.drop q).take m,()))=(aE ((b.drop q).take m).length 4++(b.drop q).take m,0):=by
     unfold pN
     rw[if_neg (show ¬ false=true by decide)]
    refine ⟨_,q+m,rfl,hqm,by rw[hw],?_,⟨trivial,⟨?_,?_⟩,trivial⟩,?_⟩
    ·rw[hw,hl,List.append_assoc,← eE];exact hd
    ·show ((b.drop q).take m).length≤maxLen
     rw[hl];exact Nat.le_trans hm (by decide)
    ·intro c hc
     have:=(hb.drop q).take m c hc
     show cT .u8 c
     simp[cT,IntKind.min,IntKind.max,IntKind.signed,IntKind.bits];omega
    ·show ((b.drop q).take m).length≤_
     rw[hl];exact hm
   ·exact absurd h (kU h2)
 dead:=fun s hs=>by
  unfold cP
  rw[if_neg (by rw[iu _ _ _ hs];show ¬(0:Int) = -1;decide)]
  exact kU (by rw[iu _ _ _ hs];exact hs)
theorem lT {α:Type}{one:aC→α×aC}:∀(m:Nat) {s:aC},s.1≠0→(cS one m s).2.1≠0
 |0,s,h=>h
 |m+1,s,h=>by rw[cS,if_neg h];exact h
theorem Ras.rep {α:Type}{b:List Int}{w:α→List Int×Int}{G:α→Prop}{one:aC→α×aC}(h1:Ras b w G one):∀(m p:Nat),p≤b.length→(cS one m (0,(p:Int))).2.1=0→
  ∃(xs:List α) (q:Nat),cS one m (0,(p:Int))=(xs,(0,(q:Int)))∧xs.length=m∧q≤b.length∧(kk w xs).2=0∧b.drop p=(kk w xs).1++b.drop q∧∀x∈xs,G x
 |0,p,hp,_=>⟨[],p,rfl,rfl,hp,rfl,rfl,fun x hx=>by cases hx⟩
 |m+1,p,hp,h=>by
  rw[cS,if_pos rfl] at h ⊢
  by_cases h2:(one (0,(p:Int))).2.1=0
  ·obtain ⟨x,q,e,hq,hw,hd,hG⟩:=h1.ok p hp h2
   rw[e] at h ⊢
   dsimp only at h ⊢
   obtain ⟨xs,q2,e2,hl,hq2,hw2,hd2,hG2⟩:=Ras.rep h1 m q hq h
   rw[e2]
   refine ⟨x::xs,q2,rfl,by rw[List.length_cons,hl],hq2,?_,?_,fun y hy=>?_⟩
   ·rw[kk,oz hw hw2]
   ·rw[kk,oz hw hw2,hd,hd2,List.append_assoc]
   ·rcases List.mem_cons.1 hy with rfl | hy
    ·exact hG
    ·exact hG2 y hy
  ·exact absurd h (lT _ h2)
theorem Ras.list {α:Type}{b:List Int}{w:α→List Int×Int}{G:α→Prop}{one:aC→α×aC}(hb:byteR b)(h1:Ras b w G one):Ras b (cr w) (fun xs=>xs.length≤maxLen∧∀x∈xs,G x) (eB one b) where
 ok:=fun p hp h=>by
  have hn:=Ras.num (b:=b) hb pE
  unfold eB at h ⊢
  by_cases h2:(ac .i32 4 b (0,(p:Int))).2.1=0
  ·obtain ⟨a,q,e,hq,_,hd,_⟩:=hn.ok p hp h2
   rw[e] at h ⊢
   dsimp only at h ⊢
   unfold kr at h ⊢
   rw[if_pos rfl] at h ⊢
   by_cases h3:a<0
   ·rw[if_pos h3] at h;exact absurd h (lT _ (show (5:Int)≠0 by decide))
   rw[if_neg h3] at h ⊢
   by_cases h4:16<a
   ·rw[if_pos h4] at h;exact absurd h (lT _ (show (9:Int)≠0 by decide))
   rw[if_neg h4] at h ⊢
   obtain ⟨xs,q2,e2,hl,hq2,hw2,hd2,hG2⟩:=h1.rep _ q hq h
   rw[e2]
   have hw:cr w xs=(aE a 4++(kk w xs).1,0):=by
    unfold cr
    have hla:(xs.length:Int)=a:=by omega
    rw[if_neg (by omega),hla,oz rfl hw2]
   refine ⟨xs,q2,rfl,hq2,by rw[hw],?_,Nat.le_trans (show xs.length≤16 by omega) (by decide),hG2⟩
   rw[hw,List.append_assoc,← hd2]
   exact hd
  ·have:(kr (ac .i32 4 b (0,(p:Int))).1 (ac .i32 4 b (0,(p:Int))).2).1≠0:=by unfold kr;rw[if_neg h2];exact h2
   exact absurd h (lT _ this)
 dead:=fun s hs=>by
  unfold eB
  have:(ac .i32 4 b s).2.1≠0:=by rw[iu _ _ _ hs];exact hs
  exact lT _ (by unfold kr;rw[if_neg this];exact this)
theorem Ras.opt {b:List Int}{k:IntKind}{n:Nat}{v lo hi:Int}(hb:byteR b)(hk:Wd k n)(h0:cT k 0):Ras b (fun x=>if lo≤v∧v≤hi then (aE x n,0) else ([],0)) (fun x=>cT k x∧(¬(lo≤v∧v≤hi)→x=0)) (aq k n v lo hi b):=by
 have hn:=Ras.num (b:=b) hb hk
 by_cases h:lo≤v∧v≤hi
 ·refine ⟨fun p hp h1=>?_,fun s hs=>?_⟩
  ·unfold aq at h1 ⊢
   rw[if_pos (lP h)] at h1 ⊢
   obtain ⟨x,q,e,hq,hw,hd,hG⟩:=hn.ok p hp h1
   exact ⟨x,q,e,hq,by rw[if_pos h],by rw[if_pos h];exact hd,hG,fun h'=>absurd h h'⟩
  ·unfold aq
   rw[if_neg (by rw[qA hs];decide)];exact hs
 ·refine ⟨fun p hp h1=>?_,fun s hs=>?_⟩
  ·unfold aq
   rw[if_neg (by rw[ge h];decide)]
   exact ⟨0,p,rfl,hp,by rw[if_neg h],by rw[if_neg h];rfl,h0,fun _=>rfl⟩
  ·unfold aq
   rw[if_neg (by rw[ge h];decide)];exact hs
theorem Ras.whole {α:Type}{b:List Int}{w:α→List Int×Int}{G:α→Prop}{f:aC→α×aC}(h:Ras b w G f)(he:aK b (f (0,0)).2=0):(w (f (0,0)).1).2=0∧(w (f (0,0)).1).1=b∧G (f (0,0)).1:=by
 unfold aK at he
 by_cases h1:(f (0,0)).2.1=0
 ·obtain ⟨x,q,e,hq,hw,hd,hG⟩:=h.ok 0 (Nat.zero_le _) h1
  have e:f (0,0)=(x,(0,(q:Int))):=e
  rw[e] at he ⊢
  rw[if_pos rfl] at he
  dsimp only at he ⊢
  have hq2:q=b.length:=by
   unfold AO at he
   split at he
   ·cases he
   ·omega
  subst hq2
  rw[List.drop_length,List.append_nil] at hd
  exact ⟨hw,hd.symm,hG⟩
 ·rw[if_neg h1] at he;exact absurd he h1
theorem AF {c:Prop}[Decidable c]{x:Int}(h:¬ c→x=0):(if c then true else (x == 0))=true:=by
 by_cases hc:c
 ·rw[if_pos hc]
 ·rw[if_neg hc,h hc];rfl
theorem z8:cT .i8 0:=by simp[cT,IntKind.min,IntKind.max,IntKind.signed,IntKind.bits]
theorem XZ:cT .i16 0:=by simp[cT,IntKind.min,IntKind.max,IntKind.signed,IntKind.bits]
theorem MK:cT .i32 0:=by simp[cT,IntKind.min,IntKind.max,IntKind.signed,IntKind.bits]
theorem tj (v:Int):bB v≠0:=by
 unfold bB
 split <;> decide
theorem Ras.oqP {b:List Int}{v:Int}(hb:byteR b):Ras b (MH v) (fun p=>aU.wf p∧jj v p=true) (iA v b):=
 ((Ras.num hb pE).seq ((Ras.opt hb pE MK).seq ((Ras.num hb Xj).seq ((Ras.opt hb pE MK).seq (Ras.nop b))))).map (fun y=>y) (fun _=>rfl)
  (fun x h=>⟨⟨h.1,h.2.1.1,h.2.2.1,h.2.2.2.1.1,trivial⟩,by unfold jj;rw[AF h.2.1.2,AF h.2.2.2.1.2];rfl⟩) (fun s=>by unfold iA;rfl)
theorem Ras.oqT {b:List Int}{v:Int}(hb:byteR b):Ras b (MI v) (fun t=>aj.wf t∧t.2.1.all (jj v)=true) (iB v b):=
 ((Ras.str hb).seq ((Ras.list hb (Ras.oqP hb)).seq (Ras.nop b))).map (fun y=>y) (fun _=>rfl)
  (fun x h=>⟨⟨h.1,⟨h.2.1.1,fun p hp=>(h.2.1.2 p hp).1⟩,trivial⟩,List.all_eq_true.2 fun p hp=>(h.2.1.2 p hp).2⟩) (fun s=>by unfold iB fG;rfl)
theorem Ras.oqM {b:List Int}{v:Int}(hb:byteR b):Ras b (Rg v) (fun m=>cg.wf m∧pJ v m=true) (ln v b):=
 ((Ras.num hb pE).seq ((Ras.opt hb XT z8).seq ((Ras.list hb (Ras.oqT hb)).seq (Ras.nop b)))).map (fun y=>y) (fun _=>rfl)
  (fun x h=>⟨⟨h.1,h.2.1.1,⟨h.2.2.1.1,fun p hp=>(h.2.2.1.2 p hp).1⟩,trivial⟩,by
   unfold pJ;rw[AF h.2.1.2,List.all_eq_true.2 fun p hp=>(h.2.2.1.2 p hp).2];rfl⟩) (fun s=>by unfold ln ca;rfl)
theorem SK {v:Int}{b:List Int}(hb:byteR b)(h:(ei v b).2=0):cg.wf (ei v b).1∧fI v (ei v b).1=(b,0):=by
 unfold ei at h ⊢
 by_cases hv:0≤v∧v≤3∧(b.length:Int)≤130048
 rotate_left
 ·rw[if_neg hv] at h;exact absurd h (tj v)
 rw[if_pos hv] at h ⊢
 by_cases he:aK b (ln v b (0,0)).2=0
 ·rw[if_pos he]
  obtain ⟨h1,h2,hm,hk⟩:=(Ras.oqM (v:=v) hb).whole he
  generalize (ln v b (0,0)).1=m at h1 h2 hm hk ⊢
  refine ⟨hm,?_⟩
  have hv':0≤v∧v≤3:=⟨hv.1,hv.2.1⟩
  show fI v m=(b,0)
  unfold fI dM
  rw[jJ (t:=pW) rfl F5 rfl (yb m),if_neg (by omega),T9 hv',UB hv' hm,hk,if_neg (by decide),if_neg (not_not_intro h1),h2,if_neg (by omega)]
 ·rw[if_neg he] at h;exact absurd h he
def XX (y:Int×(Int×(Int×(Int×Unit)))):aT.den:=(y.1,(y.2.2.1,(y.2.1,(y.2.2.2.1,()))))
theorem Ras.fqP {b:List Int}{v:Int}(hb:byteR b):Ras b (MF v) (fun p=>aT.wf p∧ji v p=true) (iy v b):=by
 have r:=(Ras.num (b:=b) hb pE).seq ((Ras.opt (v:=v) (lo:=3) (hi:=3) hb pE MK).seq ((Ras.num hb Xj).seq ((Ras.num hb pE).seq (Ras.nop b))))
 exact r.map XX (fun _=>rfl)
  (fun x h=>⟨⟨h.1,h.2.2.1,h.2.1.1,h.2.2.2.1,trivial⟩,by unfold ji;exact AF h.2.1.2⟩) (fun s=>by unfold iy;rfl)
theorem Ras.fqT {b:List Int}{v:Int}(hb:byteR b):Ras b (MG v) (fun t=>al.wf t∧t.2.1.all (ji v)=true) (iz v b):=
 ((Ras.str hb).seq ((Ras.list hb (Ras.fqP hb)).seq (Ras.nop b))).map (fun y=>y) (fun _=>rfl)
  (fun x h=>⟨⟨h.1,⟨h.2.1.1,fun p hp=>(h.2.1.2 p hp).1⟩,trivial⟩,List.all_eq_true.2 fun p hp=>(h.2.1.2 p hp).2⟩) (fun s=>by unfold iz fD;rfl)
theorem Ras.fqM {b:List Int}{v:Int}(hb:byteR b):Ras b (Rb v) (fun m=>bX.wf m∧pI v m=true) (lj v b):=
 ((Ras.num hb pE).seq ((Ras.num hb pE).seq ((Ras.num hb pE).seq ((Ras.opt hb pE MK).seq ((Ras.opt hb XT z8).seq ((Ras.list hb (Ras.fqT hb)).seq (Ras.nop b))))))).map (fun y=>y) (fun _=>rfl)
  (fun x h=>⟨⟨h.1,h.2.1,h.2.2.1,h.2.2.2.1.1,h.2.2.2.2.1.1,⟨h.2.2.2.2.2.1.1,fun p hp=>(h.2.2.2.2.2.1.2 p hp).1⟩,trivial⟩,by
   unfold pI;rw[AF h.2.2.2.1.2,AF h.2.2.2.2.1.2,List.all_eq_true.2 fun p hp=>(h.2.2.2.2.2.1.2 p hp).2];rfl⟩) (fun s=>by unfold lj bd;rfl)
theorem RA {v:Int}{b:List Int}(hb:byteR b)(h:(gM v b).2=0):bX.wf (gM v b).1∧fQ v (gM v b).1=(b,0):=by
 unfold gM at h ⊢
 by_cases hv:0≤v∧v≤3∧(b.length:Int)≤130048
 rotate_left
 ·rw[if_neg hv] at h;exact absurd h (tj v)
 rw[if_pos hv] at h ⊢
 by_cases he:aK b (lj v b (0,0)).2=0
 ·rw[if_pos he]
  obtain ⟨h1,h2,hm,hk⟩:=(Ras.fqM (v:=v) hb).whole he
  generalize (lj v b (0,0)).1=m at h1 h2 hm hk ⊢
  refine ⟨hm,?_⟩
  have hv':0≤v∧v≤3:=⟨hv.1,hv.2.1⟩
  show fQ v m=(b,0)
  unfold fQ dK
  rw[jJ (t:=pV) rfl F4 rfl (ya m),if_neg (by omega),T8 hv',UA hv' hm,hk,if_neg (by decide),if_neg (not_not_intro h1),h2,if_neg (by omega)]
 ·rw[if_neg he] at h;exact absurd h he
theorem Ras.part {b:List Int}(hb:byteR b):Ras b Br (fun p=>cX.wf p∧xB p=true) (fy b):=
 ((Ras.num hb pE).seq ((Ras.blo hb).seq (Ras.nop b))).map (fun y=>y) (fun _=>rfl)
  (fun x h=>⟨⟨h.1,h.2.1.1,trivial⟩,decide_eq_true h.2.1.2⟩) (fun s=>by unfold fy;rfl)
theorem Ras.topic {b:List Int}(hb:byteR b):Ras b nj (fun t=>aB.wf t∧pB t=true) (eb b):=
 ((Ras.str hb).seq ((Ras.list hb (Ras.part hb)).seq (Ras.nop b))).map (fun y=>y) (fun _=>rfl)
  (fun x h=>⟨⟨h.1,⟨h.2.1.1,fun p hp=>(h.2.1.2 p hp).1⟩,trivial⟩,List.all_eq_true.2 fun p hp=>(h.2.1.2 p hp).2⟩) (fun s=>by unfold eb d9;rfl)
theorem Ras.txn {b:List Int}{v:Int}(hb:byteR b):Ras b (fun n=>if 3≤v∧v≤3 then pS n else ([],0)) (fun n=>cW.wf n∧(¬(3≤v∧v≤3)→n=(false,([],())))) (cn v b):=by
 have hn:=Ras.nam (b:=b) hb
 by_cases h:3≤v∧v≤3
 ·refine ⟨fun p hp h1=>?_,fun s hs=>?_⟩
  ·unfold cn at h1 ⊢
   rw[if_pos ⟨rfl,h⟩] at h1 ⊢
   obtain ⟨x,q,e,hq,hw,hd,hG⟩:=hn.ok p hp h1
   exact ⟨x,q,e,hq,by rw[if_pos h];exact hw,by rw[if_pos h];exact hd,hG,fun h'=>absurd h h'⟩
  ·unfold cn
   rw[if_neg fun h'=>hs h'.1];exact hs
 ·refine ⟨fun p hp h1=>?_,fun s hs=>?_⟩
  ·unfold cn
   rw[if_neg fun h'=>h h'.2]
   exact ⟨_,p,rfl,hp,by rw[if_neg h],by rw[if_neg h];rfl,⟨trivial,⟨(fun c hc=>absurd hc (by simp):byteR []),Nat.zero_le _⟩,trivial⟩,fun _=>rfl⟩
  ·unfold cn
   rw[if_neg fun h'=>h h'.2];exact hs
def rU (v:Int)(b:List Int)(s:aC):iD.den×aC:=
 (((cn v b s).1,((ac .i16 2 b (cn v b s).2).1,((ac .i32 4 b (ac .i16 2 b (cn v b s).2).2).1,((bK b (ac .i32 4 b (ac .i16 2 b (cn v b s).2).2).2).1,())))),(bK b (ac .i32 4 b (ac .i16 2 b (cn v b s).2).2).2).2)
theorem Ras.req {b:List Int}{v:Int}(hb:byteR b):Ras b (TO v) (fun m=>iD.wf m∧(ci m.2.2.2.1=true∧(¬(3≤v∧v≤3)→m.1=(false,([],()))))) (rU v b):=
 ((Ras.txn (v:=v) hb).seq ((Ras.num hb ME).seq ((Ras.num hb pE).seq ((Ras.list hb (Ras.topic hb)).seq (Ras.nop b))))).map (fun y=>y) (fun _=>rfl)
  (fun x h=>⟨⟨h.1.1,h.2.1,h.2.2.1,⟨h.2.2.2.1.1,fun p hp=>(h.2.2.2.1.2 p hp).1⟩,trivial⟩,List.all_eq_true.2 fun p hp=>(h.2.2.2.1.2 p hp).2,h.1.2⟩) (fun s=>by unfold rU bK;rfl)
theorem PQ {v:Int}{b:List Int}(hb:byteR b)(h:(cl v b).2=0):iD.wf (cl v b).1∧ci (cl v b).1.2.2.2.1=true∧dT v (cl v b).1=(b,0):=by
 unfold cl at h ⊢
 by_cases hv:0≤v∧v≤3∧(b.length:Int)≤130048
 rotate_left
 ·rw[if_neg hv] at h;exact absurd h (tj v)
 rw[if_pos hv] at h ⊢
 by_cases he:aK b (pm v b).2=0
 ·rw[if_pos he]
  have he':aK b (rU v b (0,0)).2=0:=he
  obtain ⟨h1,h2,hm,ht,hk⟩:=(Ras.req (v:=v) hb).whole he'
  have e0:pm v b=rU v b (0,0):=rfl
  rw[e0]
  generalize (rU v b (0,0)).1=m at h1 h2 hm ht hk ⊢
  refine ⟨hm,ht,?_⟩
  have hv':0≤v∧v≤3:=⟨hv.1,hv.2.1⟩
  show dT v m=(b,0)
  have hcz:(bS v kW [iK m.1,aF 2 m.2.1,aF 3 m.2.2.1,bw (m.2.2.2.1.map cL)]).2=(if 3≤v∧v≤3 then true else (m.1.1 == false&&decide (m.1.2.1=[]))):=by
   unfold kW bH
   rw[cv,aR (aw hv'.1 hv'.2),aR (aw hv'.1 hv'.2),aR (aw hv'.1 hv'.2),ct,aD (by decide) (by decide),aD (by decide) (by decide),aD (by decide) (by decide),cw,r9]
   rw[List.all_eq_true.2 fun p _=>uo hv']
   simp
  have hwz:bT v kW [iK m.1,aF 2 m.2.1,aF 3 m.2.2.1,bw (m.2.2.2.1.map cL)]=TO v m:=by
   unfold kW bH TO
   rw[oB,aP (aw hv'.1 hv'.2),aP (aw hv'.1 hv'.2),aP (aw hv'.1 hv'.2),bL,AW,bq (by decide) (w:=2) rfl (ko hm.2.1),bq (by decide) (w:=4) rfl (bD hm.2.2.1),dH,bO fun t ht=>AX hv' (hm.2.2.2.1.2 t ht)]
   by_cases h3:3≤v∧v≤3
   ·rw[if_pos h3,if_pos h3];rfl
   ·rw[if_neg h3,if_neg h3,AR];rfl
  have hz:(if 3≤v∧v≤3 then true else (m.1.1 == false&&decide (m.1.2.1=[])))=true:=by
   by_cases h3:3≤v∧v≤3
   ·rw[if_pos h3]
   ·rw[if_neg h3,hk h3];rfl
  unfold dT cQ
  rw[jJ (t:=kW) rfl F3 rfl (uu m),if_neg (by omega),hcz,hwz,hz,if_neg (by decide),if_neg (not_not_intro h1),h2,if_neg (by omega)]
 ·rw[if_neg he] at h;exact absurd h he
theorem pu {b:List Int}{p n:Nat}(hp:p≤b.length)(h:(am b (p:Int) n).2.2=0):p+n≤b.length∧am b (p:Int) n=(bC ((b.drop p).take n),(((p+n:Nat):Int),0)):=by
 unfold am at h ⊢
 by_cases h1:(b.length:Int) - (p:Int)<(n:Int)
 ·rw[if_pos h1] at h;cases h
 rw[if_neg h1,Int.toNat_natCast]
 exact ⟨by omega,by simp⟩
theorem Mp {b:List Int}{p:Nat}{a:Int}(hp:p≤b.length)(h:(aG b (p:Int) a).2.2=0):∃m:Nat,a=m∧p+m≤b.length∧aG b (p:Int) a=((b.drop p).take m,(((p+m:Nat):Int),0)):=by
 unfold aG at h ⊢
 by_cases h1:a<0
 ·rw[if_pos h1] at h;cases h
 rw[if_neg h1] at h ⊢
 by_cases h2:(b.length:Int) - (p:Int)<a
 ·rw[if_pos h2] at h;cases h
 rw[if_neg h2]
 refine ⟨a.toNat,by omega,by omega,?_⟩
 rw[Int.toNat_natCast,show ((p+a.toNat:Nat):Int)=(p:Int)+a by omega]
theorem H6 {b:List Int}(hb:byteR b){p:Nat}(hp:p≤b.length)(h:(eJ b p).2.2=0):
  ∃(n:cW.den) (q:Nat),eJ b p=(n,((q:Int),0))∧q≤b.length∧b.drop p=rT n++b.drop q∧rR n=0∧cW.wf n:=by
 unfold eJ at h ⊢
 by_cases h1:(am b (p:Int) 2).2.2=0
 rotate_left
 ·rw[if_pos h1] at h;exact absurd h h1
 rw[if_neg (not_not_intro h1)] at h ⊢
 obtain ⟨g1,e1⟩:=pu (n:=2) hp h1
 have hl:=dU g1
 have hw:=ME _ ((hb.drop p).take 2) hl
 have hd:b.drop p=aE (IntKind.i16.wrap (bC ((b.drop p).take 2))) 2++b.drop (p+2):=by rw[hw];exact eE
 have e1':am b (p:Int) 2=(bC ((b.drop p).take 2),(((p+2:Nat):Int),0)):=e1
 rw[e1'] at h ⊢
 dsimp only at h ⊢
 generalize IntKind.i16.wrap (bC ((b.drop p).take 2))=a at h hd ⊢
 by_cases h2:a = -1
 ·rw[if_pos h2]
  subst h2
  exact ⟨(true,(([]:List Int),())),p+2,rfl,g1,hd,rfl,trivial,⟨(fun c hc=>absurd hc (by simp):byteR []),Nat.zero_le _⟩,trivial⟩
 rw[if_neg h2] at h ⊢
 by_cases h3:a<0
 ·rw[if_pos h3] at h;cases h
 rw[if_neg h3] at h ⊢
 by_cases h4:255<a
 ·rw[if_pos h4] at h;cases h
 rw[if_neg h4] at h ⊢
 by_cases h5:(aG b ((p+2:Nat):Int) a).2.2=0
 rotate_left
 ·rw[if_pos h5] at h;exact absurd h h5
 rw[if_neg (not_not_intro h5)] at h ⊢
 obtain ⟨m,rfl,g2,e2⟩:=Mp g1 h5
 rw[e2] at h ⊢
 dsimp only at h ⊢
 have hl2:=dU g2
 refine ⟨(false,((b.drop (p+2)).take m,())),p+2+m,by rw[h],g2,?_,h,trivial,⟨(hb.drop _).take _,by rw[hl2];exact Nat.le_trans (show m≤255 by omega) (by decide)⟩,trivial⟩
 have e:rT (false,((b.drop (p+2)).take m,()))=aE m 2++(b.drop (p+2)).take m:=by
  unfold rT
  rw[if_neg (show ¬ false=true by decide)]
  show aE (((b.drop (p+2)).take m).length:Int) 2++_=_
  rw[hl2]
 rw[e,List.append_assoc,← eE]
 exact hd
theorem Mf {b:List Int}(hb:byteR b)(h:(aO b 0).2.2=0):
  ∃(k v co:Int) (n:cW.den) (q:Nat),aO b 0=((k,(v,(co,n))),((q:Int),0))∧q≤b.length∧b=F2 k v co n++b.drop q∧ez k v=0∧rR n=0∧cT .i16 k∧cT .i16 v∧cT .i32 co∧cW.wf n∧8≤b.length∧aE co 4=(b.drop 4).take 4:=by
 unfold aO at h ⊢
 by_cases h1:(am b 0 2).2.2=0
 rotate_left
 ·rw[if_pos h1] at h;exact absurd h h1
 rw[if_neg (not_not_intro h1)] at h ⊢
 obtain ⟨g1,e1⟩:=pu (p:=0) (n:=2) (Nat.zero_le _) h1
 have e1':am b 0 2=(bC ((b.drop 0).take 2),(2,0)):=e1
 rw[e1'] at h ⊢
 dsimp only at h ⊢
 by_cases h2:(am b 2 2).2.2=0
 rotate_left
 ·rw[if_pos h2] at h;exact absurd h h2
 rw[if_neg (not_not_intro h2)] at h ⊢
 obtain ⟨g2,e2⟩:=pu (p:=2) (n:=2) g1 h2
 have e2':am b 2 2=(bC ((b.drop 2).take 2),(4,0)):=e2
 rw[e2'] at h ⊢
 dsimp only at h ⊢
 by_cases h3:(am b 4 4).2.2=0
 rotate_left
 ·rw[if_pos h3] at h;exact absurd h h3
 rw[if_neg (not_not_intro h3)] at h ⊢
 obtain ⟨g3,e3⟩:=pu (p:=4) (n:=4) g2 h3
 have e3':am b 4 4=(bC ((b.drop 4).take 4),(8,0)):=e3
 rw[e3'] at h ⊢
 dsimp only at h ⊢
 by_cases h4:(eJ b 8).2.2=0
 rotate_left
 ·rw[if_pos h4] at h;exact absurd h h4
 rw[if_neg (not_not_intro h4)] at h ⊢
 obtain ⟨n,q,e4,hq,hd,hn,hwn⟩:=H6 hb (p:=8) g3 h4
 have e4':eJ b 8=(n,((q:Int),0)):=e4
 rw[e4']
 dsimp only
 have w1:=ME _ ((hb.drop 0).take 2) (dU g1)
 have w2:=ME _ ((hb.drop 2).take 2) (dU g2)
 have w3:=pE _ ((hb.drop 4).take 4) (dU g3)
 refine ⟨_,_,_,n,q,by rw[h],hq,?_,h,hn,cD _ _,cD _ _,cD _ _,hwn,g3,w3⟩
 unfold F2
 rw[w1,w2,w3]
 simp only[List.append_assoc]
 rw[← hd,← eE (p:=4) (m:=4),← eE (p:=2) (m:=2),← eE (p:=0) (m:=2)]
 rfl
theorem Kw:iD.wf s9:=⟨⟨trivial,⟨(fun c hc=>absurd hc (by simp):byteR []),Nat.zero_le _⟩,trivial⟩,XZ,MK,⟨Nat.zero_le _,fun x hx=>absurd hx (by simp)⟩,trivial⟩
theorem Q9:bX.wf KR:=⟨MK,MK,MK,MK,z8,⟨Nat.zero_le _,fun x hx=>absurd hx (by simp)⟩,trivial⟩
theorem Ra:cg.wf MM:=⟨MK,z8,⟨Nat.zero_le _,fun x hx=>absurd hx (by simp)⟩,trivial⟩
theorem KE {b:List Int}(hb:byteR b)(h:(b7 b).2=0):
  fb.wf (b7 b).1∧ci (b7 b).1.2.2.2.2.1.2.2.2.1=true∧gd (b7 b).1=(b,0)∧ez (b7 b).1.1 (b7 b).1.2.1=0∧8≤b.length∧aE (b7 b).1.2.2.1 4=(b.drop 4).take 4:=by
 unfold b7 at h ⊢
 by_cases h1:(aO b 0).2.2=0
 rotate_left
 ·rw[if_pos h1] at h;exact absurd h h1
 rw[if_neg (not_not_intro h1)] at h ⊢
 obtain ⟨k,v,co,n,q,e,hq,hd,hkv,hn,rk,rv,rc,hwn,h8,hco⟩:=Mf hb h1
 rw[e] at h ⊢
 dsimp only at h ⊢
 rw[Int.toNat_natCast] at h ⊢
 have hbd:=hb.drop q
 generalize hr:b.drop q=r at h hbd hd ⊢
 rcases xI hkv with rfl | rfl | rfl
 ·rw[if_pos rfl] at h ⊢
  by_cases h2:(cl v r).2=0
  rotate_left
  ·rw[if_pos h2] at h;exact absurd h h2
  rw[if_neg (not_not_intro h2)]
  obtain ⟨wm,tm,em⟩:=PQ hbd h2
  generalize (cl v r).1=m at wm tm em ⊢
  refine ⟨⟨rk,rv,rc,hwn,wm,Q9,Ra,trivial⟩,tm,?_,hkv,h8,hco⟩
  have ho:lS (sG (0,(v,(co,n))) m KR MM)=true:=by
   unfold lS
   show ((C5 m || ((0:Int) == 0))&&((yN KR || ((0:Int) == 1))&&(uN MM || ((0:Int) == 2))))=true
   simp[yN,uN]
  have hy:kT (sG (0,(v,(co,n))) m KR MM)=(r,0):=(if_pos rfl).trans em
  unfold gd
  rw[hy,ho]
  dsimp only
  rw[if_neg (not_not_intro hkv),if_neg (not_not_intro hn),if_neg (show ¬ true=false by decide),if_neg (show ¬(0:Int)≠0 by decide),← hd]
 ·rw[if_neg (by decide),if_pos rfl] at h ⊢
  by_cases h2:(gM v r).2=0
  rotate_left
  ·rw[if_pos h2] at h;exact absurd h h2
  rw[if_neg (not_not_intro h2)]
  obtain ⟨wm,em⟩:=RA hbd h2
  generalize (gM v r).1=m at wm em ⊢
  refine ⟨⟨rk,rv,rc,hwn,Kw,wm,Ra,trivial⟩,rfl,?_,hkv,h8,hco⟩
  have ho:lS (sG (1,(v,(co,n))) s9 m MM)=true:=by
   unfold lS
   show ((C5 s9 || ((1:Int) == 0))&&((yN m || ((1:Int) == 1))&&(uN MM || ((1:Int) == 2))))=true
   simp[C5,uN]
  have hy:kT (sG (1,(v,(co,n))) s9 m MM)=(r,0):=((if_neg (show ¬(1:Int)=0 by decide)).trans (if_pos rfl)).trans em
  unfold gd
  rw[hy,ho]
  dsimp only
  rw[if_neg (not_not_intro hkv),if_neg (not_not_intro hn),if_neg (show ¬ true=false by decide),if_neg (show ¬(0:Int)≠0 by decide),← hd]
 ·rw[if_neg (by decide),if_neg (by decide)] at h ⊢
  by_cases h2:(ei v r).2=0
  rotate_left
  ·rw[if_pos h2] at h;exact absurd h h2
  rw[if_neg (not_not_intro h2)]
  obtain ⟨wm,em⟩:=SK hbd h2
  generalize (ei v r).1=m at wm em ⊢
  refine ⟨⟨rk,rv,rc,hwn,Kw,Q9,wm,trivial⟩,rfl,?_,hkv,h8,hco⟩
  have ho:lS (sG (2,(v,(co,n))) s9 KR m)=true:=by
   unfold lS
   show ((C5 s9 || ((2:Int) == 0))&&((yN KR || ((2:Int) == 1))&&(uN m || ((2:Int) == 2))))=true
   simp[C5,yN]
  have hy:kT (sG (2,(v,(co,n))) s9 KR m)=(r,0):=((if_neg (show ¬(2:Int)=0 by decide)).trans (if_neg (show ¬(2:Int)=1 by decide))).trans em
  unfold gd
  rw[hy,ho]
  dsimp only
  rw[if_neg (not_not_intro hkv),if_neg (not_not_intro hn),if_neg (show ¬ true=false by decide),if_neg (show ¬(0:Int)≠0 by decide),← hd]
theorem TP:tB.wf nC:=⟨⟨Nat.zero_le _,fun x hx=>absurd hx (by simp)⟩,MK,trivial⟩
theorem VZ:eS.wf Dk:=⟨MK,⟨Nat.zero_le _,fun x hx=>absurd hx (by simp)⟩,trivial⟩
theorem V0:da.wf CN:=⟨MK,⟨Nat.zero_le _,fun x hx=>absurd hx (by simp)⟩,trivial⟩
theorem VG {v:Int}(h:v=0∨v=1∨v=2∨v=3):(fa v nC).2=0:=by
 rw[← Kl TP]
 rcases h with rfl | rfl | rfl | rfl
 ·exact (by kernel_rfl:aM (gI 0 nC)=0)
 ·exact (by kernel_rfl:aM (gI 1 nC)=0)
 ·exact (by kernel_rfl:aM (gI 2 nC)=0)
 ·exact (by kernel_rfl:aM (gI 3 nC)=0)
theorem WV {v:Int}(h:v=0∨v=1∨v=2∨v=3):(i5 v Dk).2=0:=by
 rw[← Od VZ rfl]
 rcases h with rfl | rfl | rfl | rfl
 ·exact (by kernel_rfl:aM (lY 0 Dk)=0)
 ·exact (by kernel_rfl:aM (lY 1 Dk)=0)
 ·exact (by kernel_rfl:aM (lY 2 Dk)=0)
 ·exact (by kernel_rfl:aM (lY 3 Dk)=0)
theorem Xd {v:Int}(h:v=0∨v=1∨v=2∨v=3):(dN v CN).2=0:=by
 rw[← HH V0]
 rcases h with rfl | rfl | rfl | rfl
 ·exact (by kernel_rfl:aM (l7 0 CN)=0)
 ·exact (by kernel_rfl:aM (l7 1 CN)=0)
 ·exact (by kernel_rfl:aM (l7 2 CN)=0)
 ·exact (by kernel_rfl:aM (l7 3 CN)=0)
theorem QD {k v:Int}(h:ez k v=0):v=0∨v=1∨v=2∨v=3:=by
 unfold ez at h
 split at h
 ·cases h
 ·split at h
  ·cases h
  ·omega
theorem Rq {k v co:Int}(h:ez k v=0):∃y:List Int,gH (k,(v,(co,(nC,(Dk,(CN,()))))))=(aE co 4++y,0):=by
 have hv:=QD h
 have ho:jf (k,(v,(co,(nC,(Dk,(CN,()))))))=true:=by
  unfold jf
  show (((k == 0) || nB nC)&&(((k == 1) || nw Dk)&&((k == 2) || ny CN)))=true
  simp[nB,nw,ny]
 have hy:(jK (k,(v,(co,(nC,(Dk,(CN,()))))))).2=0:=by
  unfold jK
  dsimp only
  split
  ·exact VG hv
  ·split
   ·exact WV hv
   ·exact Xd hv
 refine ⟨(jK (k,(v,(co,(nC,(Dk,(CN,()))))))).1,?_⟩
 unfold gH
 rw[ho]
 dsimp only
 rw[if_neg (not_not_intro h),if_neg (show ¬ true=false by decide),if_neg (not_not_intro hy)]
theorem H5 {b:List Int}(h:(b7 b).2≠0):(b7 b).1=nQ:=by
 unfold b7 at h ⊢
 repeat' split
 all_goals first | rfl | (simp_all;done)
abbrev kG:Io:=⟨[dL],[],[],[dB],none⟩
def Bv (d:kG.In):Tr kG.Res:=.ite (decide (d.1.1.length≤1048576)) (.ret (.ret ((true,()),()))) .no
abbrev I5:List (Nat×Hc):=[(8,af j3 Bw),(27,af nU IF),(20,af qf MQ),(14,af gn vL),(11,af nV IH),(13,af iU uR),(18,af mz GF),(28,af mw Dl),(29,af mv GD)]
def RH:Hd:=bR I5
def JG:Lp:=bJ []
def zp (a0:List Int):Option kG.Res:=bif decide (a0.length≤4294967296) then bif decide (a0.length≤4294960000) then bif (b7 a0).2 != 0 then bif dE (b7 a0).1&&dE (0,0,0,(false,[],()),((false,[],()),0,0,[],()),(0,0,0,0,0,[],()),(0,0,[],()),()) then some (Out.ret ((pQ (b7 a0).1 (0,0,0,(false,[],()),((false,[],()),0,0,[],()),(0,0,0,0,0,[],()),(0,0,[],()),()),()),())) else none else bif ci (b7 a0).1.2.2.2.2.1.2.2.2.1 then bif (gd (b7 a0).1).2 != 0 then some (Out.ret ((false,()),())) else bif (gH ((b7 a0).1.1,(b7 a0).1.2.1,(b7 a0).1.2.2.1,([],0,()),(0,[],()),(0,[],()),())).2 != 0 then some (Out.ret ((false,()),())) else bif !decide ((gd (b7 a0).1).1=a0) then some (Out.ret ((false,()),())) else bif decide (8≤(↑a0.length:Int)) then bif decide ((gH ((b7 a0).1.1,(b7 a0).1.2.1,(b7 a0).1.2.2.1,([],0,()),(0,[],()),(0,[],()),())).1.length≤4294967296) then bif decide (a0.length≤4294967296) then some (Out.ret ((decide (List.drop (Int.toNat 0) (List.take (Int.toNat 4) (gH ((b7 a0).1.1,(b7 a0).1.2.1,(b7 a0).1.2.2.1,([],0,()),(0,[],()),(0,[],()),())).1)=List.drop (Int.toNat 4) (List.take (Int.toNat 8) a0)),()),())) else none else none else some (Out.ret ((false,()),())) else none else none else none
theorem PX (a0:List Int):Io.run tt RH dr JG kG Tryz.f7 ((a0,()),())=zp a0:=by kernel_rfl
theorem St:HcOk prog 7 (af kG Bv):=by
 refine ao (n:=400) hm (cs:=I5) (.cons Pu (.cons Hy (.cons Vw (.cons Lw (.cons Ps (.cons Fu (.cons Sr (.cons Cy (.cons So .nil))))))))) (lp:=JG) (fn:=Tryz.f7) (by kernel_rfl) (by kernel_rfl) (by kernel_rfl) kG (.done (by kernel_rfl)) Bv ?_
 rintro ⟨⟨(b:List Int),⟨⟩⟩,⟨⟩⟩ out hw ho
 obtain ⟨hg,ho⟩:=Tr.guard ho
 have hg:b.length≤1048576:=of_decide_eq_true hg
 cases ho
 have hb:byteR b:=fun c hc=>by
  have h1:cT .u8 c:=hw.1.1.2 c hc
  simp[cT,IntKind.min,IntKind.max,IntKind.signed,IntKind.bits] at h1
  omega
 refine (PX b).trans ?_
 unfold zp
 refine (aa (decide_eq_true (show b.length≤4294967296 by omega)) _ _).trans ?_
 refine (aa (decide_eq_true (show b.length≤4294960000 by omega)) _ _).trans ?_
 by_cases h:(b7 b).2=0
 ·refine (ae (by simpa using h) _ _).trans ?_
  obtain ⟨_,ht,he,hkv,h8,hco⟩:=KE hb h
  generalize (b7 b).1=c at ht he hkv hco ⊢
  obtain ⟨y,hy⟩:=Rq (co:=c.2.2.1) hkv
  refine (aa ht _ _).trans ?_
  refine (ae (by rw[he];rfl) _ _).trans ?_
  refine (ae (by rw[hy];rfl) _ _).trans ?_
  refine (ae (by rw[he];simp) _ _).trans ?_
  refine (aa (decide_eq_true (by omega)) _ _).trans ?_
  refine (aa (decide_eq_true (Nat.le_trans (HK _) (by decide))) _ _).trans ?_
  refine (aa (decide_eq_true (by omega)) _ _).trans ?_
  have e1:List.drop (Int.toNat 0) (List.take (Int.toNat 4) (aE c.2.2.1 4++y))=aE c.2.2.1 4:=by
   have:=List.take_left (l₁:=aE c.2.2.1 4) (l₂:=y)
   rw[di] at this
   exact this
  have e2:List.drop (Int.toNat 4) (List.take (Int.toNat 8) b)=aE c.2.2.1 4:=by
   rw[hco]
   exact List.drop_take (i:=4) (j:=8) (l:=b)
  show some (Out.ret ((decide (List.drop (Int.toNat 0) (List.take (Int.toNat 4) (gH (c.1,(c.2.1,(c.2.2.1,(nC,(Dk,(CN,()))))))).1)=List.drop (Int.toNat 4) (List.take (Int.toNat 8) b)),()),()))=_
  rw[hy,e2,e1,decide_eq_true rfl]
 ·refine (aa (by simpa using h) _ _).trans ?_
  rw[H5 h]
  have e3:pQ nQ nQ=true:=tf.2 rfl
  refine (aa (by kernel_rfl) _ _).trans ?_
  show some (Out.ret ((pQ nQ nQ,()),()))=_
  rw[e3]
end
end Go.Proofs.YtomeplopmndbgaaGreat.Sym
