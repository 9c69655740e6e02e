/- call.Encode: a whole call, written. -/
import Derived.Test.YtomeplopmndbgaaGreatQ7

namespace Go.Proofs.YtomeplopmndbgaaGreat.Sym
open Go
set_option linter.unusedSimpArgs false
set_option linter.unusedVariables false
noncomputable section
abbrev cD:Ty:=.prod (.int .i16) (.prod (.int .i16) (.prod (.int .i32) (.prod gP (.prod kr (.prod cn (.prod bT .unit))))))
abbrev jg:Ty:=.prod (.int .i16) (.prod (.int .i16) (.prod (.int .i32) (.prod Hh (.prod po (.prod c6 .unit)))))
def gE (k v:Int):Int:=if k≠0∧k≠1∧k≠2 then 160 else if v<0∨3<v then 8 else 0
abbrev iP:Io:=⟨[K1,K1],[],[],[dI],none⟩
def vu (d:iP.In):Tr iP.Res:=.ret (.ret ((gE d.1.1 d.1.2.1,()),()))
abbrev NY:List (Nat×Hc):=[]
def XN:Hd:=bA NY
def OH:Lp:=bv []
def CY (a0 a1:Int):Option iP.Res:=bif a0 != 0 then bif a0 != 1 then bif a0 != 2 then some (Out.ret ((160,()),())) else bif decide (a1<0) then some (Out.ret ((8,()),())) else bif decide (3<a1) then some (Out.ret ((8,()),())) else some (Out.ret ((0,()),())) else bif decide (a1<0) then some (Out.ret ((8,()),())) else bif decide (3<a1) then some (Out.ret ((8,()),())) else some (Out.ret ((0,()),())) else bif decide (a1<0) then some (Out.ret ((8,()),())) else bif decide (3<a1) then some (Out.ret ((8,()),())) else some (Out.ret ((0,()),()))
theorem VU (a0 a1:Int):Io.run tt XN dr OH iP Tryz.f40 ((a0,a1,()),())=CY a0 a1:=by kernel_rfl
theorem yF:HcOk prog 40 (ah iP vu):=by
 refine aj (n:=400) hm (cs:=NY) HcsOk.nil (lp:=OH) (fn:=Tryz.f40) (by kernel_rfl) (by kernel_rfl) (by kernel_rfl) iP (.done (by kernel_rfl)) vu ?_
 rintro ⟨⟨(k:Int),(v:Int),⟨⟩⟩,⟨⟩⟩ out hw ho
 cases ho
 refine (VU k v).trans ?_
 unfold CY
 show _=some (Out.ret ((gE k v,()),()))
 unfold gE
 have key:(bif decide (v<0) then some (Out.ret ((8,()),())) else bif decide (3<v) then some (Out.ret ((8,()),())) else some (Out.ret ((0,()),())):Option iP.Res)=some (Out.ret ((if v<0∨3<v then 8 else 0,()),())):=by
  by_cases h3:v<0
  ·rw[aa (by simpa using h3),if_pos (.inl h3)]
  ·rw[ab (by simpa using h3)]
   by_cases h4:3<v
   ·rw[aa (by simpa using h4),if_pos (.inr h4)]
   ·rw[ab (by simpa using h4),if_neg (by omega)]
 rw[key]
 by_cases h0:k=0
 ·rw[ab (by simpa using h0),if_neg (c:=k≠0∧k≠1∧k≠2) (fun h=>h.1 h0)]
 rw[aa (by simpa using h0)]
 by_cases h1:k=1
 ·rw[ab (by simpa using h1),if_neg (c:=k≠0∧k≠1∧k≠2) (fun h=>h.2.1 h1)]
 rw[aa (by simpa using h1)]
 by_cases h2:k=2
 ·rw[ab (by simpa using h2),if_neg (c:=k≠0∧k≠1∧k≠2) (fun h=>h.2.2 h2)]
 rw[aa (by simpa using h2),if_pos ⟨h0,h1,h2⟩]
def o8 (n:gP.den):Int:=if n.1=true∧n.2.1≠[] then 70 else if (bM n.2.1).2=false then 6 else if 255<n.2.1.length then 4 else 0
abbrev iA:Io:=⟨[Ac],[],[],[dI],none⟩
def tv (d:iA.In):Tr iA.Res:=.ret (.ret ((o8 d.1.1,()),()))
abbrev Dy:List (Nat×Hc):=[(92,ah m4 CP)]
def PZ:Hd:=bA Dy
def D1:Lp:=bv []
def wU (a0:Bool)(a1:List Int):Option iA.Res:=bif a0 then bif !decide (a1=[]) then some (Out.ret ((70,()),())) else bif !(bM a1).2 then some (Out.ret ((6,()),())) else bif decide (255<(↑a1.length:Int)) then some (Out.ret ((4,()),())) else some (Out.ret ((0,()),())) else bif !(bM a1).2 then some (Out.ret ((6,()),())) else bif decide (255<(↑a1.length:Int)) then some (Out.ret ((4,()),())) else some (Out.ret ((0,()),()))
theorem Mp (a0:Bool)(a1:List Int):Io.run tt PZ dr D1 iA Tryz.f41 (((a0,a1,()),()),())=wU a0 a1:=by kernel_rfl
theorem Eo:HcOk prog 41 (ah iA tv):=by
 refine aj (n:=400) hm (cs:=Dy) (.cons GC .nil) (lp:=D1) (fn:=Tryz.f41) (by kernel_rfl) (by kernel_rfl) (by kernel_rfl) iA (.done (by kernel_rfl)) tv ?_
 rintro ⟨⟨⟨(z:Bool),(s:List Int),⟨⟩⟩,⟨⟩⟩,⟨⟩⟩ out hw ho
 cases ho
 refine (Mp z s).trans ?_
 unfold wU
 show _=some (Out.ret ((o8 (z,(s,())),()),()))
 unfold o8
 have h4:decide ((255:Int)<(s.length:Int))=decide (255<s.length):=by rw[Bool.eq_iff_iff];simp;omega
 rw[h4]
 cases z <;> by_cases h1:s=[] <;> cases h2:(bM s).2 <;> by_cases h3:255<s.length <;> simp[h1,h2,h3]
def KF (m:kr.den):Bool:=((m.1.1 == false)&&(decide (m.1.2.1=[])&&true))&&((m.2.1 == 0)&&((m.2.2.1 == 0)&&((m.2.2.2.1.length:Int) == 0)))
def G6 (m:cn.den):Bool:=(m.1 == 0)&&((m.2.1 == 0)&&((m.2.2.1 == 0)&&((m.2.2.2.1 == 0)&&((m.2.2.2.2.1 == 0)&&((m.2.2.2.2.2.1.length:Int) == 0)))))
def BJ (m:bT.den):Bool:=(m.1 == 0)&&((m.2.1 == 0)&&((m.2.2.1.length:Int) == 0))
def rZ (c:cD.den):Bool:=(KF c.2.2.2.2.1 || (c.1 == 0))&&((G6 c.2.2.2.2.2.1 || (c.1 == 1))&&(BJ c.2.2.2.2.2.2.1 || (c.1 == 2)))
abbrev jm:Io:=⟨[.dat cD true false],[],[],[dB],none⟩
def yR (d:jm.In):Tr jm.Res:=.ret (.ret ((rZ d.1.1,()),()))
abbrev Dz:List (Nat×Hc):=[]
def P0:Hd:=bA Dz
def D2:Lp:=bv []
def wV (a0 a1 a2:Int)(a3:Bool)(a4:List Int)(a5:Bool)(a6:List Int)(a7 a8:Int)(a9:List ap.den)(a10 a11 a12 a13 a14:Int)(a15:List ag.den)(a16 a17:Int)(a18:List af.den):Option jm.Res:=some (Out.ret ((bif !(a5 == false&&(decide (a6=[])&&true)&&(a7 == 0&&(a8 == 0&&Decidable.rec (fun (h:¬(↑(List.length (((a0,a1,a2,(a3,a4,()),((a5,a6,()),a7,a8,a9,()),(a10,a11,a12,a13,a14,a15,()),(a16,a17,a18,()),()),()),()).1.1.2.2.2.2.1.2.2.2.1):Int)=0)=>false) (fun (h:(↑(List.length (((a0,a1,a2,(a3,a4,()),((a5,a6,()),a7,a8,a9,()),(a10,a11,a12,a13,a14,a15,()),(a16,a17,a18,()),()),()),()).1.1.2.2.2.2.1.2.2.2.1):Int)=0)=>true) ((↑(List.length (((a0,a1,a2,(a3,a4,()),((a5,a6,()),a7,a8,a9,()),(a10,a11,a12,a13,a14,a15,()),(a16,a17,a18,()),()),()),()).1.1.2.2.2.2.1.2.2.2.1):Int).instDecidableEq 0)))) then a0 == 0&&bif !(a10 == 0&&(a11 == 0&&(a12 == 0&&(a13 == 0&&(a14 == 0&&Decidable.rec (fun (h:¬(↑(List.length (((a0,a1,a2,(a3,a4,()),((a5,a6,()),a7,a8,a9,()),(a10,a11,a12,a13,a14,a15,()),(a16,a17,a18,()),()),()),()).1.1.2.2.2.2.2.1.2.2.2.2.2.1):Int)=0)=>false) (fun (h:(↑(List.length (((a0,a1,a2,(a3,a4,()),((a5,a6,()),a7,a8,a9,()),(a10,a11,a12,a13,a14,a15,()),(a16,a17,a18,()),()),()),()).1.1.2.2.2.2.2.1.2.2.2.2.2.1):Int)=0)=>true) ((↑(List.length (((a0,a1,a2,(a3,a4,()),((a5,a6,()),a7,a8,a9,()),(a10,a11,a12,a13,a14,a15,()),(a16,a17,a18,()),()),()),()).1.1.2.2.2.2.2.1.2.2.2.2.2.1):Int).instDecidableEq 0)))))) then a0 == 1&&bif !(a16 == 0&&(a17 == 0&&Decidable.rec (fun (h:¬(↑(List.length (((a0,a1,a2,(a3,a4,()),((a5,a6,()),a7,a8,a9,()),(a10,a11,a12,a13,a14,a15,()),(a16,a17,a18,()),()),()),()).1.1.2.2.2.2.2.2.1.2.2.1):Int)=0)=>false) (fun (h:(↑(List.length (((a0,a1,a2,(a3,a4,()),((a5,a6,()),a7,a8,a9,()),(a10,a11,a12,a13,a14,a15,()),(a16,a17,a18,()),()),()),()).1.1.2.2.2.2.2.2.1.2.2.1):Int)=0)=>true) ((↑(List.length (((a0,a1,a2,(a3,a4,()),((a5,a6,()),a7,a8,a9,()),(a10,a11,a12,a13,a14,a15,()),(a16,a17,a18,()),()),()),()).1.1.2.2.2.2.2.2.1.2.2.1):Int).instDecidableEq 0))) then Decidable.rec (fun (h:¬(((a0,a1,a2,(a3,a4,()),((a5,a6,()),a7,a8,a9,()),(a10,a11,a12,a13,a14,a15,()),(a16,a17,a18,()),()),()),()).1.1.1=2)=>false) (fun (h:(((a0,a1,a2,(a3,a4,()),((a5,a6,()),a7,a8,a9,()),(a10,a11,a12,a13,a14,a15,()),(a16,a17,a18,()),()),()),()).1.1.1=2)=>true) (Int.instDecidableEq (((a0,a1,a2,(a3,a4,()),((a5,a6,()),a7,a8,a9,()),(a10,a11,a12,a13,a14,a15,()),(a16,a17,a18,()),()),()),()).1.1.1 2) else true else bif !(a16 == 0&&(a17 == 0&&Decidable.rec (fun (h:¬(↑(List.length (((a0,a1,a2,(a3,a4,()),((a5,a6,()),a7,a8,a9,()),(a10,a11,a12,a13,a14,a15,()),(a16,a17,a18,()),()),()),()).1.1.2.2.2.2.2.2.1.2.2.1):Int)=0)=>false) (fun (h:(↑(List.length (((a0,a1,a2,(a3,a4,()),((a5,a6,()),a7,a8,a9,()),(a10,a11,a12,a13,a14,a15,()),(a16,a17,a18,()),()),()),()).1.1.2.2.2.2.2.2.1.2.2.1):Int)=0)=>true) ((↑(List.length (((a0,a1,a2,(a3,a4,()),((a5,a6,()),a7,a8,a9,()),(a10,a11,a12,a13,a14,a15,()),(a16,a17,a18,()),()),()),()).1.1.2.2.2.2.2.2.1.2.2.1):Int).instDecidableEq 0))) then Decidable.rec (fun (h:¬(((a0,a1,a2,(a3,a4,()),((a5,a6,()),a7,a8,a9,()),(a10,a11,a12,a13,a14,a15,()),(a16,a17,a18,()),()),()),()).1.1.1=2)=>false) (fun (h:(((a0,a1,a2,(a3,a4,()),((a5,a6,()),a7,a8,a9,()),(a10,a11,a12,a13,a14,a15,()),(a16,a17,a18,()),()),()),()).1.1.1=2)=>true) (Int.instDecidableEq (((a0,a1,a2,(a3,a4,()),((a5,a6,()),a7,a8,a9,()),(a10,a11,a12,a13,a14,a15,()),(a16,a17,a18,()),()),()),()).1.1.1 2) else true else bif !(a10 == 0&&(a11 == 0&&(a12 == 0&&(a13 == 0&&(a14 == 0&&Decidable.rec (fun (h:¬(↑(List.length (((a0,a1,a2,(a3,a4,()),((a5,a6,()),a7,a8,a9,()),(a10,a11,a12,a13,a14,a15,()),(a16,a17,a18,()),()),()),()).1.1.2.2.2.2.2.1.2.2.2.2.2.1):Int)=0)=>false) (fun (h:(↑(List.length (((a0,a1,a2,(a3,a4,()),((a5,a6,()),a7,a8,a9,()),(a10,a11,a12,a13,a14,a15,()),(a16,a17,a18,()),()),()),()).1.1.2.2.2.2.2.1.2.2.2.2.2.1):Int)=0)=>true) ((↑(List.length (((a0,a1,a2,(a3,a4,()),((a5,a6,()),a7,a8,a9,()),(a10,a11,a12,a13,a14,a15,()),(a16,a17,a18,()),()),()),()).1.1.2.2.2.2.2.1.2.2.2.2.2.1):Int).instDecidableEq 0)))))) then a0 == 1&&bif !(a16 == 0&&(a17 == 0&&Decidable.rec (fun (h:¬(↑(List.length (((a0,a1,a2,(a3,a4,()),((a5,a6,()),a7,a8,a9,()),(a10,a11,a12,a13,a14,a15,()),(a16,a17,a18,()),()),()),()).1.1.2.2.2.2.2.2.1.2.2.1):Int)=0)=>false) (fun (h:(↑(List.length (((a0,a1,a2,(a3,a4,()),((a5,a6,()),a7,a8,a9,()),(a10,a11,a12,a13,a14,a15,()),(a16,a17,a18,()),()),()),()).1.1.2.2.2.2.2.2.1.2.2.1):Int)=0)=>true) ((↑(List.length (((a0,a1,a2,(a3,a4,()),((a5,a6,()),a7,a8,a9,()),(a10,a11,a12,a13,a14,a15,()),(a16,a17,a18,()),()),()),()).1.1.2.2.2.2.2.2.1.2.2.1):Int).instDecidableEq 0))) then Decidable.rec (fun (h:¬(((a0,a1,a2,(a3,a4,()),((a5,a6,()),a7,a8,a9,()),(a10,a11,a12,a13,a14,a15,()),(a16,a17,a18,()),()),()),()).1.1.1=2)=>false) (fun (h:(((a0,a1,a2,(a3,a4,()),((a5,a6,()),a7,a8,a9,()),(a10,a11,a12,a13,a14,a15,()),(a16,a17,a18,()),()),()),()).1.1.1=2)=>true) (Int.instDecidableEq (((a0,a1,a2,(a3,a4,()),((a5,a6,()),a7,a8,a9,()),(a10,a11,a12,a13,a14,a15,()),(a16,a17,a18,()),()),()),()).1.1.1 2) else true else bif !(a16 == 0&&(a17 == 0&&Decidable.rec (fun (h:¬(↑(List.length (((a0,a1,a2,(a3,a4,()),((a5,a6,()),a7,a8,a9,()),(a10,a11,a12,a13,a14,a15,()),(a16,a17,a18,()),()),()),()).1.1.2.2.2.2.2.2.1.2.2.1):Int)=0)=>false) (fun (h:(↑(List.length (((a0,a1,a2,(a3,a4,()),((a5,a6,()),a7,a8,a9,()),(a10,a11,a12,a13,a14,a15,()),(a16,a17,a18,()),()),()),()).1.1.2.2.2.2.2.2.1.2.2.1):Int)=0)=>true) ((↑(List.length (((a0,a1,a2,(a3,a4,()),((a5,a6,()),a7,a8,a9,()),(a10,a11,a12,a13,a14,a15,()),(a16,a17,a18,()),()),()),()).1.1.2.2.2.2.2.2.1.2.2.1):Int).instDecidableEq 0))) then Decidable.rec (fun (h:¬(((a0,a1,a2,(a3,a4,()),((a5,a6,()),a7,a8,a9,()),(a10,a11,a12,a13,a14,a15,()),(a16,a17,a18,()),()),()),()).1.1.1=2)=>false) (fun (h:(((a0,a1,a2,(a3,a4,()),((a5,a6,()),a7,a8,a9,()),(a10,a11,a12,a13,a14,a15,()),(a16,a17,a18,()),()),()),()).1.1.1=2)=>true) (Int.instDecidableEq (((a0,a1,a2,(a3,a4,()),((a5,a6,()),a7,a8,a9,()),(a10,a11,a12,a13,a14,a15,()),(a16,a17,a18,()),()),()),()).1.1.1 2) else true,()),()))
theorem Mq (a0 a1 a2:Int)(a3:Bool)(a4:List Int)(a5:Bool)(a6:List Int)(a7 a8:Int)(a9:List ap.den)(a10 a11 a12 a13 a14:Int)(a15:List ag.den)(a16 a17:Int)(a18:List af.den):Io.run tt P0 drG D2 jm Tryz.f42 (((a0,a1,a2,(a3,a4,()),((a5,a6,()),a7,a8,a9,()),(a10,a11,a12,a13,a14,a15,()),(a16,a17,a18,()),()),()),())=wV a0 a1 a2 a3 a4 a5 a6 a7 a8 a9 a10 a11 a12 a13 a14 a15 a16 a17 a18:=by kernel_rfl
theorem Qv:HcOk prog 42 (ah jm yR):=by
 refine DQ (n:=400) hm (cs:=Dz) HcsOk.nil (lp:=D2) (fn:=Tryz.f42) (by kernel_rfl) (by kernel_rfl) (by kernel_rfl) jm (.done (by kernel_rfl)) yR ?_
 rintro ⟨⟨⟨(k:Int),(v:Int),(co:Int),⟨(cz:Bool),(cs:List Int),⟨⟩⟩,⟨⟨(nz:Bool),(ns:List Int),⟨⟩⟩,(ak:Int),(wt:Int),(ts:List ap.den),⟨⟩⟩,⟨(fr:Int),(fw:Int),(fm:Int),(fx:Int),(fl:Int),(ft:List ag.den),⟨⟩⟩,⟨(lr:Int),(ll:Int),(lt:List af.den),⟨⟩⟩,⟨⟩⟩,⟨⟩⟩,⟨⟩⟩ out hw ho
 cases ho
 refine (Mq k v co cz cs nz ns ak wt ts fr fw fm fx fl ft lr ll lt).trans ?_
 have e:wV k v co cz cs nz ns ak wt ts fr fw fm fx fl ft lr ll lt=some (Out.ret ((bif !(KF ((nz,(ns,())),(ak,(wt,(ts,()))))) then ((k == 0)&&(bif !(G6 (fr,(fw,(fm,(fx,(fl,(ft,()))))))) then ((k == 1)&&(bif !(BJ (lr,(ll,(lt,())))) then (k == 2) else true)) else (bif !(BJ (lr,(ll,(lt,())))) then (k == 2) else true)))
   else (bif !(G6 (fr,(fw,(fm,(fx,(fl,(ft,()))))))) then ((k == 1)&&(bif !(BJ (lr,(ll,(lt,())))) then (k == 2) else true)) else (bif !(BJ (lr,(ll,(lt,())))) then (k == 2) else true)),()),())):=by kernel_rfl
 rw[e]
 show _=some (Out.ret ((rZ (k,(v,(co,((cz,(cs,())),(((nz,(ns,())),(ak,(wt,(ts,())))),((fr,(fw,(fm,(fx,(fl,(ft,())))))),((lr,(ll,(lt,()))),()))))))),()),()))
 unfold rZ
 show _=some (Out.ret (((KF ((nz,(ns,())),(ak,(wt,(ts,())))) || (k == 0))&&((G6 (fr,(fw,(fm,(fx,(fl,(ft,())))))) || (k == 1))&&(BJ (lr,(ll,(lt,()))) || (k == 2))),()),()))
 cases KF ((nz,(ns,())),(ak,(wt,(ts,())))) <;> cases G6 (fr,(fw,(fm,(fx,(fl,(ft,())))))) <;> cases BJ (lr,(ll,(lt,()))) <;> simp
def Zw (c:cD.den):jg.den:=(c.1,(c.2.1,(c.2.2.1,((([]:List aV.den),(0,())),((0,(([]:List au.den),())),((0,(([]:List al.den),())),()))))))
abbrev j6:Io:=⟨[.dat cD true false],[],[],[.dat jg true false],none⟩
def yf (d:j6.In):Tr j6.Res:=.ret (.ret ((Zw d.1.1,()),()))
abbrev H8:List (Nat×Hc):=[]
def T0:Hd:=bA H8
def Jb:Lp:=bv []
def Lq (a0 a1 a2:Int)(a3:Bool)(a4:List Int)(a5:Bool)(a6:List Int)(a7 a8:Int)(a9:List ap.den)(a10 a11 a12 a13 a14:Int)(a15:List ag.den)(a16 a17:Int)(a18:List af.den):Option j6.Res:=some (Out.ret (((a0,a1,a2,([],0,()),(0,[],()),(0,[],()),()),()),()))
theorem QW (a0 a1 a2:Int)(a3:Bool)(a4:List Int)(a5:Bool)(a6:List Int)(a7 a8:Int)(a9:List ap.den)(a10 a11 a12 a13 a14:Int)(a15:List ag.den)(a16 a17:Int)(a18:List af.den):Io.run tt T0 dr Jb j6 Tryz.f13 (((a0,a1,a2,(a3,a4,()),((a5,a6,()),a7,a8,a9,()),(a10,a11,a12,a13,a14,a15,()),(a16,a17,a18,()),()),()),())=Lq a0 a1 a2 a3 a4 a5 a6 a7 a8 a9 a10 a11 a12 a13 a14 a15 a16 a17 a18:=by kernel_rfl
theorem JG:HcOk prog 13 (ah j6 yf):=by
 refine aj (n:=400) hm (cs:=H8) HcsOk.nil (lp:=Jb) (fn:=Tryz.f13) (by kernel_rfl) (by kernel_rfl) (by kernel_rfl) j6 (.done (by kernel_rfl)) yf ?_
 rintro ⟨⟨⟨(k:Int),(v:Int),(co:Int),⟨(cz:Bool),(cs:List Int),⟨⟩⟩,⟨⟨(nz:Bool),(ns:List Int),⟨⟩⟩,(ak:Int),(wt:Int),(ts:List ap.den),⟨⟩⟩,⟨(fr:Int),(fw:Int),(fm:Int),(fx:Int),(fl:Int),(ft:List ag.den),⟨⟩⟩,⟨(lr:Int),(ll:Int),(lt:List af.den),⟨⟩⟩,⟨⟩⟩,⟨⟩⟩,⟨⟩⟩ out hw ho
 cases ho
 exact QW k v co cz cs nz ns ak wt ts fr fw fm fx fl ft lr ll lt
theorem rI {b:List Int}{v:Int}{n:Nat}(h:b.length+n≤131072):ax b 131072 v n=(0,b++aB v n):=by unfold ax;rw[if_neg (by omega)]
theorem uQ {b y:List Int}(h:b.length+y.length≤131072):bm b 131072 [y]=(0,b++y):=by
 unfold bm
 rw[if_neg (by simp only[aS];omega)]
 simp[lR]
theorem kj {b:List Int}(h:b.length≤131072):bf b 131072=true:=by
 unfold bf
 simp;omega
def rB (n:gP.den):List Int:=if n.1=true then aB (-1) 2 else aB n.2.1.length 2++n.2.1
def Bx (k v co:Int)(n:gP.den):List Int:=aB k 2++(aB v 2++(aB co 4++rB n))
theorem Lv (k v co:Int)(z:Bool)(cs y:List Int)(hy:y.length≤130048)(hc:cs.length≤255):
  (bif bf (ax [] (an (am 131072 0) 1048576) k 2).2 (an (am 131072 0) 1048576) then (bif bf (ax (ax [] (an (am 131072 0) 1048576) k 2).2 (an (am 131072 0) 1048576) v 2).2 (an (am 131072 0) 1048576) then (bif z then (bif bf (ax (ax (ax [] (an (am 131072 0) 1048576) k 2).2 (an (am 131072 0) 1048576) v 2).2 (an (am 131072 0) 1048576) co 4).2 (an (am 131072 0) 1048576) then (bif bf (ax (ax (ax (ax [] (an (am 131072 0) 1048576) k 2).2 (an (am 131072 0) 1048576) v 2).2 (an (am 131072 0) 1048576) co 4).2 (an (am 131072 0) 1048576) (-1) 2).2 (an (am 131072 0) 1048576)&&decide (aS [y]≤4294960000) then (bif decide ((bm (ax (ax (ax (ax [] (an (am 131072 0) 1048576) k 2).2 (an (am 131072 0) 1048576) v 2).2 (an (am 131072 0) 1048576) co 4).2 (an (am 131072 0) 1048576) (-1) 2).2 (an (am 131072 0) 1048576) [y]).2.length≤4294967296) then some (Out.ret (((bm (ax (ax (ax (ax [] (an (am 131072 0) 1048576) k 2).2 (an (am 131072 0) 1048576) v 2).2 (an (am 131072 0) 1048576) co 4).2 (an (am 131072 0) 1048576) (-1) 2).2 (an (am 131072 0) 1048576) [y]).2,(0,())),())) else none) else none) else none) else (bif bf (ax (ax (ax [] (an (am 131072 0) 1048576) k 2).2 (an (am 131072 0) 1048576) v 2).2 (an (am 131072 0) 1048576) co 4).2 (an (am 131072 0) 1048576) then (bif bf (ax (ax (ax (ax [] (an (am 131072 0) 1048576) k 2).2 (an (am 131072 0) 1048576) v 2).2 (an (am 131072 0) 1048576) co 4).2 (an (am 131072 0) 1048576) (IntKind.i16.wrap (cs.length:Int)) 2).2 (an (am 131072 0) 1048576)&&decide (aS [cs]≤4294960000) then (bif bf (bm (ax (ax (ax (ax [] (an (am 131072 0) 1048576) k 2).2 (an (am 131072 0) 1048576) v 2).2 (an (am 131072 0) 1048576) co 4).2 (an (am 131072 0) 1048576) (IntKind.i16.wrap (cs.length:Int)) 2).2 (an (am 131072 0) 1048576) [cs]).2 (an (am 131072 0) 1048576)&&decide (aS [y]≤4294960000) then (bif decide ((bm (bm (ax (ax (ax (ax [] (an (am 131072 0) 1048576) k 2).2 (an (am 131072 0) 1048576) v 2).2 (an (am 131072 0) 1048576) co 4).2 (an (am 131072 0) 1048576) (IntKind.i16.wrap (cs.length:Int)) 2).2 (an (am 131072 0) 1048576) [cs]).2 (an (am 131072 0) 1048576) [y]).2.length≤4294967296) then some (Out.ret (((bm (bm (ax (ax (ax (ax [] (an (am 131072 0) 1048576) k 2).2 (an (am 131072 0) 1048576) v 2).2 (an (am 131072 0) 1048576) co 4).2 (an (am 131072 0) 1048576) (IntKind.i16.wrap (cs.length:Int)) 2).2 (an (am 131072 0) 1048576) [cs]).2 (an (am 131072 0) 1048576) [y]).2,(0,())),())) else none) else none) else none) else none)) else none) else none:Option (Out ((List Int×(Int×Unit))×Unit) Empty))=some (Out.ret ((Bx k v co (z,(cs,()))++y,(0,())),())):=by
 have hM:an (am 131072 0) 1048576=131072:=by decide
 rw[hM]
 have e1:=rI (b:=[]) (v:=k) (n:=2) (by simp)
 have l1:(([]:List Int)++aB k 2).length=2:=by simp[bN]
 have e2:=rI (b:=[]++aB k 2) (v:=v) (n:=2) (by omega)
 have l2:(([]++aB k 2)++aB v 2).length=4:=by rw[List.length_append,l1,bN]
 have e3:=rI (b:=([]++aB k 2)++aB v 2) (v:=co) (n:=4) (by omega)
 have l3:((([]++aB k 2)++aB v 2)++aB co 4).length=8:=by rw[List.length_append,l2,bN]
 simp only[e1,e2,e3]
 rw[aa (kj (by omega)),aa (kj (by omega))]
 unfold Bx rB
 cases z with
 |true=>
  have e4:=rI (b:=(([]++aB k 2)++aB v 2)++aB co 4) (v:=-1) (n:=2) (by omega)
  have l4:(((([]++aB k 2)++aB v 2)++aB co 4)++aB (-1) 2).length=10:=by rw[List.length_append,l3,bN]
  have e5:=uQ (b:=((([]++aB k 2)++aB v 2)++aB co 4)++aB (-1) 2) (y:=y) (by omega)
  simp only[e4,e5,cond_true]
  refine (aa (kj (by omega)) _ _).trans ?_
  refine (aa (Bool.and_eq_true_iff.2 ⟨kj (by omega),decide_eq_true (show y.length+0≤4294960000 by omega)⟩) _ _).trans ?_
  refine (aa (decide_eq_true (by rw[List.length_append,l4];omega)) _ _).trans ?_
  simp
 |false=>
  have hw:IntKind.i16.wrap (cs.length:Int)=cs.length:=dd (by simp[ey,IntKind.min,IntKind.max,IntKind.signed,IntKind.bits];omega)
  rw[hw]
  have e4:=rI (b:=(([]++aB k 2)++aB v 2)++aB co 4) (v:=cs.length) (n:=2) (by omega)
  have l4:(((([]++aB k 2)++aB v 2)++aB co 4)++aB cs.length 2).length=10:=by rw[List.length_append,l3,bN]
  have e5:=uQ (b:=((([]++aB k 2)++aB v 2)++aB co 4)++aB cs.length 2) (y:=cs) (by omega)
  have l5:((((([]++aB k 2)++aB v 2)++aB co 4)++aB cs.length 2)++cs).length=10+cs.length:=by rw[List.length_append,l4]
  have e6:=uQ (b:=(((([]++aB k 2)++aB v 2)++aB co 4)++aB cs.length 2)++cs) (y:=y) (by omega)
  simp only[e4,e5,e6,cond_false]
  refine (aa (kj (by omega)) _ _).trans ?_
  refine (aa (Bool.and_eq_true_iff.2 ⟨kj (by omega),decide_eq_true (show cs.length+0≤4294960000 by omega)⟩) _ _).trans ?_
  refine (aa (Bool.and_eq_true_iff.2 ⟨kj (by omega),decide_eq_true (show y.length+0≤4294960000 by omega)⟩) _ _).trans ?_
  refine (aa (decide_eq_true (by rw[List.length_append,l5];omega)) _ _).trans ?_
  simp
def o7 (c:cD.den):List Int×Int:=if c.1=0 then fA c.2.1 c.2.2.2.2.1 else if c.1=1 then jc c.2.1 c.2.2.2.2.2.1 else iK c.2.1 c.2.2.2.2.2.2.1
def fv (c:cD.den):List Int×Int:=if gE c.1 c.2.1≠0 then ([],gE c.1 c.2.1) else if o8 c.2.2.2.1≠0 then ([],o8 c.2.2.2.1) else if rZ c=false then ([],7) else
 if (o7 c).2≠0 then ([],(o7 c).2) else (Bx c.1 c.2.1 c.2.2.1 c.2.2.2.1++(o7 c).1,0)
abbrev pZ:Io:=⟨[.dat cD true false],[],[],[dO,dI],none⟩
def Nz (d:pZ.In):Tr pZ.Res:=.ite (cB d.1.1.2.2.2.2.1.2.2.2.1) (.ret (.ret (((fv d.1.1).1,((fv d.1.1).2,())),()))) .no
abbrev Tf:List (Nat×Hc):=[(40,ah iP vu),(41,ah iA tv),(42,ah jm yR),(43,ah yz SI),(44,ah uj NE),(45,ah um NF),(46,ah oM Hu),(47,ah p7 NK),(48,ah oL Ht),(49,ah m5 CQ),(50,ah iS tI)]
def aaL:Hd:=bA Tf
def UE:Lp:=bv []
def HC (a0 a1 a2:Int)(a3:Bool)(a4:List Int)(a5:Bool)(a6:List Int)(a7 a8:Int)(a9:List ap.den)(a10 a11 a12 a13 a14:Int)(a15:List ag.den)(a16 a17:Int)(a18:List af.den):Option pZ.Res:=bif gE a0 a1 != 0 then some (Out.ret (([],gE a0 a1,()),())) else bif o8 (a3,a4,()) != 0 then some (Out.ret (([],o8 (a3,a4,()),()),())) else bif !rZ (a0,a1,a2,(a3,a4,()),((a5,a6,()),a7,a8,a9,()),(a10,a11,a12,a13,a14,a15,()),(a16,a17,a18,()),()) then some (Out.ret (([],7,()),())) else bif a0 == 0 then bif cB a9 then bif (fA (IntKind.i64.wrap a1) ((a5,a6,()),a7,a8,a9,())).2 != 0 then some (Out.ret (([],(fA (IntKind.i64.wrap a1) ((a5,a6,()),a7,a8,a9,())).2,()),())) else bif bf (ax [] (an (am 131072 0) 1048576) a0 2).2 (an (am 131072 0) 1048576) then bif bf (ax (ax [] (an (am 131072 0) 1048576) a0 2).2 (an (am 131072 0) 1048576) a1 2).2 (an (am 131072 0) 1048576) then bif a3 then bif bf (ax (ax (ax [] (an (am 131072 0) 1048576) a0 2).2 (an (am 131072 0) 1048576) a1 2).2 (an (am 131072 0) 1048576) a2 4).2 (an (am 131072 0) 1048576) then bif bf (ax (ax (ax (ax [] (an (am 131072 0) 1048576) a0 2).2 (an (am 131072 0) 1048576) a1 2).2 (an (am 131072 0) 1048576) a2 4).2 (an (am 131072 0) 1048576) (-1) 2).2 (an (am 131072 0) 1048576)&&decide (aS [(fA (IntKind.i64.wrap a1) ((a5,a6,()),a7,a8,a9,())).1]≤4294960000) then bif decide ((bm (ax (ax (ax (ax [] (an (am 131072 0) 1048576) a0 2).2 (an (am 131072 0) 1048576) a1 2).2 (an (am 131072 0) 1048576) a2 4).2 (an (am 131072 0) 1048576) (-1) 2).2 (an (am 131072 0) 1048576) [(fA (IntKind.i64.wrap a1) ((a5,a6,()),a7,a8,a9,())).1]).2.length≤4294967296) then some (Out.ret (((bm (ax (ax (ax (ax [] (an (am 131072 0) 1048576) a0 2).2 (an (am 131072 0) 1048576) a1 2).2 (an (am 131072 0) 1048576) a2 4).2 (an (am 131072 0) 1048576) (-1) 2).2 (an (am 131072 0) 1048576) [(fA (IntKind.i64.wrap a1) ((a5,a6,()),a7,a8,a9,())).1]).2,0,()),())) else none else none else none else bif bf (ax (ax (ax [] (an (am 131072 0) 1048576) a0 2).2 (an (am 131072 0) 1048576) a1 2).2 (an (am 131072 0) 1048576) a2 4).2 (an (am 131072 0) 1048576) then bif bf (ax (ax (ax (ax [] (an (am 131072 0) 1048576) a0 2).2 (an (am 131072 0) 1048576) a1 2).2 (an (am 131072 0) 1048576) a2 4).2 (an (am 131072 0) 1048576) (IntKind.i16.wrap (↑a4.length:Int)) 2).2 (an (am 131072 0) 1048576)&&decide (aS [a4]≤4294960000) then bif bf (bm (ax (ax (ax (ax [] (an (am 131072 0) 1048576) a0 2).2 (an (am 131072 0) 1048576) a1 2).2 (an (am 131072 0) 1048576) a2 4).2 (an (am 131072 0) 1048576) (IntKind.i16.wrap (↑a4.length:Int)) 2).2 (an (am 131072 0) 1048576) [a4]).2 (an (am 131072 0) 1048576)&&decide (aS [(fA (IntKind.i64.wrap a1) ((a5,a6,()),a7,a8,a9,())).1]≤4294960000) then bif decide ((bm (bm (ax (ax (ax (ax [] (an (am 131072 0) 1048576) a0 2).2 (an (am 131072 0) 1048576) a1 2).2 (an (am 131072 0) 1048576) a2 4).2 (an (am 131072 0) 1048576) (IntKind.i16.wrap (↑a4.length:Int)) 2).2 (an (am 131072 0) 1048576) [a4]).2 (an (am 131072 0) 1048576) [(fA (IntKind.i64.wrap a1) ((a5,a6,()),a7,a8,a9,())).1]).2.length≤4294967296) then some (Out.ret (((bm (bm (ax (ax (ax (ax [] (an (am 131072 0) 1048576) a0 2).2 (an (am 131072 0) 1048576) a1 2).2 (an (am 131072 0) 1048576) a2 4).2 (an (am 131072 0) 1048576) (IntKind.i16.wrap (↑a4.length:Int)) 2).2 (an (am 131072 0) 1048576) [a4]).2 (an (am 131072 0) 1048576) [(fA (IntKind.i64.wrap a1) ((a5,a6,()),a7,a8,a9,())).1]).2,0,()),())) else none else none else none else none else none else none else none else bif a0 == 1 then bif (jc (IntKind.i64.wrap a1) (a10,a11,a12,a13,a14,a15,())).2 != 0 then some (Out.ret (([],(jc (IntKind.i64.wrap a1) (a10,a11,a12,a13,a14,a15,())).2,()),())) else bif bf (ax [] (an (am 131072 0) 1048576) a0 2).2 (an (am 131072 0) 1048576) then bif bf (ax (ax [] (an (am 131072 0) 1048576) a0 2).2 (an (am 131072 0) 1048576) a1 2).2 (an (am 131072 0) 1048576) then bif a3 then bif bf (ax (ax (ax [] (an (am 131072 0) 1048576) a0 2).2 (an (am 131072 0) 1048576) a1 2).2 (an (am 131072 0) 1048576) a2 4).2 (an (am 131072 0) 1048576) then bif bf (ax (ax (ax (ax [] (an (am 131072 0) 1048576) a0 2).2 (an (am 131072 0) 1048576) a1 2).2 (an (am 131072 0) 1048576) a2 4).2 (an (am 131072 0) 1048576) (-1) 2).2 (an (am 131072 0) 1048576)&&decide (aS [(jc (IntKind.i64.wrap a1) (a10,a11,a12,a13,a14,a15,())).1]≤4294960000) then bif decide ((bm (ax (ax (ax (ax [] (an (am 131072 0) 1048576) a0 2).2 (an (am 131072 0) 1048576) a1 2).2 (an (am 131072 0) 1048576) a2 4).2 (an (am 131072 0) 1048576) (-1) 2).2 (an (am 131072 0) 1048576) [(jc (IntKind.i64.wrap a1) (a10,a11,a12,a13,a14,a15,())).1]).2.length≤4294967296) then some (Out.ret (((bm (ax (ax (ax (ax [] (an (am 131072 0) 1048576) a0 2).2 (an (am 131072 0) 1048576) a1 2).2 (an (am 131072 0) 1048576) a2 4).2 (an (am 131072 0) 1048576) (-1) 2).2 (an (am 131072 0) 1048576) [(jc (IntKind.i64.wrap a1) (a10,a11,a12,a13,a14,a15,())).1]).2,0,()),())) else none else none else none else bif bf (ax (ax (ax [] (an (am 131072 0) 1048576) a0 2).2 (an (am 131072 0) 1048576) a1 2).2 (an (am 131072 0) 1048576) a2 4).2 (an (am 131072 0) 1048576) then bif bf (ax (ax (ax (ax [] (an (am 131072 0) 1048576) a0 2).2 (an (am 131072 0) 1048576) a1 2).2 (an (am 131072 0) 1048576) a2 4).2 (an (am 131072 0) 1048576) (IntKind.i16.wrap (↑a4.length:Int)) 2).2 (an (am 131072 0) 1048576)&&decide (aS [a4]≤4294960000) then bif bf (bm (ax (ax (ax (ax [] (an (am 131072 0) 1048576) a0 2).2 (an (am 131072 0) 1048576) a1 2).2 (an (am 131072 0) 1048576) a2 4).2 (an (am 131072 0) 1048576) (IntKind.i16.wrap (↑a4.length:Int)) 2).2 (an (am 131072 0) 1048576) [a4]).2 (an (am 131072 0) 1048576)&&decide (aS [(jc (IntKind.i64.wrap a1) (a10,a11,a12,a13,a14,a15,())).1]≤4294960000) then bif decide ((bm (bm (ax (ax (ax (ax [] (an (am 131072 0) 1048576) a0 2).2 (an (am 131072 0) 1048576) a1 2).2 (an (am 131072 0) 1048576) a2 4).2 (an (am 131072 0) 1048576) (IntKind.i16.wrap (↑a4.length:Int)) 2).2 (an (am 131072 0) 1048576) [a4]).2 (an (am 131072 0) 1048576) [(jc (IntKind.i64.wrap a1) (a10,a11,a12,a13,a14,a15,())).1]).2.length≤4294967296) then some (Out.ret (((bm (bm (ax (ax (ax (ax [] (an (am 131072 0) 1048576) a0 2).2 (an (am 131072 0) 1048576) a1 2).2 (an (am 131072 0) 1048576) a2 4).2 (an (am 131072 0) 1048576) (IntKind.i16.wrap (↑a4.length:Int)) 2).2 (an (am 131072 0) 1048576) [a4]).2 (an (am 131072 0) 1048576) [(jc (IntKind.i64.wrap a1) (a10,a11,a12,a13,a14,a15,())).1]).2,0,()),())) else none else none else none else none else none else none else bif a0 == 2 then bif (iK (IntKind.i64.wrap a1) (a16,a17,a18,())).2 != 0 then some (Out.ret (([],(iK (IntKind.i64.wrap a1) (a16,a17,a18,())).2,()),())) else bif bf (ax [] (an (am 131072 0) 1048576) a0 2).2 (an (am 131072 0) 1048576) then bif bf (ax (ax [] (an (am 131072 0) 1048576) a0 2).2 (an (am 131072 0) 1048576) a1 2).2 (an (am 131072 0) 1048576) then bif a3 then bif bf (ax (ax (ax [] (an (am 131072 0) 1048576) a0 2).2 (an (am 131072 0) 1048576) a1 2).2 (an (am 131072 0) 1048576) a2 4).2 (an (am 131072 0) 1048576) then bif bf (ax (ax (ax (ax [] (an (am 131072 0) 1048576) a0 2).2 (an (am 131072 0) 1048576) a1 2).2 (an (am 131072 0) 1048576) a2 4).2 (an (am 131072 0) 1048576) (-1) 2).2 (an (am 131072 0) 1048576)&&decide (aS [(iK (IntKind.i64.wrap a1) (a16,a17,a18,())).1]≤4294960000) then bif decide ((bm (ax (ax (ax (ax [] (an (am 131072 0) 1048576) a0 2).2 (an (am 131072 0) 1048576) a1 2).2 (an (am 131072 0) 1048576) a2 4).2 (an (am 131072 0) 1048576) (-1) 2).2 (an (am 131072 0) 1048576) [(iK (IntKind.i64.wrap a1) (a16,a17,a18,())).1]).2.length≤4294967296) then some (Out.ret (((bm (ax (ax (ax (ax [] (an (am 131072 0) 1048576) a0 2).2 (an (am 131072 0) 1048576) a1 2).2 (an (am 131072 0) 1048576) a2 4).2 (an (am 131072 0) 1048576) (-1) 2).2 (an (am 131072 0) 1048576) [(iK (IntKind.i64.wrap a1) (a16,a17,a18,())).1]).2,0,()),())) else none else none else none else bif bf (ax (ax (ax [] (an (am 131072 0) 1048576) a0 2).2 (an (am 131072 0) 1048576) a1 2).2 (an (am 131072 0) 1048576) a2 4).2 (an (am 131072 0) 1048576) then bif bf (ax (ax (ax (ax [] (an (am 131072 0) 1048576) a0 2).2 (an (am 131072 0) 1048576) a1 2).2 (an (am 131072 0) 1048576) a2 4).2 (an (am 131072 0) 1048576) (IntKind.i16.wrap (↑a4.length:Int)) 2).2 (an (am 131072 0) 1048576)&&decide (aS [a4]≤4294960000) then bif bf (bm (ax (ax (ax (ax [] (an (am 131072 0) 1048576) a0 2).2 (an (am 131072 0) 1048576) a1 2).2 (an (am 131072 0) 1048576) a2 4).2 (an (am 131072 0) 1048576) (IntKind.i16.wrap (↑a4.length:Int)) 2).2 (an (am 131072 0) 1048576) [a4]).2 (an (am 131072 0) 1048576)&&decide (aS [(iK (IntKind.i64.wrap a1) (a16,a17,a18,())).1]≤4294960000) then bif decide ((bm (bm (ax (ax (ax (ax [] (an (am 131072 0) 1048576) a0 2).2 (an (am 131072 0) 1048576) a1 2).2 (an (am 131072 0) 1048576) a2 4).2 (an (am 131072 0) 1048576) (IntKind.i16.wrap (↑a4.length:Int)) 2).2 (an (am 131072 0) 1048576) [a4]).2 (an (am 131072 0) 1048576) [(iK (IntKind.i64.wrap a1) (a16,a17,a18,())).1]).2.length≤4294967296) then some (Out.ret (((bm (bm (ax (ax (ax (ax [] (an (am 131072 0) 1048576) a0 2).2 (an (am 131072 0) 1048576) a1 2).2 (an (am 131072 0) 1048576) a2 4).2 (an (am 131072 0) 1048576) (IntKind.i16.wrap (↑a4.length:Int)) 2).2 (an (am 131072 0) 1048576) [a4]).2 (an (am 131072 0) 1048576) [(iK (IntKind.i64.wrap a1) (a16,a17,a18,())).1]).2,0,()),())) else none else none else none else none else none else none else bif bf (ax [] (an (am 131072 0) 1048576) a0 2).2 (an (am 131072 0) 1048576) then bif bf (ax (ax [] (an (am 131072 0) 1048576) a0 2).2 (an (am 131072 0) 1048576) a1 2).2 (an (am 131072 0) 1048576) then bif a3 then bif bf (ax (ax (ax [] (an (am 131072 0) 1048576) a0 2).2 (an (am 131072 0) 1048576) a1 2).2 (an (am 131072 0) 1048576) a2 4).2 (an (am 131072 0) 1048576) then bif bf (ax (ax (ax (ax [] (an (am 131072 0) 1048576) a0 2).2 (an (am 131072 0) 1048576) a1 2).2 (an (am 131072 0) 1048576) a2 4).2 (an (am 131072 0) 1048576) (-1) 2).2 (an (am 131072 0) 1048576)&&decide (aS [[]]≤4294960000) then bif decide ((bm (ax (ax (ax (ax [] (an (am 131072 0) 1048576) a0 2).2 (an (am 131072 0) 1048576) a1 2).2 (an (am 131072 0) 1048576) a2 4).2 (an (am 131072 0) 1048576) (-1) 2).2 (an (am 131072 0) 1048576) [[]]).2.length≤4294967296) then some (Out.ret (((bm (ax (ax (ax (ax [] (an (am 131072 0) 1048576) a0 2).2 (an (am 131072 0) 1048576) a1 2).2 (an (am 131072 0) 1048576) a2 4).2 (an (am 131072 0) 1048576) (-1) 2).2 (an (am 131072 0) 1048576) [[]]).2,0,()),())) else none else none else none else bif bf (ax (ax (ax [] (an (am 131072 0) 1048576) a0 2).2 (an (am 131072 0) 1048576) a1 2).2 (an (am 131072 0) 1048576) a2 4).2 (an (am 131072 0) 1048576) then bif bf (ax (ax (ax (ax [] (an (am 131072 0) 1048576) a0 2).2 (an (am 131072 0) 1048576) a1 2).2 (an (am 131072 0) 1048576) a2 4).2 (an (am 131072 0) 1048576) (IntKind.i16.wrap (↑a4.length:Int)) 2).2 (an (am 131072 0) 1048576)&&decide (aS [a4]≤4294960000) then bif bf (bm (ax (ax (ax (ax [] (an (am 131072 0) 1048576) a0 2).2 (an (am 131072 0) 1048576) a1 2).2 (an (am 131072 0) 1048576) a2 4).2 (an (am 131072 0) 1048576) (IntKind.i16.wrap (↑a4.length:Int)) 2).2 (an (am 131072 0) 1048576) [a4]).2 (an (am 131072 0) 1048576)&&decide (aS [[]]≤4294960000) then bif decide ((bm (bm (ax (ax (ax (ax [] (an (am 131072 0) 1048576) a0 2).2 (an (am 131072 0) 1048576) a1 2).2 (an (am 131072 0) 1048576) a2 4).2 (an (am 131072 0) 1048576) (IntKind.i16.wrap (↑a4.length:Int)) 2).2 (an (am 131072 0) 1048576) [a4]).2 (an (am 131072 0) 1048576) [[]]).2.length≤4294967296) then some (Out.ret (((bm (bm (ax (ax (ax (ax [] (an (am 131072 0) 1048576) a0 2).2 (an (am 131072 0) 1048576) a1 2).2 (an (am 131072 0) 1048576) a2 4).2 (an (am 131072 0) 1048576) (IntKind.i16.wrap (↑a4.length:Int)) 2).2 (an (am 131072 0) 1048576) [a4]).2 (an (am 131072 0) 1048576) [[]]).2,0,()),())) else none else none else none else none else none else none
theorem YU (a0 a1 a2:Int)(a3:Bool)(a4:List Int)(a5:Bool)(a6:List Int)(a7 a8:Int)(a9:List ap.den)(a10 a11 a12 a13 a14:Int)(a15:List ag.den)(a16 a17:Int)(a18:List af.den):Io.run tt aaL dr UE pZ Tryz.f11 (((a0,a1,a2,(a3,a4,()),((a5,a6,()),a7,a8,a9,()),(a10,a11,a12,a13,a14,a15,()),(a16,a17,a18,()),()),()),())=HC a0 a1 a2 a3 a4 a5 a6 a7 a8 a9 a10 a11 a12 a13 a14 a15 a16 a17 a18:=by kernel_rfl
theorem Ve:HcOk prog 11 (ah pZ Nz):=by
 refine aj (n:=400) hm (cs:=Tf) (.cons yF (.cons Eo (.cons Qv (.cons YD (.cons Vo (.cons Vp (.cons Mh (.cons VH (.cons Mg (.cons GH (.cons A9 .nil))))))))))) (lp:=UE) (fn:=Tryz.f11) (by kernel_rfl) (by kernel_rfl) (by kernel_rfl) pZ (.done (by kernel_rfl)) Nz ?_
 rintro ⟨⟨⟨(k:Int),(v:Int),(co:Int),⟨(cz:Bool),(cs:List Int),⟨⟩⟩,⟨⟨(nz:Bool),(ns:List Int),⟨⟩⟩,(ak:Int),(wt:Int),(ts:List ap.den),⟨⟩⟩,⟨(fr:Int),(fw:Int),(fm:Int),(fx:Int),(fl:Int),(ft:List ag.den),⟨⟩⟩,⟨(lr:Int),(ll:Int),(lt:List af.den),⟨⟩⟩,⟨⟩⟩,⟨⟩⟩,⟨⟩⟩ out hw ho
 obtain ⟨hg,ho⟩:=Tr.guard ho
 have hg:cB ts=true:=hg
 cases ho
 refine (YU k v co cz cs nz ns ak wt ts fr fw fm fx fl ft lr ll lt).trans ?_
 unfold HC
 have hv:IntKind.i64.wrap v=v:=ge hw.1.1.2.1
 rw[hv]
 show _=some (Out.ret (((fv (k,(v,(co,((cz,(cs,())),(((nz,(ns,())),(ak,(wt,(ts,())))),((fr,(fw,(fm,(fx,(fl,(ft,())))))),((lr,(ll,(lt,()))),())))))))).1,((fv (k,(v,(co,((cz,(cs,())),(((nz,(ns,())),(ak,(wt,(ts,())))),((fr,(fw,(fm,(fx,(fl,(ft,())))))),((lr,(ll,(lt,()))),())))))))).2,())),()))
 unfold fv o7
 dsimp only
 generalize rZ (k,(v,(co,((cz,(cs,())),(((nz,(ns,())),(ak,(wt,(ts,())))),((fr,(fw,(fm,(fx,(fl,(ft,())))))),((lr,(ll,(lt,()))),())))))))=ot
 by_cases h1:gE k v=0
 ·rw[ab (by simpa using h1),if_neg (not_not_intro h1)]
  by_cases h2:o8 (cz,(cs,()))=0
  ·rw[ab (by simpa using h2),if_neg (not_not_intro h2)]
   cases ot with
   |false=>rw[Bool.not_false,cond_true,if_pos rfl]
   |true=>
    rw[Bool.not_true,cond_false,if_neg (by decide)]
    have hcs:cs.length≤255:=by
     unfold o8 at h2
     split at h2
     ·cases h2
     ·split at h2
      ·cases h2
      ·split at h2
       ·cases h2
       ·rename_i h;exact Nat.le_of_not_lt h
    have hk:k=0∨k=1∨k=2:=by
     unfold gE at h1
     split at h1
     ·cases h1
     ·omega
    have lq:(fA v ((nz,(ns,())),(ak,(wt,(ts,()))))).1.length≤130048:=by unfold fA;exact lM _ _ _ _
    have lf:(jc v (fr,(fw,(fm,(fx,(fl,(ft,()))))))).1.length≤130048:=by unfold jc;exact lM _ _ _ _
    have lo:(iK v (lr,(ll,(lt,())))).1.length≤130048:=by unfold iK;exact lM _ _ _ _
    by_cases k0:k=0
    ·rw[aa (by simpa using k0),if_pos k0,aa hg]
     by_cases h4:(fA v ((nz,(ns,())),(ak,(wt,(ts,()))))).2=0
     ·rw[ab (by simpa using h4),if_neg (not_not_intro h4)]
      exact Lv k v co cz cs _ lq hcs
     ·rw[aa (by simpa using h4),if_pos h4]
    rw[ab (by simpa using k0),if_neg k0]
    by_cases k1:k=1
    ·rw[aa (by simpa using k1),if_pos k1]
     by_cases h4:(jc v (fr,(fw,(fm,(fx,(fl,(ft,()))))))).2=0
     ·rw[ab (by simpa using h4),if_neg (not_not_intro h4)]
      exact Lv k v co cz cs _ lf hcs
     ·rw[aa (by simpa using h4),if_pos h4]
    rw[ab (by simpa using k1),if_neg k1]
    have k2:k=2:=by omega
    rw[aa (by simpa using k2)]
    by_cases h4:(iK v (lr,(ll,(lt,())))).2=0
    ·rw[ab (by simpa using h4),if_neg (not_not_intro h4)]
     exact Lv k v co cz cs _ lo hcs
    ·rw[aa (by simpa using h4),if_pos h4]
  ·rw[aa (by simpa using h2),if_pos h2]
 ·rw[aa (by simpa using h1),if_pos h1]
def KG (m:Hh.den):Bool:=(m.2.1 == 0)&&((m.1.length:Int) == 0)
def Kv (m:po.den):Bool:=(m.1 == 0)&&((m.2.1.length:Int) == 0)
def Ky (m:c6.den):Bool:=(m.1 == 0)&&((m.2.1.length:Int) == 0)
def BM (c:jg.den):Bool:=((c.1 == 0) || KG c.2.2.2.1)&&(((c.1 == 1) || Kv c.2.2.2.2.1)&&((c.1 == 2) || Ky c.2.2.2.2.2.1))
theorem Xz (co:Int)(y:List Int)(hy:y.length≤130048):
  (bif bf (ax [] (an (am 131072 0) 1048576) co 4).2 (an (am 131072 0) 1048576)&&decide (aS [y]≤4294960000) then (bif decide ((bm (ax [] (an (am 131072 0) 1048576) co 4).2 (an (am 131072 0) 1048576) [y]).2.length≤4294967296) then some (Out.ret (((bm (ax [] (an (am 131072 0) 1048576) co 4).2 (an (am 131072 0) 1048576) [y]).2,(0,())),())) else none) else none:Option (Out ((List Int×(Int×Unit))×Unit) Empty))=some (Out.ret ((aB co 4++y,(0,())),())):=by
 have hM:an (am 131072 0) 1048576=131072:=by decide
 rw[hM]
 have e1:=rI (b:=[]) (v:=co) (n:=4) (by simp)
 have l1:(([]:List Int)++aB co 4).length=4:=by simp[bN]
 have e2:=uQ (b:=[]++aB co 4) (y:=y) (by omega)
 simp only[e1,e2]
 refine (aa (Bool.and_eq_true_iff.2 ⟨kj (by omega),decide_eq_true (show y.length+0≤4294960000 by omega)⟩) _ _).trans ?_
 refine (aa (decide_eq_true (by rw[List.length_append,l1];omega)) _ _).trans ?_
 rfl
theorem S5 (k v co:Int)(pt:List aV.den)(ph fh lh:Int)(ft:List au.den)(lt:List al.den):(bif !!(bif !(k == 0) then KG (pt,(ph,())) else true) then (bif !!(bif !(k == 1) then Kv (fh,(ft,())) else true) then !(bif !(k == 2) then Ky (lh,(lt,())) else true) else true) else true) = !(BM (k,(v,(co,((pt,(ph,())),((fh,(ft,())),((lh,(lt,())),()))))))):=by
 unfold BM
 show _ = !(((k == 0) || KG (pt,(ph,())))&&(((k == 1) || Kv (fh,(ft,())))&&((k == 2) || Ky (lh,(lt,())))))
 cases KG (pt,(ph,())) <;> cases Kv (fh,(ft,())) <;> cases Ky (lh,(lt,())) <;> cases (k == 0) <;> cases (k == 1) <;> cases (k == 2) <;> rfl
abbrev Gs:gP.den:=(false,([],()))
def iG (b:List Int)(p:Int):gP.den×(Int×Int):=
 if (aq b p 2).2.2≠0 then (Gs,((aq b p 2).2.1,(aq b p 2).2.2)) else if IntKind.i16.wrap (aq b p 2).1 = -1 then ((true,([],())),((aq b p 2).2.1,0)) else
 if IntKind.i16.wrap (aq b p 2).1<0 then (Gs,((aq b p 2).2.1,5)) else if 255<IntKind.i16.wrap (aq b p 2).1 then (Gs,((aq b p 2).2.1,4)) else
 if (aR b (aq b p 2).2.1 (IntKind.i16.wrap (aq b p 2).1)).2.2≠0 then (Gs,(aR b (aq b p 2).2.1 (IntKind.i16.wrap (aq b p 2).1)).2) else
 ((false,((aR b (aq b p 2).2.1 (IntKind.i16.wrap (aq b p 2).1)).1,())),((aR b (aq b p 2).2.1 (IntKind.i16.wrap (aq b p 2).1)).2.1,o8 (false,((aR b (aq b p 2).2.1 (IntKind.i16.wrap (aq b p 2).1)).1,()))))
theorem uR {b:List Int}{p:Int}(n:Nat)(h:bo b p=true):bo b (aq b p n).2.1=true:=by
 unfold bo at h ⊢
 simp only[Bool.and_eq_true,decide_eq_true_eq] at h
 unfold aq
 split
 ·simpa using h
 ·simp;omega
theorem ZD {b:List Int}{p:Int}(n:Int)(h:bo b p=true):bo b (aR b p n).2.1=true:=by
 unfold bo at h ⊢
 simp only[Bool.and_eq_true,decide_eq_true_eq] at h
 unfold aR
 split
 ·simpa using h
 ·split
  ·simpa using h
  ·simp;omega
theorem WH {b:List Int}{p:Int}(h:bo b p=true):bo b (iG b p).2.1=true:=by
 unfold iG
 have h1:=uR 2 h
 have h2:=ZD (IntKind.i16.wrap (aq b p 2).1) h1
 repeat' split
 all_goals first | exact h1 | exact h2
abbrev ol:Io:=⟨[.ptr 0 0],[Su],[],[Ac,dI],none⟩
def K4 (d:ol.In):Tr ol.Res:=.ite (bo d.2.1.1 d.2.1.2.1) (.ret (.ret (((iG d.2.1.1 d.2.1.2.1).1,((iG d.2.1.1 d.2.1.2.1).2.2,())),((d.2.1.1,((iG d.2.1.1 d.2.1.2.1).2.1,())),())))) .no
abbrev NZ:List (Nat×Hc):=[(136,ah kD y9),(63,ah gT qJ),(41,ah iA tv)]
def XO:Hd:=bA NZ
def OI:Lp:=bv []
def CZ (a0:List Int)(a1:Int):Option ol.Res:=bif bo a0 a1 then bif (aq a0 a1 2).2.2 != 0 then some (Out.ret (((false,[],()),(aq a0 a1 2).2.2,()),(a0,(aq a0 a1 2).2.1,()),())) else bif IntKind.i16.wrap (aq a0 a1 2).1 == -1 then some (Out.ret (((true,[],()),0,()),(a0,(aq a0 a1 2).2.1,()),())) else bif decide (IntKind.i16.wrap (aq a0 a1 2).1<0) then some (Out.ret (((false,[],()),5,()),(a0,(aq a0 a1 2).2.1,()),())) else bif decide (255<IntKind.i16.wrap (aq a0 a1 2).1) then some (Out.ret (((false,[],()),4,()),(a0,(aq a0 a1 2).2.1,()),())) else bif bo a0 (aq a0 a1 2).2.1 then bif (aR a0 (aq a0 a1 2).2.1 (IntKind.i64.wrap (IntKind.i16.wrap (aq a0 a1 2).1))).2.2 != 0 then some (Out.ret (((false,[],()),(aR a0 (aq a0 a1 2).2.1 (IntKind.i64.wrap (IntKind.i16.wrap (aq a0 a1 2).1))).2.2,()),(a0,(aR a0 (aq a0 a1 2).2.1 (IntKind.i64.wrap (IntKind.i16.wrap (aq a0 a1 2).1))).2.1,()),())) else some (Out.ret (((false,(aR a0 (aq a0 a1 2).2.1 (IntKind.i64.wrap (IntKind.i16.wrap (aq a0 a1 2).1))).1,()),o8 (false,(aR a0 (aq a0 a1 2).2.1 (IntKind.i64.wrap (IntKind.i16.wrap (aq a0 a1 2).1))).1,()),()),(a0,(aR a0 (aq a0 a1 2).2.1 (IntKind.i64.wrap (IntKind.i16.wrap (aq a0 a1 2).1))).2.1,()),())) else none else none
theorem VV (a0:List Int)(a1:Int):Io.run tt XO dr OI ol Tryz.f137 (((),()),(a0,a1,()),())=CZ a0 a1:=by kernel_rfl
theorem Ys:HcOk prog 137 (ah ol K4):=by
 refine aj (n:=400) hm (cs:=NZ) (.cons GE (.cons uD (.cons Eo .nil))) (lp:=OI) (fn:=Tryz.f137) (by kernel_rfl) (by kernel_rfl) (by kernel_rfl) ol (.done (by kernel_rfl)) K4 ?_
 rintro ⟨⟨⟨⟩,⟨⟩⟩,⟨⟨(b:List Int),(p:Int),⟨⟩⟩,⟨⟩⟩⟩ out hw ho
 obtain ⟨hg,ho⟩:=Tr.guard ho
 have hg:bo b p=true:=hg
 cases ho
 refine (VV b p).trans ?_
 unfold CZ
 show _=some (Out.ret (((iG b p).1,((iG b p).2.2,())),((b,((iG b p).2.1,())),())))
 have hw64:IntKind.i64.wrap (IntKind.i16.wrap (aq b p 2).1)=IntKind.i16.wrap (aq b p 2).1:=ge (eJ _ _)
 rw[hw64]
 unfold iG
 have hr:=uR 2 hg
 generalize aq b p 2=r at hr ⊢
 obtain ⟨n,q,e⟩:=r
 have hr:bo b q=true:=hr
 refine (aa hg _ _).trans ?_
 dsimp only
 generalize IntKind.i16.wrap n=m
 by_cases h1:e=0
 ·rw[ab (by simpa using h1),if_neg (not_not_intro h1)]
  by_cases h2:m = -1
  ·rw[aa (by simpa using h2),if_pos h2]
  rw[ab (by simpa using h2),if_neg h2]
  by_cases h3:m<0
  ·rw[aa (by simpa using h3),if_pos h3]
  rw[ab (by simpa using h3),if_neg h3]
  by_cases h4:255<m
  ·rw[aa (by simpa using h4),if_pos h4]
  rw[ab (by simpa using h4),if_neg h4,aa hr]
  generalize aR b q m=t
  obtain ⟨x,q2,e2⟩:=t
  dsimp only
  by_cases h5:e2=0
  ·rw[ab (by simpa using h5),if_neg (not_not_intro h5)]
  ·rw[aa (by simpa using h5),if_pos h5]
 ·rw[aa (by simpa using h1),if_pos h1]
def dh (b:List Int)(p:Int):(Int×(Int×(Int×gP.den)))×(Int×Int):=
 if (aq b p 2).2.2≠0 then ((IntKind.i16.wrap (aq b p 2).1,(0,(0,Gs))),(aq b p 2).2) else
 if (aq b (aq b p 2).2.1 2).2.2≠0 then ((IntKind.i16.wrap (aq b p 2).1,(IntKind.i16.wrap (aq b (aq b p 2).2.1 2).1,(0,Gs))),(aq b (aq b p 2).2.1 2).2) else
 if (aq b (aq b (aq b p 2).2.1 2).2.1 4).2.2≠0 then ((IntKind.i16.wrap (aq b p 2).1,(IntKind.i16.wrap (aq b (aq b p 2).2.1 2).1,(IntKind.i32.wrap (aq b (aq b (aq b p 2).2.1 2).2.1 4).1,Gs))),(aq b (aq b (aq b p 2).2.1 2).2.1 4).2) else
 ((IntKind.i16.wrap (aq b p 2).1,(IntKind.i16.wrap (aq b (aq b p 2).2.1 2).1,(IntKind.i32.wrap (aq b (aq b (aq b p 2).2.1 2).2.1 4).1,(iG b (aq b (aq b (aq b p 2).2.1 2).2.1 4).2.1).1))),
  ((iG b (aq b (aq b (aq b p 2).2.1 2).2.1 4).2.1).2.1,if (iG b (aq b (aq b (aq b p 2).2.1 2).2.1 4).2.1).2.2≠0 then (iG b (aq b (aq b (aq b p 2).2.1 2).2.1 4).2.1).2.2 else gE (IntKind.i16.wrap (aq b p 2).1) (IntKind.i16.wrap (aq b (aq b p 2).2.1 2).1)))
abbrev YP:kr.den:=(Gs,(0,(0,(([]:List ap.den),()))))
abbrev fq0:cn.den:=(0,(0,(0,(0,(0,(([]:List ag.den),()))))))
abbrev oq0:bT.den:=(0,(0,(([]:List af.den),())))
abbrev XL (h:Int×(Int×(Int×gP.den)))(q:kr.den)(f:cn.den)(l:bT.den):cD.den:=(h.1,(h.2.1,(h.2.2.1,(h.2.2.2,(q,(f,(l,())))))))
abbrev lg:Io:=⟨[.ptr 0 0],[Su],[],[.dat cD true false,dI],none⟩
def EV (d:lg.In):Tr lg.Res:=.ite (bo d.2.1.1 d.2.1.2.1) (.ret (.ret ((XL (dh d.2.1.1 d.2.1.2.1).1 YP fq0 oq0,((dh d.2.1.1 d.2.1.2.1).2.2,())),((d.2.1.1,((dh d.2.1.1 d.2.1.2.1).2.1,())),())))) .no
abbrev H7:List (Nat×Hc):=[(136,ah kD y9),(74,ah kE za),(137,ah ol K4),(40,ah iP vu)]
def TZ:Hd:=bA H7
def Ja:Lp:=bv []
def zo (a0:List Int)(a1:Int):Option lg.Res:=bif bo a0 a1 then bif (aq a0 a1 2).2.2 != 0 then some (Out.ret (((IntKind.i16.wrap (aq a0 a1 2).1,0,0,(false,[],()),((false,[],()),0,0,[],()),(0,0,0,0,0,[],()),(0,0,[],()),()),(aq a0 a1 2).2.2,()),(a0,(aq a0 a1 2).2.1,()),())) else bif bo a0 (aq a0 a1 2).2.1 then bif (aq a0 (aq a0 a1 2).2.1 2).2.2 != 0 then some (Out.ret (((IntKind.i16.wrap (aq a0 a1 2).1,IntKind.i16.wrap (aq a0 (aq a0 a1 2).2.1 2).1,0,(false,[],()),((false,[],()),0,0,[],()),(0,0,0,0,0,[],()),(0,0,[],()),()),(aq a0 (aq a0 a1 2).2.1 2).2.2,()),(a0,(aq a0 (aq a0 a1 2).2.1 2).2.1,()),())) else bif bo a0 (aq a0 (aq a0 a1 2).2.1 2).2.1 then bif (aq a0 (aq a0 (aq a0 a1 2).2.1 2).2.1 4).2.2 != 0 then some (Out.ret (((IntKind.i16.wrap (aq a0 a1 2).1,IntKind.i16.wrap (aq a0 (aq a0 a1 2).2.1 2).1,IntKind.i32.wrap (aq a0 (aq a0 (aq a0 a1 2).2.1 2).2.1 4).1,(false,[],()),((false,[],()),0,0,[],()),(0,0,0,0,0,[],()),(0,0,[],()),()),(aq a0 (aq a0 (aq a0 a1 2).2.1 2).2.1 4).2.2,()),(a0,(aq a0 (aq a0 (aq a0 a1 2).2.1 2).2.1 4).2.1,()),())) else bif bo a0 (aq a0 (aq a0 (aq a0 a1 2).2.1 2).2.1 4).2.1 then bif (iG a0 (aq a0 (aq a0 (aq a0 a1 2).2.1 2).2.1 4).2.1).2.2 != 0 then some (Out.ret (((IntKind.i16.wrap (aq a0 a1 2).1,IntKind.i16.wrap (aq a0 (aq a0 a1 2).2.1 2).1,IntKind.i32.wrap (aq a0 (aq a0 (aq a0 a1 2).2.1 2).2.1 4).1,(iG a0 (aq a0 (aq a0 (aq a0 a1 2).2.1 2).2.1 4).2.1).1,((false,[],()),0,0,[],()),(0,0,0,0,0,[],()),(0,0,[],()),()),(iG a0 (aq a0 (aq a0 (aq a0 a1 2).2.1 2).2.1 4).2.1).2.2,()),(a0,(iG a0 (aq a0 (aq a0 (aq a0 a1 2).2.1 2).2.1 4).2.1).2.1,()),())) else some (Out.ret (((IntKind.i16.wrap (aq a0 a1 2).1,IntKind.i16.wrap (aq a0 (aq a0 a1 2).2.1 2).1,IntKind.i32.wrap (aq a0 (aq a0 (aq a0 a1 2).2.1 2).2.1 4).1,(iG a0 (aq a0 (aq a0 (aq a0 a1 2).2.1 2).2.1 4).2.1).1,((false,[],()),0,0,[],()),(0,0,0,0,0,[],()),(0,0,[],()),()),gE (IntKind.i16.wrap (aq a0 a1 2).1) (IntKind.i16.wrap (aq a0 (aq a0 a1 2).2.1 2).1),()),(a0,(iG a0 (aq a0 (aq a0 (aq a0 a1 2).2.1 2).2.1 4).2.1).2.1,()),())) else none else none else none else none
theorem QV (a0:List Int)(a1:Int):Io.run tt TZ dr Ja lg Tryz.f62 (((),()),(a0,a1,()),())=zo a0 a1:=by kernel_rfl
theorem Vc:HcOk prog 62 (ah lg EV):=by
 refine aj (n:=400) hm (cs:=H7) (.cons GE (.cons GF (.cons Ys (.cons yF .nil)))) (lp:=Ja) (fn:=Tryz.f62) (by kernel_rfl) (by kernel_rfl) (by kernel_rfl) lg (.done (by kernel_rfl)) EV ?_
 rintro ⟨⟨⟨⟩,⟨⟩⟩,⟨⟨(b:List Int),(p:Int),⟨⟩⟩,⟨⟩⟩⟩ out hw ho
 obtain ⟨hg,ho⟩:=Tr.guard ho
 have hg:bo b p=true:=hg
 cases ho
 refine (QV b p).trans ?_
 unfold zo
 show _=some (Out.ret ((XL (dh b p).1 YP fq0 oq0,((dh b p).2.2,())),((b,((dh b p).2.1,())),())))
 unfold dh
 have g1:=uR 2 hg
 have g2:=uR 2 g1
 have g3:=uR 4 g2
 refine (aa hg _ _).trans ?_
 by_cases h1:(aq b p 2).2.2=0
 ·rw[ab (by simpa using h1),if_neg (not_not_intro h1),aa g1]
  by_cases h2:(aq b (aq b p 2).2.1 2).2.2=0
  ·rw[ab (by simpa using h2),if_neg (not_not_intro h2),aa g2]
   by_cases h3:(aq b (aq b (aq b p 2).2.1 2).2.1 4).2.2=0
   ·rw[ab (by simpa using h3),if_neg (not_not_intro h3),aa g3]
    dsimp only
    by_cases h4:(iG b (aq b (aq b (aq b p 2).2.1 2).2.1 4).2.1).2.2=0
    ·rw[ab (by simpa using h4),if_neg (not_not_intro h4)]
    ·rw[aa (by simpa using h4),if_pos h4]
   ·rw[aa (by simpa using h3),if_pos h3]
  ·rw[aa (by simpa using h2),if_pos h2]
 ·rw[aa (by simpa using h1),if_pos h1]
theorem Zv {b:List Int}{p:Int}(h:bo b p=true):bo b (dh b p).2.1=true:=by
 have g1:=uR 2 h
 have g2:=uR 2 g1
 have g3:=uR 4 g2
 have g4:=WH g3
 unfold dh
 split
 ·exact g1
 ·split
  ·exact g2
  ·split
   ·exact g3
   ·exact g4
theorem EA {b:List Int}{p:Int}(h:bo b p=true):aR b p ((b.length:Int) - p)=(b.drop p.toNat,((b.length:Int),0)):=by
 unfold bo at h
 simp only[Bool.and_eq_true,decide_eq_true_eq] at h
 unfold aR
 rw[if_neg (by omega),if_neg (by omega)]
 rw[List.take_of_length_le (by rw[List.length_drop];omega),show p+((b.length:Int) - p)=b.length by omega]
theorem WG {k v:Int}(h:gE k v=0):k=0∨k=1∨k=2:=by
 unfold gE at h
 split at h
 ·cases h
 ·omega
theorem St:IntKind.i64.wrap 0=0:=aC (by decide) (by decide)
theorem WE {b:List Int}{p:Int}:IntKind.i64.wrap (dh b p).1.2.1=(dh b p).1.2.1:=by
 unfold dh
 split
 ·exact St
 ·split
  ·exact ge (eJ _ _)
  ·split
   ·exact ge (eJ _ _)
   ·exact ge (eJ _ _)
abbrev ZX:cD.den:=XL (0,(0,(0,Gs))) YP fq0 oq0
abbrev QT:Hh.den:=(([]:List aV.den),(0,()))
abbrev fr0:po.den:=(0,(([]:List au.den),()))
abbrev or0:c6.den:=(0,(([]:List al.den),()))
abbrev acs (k v co:Int)(q:Hh.den)(f:po.den)(l:c6.den):jg.den:=(k,(v,(co,(q,(f,(l,()))))))
abbrev VR:jg.den:=acs 0 0 0 QT fr0 or0
abbrev j9:Io:=⟨[K1,K1],[],[],[dI],none⟩
def Fa (d:j9.In):Tr j9.Res:=.ret (.ret ((gE d.1.1 d.1.2.1,()),()))
abbrev Ir:List (Nat×Hc):=[]
def Uh:Hd:=bA Ir
def Jq:Lp:=bv []
def zF (a0 a1:Int):Option j9.Res:=bif decide (a0<0) then some (Out.ret ((160,()),())) else bif decide (2<a0) then some (Out.ret ((160,()),())) else bif decide (a1<0) then some (Out.ret ((8,()),())) else bif decide (3<a1) then some (Out.ret ((8,()),())) else some (Out.ret ((0,()),()))
theorem Rf (a0 a1:Int):Io.run tt Uh dr Jq j9 Tryz.f33 ((a0,a1,()),())=zF a0 a1:=by kernel_rfl
theorem JN:HcOk prog 33 (ah j9 Fa):=by
 refine aj (n:=400) hm (cs:=Ir) HcsOk.nil (lp:=Jq) (fn:=Tryz.f33) (by kernel_rfl) (by kernel_rfl) (by kernel_rfl) j9 (.done (by kernel_rfl)) Fa ?_
 rintro ⟨⟨(k:Int),(v:Int),⟨⟩⟩,⟨⟩⟩ out hw ho
 cases ho
 refine (Rf k v).trans ?_
 unfold zF
 show _=some (Out.ret ((gE k v,()),()))
 unfold gE
 have key:(bif decide (v<0) then some (Out.ret ((8,()),())) else bif decide (3<v) then some (Out.ret ((8,()),())) else some (Out.ret ((0,()),())):Option j9.Res)=some (Out.ret ((if v<0∨3<v then 8 else 0,()),())):=by
  by_cases h3:v<0
  ·rw[aa (by simpa using h3),if_pos (.inl h3)]
  ·rw[ab (by simpa using h3)]
   by_cases h4:3<v
   ·rw[aa (by simpa using h4),if_pos (.inr h4)]
   ·rw[ab (by simpa using h4),if_neg (by omega)]
 by_cases h0:k<0
 ·rw[aa (by simpa using h0),if_pos (c:=k≠0∧k≠1∧k≠2) (by omega)]
 rw[ab (by simpa using h0)]
 by_cases h1:2<k
 ·rw[aa (by simpa using h1),if_pos (c:=k≠0∧k≠1∧k≠2) (by omega)]
 rw[ab (by simpa using h1),if_neg (c:=k≠0∧k≠1∧k≠2) (by omega)]
 exact key
theorem rN (n:Nd):Tre.mk n.lab n.kids=n:=by cases n;rfl
def aA (c:cD.den)(k:Int):Nd:=if k=0 then bg c.2.2.2.2.1 else if k=1 then bD c.2.2.2.2.2.1 else bE c.2.2.2.2.2.2.1
def bO (c:cD.den):Bool:=cF c.2.2.2.2.1.2.2.2.1&&(dj c.2.2.2.2.2.1.2.2.2.2.2.1&&dk c.2.2.2.2.2.2.1.2.2.1)
abbrev j8:Io:=⟨[.dat cD true false,K1],[],[],[cQ],none⟩
def yh (d:j8.In):Tr j8.Res:=.ite (bO d.1.1) (.ret (.ret ((aA d.1.1 d.1.2.1,()),()))) .no
abbrev Iq:List (Nat×Hc):=[(84,ah f5 qM),(85,ah iD tK),(86,ah iE tM)]
def Ug:Hd:=bA Iq
def Jp:Lp:=bv []
def zE (a0 a1 a2:Int)(a3:Bool)(a4:List Int)(a5:Bool)(a6:List Int)(a7 a8:Int)(a9:List ap.den)(a10 a11 a12 a13 a14:Int)(a15:List ag.den)(a16 a17:Int)(a18:List af.den)(a19:Int):Option j8.Res:=bif a19 == 0 then bif cF a9 then some (Out.ret ((Tre.mk (bg ((a5,a6,()),a7,a8,a9,())).1 (bg ((a5,a6,()),a7,a8,a9,())).2,()),())) else none else bif a19 == 1 then bif dj a15 then some (Out.ret ((Tre.mk (bD (a10,a11,a12,a13,a14,a15,())).1 (bD (a10,a11,a12,a13,a14,a15,())).2,()),())) else none else bif dk a18 then some (Out.ret ((Tre.mk (bE (a16,a17,a18,())).1 (bE (a16,a17,a18,())).2,()),())) else none
theorem Rb (a0 a1 a2:Int)(a3:Bool)(a4:List Int)(a5:Bool)(a6:List Int)(a7 a8:Int)(a9:List ap.den)(a10 a11 a12 a13 a14:Int)(a15:List ag.den)(a16 a17:Int)(a18:List af.den)(a19:Int):Io.run tt Ug dr Jp j8 Tryz.f36 (((a0,a1,a2,(a3,a4,()),((a5,a6,()),a7,a8,a9,()),(a10,a11,a12,a13,a14,a15,()),(a16,a17,a18,()),()),a19,()),())=zE a0 a1 a2 a3 a4 a5 a6 a7 a8 a9 a10 a11 a12 a13 a14 a15 a16 a17 a18 a19:=by kernel_rfl
theorem uC:HcOk prog 36 (ah j8 yh):=by
 refine aj (n:=400) hm (cs:=Iq) (.cons Ba (.cons Et (.cons Eu .nil))) (lp:=Jp) (fn:=Tryz.f36) (by kernel_rfl) (by kernel_rfl) (by kernel_rfl) j8 (.done (by kernel_rfl)) yh ?_
 rintro ⟨⟨⟨(k:Int),(v:Int),(co:Int),⟨(cz:Bool),(cs:List Int),⟨⟩⟩,⟨⟨(nz:Bool),(ns:List Int),⟨⟩⟩,(ak:Int),(wt:Int),(ts:List ap.den),⟨⟩⟩,⟨(fr:Int),(fw:Int),(fm:Int),(fx:Int),(fl:Int),(ft:List ag.den),⟨⟩⟩,⟨(lr:Int),(ll:Int),(lt:List af.den),⟨⟩⟩,⟨⟩⟩,(q:Int),⟨⟩⟩,⟨⟩⟩ out hw ho
 obtain ⟨hg,ho⟩:=Tr.guard ho
 unfold bO at hg
 simp only[Bool.and_eq_true] at hg
 obtain ⟨h1,h2,h3⟩:=hg
 have h1:cF ts=true:=h1
 have h2:dj ft=true:=h2
 have h3:dk lt=true:=h3
 cases ho
 refine (Rb k v co cz cs nz ns ak wt ts fr fw fm fx fl ft lr ll lt q).trans ?_
 unfold zE
 show _=some (Out.ret ((aA (k,(v,(co,((cz,(cs,())),(((nz,(ns,())),(ak,(wt,(ts,())))),((fr,(fw,(fm,(fx,(fl,(ft,())))))),((lr,(ll,(lt,()))),()))))))) q,()),()))
 unfold aA
 dsimp only
 by_cases k0:q=0
 ·rw[aa (by simpa using k0),if_pos k0,aa h1]
  exact congrArg (fun n:Nd=>some (Out.ret ((n,()),()))) (rN _)
 rw[ab (by simpa using k0),if_neg k0]
 by_cases k1:q=1
 ·rw[aa (by simpa using k1),if_pos k1,aa h2]
  exact congrArg (fun n:Nd=>some (Out.ret ((n,()),()))) (rN _)
 rw[ab (by simpa using k1),if_neg k1,aa h3]
 exact congrArg (fun n:Nd=>some (Out.ret ((n,()),()))) (rN _)
def bj (c:jg.den)(k:Int):Nd:=if k=0 then eO c.2.2.2.1 else if k=1 then f7 c.2.2.2.2.1 else eR c.2.2.2.2.2.1
def fB (c:jg.den):Bool:=gG c.2.2.2.1.1&&(jd c.2.2.2.2.1.2.1&&je c.2.2.2.2.2.1.2.1)
abbrev jv:Io:=⟨[.dat jg true false,K1],[],[],[cQ],none⟩
def y8 (d:jv.In):Tr jv.Res:=.ite (fB d.1.1) (.ret (.ret ((bj d.1.1 d.1.2.1,()),()))) .no
abbrev DG:List (Nat×Hc):=[(119,ah im vF),(120,ah jE zi),(121,ah jG zk)]
def P7:Hd:=bA DG
def D9:Lp:=bv []
def w7 (a0 a1 a2:Int)(a3:List aV.den)(a4 a5:Int)(a6:List au.den)(a7:Int)(a8:List al.den)(a9:Int):Option jv.Res:=bif a9 == 0 then bif gG a3 then some (Out.ret ((Tre.mk (eO (a3,a4,())).1 (eO (a3,a4,())).2,()),())) else none else bif a9 == 1 then bif jd a6 then some (Out.ret ((Tre.mk (f7 (a5,a6,())).1 (f7 (a5,a6,())).2,()),())) else none else bif je a8 then some (Out.ret ((Tre.mk (eR (a7,a8,())).1 (eR (a7,a8,())).2,()),())) else none
theorem Mz (a0 a1 a2:Int)(a3:List aV.den)(a4 a5:Int)(a6:List au.den)(a7:Int)(a8:List al.den)(a9:Int):Io.run tt P7 dr D9 jv Tryz.f52 (((a0,a1,a2,(a3,a4,()),(a5,a6,()),(a7,a8,()),()),a9,()),())=w7 a0 a1 a2 a3 a4 a5 a6 a7 a8 a9:=by kernel_rfl
theorem Es:HcOk prog 52 (ah jv y8):=by
 refine aj (n:=400) hm (cs:=DG) (.cons Mi (.cons QQ (.cons QS .nil))) (lp:=D9) (fn:=Tryz.f52) (by kernel_rfl) (by kernel_rfl) (by kernel_rfl) jv (.done (by kernel_rfl)) y8 ?_
 rintro ⟨⟨⟨(k:Int),(v:Int),(co:Int),⟨(pt:List aV.den),(ph:Int),⟨⟩⟩,⟨(fh:Int),(ft:List au.den),⟨⟩⟩,⟨(lh:Int),(lt:List al.den),⟨⟩⟩,⟨⟩⟩,(q:Int),⟨⟩⟩,⟨⟩⟩ out hw ho
 obtain ⟨hg,ho⟩:=Tr.guard ho
 unfold fB at hg
 simp only[Bool.and_eq_true] at hg
 obtain ⟨h1,h2,h3⟩:=hg
 have h1:gG pt=true:=h1
 have h2:jd ft=true:=h2
 have h3:je lt=true:=h3
 cases ho
 refine (Mz k v co pt ph fh ft lh lt q).trans ?_
 unfold w7
 show _=some (Out.ret ((bj (k,(v,(co,((pt,(ph,())),((fh,(ft,())),((lh,(lt,())),())))))) q,()),()))
 unfold bj
 dsimp only
 by_cases k0:q=0
 ·rw[aa (by simpa using k0),if_pos k0,aa h1]
  exact congrArg (fun n:Nd=>some (Out.ret ((n,()),()))) (rN _)
 rw[ab (by simpa using k0),if_neg k0]
 by_cases k1:q=1
 ·rw[aa (by simpa using k1),if_pos k1,aa h2]
  exact congrArg (fun n:Nd=>some (Out.ret ((n,()),()))) (rN _)
 rw[ab (by simpa using k1),if_neg k1,aa h3]
 exact congrArg (fun n:Nd=>some (Out.ret ((n,()),()))) (rN _)
def b9 (n:Nd):Bool:=if n.kids.all bW=true then true else false
abbrev lA:Io:=⟨[cQ],[],[],[dB],none⟩
def Fb (d:lA.In):Tr lA.Res:=.ret (.ret ((b9 d.1.1,()),()))
abbrev zZ:List (Nat×Hc):=[(88,ah mC Fk)]
def IK:Hd:=bA zZ
abbrev fc:Lo:=⟨⟨(.any::.one (.ptr 1 0)::.any::.one (.hol (.int IntKind.i64))::dR (bQ (bh []))),[none,some [.hol (.int IntKind.i64),.hol (.int IntKind.i64),.hol .bool,.hol (.sl 5 (Ty.int IntKind.u8)),.hol (.sl 91 ao)]]⟩,[(.ret,⟨(bh (.one (.hol .bool)::.any::dR (bQ (bh [])))),[]⟩),(.exit 0,⟨(ai (bh [])),[]⟩)]⟩
def qH (d:fc.st.den):Tr (aD fc.xs):=
 .ite (decide (d.1.1=0)) (.ite (d.2.1.2.2.2.2.1.all bW) (.ret (.pan (.ret ((),((),()))))) (.ret (.ret ((),((false,()),()))))) .no
def ut:Lp:=bv [(3,aN fc qH)]
def vh {R:Type}(h1 h2 h3:Int)(h4:Bool)(h5:List Int)(h6:List (Nd))(next:Int→Int→Int→Bool→List Int→List (Nd)→Option R)(out:aD fc.xs→Option R):Option R:=bif decide (h1<(↑h6.length:Int)) then bif decide (0≤h1)&&decide (h1<(↑h6.length:Int)) then bif !bW (Tre.mk (h6.getD h1.toNat (Tre.mk (0,0,false,[],()) [])).1 (h6.getD h1.toNat (Tre.mk (0,0,false,[],()) [])).2) then out (.ret ((),((false,()),()))) else next (IntKind.i64.wrap (h1+1)) (h2) (h3) (h4) (h5) (h6) else none else out (.pan (.ret ((),((),()))))
def sO (n:Nat)(h1 h2 h3:Int)(h4:Bool)(h5:List Int)(h6:List (Nd)):Option (aD fc.xs):=gd tt IK dr ut 0 Tryz.f35 (cE Tryz.f35 0) n (fc.st.mk' ((h1,()),((h2,(h3,(h4,(h5,(h6,()))))),()))) (bL fc.xs)
theorem MQ (n:Nat)(h1 h2 h3:Int)(h4:Bool)(h5:List Int)(h6:List (Nd)):sO (n+1) h1 h2 h3 h4 h5 h6=vh h1 h2 h3 h4 h5 h6 (sO n) some:=by kernel_rfl
theorem LZ {ks:List Nd}(hl:ks.length≤maxLen)(a' b':Int)(z':Bool)(x':List Int):∀(k j:Nat),ks.length<j+k→j≤ks.length→
  sO k j a' b' z' x' ks=if (ks.drop j).all bW=true then some (.pan (.ret ((),((),())))) else some (.ret ((),((false,()),()))):=by
 intro k
 induction k with
 |zero=>intro j h1 h2;omega
 |succ k ih=>
  intro j h1 h2
  rw[MQ]
  unfold vh
  by_cases hj:j<ks.length
  ·refine (aa (decide_eq_true (show (j:Int)<(ks.length:Int) by omega)) _ _).trans ?_
   refine (aa (by simp;omega) _ _).trans ?_
   rw[List.drop_eq_getElem_cons hj]
   simp only[Int.toNat_natCast,aH hj]
   generalize ks[j]=u
   obtain ⟨ul,uk⟩:=u
   by_cases hz:bW (Tre.mk ul uk)=true
   ·refine (ab (by rw[hz];rfl) _ _).trans ?_
    rw[bp hj hl]
    refine (ih (j+1) (by omega) (by omega)).trans ?_
    simp[hz]
   ·refine (aa (by rw[Bool.eq_false_iff.2 hz];rfl) _ _).trans ?_
    exact (if_neg (by simp[hz])).symm
  ·refine (ab (by simp;omega) _ _).trans ?_
   rw[List.drop_of_length_le (by omega)]
   rfl
def zG (a0:Nd):Option lA.Res:=(qH ((0,()),((a0.1.1,(a0.1.2.1,(a0.1.2.2.1,(a0.1.2.2.2.1,(a0.2,()))))),()))).run fun y=>match y with | .ret ((),((x14,()),()))=>(some (Out.ret ((x14,()),()))) | .pan (.ret ((),((),())))=>(some (Out.ret ((true,()),())))
theorem Rg (a0:Nd):Io.run tt IK dr ut lA Tryz.f35 ((a0,()),())=zG a0:=by kernel_rfl
theorem JO:HcOk prog 35 (ah lA Fb):=by
 refine aj (n:=400) hm (cs:=zZ) (.cons uG .nil) (lp:=ut) (fn:=Tryz.f35) (by kernel_rfl) (by kernel_rfl) (by kernel_rfl) lA (.step (h0:=aN fc qH) (by kernel_rfl) (aw (n:=400) hm (cs:=zZ) (.cons uG .nil) (lp:=ut) (fn:=Tryz.f35) (.done (by kernel_rfl)) fc qH ?_) (.done (by kernel_rfl))) Fb ?_
 ·rintro ⟨⟨(j:Int),⟨⟩⟩,⟨⟨(a':Int),(b':Int),(z':Bool),(x':List Int),(ks:List Nd),⟨⟩⟩,⟨⟩⟩⟩ y hw hy
  obtain ⟨hg,hy⟩:=Tr.guard hy
  have hg:j=0:=of_decide_eq_true hg
  subst hg
  have hl:ks.length≤maxLen:=hw.2.1.2.2.2.2.1.1
  refine ⟨ks.length+1,(LZ hl a' b' z' x' (ks.length+1) 0 (by omega) (by omega)).trans ?_⟩
  rw[← hy,List.drop_zero]
  show _=(Tr.ite (ks.all bW) _ _).val
  rw[Tr.val_ite]
  rfl
 ·rintro ⟨⟨n,⟨⟩⟩,⟨⟩⟩ out hw ho
  cases ho
  refine (Rg n).trans ?_
  unfold zG
  show _=some (Out.ret ((b9 n,()),()))
  unfold b9
  refine (aa (decide_eq_true rfl) _ _).trans ?_
  show (Tr.ite (n.kids.all bW) _ _).run _=_
  cases n.kids.all bW <;> rfl
def GZ (c:cD.den):Bool:=if ((c.1=0∨b9 (aA c 0)=true)∧(c.1=1∨b9 (aA c 1)=true)∧(c.1=2∨b9 (aA c 2)=true)) then true else false
def c19 (x:(Int×(Int×(Int×(Bool×(List Int×(Bool×(List Int×(Int×(Int×(List ap.den×(Int×(Int×(Int×(Int×(Int×(List ag.den×(Int×(Int×(List af.den×Unit)))))))))))))))))))):cD.den:=(x.1,(x.2.1,(x.2.2.1,((x.2.2.2.1,(x.2.2.2.2.1,())),(((x.2.2.2.2.2.1,(x.2.2.2.2.2.2.1,())),(x.2.2.2.2.2.2.2.1,(x.2.2.2.2.2.2.2.2.1,(x.2.2.2.2.2.2.2.2.2.1,())))),((x.2.2.2.2.2.2.2.2.2.2.1,(x.2.2.2.2.2.2.2.2.2.2.2.1,(x.2.2.2.2.2.2.2.2.2.2.2.2.1,(x.2.2.2.2.2.2.2.2.2.2.2.2.2.1,(x.2.2.2.2.2.2.2.2.2.2.2.2.2.2.1,(x.2.2.2.2.2.2.2.2.2.2.2.2.2.2.2.1,())))))),((x.2.2.2.2.2.2.2.2.2.2.2.2.2.2.2.2.1,(x.2.2.2.2.2.2.2.2.2.2.2.2.2.2.2.2.2.1,(x.2.2.2.2.2.2.2.2.2.2.2.2.2.2.2.2.2.2.1,()))),())))))))
def i5 (c:cD.den):List Int×Int:=if gE c.1 c.2.1≠0 then ([],gE c.1 c.2.1) else if o8 c.2.2.2.1≠0 then ([],o8 c.2.2.2.1) else
 if GZ c=true then
 (if (fT c.1 false c.2.1 (aA c c.1)).2≠0 then ([],(fT c.1 false c.2.1 (aA c c.1)).2) else (Bx c.1 c.2.1 c.2.2.1 c.2.2.2.1++(fT c.1 false c.2.1 (aA c c.1)).1,0)) else ([],7)
abbrev oJ:Io:=⟨[.dat cD true false],[],[],[dL,dI],none⟩
def Ld (d:oJ.In):Tr oJ.Res:=.ite (bO d.1.1&&decide (8*aP (aA d.1.1 d.1.1.1)≤4294967296)) (.ret (.ret (((i5 d.1.1).1,((i5 d.1.1).2,())),()))) .no
abbrev FE:List (Nat×Hc):=[(33,ah j9 Fa),(34,ah p6 NI),(36,ah j8 yh),(35,ah lA Fb),(37,ah sK SL),(39,ah iB tz),(38,ah ui Sw)]
def Oy:Hd:=bA FE
abbrev fb:Lo:=⟨⟨(.any::.one (.ptr 1 0)::.any::bQ (.one (.hol (.int IntKind.i16))::ai (ai (ai (ai (ai (ai (dR [])))))))),[none,some [.hol (.int IntKind.i16),.hol (.int IntKind.i16),.hol (.int IntKind.i32),.hol .bool,.hol .str,.hol .bool,.hol .str,.hol (.int IntKind.i16),.hol (.int IntKind.i32),.hol (.sl 172 ap),.hol (.int IntKind.i32),.hol (.int IntKind.i32),.hol (.int IntKind.i32),.hol (.int IntKind.i32),.hol (.int IntKind.i8),.hol (.sl 185 ag),.hol (.int IntKind.i32),.hol (.int IntKind.i8),.hol (.sl 196 af)]]⟩,[(.ret,⟨(bh (.one (.onl 5 (Ty.int IntKind.u8) 5)::.one (.hol (.int IntKind.i64))::ai (ai (ai (ai (ai (ai (dR (bQ []))))))))),[]⟩),(.exit 0,⟨(.any::.one (.ptr 1 0)::ai (ai (ai (ai (ai (ai (dR (bQ (bh []))))))))),[none,some [.hol (.int IntKind.i16),.hol (.int IntKind.i16),.hol (.int IntKind.i32),.hol .bool,.hol .str,.hol .bool,.hol .str,.hol (.int IntKind.i16),.hol (.int IntKind.i32),.hol (.sl 172 ap),.hol (.int IntKind.i32),.hol (.int IntKind.i32),.hol (.int IntKind.i32),.hol (.int IntKind.i32),.hol (.int IntKind.i8),.hol (.sl 185 ag),.hol (.int IntKind.i32),.hol (.int IntKind.i8),.hol (.sl 196 af)]]⟩)]⟩
def ni (d:fb.st.den):Tr (aD fb.xs):=
 .ite (decide (d.1.1=0)&&bO (c19 d.2.1)) (.ite (GZ (c19 d.2.1)) (.ret (.pan (.ret ((),((),(d.2.1,())))))) (.ret (.ret ((),(([],(7,())),()))))) .no
def yC:Lp:=bv [(13,aN fb ni)]
def pk {R:Type}(h19 h20 h21 h22:Int)(h23:Bool)(h24:List Int)(h25:Bool)(h26:List Int)(h27 h28:Int)(h29:List ap.den)(h30 h31 h32 h33 h34:Int)(h35:List ag.den)(h36 h37:Int)(h38:List af.den)(next:Int→Int→Int→Int→Bool→List Int→Bool→List Int→Int→Int→List ap.den→Int→Int→Int→Int→Int→List ag.den→Int→Int→List af.den→Option R)(out:aD fb.xs→Option R):Option R:=bif decide (h19<3) then bif h19 != h20 then bif bO (h20,h21,h22,(h23,h24,()),((h25,h26,()),h27,h28,h29,()),(h30,h31,h32,h33,h34,h35,()),(h36,h37,h38,()),()) then bif !b9 (Tre.mk (aA (h20,h21,h22,(h23,h24,()),((h25,h26,()),h27,h28,h29,()),(h30,h31,h32,h33,h34,h35,()),(h36,h37,h38,()),()) h19).1 (aA (h20,h21,h22,(h23,h24,()),((h25,h26,()),h27,h28,h29,()),(h30,h31,h32,h33,h34,h35,()),(h36,h37,h38,()),()) h19).2) then out (.ret ((),(([],(7,())),()))) else next (IntKind.i16.wrap (h19+1)) (h20) (h21) (h22) (h23) (h24) (h25) (h26) (h27) (h28) (h29) (h30) (h31) (h32) (h33) (h34) (h35) (h36) (h37) (h38) else none else next (IntKind.i16.wrap (h19+1)) (h20) (h21) (h22) (h23) (h24) (h25) (h26) (h27) (h28) (h29) (h30) (h31) (h32) (h33) (h34) (h35) (h36) (h37) (h38) else out (.pan (.ret ((),((),((h20,(h21,(h22,(h23,(h24,(h25,(h26,(h27,(h28,(h29,(h30,(h31,(h32,(h33,(h34,(h35,(h36,(h37,(h38,()))))))))))))))))))),())))))
def de (n:Nat)(h19 h20 h21 h22:Int)(h23:Bool)(h24:List Int)(h25:Bool)(h26:List Int)(h27 h28:Int)(h29:List ap.den)(h30 h31 h32 h33 h34:Int)(h35:List ag.den)(h36 h37:Int)(h38:List af.den):Option (aD fb.xs):=gd tt Oy dr yC 0 Tryz.f10 (cE Tryz.f10 0) n (fb.st.mk' ((h19,()),((h20,(h21,(h22,(h23,(h24,(h25,(h26,(h27,(h28,(h29,(h30,(h31,(h32,(h33,(h34,(h35,(h36,(h37,(h38,()))))))))))))))))))),()))) (bL fb.xs)
theorem Bu (n:Nat)(h19 h20 h21 h22:Int)(h23:Bool)(h24:List Int)(h25:Bool)(h26:List Int)(h27 h28:Int)(h29:List ap.den)(h30 h31 h32 h33 h34:Int)(h35:List ag.den)(h36 h37:Int)(h38:List af.den):de (n+1) h19 h20 h21 h22 h23 h24 h25 h26 h27 h28 h29 h30 h31 h32 h33 h34 h35 h36 h37 h38=pk h19 h20 h21 h22 h23 h24 h25 h26 h27 h28 h29 h30 h31 h32 h33 h34 h35 h36 h37 h38 (de n) some:=by kernel_rfl
theorem sV (k v co:Int)(cz:Bool)(cs:List Int)(nz:Bool)(ns:List Int)(ak wt:Int)(ts:List ap.den)(fr fw fm fx fl:Int)(ft:List ag.den)(lr ll:Int)(lt:List af.den)(hl:bO (k,(v,(co,((cz,(cs,())),(((nz,(ns,())),(ak,(wt,(ts,())))),((fr,(fw,(fm,(fx,(fl,(ft,())))))),((lr,(ll,(lt,()))),())))))))=true)(n j:Nat)(hj:j<3):de (n+1) (j:Int) k v co cz cs nz ns ak wt ts fr fw fm fx fl ft lr ll lt=
  if k=(j:Int)∨b9 (aA (k,(v,(co,((cz,(cs,())),(((nz,(ns,())),(ak,(wt,(ts,())))),((fr,(fw,(fm,(fx,(fl,(ft,())))))),((lr,(ll,(lt,()))),()))))))) (j:Int))=true then de n ((j+1:Nat):Int) k v co cz cs nz ns ak wt ts fr fw fm fx fl ft lr ll lt else some (.ret ((),(([],(7,())),()))):=by
 rw[Bu]
 unfold pk
 have hw:IntKind.i16.wrap ((j:Int)+1)=((j+1:Nat):Int):=dd (by simp[ey,IntKind.min,IntKind.max,IntKind.signed,IntKind.bits];omega)
 refine (aa (decide_eq_true (show (j:Int)<3 by omega)) _ _).trans ?_
 by_cases h1:k=(j:Int)
 ·rw[if_pos (.inl h1)]
  refine (ab (by simp[h1]) _ _).trans ?_
  rw[hw]
 ·refine (aa (by simp[Ne.symm h1]) _ _).trans ?_
  refine (aa hl _ _).trans ?_
  generalize aA (k,(v,(co,((cz,(cs,())),(((nz,(ns,())),(ak,(wt,(ts,())))),((fr,(fw,(fm,(fx,(fl,(ft,())))))),((lr,(ll,(lt,()))),()))))))) (j:Int)=n0
  obtain ⟨nl,nk⟩:=n0
  by_cases h2:b9 (Tre.mk nl nk)=true
  ·rw[if_pos (.inr h2),h2,Bool.not_true,cond_false,hw]
  ·rw[if_neg (by rintro (h | h);exact h1 h;exact h2 h),Bool.eq_false_iff.2 h2,Bool.not_false,cond_true]
theorem Qn (k v co:Int)(cz:Bool)(cs:List Int)(nz:Bool)(ns:List Int)(ak wt:Int)(ts:List ap.den)(fr fw fm fx fl:Int)(ft:List ag.den)(lr ll:Int)(lt:List af.den)(hl:bO (k,(v,(co,((cz,(cs,())),(((nz,(ns,())),(ak,(wt,(ts,())))),((fr,(fw,(fm,(fx,(fl,(ft,())))))),((lr,(ll,(lt,()))),())))))))=true):de 4 0 k v co cz cs nz ns ak wt ts fr fw fm fx fl ft lr ll lt=
  if GZ (k,(v,(co,((cz,(cs,())),(((nz,(ns,())),(ak,(wt,(ts,())))),((fr,(fw,(fm,(fx,(fl,(ft,())))))),((lr,(ll,(lt,()))),())))))))=true then some (.pan (.ret ((),((),((k,(v,(co,(cz,(cs,(nz,(ns,(ak,(wt,(ts,(fr,(fw,(fm,(fx,(fl,(ft,(lr,(ll,(lt,()))))))))))))))))))),()))))) else some (.ret ((),(([],(7,())),()))):=by
 have s0:=sV k v co cz cs nz ns ak wt ts fr fw fm fx fl ft lr ll lt hl 3 0 (by decide)
 have s1:=sV k v co cz cs nz ns ak wt ts fr fw fm fx fl ft lr ll lt hl 2 1 (by decide)
 have s2:=sV k v co cz cs nz ns ak wt ts fr fw fm fx fl ft lr ll lt hl 1 2 (by decide)
 have s3:de 1 ((3:Nat):Int) k v co cz cs nz ns ak wt ts fr fw fm fx fl ft lr ll lt=some (.pan (.ret ((),((),((k,(v,(co,(cz,(cs,(nz,(ns,(ak,(wt,(ts,(fr,(fw,(fm,(fx,(fl,(ft,(lr,(ll,(lt,()))))))))))))))))))),()))))):=by
  rw[Bu]
  unfold pk
  exact ab (by decide) _ _
 have s0:de 4 0 k v co cz cs nz ns ak wt ts fr fw fm fx fl ft lr ll lt=if k=0∨b9 (aA (k,(v,(co,((cz,(cs,())),(((nz,(ns,())),(ak,(wt,(ts,())))),((fr,(fw,(fm,(fx,(fl,(ft,())))))),((lr,(ll,(lt,()))),()))))))) 0)=true then de 3 ((1:Nat):Int) k v co cz cs nz ns ak wt ts fr fw fm fx fl ft lr ll lt else some (.ret ((),(([],(7,())),()))):=s0
 have s1:de 3 ((1:Nat):Int) k v co cz cs nz ns ak wt ts fr fw fm fx fl ft lr ll lt=if k=1∨b9 (aA (k,(v,(co,((cz,(cs,())),(((nz,(ns,())),(ak,(wt,(ts,())))),((fr,(fw,(fm,(fx,(fl,(ft,())))))),((lr,(ll,(lt,()))),()))))))) 1)=true then de 2 ((2:Nat):Int) k v co cz cs nz ns ak wt ts fr fw fm fx fl ft lr ll lt else some (.ret ((),(([],(7,())),()))):=s1
 have s2:de 2 ((2:Nat):Int) k v co cz cs nz ns ak wt ts fr fw fm fx fl ft lr ll lt=if k=2∨b9 (aA (k,(v,(co,((cz,(cs,())),(((nz,(ns,())),(ak,(wt,(ts,())))),((fr,(fw,(fm,(fx,(fl,(ft,())))))),((lr,(ll,(lt,()))),()))))))) 2)=true then de 1 ((3:Nat):Int) k v co cz cs nz ns ak wt ts fr fw fm fx fl ft lr ll lt else some (.ret ((),(([],(7,())),()))):=s2
 rw[s0,s1,s2,s3]
 unfold GZ
 by_cases h0:k=0∨b9 (aA (k,(v,(co,((cz,(cs,())),(((nz,(ns,())),(ak,(wt,(ts,())))),((fr,(fw,(fm,(fx,(fl,(ft,())))))),((lr,(ll,(lt,()))),()))))))) 0)=true
 ·rw[if_pos h0]
  by_cases h1:k=1∨b9 (aA (k,(v,(co,((cz,(cs,())),(((nz,(ns,())),(ak,(wt,(ts,())))),((fr,(fw,(fm,(fx,(fl,(ft,())))))),((lr,(ll,(lt,()))),()))))))) 1)=true
  ·rw[if_pos h1]
   by_cases h2:k=2∨b9 (aA (k,(v,(co,((cz,(cs,())),(((nz,(ns,())),(ak,(wt,(ts,())))),((fr,(fw,(fm,(fx,(fl,(ft,())))))),((lr,(ll,(lt,()))),()))))))) 2)=true
   ·rw[if_pos h2,if_pos (by rw[if_pos ⟨h0,h1,h2⟩])]
   ·rw[if_neg h2,if_neg (by rw[if_neg (fun h=>h2 h.2.2)];decide)]
  ·rw[if_neg h1,if_neg (by rw[if_neg (fun h=>h1 h.2.1)];decide)]
 ·rw[if_neg h0,if_neg (by rw[if_neg (fun h=>h0 h.1)];decide)]
def Dj (a0 a1 a2:Int)(a3:Bool)(a4:List Int)(a5:Bool)(a6:List Int)(a7 a8:Int)(a9:List ap.den)(a10 a11 a12 a13 a14:Int)(a15:List ag.den)(a16 a17:Int)(a18:List af.den):Option oJ.Res:=bif gE a0 a1 != 0 then some (Out.ret (([],gE a0 a1,()),())) else bif a3 then bif decide (0<(↑a4.length:Int)) then some (Out.ret (([],70,()),())) else bif !(bM a4).2 then some (Out.ret (([],6,()),())) else bif decide (255<(↑a4.length:Int)) then some (Out.ret (([],4,()),())) else (ni ((0,()),((a0,(a1,(a2,(a3,(a4,(a5,(a6,(a7,(a8,(a9,(a10,(a11,(a12,(a13,(a14,(a15,(a16,(a17,(a18,()))))))))))))))))))),()))).run fun y=>match y with | .ret ((),((x100,x101,()),()))=>(some (Out.ret ((x100,x101,()),()))) | .pan (.ret ((),((),(x102,x103,x104,x105,x106,x107,x108,x109,x110,x111,x112,x113,x114,x115,x116,x117,x118,x119,x120,()),())))=>(bif bO (x102,x103,x104,(x105,x106,()),((x107,x108,()),x109,x110,x111,()),(x112,x113,x114,x115,x116,x117,()),(x118,x119,x120,()),()) then bif decide (8*aP (Tre.mk (aA (x102,x103,x104,(x105,x106,()),((x107,x108,()),x109,x110,x111,()),(x112,x113,x114,x115,x116,x117,()),(x118,x119,x120,()),()) x102).1 (aA (x102,x103,x104,(x105,x106,()),((x107,x108,()),x109,x110,x111,()),(x112,x113,x114,x115,x116,x117,()),(x118,x119,x120,()),()) x102).2)≤4294967296) then bif (fT x102 false (IntKind.i64.wrap x103) (Tre.mk (aA (x102,x103,x104,(x105,x106,()),((x107,x108,()),x109,x110,x111,()),(x112,x113,x114,x115,x116,x117,()),(x118,x119,x120,()),()) x102).1 (aA (x102,x103,x104,(x105,x106,()),((x107,x108,()),x109,x110,x111,()),(x112,x113,x114,x115,x116,x117,()),(x118,x119,x120,()),()) x102).2)).2 != 0 then some (Out.ret (([],(fT x102 false (IntKind.i64.wrap x103) (Tre.mk (aA (x102,x103,x104,(x105,x106,()),((x107,x108,()),x109,x110,x111,()),(x112,x113,x114,x115,x116,x117,()),(x118,x119,x120,()),()) x102).1 (aA (x102,x103,x104,(x105,x106,()),((x107,x108,()),x109,x110,x111,()),(x112,x113,x114,x115,x116,x117,()),(x118,x119,x120,()),()) x102).2)).2,()),())) else bif decide ((aB (IntKind.i64.wrap x102) (Int.toNat 2)).length+(aB (IntKind.i64.wrap x103) (Int.toNat 2)).length≤4294967296) then bif decide (List.length (aB (IntKind.i64.wrap x102) (Int.toNat 2)++aB (IntKind.i64.wrap x103) (Int.toNat 2))+(aB (IntKind.i64.wrap x104) (Int.toNat 4)).length≤4294967296) then bif x105 then bif decide (List.length (aB (IntKind.i64.wrap x102) (Int.toNat 2)++aB (IntKind.i64.wrap x103) (Int.toNat 2)++aB (IntKind.i64.wrap x104) (Int.toNat 4))+(aB (-1) (Int.toNat 2)).length≤4294967296) then bif decide (List.length (aB (IntKind.i64.wrap x102) (Int.toNat 2)++aB (IntKind.i64.wrap x103) (Int.toNat 2)++aB (IntKind.i64.wrap x104) (Int.toNat 4)++aB (-1) (Int.toNat 2))+(fT x102 false (IntKind.i64.wrap x103) (Tre.mk (aA (x102,x103,x104,(x105,x106,()),((x107,x108,()),x109,x110,x111,()),(x112,x113,x114,x115,x116,x117,()),(x118,x119,x120,()),()) x102).1 (aA (x102,x103,x104,(x105,x106,()),((x107,x108,()),x109,x110,x111,()),(x112,x113,x114,x115,x116,x117,()),(x118,x119,x120,()),()) x102).2)).1.length≤4294967296) then some (Out.ret ((aB (IntKind.i64.wrap x102) (Int.toNat 2)++aB (IntKind.i64.wrap x103) (Int.toNat 2)++aB (IntKind.i64.wrap x104) (Int.toNat 4)++aB (-1) (Int.toNat 2)++(fT x102 false (IntKind.i64.wrap x103) (Tre.mk (aA (x102,x103,x104,(x105,x106,()),((x107,x108,()),x109,x110,x111,()),(x112,x113,x114,x115,x116,x117,()),(x118,x119,x120,()),()) x102).1 (aA (x102,x103,x104,(x105,x106,()),((x107,x108,()),x109,x110,x111,()),(x112,x113,x114,x115,x116,x117,()),(x118,x119,x120,()),()) x102).2)).1,0,()),())) else none else none else bif decide (List.length (aB (IntKind.i64.wrap x102) (Int.toNat 2)++aB (IntKind.i64.wrap x103) (Int.toNat 2)++aB (IntKind.i64.wrap x104) (Int.toNat 4))+(aB (↑x106.length:Int) (Int.toNat 2)).length≤4294967296) then bif decide (List.length (aB (IntKind.i64.wrap x102) (Int.toNat 2)++aB (IntKind.i64.wrap x103) (Int.toNat 2)++aB (IntKind.i64.wrap x104) (Int.toNat 4)++aB (↑x106.length:Int) (Int.toNat 2))+x106.length≤4294967296) then bif decide (List.length (aB (IntKind.i64.wrap x102) (Int.toNat 2)++aB (IntKind.i64.wrap x103) (Int.toNat 2)++aB (IntKind.i64.wrap x104) (Int.toNat 4)++aB (↑x106.length:Int) (Int.toNat 2)++x106)+(fT x102 false (IntKind.i64.wrap x103) (Tre.mk (aA (x102,x103,x104,(x105,x106,()),((x107,x108,()),x109,x110,x111,()),(x112,x113,x114,x115,x116,x117,()),(x118,x119,x120,()),()) x102).1 (aA (x102,x103,x104,(x105,x106,()),((x107,x108,()),x109,x110,x111,()),(x112,x113,x114,x115,x116,x117,()),(x118,x119,x120,()),()) x102).2)).1.length≤4294967296) then some (Out.ret ((aB (IntKind.i64.wrap x102) (Int.toNat 2)++aB (IntKind.i64.wrap x103) (Int.toNat 2)++aB (IntKind.i64.wrap x104) (Int.toNat 4)++aB (↑x106.length:Int) (Int.toNat 2)++x106++(fT x102 false (IntKind.i64.wrap x103) (Tre.mk (aA (x102,x103,x104,(x105,x106,()),((x107,x108,()),x109,x110,x111,()),(x112,x113,x114,x115,x116,x117,()),(x118,x119,x120,()),()) x102).1 (aA (x102,x103,x104,(x105,x106,()),((x107,x108,()),x109,x110,x111,()),(x112,x113,x114,x115,x116,x117,()),(x118,x119,x120,()),()) x102).2)).1,0,()),())) else none else none else none else none else none else none else none) else bif !(bM a4).2 then some (Out.ret (([],6,()),())) else bif decide (255<(↑a4.length:Int)) then some (Out.ret (([],4,()),())) else (ni ((0,()),((a0,(a1,(a2,(a3,(a4,(a5,(a6,(a7,(a8,(a9,(a10,(a11,(a12,(a13,(a14,(a15,(a16,(a17,(a18,()))))))))))))))))))),()))).run fun y=>match y with | .ret ((),((x141,x142,()),()))=>(some (Out.ret ((x141,x142,()),()))) | .pan (.ret ((),((),(x143,x144,x145,x146,x147,x148,x149,x150,x151,x152,x153,x154,x155,x156,x157,x158,x159,x160,x161,()),())))=>(bif bO (x143,x144,x145,(x146,x147,()),((x148,x149,()),x150,x151,x152,()),(x153,x154,x155,x156,x157,x158,()),(x159,x160,x161,()),()) then bif decide (8*aP (Tre.mk (aA (x143,x144,x145,(x146,x147,()),((x148,x149,()),x150,x151,x152,()),(x153,x154,x155,x156,x157,x158,()),(x159,x160,x161,()),()) x143).1 (aA (x143,x144,x145,(x146,x147,()),((x148,x149,()),x150,x151,x152,()),(x153,x154,x155,x156,x157,x158,()),(x159,x160,x161,()),()) x143).2)≤4294967296) then bif (fT x143 false (IntKind.i64.wrap x144) (Tre.mk (aA (x143,x144,x145,(x146,x147,()),((x148,x149,()),x150,x151,x152,()),(x153,x154,x155,x156,x157,x158,()),(x159,x160,x161,()),()) x143).1 (aA (x143,x144,x145,(x146,x147,()),((x148,x149,()),x150,x151,x152,()),(x153,x154,x155,x156,x157,x158,()),(x159,x160,x161,()),()) x143).2)).2 != 0 then some (Out.ret (([],(fT x143 false (IntKind.i64.wrap x144) (Tre.mk (aA (x143,x144,x145,(x146,x147,()),((x148,x149,()),x150,x151,x152,()),(x153,x154,x155,x156,x157,x158,()),(x159,x160,x161,()),()) x143).1 (aA (x143,x144,x145,(x146,x147,()),((x148,x149,()),x150,x151,x152,()),(x153,x154,x155,x156,x157,x158,()),(x159,x160,x161,()),()) x143).2)).2,()),())) else bif decide ((aB (IntKind.i64.wrap x143) (Int.toNat 2)).length+(aB (IntKind.i64.wrap x144) (Int.toNat 2)).length≤4294967296) then bif decide (List.length (aB (IntKind.i64.wrap x143) (Int.toNat 2)++aB (IntKind.i64.wrap x144) (Int.toNat 2))+(aB (IntKind.i64.wrap x145) (Int.toNat 4)).length≤4294967296) then bif x146 then bif decide (List.length (aB (IntKind.i64.wrap x143) (Int.toNat 2)++aB (IntKind.i64.wrap x144) (Int.toNat 2)++aB (IntKind.i64.wrap x145) (Int.toNat 4))+(aB (-1) (Int.toNat 2)).length≤4294967296) then bif decide (List.length (aB (IntKind.i64.wrap x143) (Int.toNat 2)++aB (IntKind.i64.wrap x144) (Int.toNat 2)++aB (IntKind.i64.wrap x145) (Int.toNat 4)++aB (-1) (Int.toNat 2))+(fT x143 false (IntKind.i64.wrap x144) (Tre.mk (aA (x143,x144,x145,(x146,x147,()),((x148,x149,()),x150,x151,x152,()),(x153,x154,x155,x156,x157,x158,()),(x159,x160,x161,()),()) x143).1 (aA (x143,x144,x145,(x146,x147,()),((x148,x149,()),x150,x151,x152,()),(x153,x154,x155,x156,x157,x158,()),(x159,x160,x161,()),()) x143).2)).1.length≤4294967296) then some (Out.ret ((aB (IntKind.i64.wrap x143) (Int.toNat 2)++aB (IntKind.i64.wrap x144) (Int.toNat 2)++aB (IntKind.i64.wrap x145) (Int.toNat 4)++aB (-1) (Int.toNat 2)++(fT x143 false (IntKind.i64.wrap x144) (Tre.mk (aA (x143,x144,x145,(x146,x147,()),((x148,x149,()),x150,x151,x152,()),(x153,x154,x155,x156,x157,x158,()),(x159,x160,x161,()),()) x143).1 (aA (x143,x144,x145,(x146,x147,()),((x148,x149,()),x150,x151,x152,()),(x153,x154,x155,x156,x157,x158,()),(x159,x160,x161,()),()) x143).2)).1,0,()),())) else none else none else bif decide (List.length (aB (IntKind.i64.wrap x143) (Int.toNat 2)++aB (IntKind.i64.wrap x144) (Int.toNat 2)++aB (IntKind.i64.wrap x145) (Int.toNat 4))+(aB (↑x147.length:Int) (Int.toNat 2)).length≤4294967296) then bif decide (List.length (aB (IntKind.i64.wrap x143) (Int.toNat 2)++aB (IntKind.i64.wrap x144) (Int.toNat 2)++aB (IntKind.i64.wrap x145) (Int.toNat 4)++aB (↑x147.length:Int) (Int.toNat 2))+x147.length≤4294967296) then bif decide (List.length (aB (IntKind.i64.wrap x143) (Int.toNat 2)++aB (IntKind.i64.wrap x144) (Int.toNat 2)++aB (IntKind.i64.wrap x145) (Int.toNat 4)++aB (↑x147.length:Int) (Int.toNat 2)++x147)+(fT x143 false (IntKind.i64.wrap x144) (Tre.mk (aA (x143,x144,x145,(x146,x147,()),((x148,x149,()),x150,x151,x152,()),(x153,x154,x155,x156,x157,x158,()),(x159,x160,x161,()),()) x143).1 (aA (x143,x144,x145,(x146,x147,()),((x148,x149,()),x150,x151,x152,()),(x153,x154,x155,x156,x157,x158,()),(x159,x160,x161,()),()) x143).2)).1.length≤4294967296) then some (Out.ret ((aB (IntKind.i64.wrap x143) (Int.toNat 2)++aB (IntKind.i64.wrap x144) (Int.toNat 2)++aB (IntKind.i64.wrap x145) (Int.toNat 4)++aB (↑x147.length:Int) (Int.toNat 2)++x147++(fT x143 false (IntKind.i64.wrap x144) (Tre.mk (aA (x143,x144,x145,(x146,x147,()),((x148,x149,()),x150,x151,x152,()),(x153,x154,x155,x156,x157,x158,()),(x159,x160,x161,()),()) x143).1 (aA (x143,x144,x145,(x146,x147,()),((x148,x149,()),x150,x151,x152,()),(x153,x154,x155,x156,x157,x158,()),(x159,x160,x161,()),()) x143).2)).1,0,()),())) else none else none else none else none else none else none else none)
theorem Wg (a0 a1 a2:Int)(a3:Bool)(a4:List Int)(a5:Bool)(a6:List Int)(a7 a8:Int)(a9:List ap.den)(a10 a11 a12 a13 a14:Int)(a15:List ag.den)(a16 a17:Int)(a18:List af.den):Io.run tt Oy dr yC oJ Tryz.f10 (((a0,a1,a2,(a3,a4,()),((a5,a6,()),a7,a8,a9,()),(a10,a11,a12,a13,a14,a15,()),(a16,a17,a18,()),()),()),())=Dj a0 a1 a2 a3 a4 a5 a6 a7 a8 a9 a10 a11 a12 a13 a14 a15 a16 a17 a18:=by kernel_rfl
theorem YE:HcOk prog 10 (ah oJ Ld):=by
 refine aj (n:=400) hm (cs:=FE) (.cons JN (.cons GD (.cons uC (.cons JO (.cons VB (.cons ry (.cons Em .nil))))))) (lp:=yC) (fn:=Tryz.f10) (by kernel_rfl) (by kernel_rfl) (by kernel_rfl) oJ (.step (h0:=aN fb ni) (by kernel_rfl) (aw (n:=400) hm (cs:=FE) (.cons JN (.cons GD (.cons uC (.cons JO (.cons VB (.cons ry (.cons Em .nil))))))) (lp:=yC) (fn:=Tryz.f10) (.done (by kernel_rfl)) fb ni ?_) (.done (by kernel_rfl))) Ld ?_
 ·rintro ⟨⟨(j:Int),⟨⟩⟩,⟨⟨(k:Int),(v:Int),(co:Int),(cz:Bool),(cs:List Int),(nz:Bool),(ns:List Int),(ak:Int),(wt:Int),(ts:List ap.den),(fr:Int),(fw:Int),(fm:Int),(fx:Int),(fl:Int),(ft:List ag.den),(lr:Int),(ll:Int),(lt:List af.den),⟨⟩⟩,⟨⟩⟩⟩ y hw hy
  obtain ⟨hg,hy⟩:=Tr.guard hy
  simp only[Bool.and_eq_true,decide_eq_true_eq] at hg
  obtain ⟨h1,h2⟩:=hg
  have h1:j=0:=h1
  subst h1
  refine ⟨4,(Qn k v co cz cs nz ns ak wt ts fr fw fm fx fl ft lr ll lt h2).trans ?_⟩
  rw[← hy]
  show _=(Tr.ite (GZ (k,(v,(co,((cz,(cs,())),(((nz,(ns,())),(ak,(wt,(ts,())))),((fr,(fw,(fm,(fx,(fl,(ft,())))))),((lr,(ll,(lt,()))),())))))))) _ _).val
  rw[Tr.val_ite]
  rfl
 ·rintro ⟨⟨⟨(k:Int),(v:Int),(co:Int),⟨(cz:Bool),(cs:List Int),⟨⟩⟩,⟨⟨(nz:Bool),(ns:List Int),⟨⟩⟩,(ak:Int),(wt:Int),(ts:List ap.den),⟨⟩⟩,⟨(fr:Int),(fw:Int),(fm:Int),(fx:Int),(fl:Int),(ft:List ag.den),⟨⟩⟩,⟨(lr:Int),(ll:Int),(lt:List af.den),⟨⟩⟩,⟨⟩⟩,⟨⟩⟩,⟨⟩⟩ out hw ho
  obtain ⟨hg,ho⟩:=Tr.guard ho
  obtain ⟨hg,hb⟩:=Bool.and_eq_true_iff.1 hg
  have hg:bO (k,(v,(co,((cz,(cs,())),(((nz,(ns,())),(ak,(wt,(ts,())))),((fr,(fw,(fm,(fx,(fl,(ft,())))))),((lr,(ll,(lt,()))),())))))))=true:=hg
  have hb:8*aP (aA (k,(v,(co,((cz,(cs,())),(((nz,(ns,())),(ak,(wt,(ts,())))),((fr,(fw,(fm,(fx,(fl,(ft,())))))),((lr,(ll,(lt,()))),()))))))) k)≤4294967296:=of_decide_eq_true hb
  cases ho
  refine (Wg k v co cz cs nz ns ak wt ts fr fw fm fx fl ft lr ll lt).trans ?_
  unfold Dj
  show _=some (Out.ret (((i5 (k,(v,(co,((cz,(cs,())),(((nz,(ns,())),(ak,(wt,(ts,())))),((fr,(fw,(fm,(fx,(fl,(ft,())))))),((lr,(ll,(lt,()))),())))))))).1,((i5 (k,(v,(co,((cz,(cs,())),(((nz,(ns,())),(ak,(wt,(ts,())))),((fr,(fw,(fm,(fx,(fl,(ft,())))))),((lr,(ll,(lt,()))),())))))))).2,())),()))
  unfold i5
  have hk64:IntKind.i64.wrap k=k:=ge hw.1.1.1
  have hv64:IntKind.i64.wrap v=v:=ge hw.1.1.2.1
  have hc64:IntKind.i64.wrap co=co:=cO hw.1.1.2.2.1
  have hs64:IntKind.i64.wrap (cs.length:Int)=cs.length∨255<cs.length:=by
   by_cases h:255<cs.length
   ·exact .inr h
   ·exact .inl (aC (by omega) (by omega))
  dsimp only
  by_cases h1:gE k v=0
  ·rw[ab (by simpa using h1),if_neg (not_not_intro h1)]
   by_cases hz:cz=true∧cs≠[]
   ·have hcc:o8 (cz,(cs,()))=70:=if_pos hz
    rw[hz.1] at hcc ⊢
    rw[cond_true,aa (decide_eq_true (by have:=List.length_pos_iff.2 hz.2;omega)),if_pos (by rw[hcc];decide),hcc]
   ·have hcc:o8 (cz,(cs,()))=if (bM cs).2=false then 6 else if 255<cs.length then 4 else 0:=if_neg hz
    cases cz
    ·rw[cond_false]
     by_cases hu:(bM cs).2=false
     ·have hc:=hcc.trans (if_pos hu)
      rw[hu,Bool.not_false,cond_true,if_pos (by rw[hc];decide),hc]
     ·have hu':(bM cs).2=true:=by simpa using hu
      rw[hu',Bool.not_true,cond_false]
      by_cases h5:255<cs.length
      ·have hc:=hcc.trans ((if_neg hu).trans (if_pos h5))
       rw[aa (decide_eq_true (by omega)),if_pos (by rw[hc];decide),hc]
      ·have hc:=hcc.trans ((if_neg hu).trans (if_neg h5))
       rw[ab (decide_eq_false (by omega)),if_neg (not_not_intro hc)]
       refine (aa (Bool.and_eq_true_iff.2 ⟨rfl,hg⟩) _ _).trans ?_
       by_cases h6:GZ (k,(v,(co,((false,(cs,())),(((nz,(ns,())),(ak,(wt,(ts,())))),((fr,(fw,(fm,(fx,(fl,(ft,())))))),((lr,(ll,(lt,()))),())))))))=true
       ·rw[if_pos h6]
        refine (aa h6 _ _).trans ?_
        refine (aa hg _ _).trans ?_
        generalize aA (k,(v,(co,((false,(cs,())),(((nz,(ns,())),(ak,(wt,(ts,())))),((fr,(fw,(fm,(fx,(fl,(ft,())))))),((lr,(ll,(lt,()))),()))))))) k=n at hb ⊢
        obtain ⟨nl,nk⟩:=n
        refine (aa (decide_eq_true hb) _ _).trans ?_
        rw[hk64,hv64,hc64]
        have hy:(fT k false v (Tre.mk nl nk)).1.length≤130048:=lM _ _ _ _
        by_cases h7:(fT k false v (Tre.mk nl nk)).2=0
        ·refine (ab (by simpa using h7) _ _).trans ?_
         rw[if_neg (not_not_intro h7)]
         generalize (fT k false v (Tre.mk nl nk)).1=y at hy ⊢
         simp only[show Int.toNat 2=2 from rfl,show Int.toNat 4=4 from rfl,List.length_append,bN]
         refine (aa (decide_eq_true (by omega)) _ _).trans ?_
         refine (aa (decide_eq_true (by omega)) _ _).trans ?_
         rw[cond_false]
         refine (aa (decide_eq_true (by omega)) _ _).trans ?_
         refine (aa (decide_eq_true (by omega)) _ _).trans ?_
         refine (aa (decide_eq_true (by omega)) _ _).trans ?_
         simp[Bx,rB]
        ·refine (aa (by simpa using h7) _ _).trans ?_
         rw[if_pos h7]
       ·rw[if_neg h6]
        exact ab (Bool.eq_false_iff.2 h6) _ _
    ·rw[cond_true,ab (decide_eq_false (by have:cs=[]:=Classical.byContradiction fun h=>hz ⟨rfl,h⟩;rw[this];decide))]
     by_cases hu:(bM cs).2=false
     ·have hc:=hcc.trans (if_pos hu)
      rw[hu,Bool.not_false,cond_true,if_pos (by rw[hc];decide),hc]
     ·have hu':(bM cs).2=true:=by simpa using hu
      rw[hu',Bool.not_true,cond_false]
      by_cases h5:255<cs.length
      ·have hc:=hcc.trans ((if_neg hu).trans (if_pos h5))
       rw[aa (decide_eq_true (by omega)),if_pos (by rw[hc];decide),hc]
      ·have hc:=hcc.trans ((if_neg hu).trans (if_neg h5))
       rw[ab (decide_eq_false (by omega)),if_neg (not_not_intro hc)]
       refine (aa (Bool.and_eq_true_iff.2 ⟨rfl,hg⟩) _ _).trans ?_
       by_cases h6:GZ (k,(v,(co,((true,(cs,())),(((nz,(ns,())),(ak,(wt,(ts,())))),((fr,(fw,(fm,(fx,(fl,(ft,())))))),((lr,(ll,(lt,()))),())))))))=true
       ·rw[if_pos h6]
        refine (aa h6 _ _).trans ?_
        refine (aa hg _ _).trans ?_
        generalize aA (k,(v,(co,((true,(cs,())),(((nz,(ns,())),(ak,(wt,(ts,())))),((fr,(fw,(fm,(fx,(fl,(ft,())))))),((lr,(ll,(lt,()))),()))))))) k=n at hb ⊢
        obtain ⟨nl,nk⟩:=n
        refine (aa (decide_eq_true hb) _ _).trans ?_
        rw[hk64,hv64,hc64]
        have hy:(fT k false v (Tre.mk nl nk)).1.length≤130048:=lM _ _ _ _
        by_cases h7:(fT k false v (Tre.mk nl nk)).2=0
        ·refine (ab (by simpa using h7) _ _).trans ?_
         rw[if_neg (not_not_intro h7)]
         generalize (fT k false v (Tre.mk nl nk)).1=y at hy ⊢
         simp only[show Int.toNat 2=2 from rfl,show Int.toNat 4=4 from rfl,List.length_append,bN]
         refine (aa (decide_eq_true (by omega)) _ _).trans ?_
         refine (aa (decide_eq_true (by omega)) _ _).trans ?_
         rw[cond_true]
         refine (aa (decide_eq_true (by omega)) _ _).trans ?_
         refine (aa (decide_eq_true (by omega)) _ _).trans ?_
         simp[Bx,rB]
        ·refine (aa (by simpa using h7) _ _).trans ?_
         rw[if_pos h7]
       ·rw[if_neg h6]
        exact ab (Bool.eq_false_iff.2 h6) _ _
  ·rw[aa (by simpa using h1),if_pos h1]
def adf (c:jg.den):Bool:=if ((c.1=0∨b9 (bj c 0)=true)∧(c.1=1∨b9 (bj c 1)=true)∧(c.1=2∨b9 (bj c 2)=true)) then true else false
def c9 (x:(Int×(Int×(Int×(List aV.den×(Int×(Int×(List au.den×(Int×(List al.den×Unit)))))))))):jg.den:=(x.1,(x.2.1,(x.2.2.1,((x.2.2.2.1,(x.2.2.2.2.1,())),((x.2.2.2.2.2.1,(x.2.2.2.2.2.2.1,())),((x.2.2.2.2.2.2.2.1,(x.2.2.2.2.2.2.2.2.1,())),()))))))
abbrev AL:Lo:=⟨⟨(.any::.one (.ptr 1 0)::.any::bh (.one (.hol (.int IntKind.i16))::.any::ai (ai (dR (bQ (bh [])))))),[none,some [.hol (.int IntKind.i16),.hol (.int IntKind.i16),.hol (.int IntKind.i32),.hol (.sl 212 aV),.hol (.int IntKind.i32),.hol (.int IntKind.i32),.hol (.sl 221 au),.hol (.int IntKind.i32),.hol (.sl 230 al)]]⟩,[(.ret,⟨(bh (.one (.onl 5 (Ty.int IntKind.u8) 5)::.one (.hol (.int IntKind.i64))::.any::ai (ai (ai [])))),[]⟩),(.exit 0,⟨(.any::.one (.ptr 1 0)::.any::ai (ai (ai (bh [])))),[none,some [.hol (.int IntKind.i16),.hol (.int IntKind.i16),.hol (.int IntKind.i32),.hol (.sl 212 aV),.hol (.int IntKind.i32),.hol (.int IntKind.i32),.hol (.sl 221 au),.hol (.int IntKind.i32),.hol (.sl 230 al)]]⟩)]⟩
def abR (d:AL.st.den):Tr (aD AL.xs):=
 .ite (decide (d.1.1=0)&&fB (c9 d.2.1)) (.ite (adf (c9 d.2.1)) (.ret (.pan (.ret ((),((),(d.2.1,())))))) (.ret (.ret ((),(([],(7,())),()))))) .no
abbrev iC:Io:=⟨[.dat cD true false,.dat cD true false],[],[],[dB],none⟩
def s7 (a b:cD.den):Bool:=if (ci (aA a 0) (aA b 0)=true∧ci (aA a 1) (aA b 1)=true∧ci (aA a 2) (aA b 2)=true) then true else false
def y7 (d:iC.In):Tr iC.Res:=.ite (bO d.1.1&&bO d.1.2.1) (.ret (.ret ((kg d.1.1 d.1.2.1,()),()))) .no
abbrev vL:List (Nat×Hc):=[(36,ah j8 yh),(51,ah dW Fg)]
def DT:Hd:=bA vL
abbrev dY:Lo:=⟨⟨(bh (.one (.ptr 2 0)::.one (.ptr 3 0)::.any::.one (.hol (.int IntKind.i16))::ai (ai (bQ (bh []))))),[none,none,some [.hol (.int IntKind.i16),.hol (.int IntKind.i16),.hol (.int IntKind.i32),.hol .bool,.hol .str,.hol .bool,.hol .str,.hol (.int IntKind.i16),.hol (.int IntKind.i32),.hol (.sl 172 ap),.hol (.int IntKind.i32),.hol (.int IntKind.i32),.hol (.int IntKind.i32),.hol (.int IntKind.i32),.hol (.int IntKind.i8),.hol (.sl 185 ag),.hol (.int IntKind.i32),.hol (.int IntKind.i8),.hol (.sl 196 af)],some [.hol (.int IntKind.i16),.hol (.int IntKind.i16),.hol (.int IntKind.i32),.hol .bool,.hol .str,.hol .bool,.hol .str,.hol (.int IntKind.i16),.hol (.int IntKind.i32),.hol (.sl 172 ap),.hol (.int IntKind.i32),.hol (.int IntKind.i32),.hol (.int IntKind.i32),.hol (.int IntKind.i32),.hol (.int IntKind.i8),.hol (.sl 185 ag),.hol (.int IntKind.i32),.hol (.int IntKind.i8),.hol (.sl 196 af)]]⟩,[(.ret,⟨(bQ (.one (.hol .bool)::.any::ai (ai (bQ (bh []))))),[]⟩),(.exit 0,⟨(ai (ai (dR (bQ [])))),[]⟩)]⟩
def nO (d:dY.st.den):Tr (aD dY.xs):=
 .ite (decide (d.1.1=0)&&(bO (c19 d.2.1)&&bO (c19 d.2.2.1))) (.ite (s7 (c19 d.2.1) (c19 d.2.2.1)) (.ret (.pan (.ret ((),((),()))))) (.ret (.ret ((),((false,()),()))))) .no
def rn:Lp:=bv [(5,aN dY nO)]
def nc {R:Type}(h38 h39 h40 h41:Int)(h42:Bool)(h43:List Int)(h44:Bool)(h45:List Int)(h46 h47:Int)(h48:List ap.den)(h49 h50 h51 h52 h53:Int)(h54:List ag.den)(h55 h56:Int)(h57:List af.den)(h58 h59 h60:Int)(h61:Bool)(h62:List Int)(h63:Bool)(h64:List Int)(h65 h66:Int)(h67:List ap.den)(h68 h69 h70 h71 h72:Int)(h73:List ag.den)(h74 h75:Int)(h76:List af.den)(next:Int→Int→Int→Int→Bool→List Int→Bool→List Int→Int→Int→List ap.den→Int→Int→Int→Int→Int→List ag.den→Int→Int→List af.den→Int→Int→Int→Bool→List Int→Bool→List Int→Int→Int→List ap.den→Int→Int→Int→Int→Int→List ag.den→Int→Int→List af.den→Option R)(out:aD dY.xs→Option R):Option R:=bif decide (h38<3) then bif bO (h39,h40,h41,(h42,h43,()),((h44,h45,()),h46,h47,h48,()),(h49,h50,h51,h52,h53,h54,()),(h55,h56,h57,()),()) then bif bO (h58,h59,h60,(h61,h62,()),((h63,h64,()),h65,h66,h67,()),(h68,h69,h70,h71,h72,h73,()),(h74,h75,h76,()),()) then bif !ci (Tre.mk (aA (h39,h40,h41,(h42,h43,()),((h44,h45,()),h46,h47,h48,()),(h49,h50,h51,h52,h53,h54,()),(h55,h56,h57,()),()) h38).1 (aA (h39,h40,h41,(h42,h43,()),((h44,h45,()),h46,h47,h48,()),(h49,h50,h51,h52,h53,h54,()),(h55,h56,h57,()),()) h38).2) (Tre.mk (aA (h58,h59,h60,(h61,h62,()),((h63,h64,()),h65,h66,h67,()),(h68,h69,h70,h71,h72,h73,()),(h74,h75,h76,()),()) h38).1 (aA (h58,h59,h60,(h61,h62,()),((h63,h64,()),h65,h66,h67,()),(h68,h69,h70,h71,h72,h73,()),(h74,h75,h76,()),()) h38).2) then out (.ret ((),((false,()),()))) else next (IntKind.i16.wrap (h38+1)) (h39) (h40) (h41) (h42) (h43) (h44) (h45) (h46) (h47) (h48) (h49) (h50) (h51) (h52) (h53) (h54) (h55) (h56) (h57) (h58) (h59) (h60) (h61) (h62) (h63) (h64) (h65) (h66) (h67) (h68) (h69) (h70) (h71) (h72) (h73) (h74) (h75) (h76) else none else none else out (.pan (.ret ((),((),()))))
def cH (n:Nat)(h38 h39 h40 h41:Int)(h42:Bool)(h43:List Int)(h44:Bool)(h45:List Int)(h46 h47:Int)(h48:List ap.den)(h49 h50 h51 h52 h53:Int)(h54:List ag.den)(h55 h56:Int)(h57:List af.den)(h58 h59 h60:Int)(h61:Bool)(h62:List Int)(h63:Bool)(h64:List Int)(h65 h66:Int)(h67:List ap.den)(h68 h69 h70 h71 h72:Int)(h73:List ag.den)(h74 h75:Int)(h76:List af.den):Option (aD dY.xs):=gd tt DT dr rn 0 Tryz.f14 (cE Tryz.f14 0) n (dY.st.mk' ((h38,()),((h39,(h40,(h41,(h42,(h43,(h44,(h45,(h46,(h47,(h48,(h49,(h50,(h51,(h52,(h53,(h54,(h55,(h56,(h57,()))))))))))))))))))),((h58,(h59,(h60,(h61,(h62,(h63,(h64,(h65,(h66,(h67,(h68,(h69,(h70,(h71,(h72,(h73,(h74,(h75,(h76,()))))))))))))))))))),())))) (bL dY.xs)
theorem xB (n:Nat)(h38 h39 h40 h41:Int)(h42:Bool)(h43:List Int)(h44:Bool)(h45:List Int)(h46 h47:Int)(h48:List ap.den)(h49 h50 h51 h52 h53:Int)(h54:List ag.den)(h55 h56:Int)(h57:List af.den)(h58 h59 h60:Int)(h61:Bool)(h62:List Int)(h63:Bool)(h64:List Int)(h65 h66:Int)(h67:List ap.den)(h68 h69 h70 h71 h72:Int)(h73:List ag.den)(h74 h75:Int)(h76:List af.den):cH (n+1) h38 h39 h40 h41 h42 h43 h44 h45 h46 h47 h48 h49 h50 h51 h52 h53 h54 h55 h56 h57 h58 h59 h60 h61 h62 h63 h64 h65 h66 h67 h68 h69 h70 h71 h72 h73 h74 h75 h76=nc h38 h39 h40 h41 h42 h43 h44 h45 h46 h47 h48 h49 h50 h51 h52 h53 h54 h55 h56 h57 h58 h59 h60 h61 h62 h63 h64 h65 h66 h67 h68 h69 h70 h71 h72 h73 h74 h75 h76 (cH n) some:=by kernel_rfl
theorem oT (kA vA coA:Int)(czA:Bool)(csA:List Int)(nzA:Bool)(nsA:List Int)(akA wtA:Int)(tsA:List ap.den)(frA fwA fmA fxA flA:Int)(ftA:List ag.den)(lrA llA:Int)(ltA:List af.den)(kB vB coB:Int)(czB:Bool)(csB:List Int)(nzB:Bool)(nsB:List Int)(akB wtB:Int)(tsB:List ap.den)(frB fwB fmB fxB flB:Int)(ftB:List ag.den)(lrB llB:Int)(ltB:List af.den)(hA:bO (kA,(vA,(coA,((czA,(csA,())),(((nzA,(nsA,())),(akA,(wtA,(tsA,())))),((frA,(fwA,(fmA,(fxA,(flA,(ftA,())))))),((lrA,(llA,(ltA,()))),())))))))=true)(hB:bO (kB,(vB,(coB,((czB,(csB,())),(((nzB,(nsB,())),(akB,(wtB,(tsB,())))),((frB,(fwB,(fmB,(fxB,(flB,(ftB,())))))),((lrB,(llB,(ltB,()))),())))))))=true)(n j:Nat)(hj:j<3):cH (n+1) (j:Int) kA vA coA czA csA nzA nsA akA wtA tsA frA fwA fmA fxA flA ftA lrA llA ltA kB vB coB czB csB nzB nsB akB wtB tsB frB fwB fmB fxB flB ftB lrB llB ltB=
  if ci (aA (kA,(vA,(coA,((czA,(csA,())),(((nzA,(nsA,())),(akA,(wtA,(tsA,())))),((frA,(fwA,(fmA,(fxA,(flA,(ftA,())))))),((lrA,(llA,(ltA,()))),()))))))) (j:Int)) (aA (kB,(vB,(coB,((czB,(csB,())),(((nzB,(nsB,())),(akB,(wtB,(tsB,())))),((frB,(fwB,(fmB,(fxB,(flB,(ftB,())))))),((lrB,(llB,(ltB,()))),()))))))) (j:Int))=true then cH n ((j+1:Nat):Int) kA vA coA czA csA nzA nsA akA wtA tsA frA fwA fmA fxA flA ftA lrA llA ltA kB vB coB czB csB nzB nsB akB wtB tsB frB fwB fmB fxB flB ftB lrB llB ltB else some (.ret ((),((false,()),()))):=by
 rw[xB]
 unfold nc
 have hw:IntKind.i16.wrap ((j:Int)+1)=((j+1:Nat):Int):=dd (by simp[ey,IntKind.min,IntKind.max,IntKind.signed,IntKind.bits];omega)
 refine (aa (decide_eq_true (show (j:Int)<3 by omega)) _ _).trans ?_
 refine (aa hA _ _).trans ?_
 refine (aa hB _ _).trans ?_
 generalize aA (kA,(vA,(coA,((czA,(csA,())),(((nzA,(nsA,())),(akA,(wtA,(tsA,())))),((frA,(fwA,(fmA,(fxA,(flA,(ftA,())))))),((lrA,(llA,(ltA,()))),()))))))) (j:Int)=n0
 generalize aA (kB,(vB,(coB,((czB,(csB,())),(((nzB,(nsB,())),(akB,(wtB,(tsB,())))),((frB,(fwB,(fmB,(fxB,(flB,(ftB,())))))),((lrB,(llB,(ltB,()))),()))))))) (j:Int)=n1
 obtain ⟨nl,nk⟩:=n0
 obtain ⟨ml,mk⟩:=n1
 by_cases h2:ci (Tre.mk nl nk) (Tre.mk ml mk)=true
 ·rw[if_pos h2,h2,Bool.not_true,cond_false,hw]
 ·rw[if_neg h2,Bool.eq_false_iff.2 h2,Bool.not_false,cond_true]
theorem I0 (kA vA coA:Int)(czA:Bool)(csA:List Int)(nzA:Bool)(nsA:List Int)(akA wtA:Int)(tsA:List ap.den)(frA fwA fmA fxA flA:Int)(ftA:List ag.den)(lrA llA:Int)(ltA:List af.den)(kB vB coB:Int)(czB:Bool)(csB:List Int)(nzB:Bool)(nsB:List Int)(akB wtB:Int)(tsB:List ap.den)(frB fwB fmB fxB flB:Int)(ftB:List ag.den)(lrB llB:Int)(ltB:List af.den)(hA:bO (kA,(vA,(coA,((czA,(csA,())),(((nzA,(nsA,())),(akA,(wtA,(tsA,())))),((frA,(fwA,(fmA,(fxA,(flA,(ftA,())))))),((lrA,(llA,(ltA,()))),())))))))=true)(hB:bO (kB,(vB,(coB,((czB,(csB,())),(((nzB,(nsB,())),(akB,(wtB,(tsB,())))),((frB,(fwB,(fmB,(fxB,(flB,(ftB,())))))),((lrB,(llB,(ltB,()))),())))))))=true):cH 4 0 kA vA coA czA csA nzA nsA akA wtA tsA frA fwA fmA fxA flA ftA lrA llA ltA kB vB coB czB csB nzB nsB akB wtB tsB frB fwB fmB fxB flB ftB lrB llB ltB=
  if s7 (kA,(vA,(coA,((czA,(csA,())),(((nzA,(nsA,())),(akA,(wtA,(tsA,())))),((frA,(fwA,(fmA,(fxA,(flA,(ftA,())))))),((lrA,(llA,(ltA,()))),()))))))) (kB,(vB,(coB,((czB,(csB,())),(((nzB,(nsB,())),(akB,(wtB,(tsB,())))),((frB,(fwB,(fmB,(fxB,(flB,(ftB,())))))),((lrB,(llB,(ltB,()))),())))))))=true then some (.pan (.ret ((),((),())))) else some (.ret ((),((false,()),()))):=by
 have s0:cH 4 0 kA vA coA czA csA nzA nsA akA wtA tsA frA fwA fmA fxA flA ftA lrA llA ltA kB vB coB czB csB nzB nsB akB wtB tsB frB fwB fmB fxB flB ftB lrB llB ltB=if ci (aA (kA,(vA,(coA,((czA,(csA,())),(((nzA,(nsA,())),(akA,(wtA,(tsA,())))),((frA,(fwA,(fmA,(fxA,(flA,(ftA,())))))),((lrA,(llA,(ltA,()))),()))))))) 0) (aA (kB,(vB,(coB,((czB,(csB,())),(((nzB,(nsB,())),(akB,(wtB,(tsB,())))),((frB,(fwB,(fmB,(fxB,(flB,(ftB,())))))),((lrB,(llB,(ltB,()))),()))))))) 0)=true then cH 3 ((1:Nat):Int) kA vA coA czA csA nzA nsA akA wtA tsA frA fwA fmA fxA flA ftA lrA llA ltA kB vB coB czB csB nzB nsB akB wtB tsB frB fwB fmB fxB flB ftB lrB llB ltB else some (.ret ((),((false,()),()))):=oT kA vA coA czA csA nzA nsA akA wtA tsA frA fwA fmA fxA flA ftA lrA llA ltA kB vB coB czB csB nzB nsB akB wtB tsB frB fwB fmB fxB flB ftB lrB llB ltB hA hB 3 0 (by decide)
 have s1:cH 3 ((1:Nat):Int) kA vA coA czA csA nzA nsA akA wtA tsA frA fwA fmA fxA flA ftA lrA llA ltA kB vB coB czB csB nzB nsB akB wtB tsB frB fwB fmB fxB flB ftB lrB llB ltB=if ci (aA (kA,(vA,(coA,((czA,(csA,())),(((nzA,(nsA,())),(akA,(wtA,(tsA,())))),((frA,(fwA,(fmA,(fxA,(flA,(ftA,())))))),((lrA,(llA,(ltA,()))),()))))))) 1) (aA (kB,(vB,(coB,((czB,(csB,())),(((nzB,(nsB,())),(akB,(wtB,(tsB,())))),((frB,(fwB,(fmB,(fxB,(flB,(ftB,())))))),((lrB,(llB,(ltB,()))),()))))))) 1)=true then cH 2 ((2:Nat):Int) kA vA coA czA csA nzA nsA akA wtA tsA frA fwA fmA fxA flA ftA lrA llA ltA kB vB coB czB csB nzB nsB akB wtB tsB frB fwB fmB fxB flB ftB lrB llB ltB else some (.ret ((),((false,()),()))):=oT kA vA coA czA csA nzA nsA akA wtA tsA frA fwA fmA fxA flA ftA lrA llA ltA kB vB coB czB csB nzB nsB akB wtB tsB frB fwB fmB fxB flB ftB lrB llB ltB hA hB 2 1 (by decide)
 have s2:cH 2 ((2:Nat):Int) kA vA coA czA csA nzA nsA akA wtA tsA frA fwA fmA fxA flA ftA lrA llA ltA kB vB coB czB csB nzB nsB akB wtB tsB frB fwB fmB fxB flB ftB lrB llB ltB=if ci (aA (kA,(vA,(coA,((czA,(csA,())),(((nzA,(nsA,())),(akA,(wtA,(tsA,())))),((frA,(fwA,(fmA,(fxA,(flA,(ftA,())))))),((lrA,(llA,(ltA,()))),()))))))) 2) (aA (kB,(vB,(coB,((czB,(csB,())),(((nzB,(nsB,())),(akB,(wtB,(tsB,())))),((frB,(fwB,(fmB,(fxB,(flB,(ftB,())))))),((lrB,(llB,(ltB,()))),()))))))) 2)=true then cH 1 ((3:Nat):Int) kA vA coA czA csA nzA nsA akA wtA tsA frA fwA fmA fxA flA ftA lrA llA ltA kB vB coB czB csB nzB nsB akB wtB tsB frB fwB fmB fxB flB ftB lrB llB ltB else some (.ret ((),((false,()),()))):=oT kA vA coA czA csA nzA nsA akA wtA tsA frA fwA fmA fxA flA ftA lrA llA ltA kB vB coB czB csB nzB nsB akB wtB tsB frB fwB fmB fxB flB ftB lrB llB ltB hA hB 1 2 (by decide)
 have s3:cH 1 ((3:Nat):Int) kA vA coA czA csA nzA nsA akA wtA tsA frA fwA fmA fxA flA ftA lrA llA ltA kB vB coB czB csB nzB nsB akB wtB tsB frB fwB fmB fxB flB ftB lrB llB ltB=some (.pan (.ret ((),((),())))):=by
  rw[xB]
  unfold nc
  exact ab (by decide) _ _
 rw[s0,s1,s2,s3]
 unfold s7
 by_cases h0:ci (aA (kA,(vA,(coA,((czA,(csA,())),(((nzA,(nsA,())),(akA,(wtA,(tsA,())))),((frA,(fwA,(fmA,(fxA,(flA,(ftA,())))))),((lrA,(llA,(ltA,()))),()))))))) 0) (aA (kB,(vB,(coB,((czB,(csB,())),(((nzB,(nsB,())),(akB,(wtB,(tsB,())))),((frB,(fwB,(fmB,(fxB,(flB,(ftB,())))))),((lrB,(llB,(ltB,()))),()))))))) 0)=true
 ·rw[if_pos h0]
  by_cases h1:ci (aA (kA,(vA,(coA,((czA,(csA,())),(((nzA,(nsA,())),(akA,(wtA,(tsA,())))),((frA,(fwA,(fmA,(fxA,(flA,(ftA,())))))),((lrA,(llA,(ltA,()))),()))))))) 1) (aA (kB,(vB,(coB,((czB,(csB,())),(((nzB,(nsB,())),(akB,(wtB,(tsB,())))),((frB,(fwB,(fmB,(fxB,(flB,(ftB,())))))),((lrB,(llB,(ltB,()))),()))))))) 1)=true
  ·rw[if_pos h1]
   by_cases h2:ci (aA (kA,(vA,(coA,((czA,(csA,())),(((nzA,(nsA,())),(akA,(wtA,(tsA,())))),((frA,(fwA,(fmA,(fxA,(flA,(ftA,())))))),((lrA,(llA,(ltA,()))),()))))))) 2) (aA (kB,(vB,(coB,((czB,(csB,())),(((nzB,(nsB,())),(akB,(wtB,(tsB,())))),((frB,(fwB,(fmB,(fxB,(flB,(ftB,())))))),((lrB,(llB,(ltB,()))),()))))))) 2)=true
   ·rw[if_pos h2,if_pos (by rw[if_pos ⟨h0,h1,h2⟩])]
   ·rw[if_neg h2,if_neg (by rw[if_neg (fun h=>h2 h.2.2)];decide)]
  ·rw[if_neg h1,if_neg (by rw[if_neg (fun h=>h1 h.2.1)];decide)]
 ·rw[if_neg h0,if_neg (by rw[if_neg (fun h=>h0 h.1)];decide)]
def w6 (a0 a1 a2:Int)(a3:Bool)(a4:List Int)(a5:Bool)(a6:List Int)(a7 a8:Int)(a9:List ap.den)(a10 a11 a12 a13 a14:Int)(a15:List ag.den)(a16 a17:Int)(a18:List af.den)(a19 a20 a21:Int)(a22:Bool)(a23:List Int)(a24:Bool)(a25:List Int)(a26 a27:Int)(a28:List ap.den)(a29 a30 a31 a32 a33:Int)(a34:List ag.den)(a35 a36:Int)(a37:List af.den):Option iC.Res:=bif a0 != a19 then some (Out.ret ((false,()),())) else bif a1 != a20 then some (Out.ret ((false,()),())) else bif a2 != a21 then some (Out.ret ((false,()),())) else bif !(a3 == a22&&(decide (a4=a23)&&true)) then some (Out.ret ((false,()),())) else (nO ((0,()),((a0,(a1,(a2,(a3,(a4,(a5,(a6,(a7,(a8,(a9,(a10,(a11,(a12,(a13,(a14,(a15,(a16,(a17,(a18,()))))))))))))))))))),((a19,(a20,(a21,(a22,(a23,(a24,(a25,(a26,(a27,(a28,(a29,(a30,(a31,(a32,(a33,(a34,(a35,(a36,(a37,()))))))))))))))))))),())))).run fun y=>match y with | .ret ((),((x117,()),()))=>(some (Out.ret ((x117,()),()))) | .pan (.ret ((),((),())))=>(some (Out.ret ((true,()),())))
theorem My (a0 a1 a2:Int)(a3:Bool)(a4:List Int)(a5:Bool)(a6:List Int)(a7 a8:Int)(a9:List ap.den)(a10 a11 a12 a13 a14:Int)(a15:List ag.den)(a16 a17:Int)(a18:List af.den)(a19 a20 a21:Int)(a22:Bool)(a23:List Int)(a24:Bool)(a25:List Int)(a26 a27:Int)(a28:List ap.den)(a29 a30 a31 a32 a33:Int)(a34:List ag.den)(a35 a36:Int)(a37:List af.den):Io.run tt DT dr rn iC Tryz.f14 (((a0,a1,a2,(a3,a4,()),((a5,a6,()),a7,a8,a9,()),(a10,a11,a12,a13,a14,a15,()),(a16,a17,a18,()),()),(a19,a20,a21,(a22,a23,()),((a24,a25,()),a26,a27,a28,()),(a29,a30,a31,a32,a33,a34,()),(a35,a36,a37,()),()),()),())=w6 a0 a1 a2 a3 a4 a5 a6 a7 a8 a9 a10 a11 a12 a13 a14 a15 a16 a17 a18 a19 a20 a21 a22 a23 a24 a25 a26 a27 a28 a29 a30 a31 a32 a33 a34 a35 a36 a37:=by kernel_rfl
theorem QG:HcOk prog 14 (ah iC y7):=by
 refine aj (n:=400) hm (cs:=vL) (.cons uC (.cons uE .nil)) (lp:=rn) (fn:=Tryz.f14) (by kernel_rfl) (by kernel_rfl) (by kernel_rfl) iC (.step (h0:=aN dY nO) (by kernel_rfl) (aw (n:=400) hm (cs:=vL) (.cons uC (.cons uE .nil)) (lp:=rn) (fn:=Tryz.f14) (.done (by kernel_rfl)) dY nO ?_) (.done (by kernel_rfl))) y7 ?_
 ·rintro ⟨⟨(j:Int),⟨⟩⟩,⟨⟨(kA:Int),(vA:Int),(coA:Int),(czA:Bool),(csA:List Int),(nzA:Bool),(nsA:List Int),(akA:Int),(wtA:Int),(tsA:List ap.den),(frA:Int),(fwA:Int),(fmA:Int),(fxA:Int),(flA:Int),(ftA:List ag.den),(lrA:Int),(llA:Int),(ltA:List af.den),⟨⟩⟩,⟨(kB:Int),(vB:Int),(coB:Int),(czB:Bool),(csB:List Int),(nzB:Bool),(nsB:List Int),(akB:Int),(wtB:Int),(tsB:List ap.den),(frB:Int),(fwB:Int),(fmB:Int),(fxB:Int),(flB:Int),(ftB:List ag.den),(lrB:Int),(llB:Int),(ltB:List af.den),⟨⟩⟩,⟨⟩⟩⟩ y hw hy
  obtain ⟨hg,hy⟩:=Tr.guard hy
  simp only[Bool.and_eq_true,decide_eq_true_eq] at hg
  obtain ⟨h1,h2,h3⟩:=hg
  have h1:j=0:=h1
  subst h1
  refine ⟨4,(I0 kA vA coA czA csA nzA nsA akA wtA tsA frA fwA fmA fxA flA ftA lrA llA ltA kB vB coB czB csB nzB nsB akB wtB tsB frB fwB fmB fxB flB ftB lrB llB ltB h2 h3).trans ?_⟩
  rw[← hy]
  show _=(Tr.ite (s7 (kA,(vA,(coA,((czA,(csA,())),(((nzA,(nsA,())),(akA,(wtA,(tsA,())))),((frA,(fwA,(fmA,(fxA,(flA,(ftA,())))))),((lrA,(llA,(ltA,()))),()))))))) (kB,(vB,(coB,((czB,(csB,())),(((nzB,(nsB,())),(akB,(wtB,(tsB,())))),((frB,(fwB,(fmB,(fxB,(flB,(ftB,())))))),((lrB,(llB,(ltB,()))),())))))))) _ _).val
  rw[Tr.val_ite]
  rfl
 ·rintro ⟨⟨⟨(kA:Int),(vA:Int),(coA:Int),⟨(czA:Bool),(csA:List Int),⟨⟩⟩,⟨⟨(nzA:Bool),(nsA:List Int),⟨⟩⟩,(akA:Int),(wtA:Int),(tsA:List ap.den),⟨⟩⟩,⟨(frA:Int),(fwA:Int),(fmA:Int),(fxA:Int),(flA:Int),(ftA:List ag.den),⟨⟩⟩,⟨(lrA:Int),(llA:Int),(ltA:List af.den),⟨⟩⟩,⟨⟩⟩,⟨(kB:Int),(vB:Int),(coB:Int),⟨(czB:Bool),(csB:List Int),⟨⟩⟩,⟨⟨(nzB:Bool),(nsB:List Int),⟨⟩⟩,(akB:Int),(wtB:Int),(tsB:List ap.den),⟨⟩⟩,⟨(frB:Int),(fwB:Int),(fmB:Int),(fxB:Int),(flB:Int),(ftB:List ag.den),⟨⟩⟩,⟨(lrB:Int),(llB:Int),(ltB:List af.den),⟨⟩⟩,⟨⟩⟩,⟨⟩⟩,⟨⟩⟩ out hw ho
  obtain ⟨hg,ho⟩:=Tr.guard ho
  obtain ⟨hA,hB⟩:=Bool.and_eq_true_iff.1 hg
  have hA:bO (kA,(vA,(coA,((czA,(csA,())),(((nzA,(nsA,())),(akA,(wtA,(tsA,())))),((frA,(fwA,(fmA,(fxA,(flA,(ftA,())))))),((lrA,(llA,(ltA,()))),())))))))=true:=hA
  have hB:bO (kB,(vB,(coB,((czB,(csB,())),(((nzB,(nsB,())),(akB,(wtB,(tsB,())))),((frB,(fwB,(fmB,(fxB,(flB,(ftB,())))))),((lrB,(llB,(ltB,()))),())))))))=true:=hB
  cases ho
  have wA:=hw.1.1
  have wB:=hw.1.2.1
  refine (My kA vA coA czA csA nzA nsA akA wtA tsA frA fwA fmA fxA flA ftA lrA llA ltA kB vB coB czB csB nzB nsB akB wtB tsB frB fwB fmB fxB flB ftB lrB llB ltB).trans ?_
  unfold w6
  show _=some (Out.ret ((kg (kA,(vA,(coA,((czA,(csA,())),(((nzA,(nsA,())),(akA,(wtA,(tsA,())))),((frA,(fwA,(fmA,(fxA,(flA,(ftA,())))))),((lrA,(llA,(ltA,()))),()))))))) (kB,(vB,(coB,((czB,(csB,())),(((nzB,(nsB,())),(akB,(wtB,(tsB,())))),((frB,(fwB,(fmB,(fxB,(flB,(ftB,())))))),((lrB,(llB,(ltB,()))),()))))))),()),()))
  have key:s7 (kA,(vA,(coA,((czA,(csA,())),(((nzA,(nsA,())),(akA,(wtA,(tsA,())))),((frA,(fwA,(fmA,(fxA,(flA,(ftA,())))))),((lrA,(llA,(ltA,()))),()))))))) (kB,(vB,(coB,((czB,(csB,())),(((nzB,(nsB,())),(akB,(wtB,(tsB,())))),((frB,(fwB,(fmB,(fxB,(flB,(ftB,())))))),((lrB,(llB,(ltB,()))),())))))))=true↔(((nzA,(nsA,())),(akA,(wtA,(tsA,()))))=((nzB,(nsB,())),(akB,(wtB,(tsB,()))))∧(frA,(fwA,(fmA,(fxA,(flA,(ftA,()))))))=(frB,(fwB,(fmB,(fxB,(flB,(ftB,()))))))∧(lrA,(llA,(ltA,())))=(lrB,(llB,(ltB,())))):=by
   unfold s7
   have i0:ci (aA (kA,(vA,(coA,((czA,(csA,())),(((nzA,(nsA,())),(akA,(wtA,(tsA,())))),((frA,(fwA,(fmA,(fxA,(flA,(ftA,())))))),((lrA,(llA,(ltA,()))),()))))))) 0) (aA (kB,(vB,(coB,((czB,(csB,())),(((nzB,(nsB,())),(akB,(wtB,(tsB,())))),((frB,(fwB,(fmB,(fxB,(flB,(ftB,())))))),((lrB,(llB,(ltB,()))),()))))))) 0)=true↔((nzA,(nsA,())),(akA,(wtA,(tsA,()))))=((nzB,(nsB,())),(akB,(wtB,(tsB,())))):=by
    rw[gF]
    refine ⟨fun h=>?_,fun h=>congrArg bg h⟩
    have h:bg ((nzA,(nsA,())),(akA,(wtA,(tsA,()))))=bg ((nzB,(nsB,())),(akB,(wtB,(tsB,())))):=h
    rw[← pc (m:=((nzA,(nsA,())),(akA,(wtA,(tsA,()))))) wA.2.2.2.2.1,← pc (m:=((nzB,(nsB,())),(akB,(wtB,(tsB,()))))) wB.2.2.2.2.1,h]
   have i1:ci (aA (kA,(vA,(coA,((czA,(csA,())),(((nzA,(nsA,())),(akA,(wtA,(tsA,())))),((frA,(fwA,(fmA,(fxA,(flA,(ftA,())))))),((lrA,(llA,(ltA,()))),()))))))) 1) (aA (kB,(vB,(coB,((czB,(csB,())),(((nzB,(nsB,())),(akB,(wtB,(tsB,())))),((frB,(fwB,(fmB,(fxB,(flB,(ftB,())))))),((lrB,(llB,(ltB,()))),()))))))) 1)=true↔(frA,(fwA,(fmA,(fxA,(flA,(ftA,()))))))=(frB,(fwB,(fmB,(fxB,(flB,(ftB,())))))):=by
    rw[gF]
    refine ⟨fun h=>?_,fun h=>congrArg bD h⟩
    have h:bD (frA,(fwA,(fmA,(fxA,(flA,(ftA,()))))))=bD (frB,(fwB,(fmB,(fxB,(flB,(ftB,())))))):=h
    rw[← qw (m:=(frA,(fwA,(fmA,(fxA,(flA,(ftA,()))))))) wA.2.2.2.2.2.1,← qw (m:=(frB,(fwB,(fmB,(fxB,(flB,(ftB,()))))))) wB.2.2.2.2.2.1,h]
   have i2:ci (aA (kA,(vA,(coA,((czA,(csA,())),(((nzA,(nsA,())),(akA,(wtA,(tsA,())))),((frA,(fwA,(fmA,(fxA,(flA,(ftA,())))))),((lrA,(llA,(ltA,()))),()))))))) 2) (aA (kB,(vB,(coB,((czB,(csB,())),(((nzB,(nsB,())),(akB,(wtB,(tsB,())))),((frB,(fwB,(fmB,(fxB,(flB,(ftB,())))))),((lrB,(llB,(ltB,()))),()))))))) 2)=true↔(lrA,(llA,(ltA,())))=(lrB,(llB,(ltB,()))):=by
    rw[gF]
    refine ⟨fun h=>?_,fun h=>congrArg bE h⟩
    have h:bE (lrA,(llA,(ltA,())))=bE (lrB,(llB,(ltB,()))):=h
    rw[← qz (m:=(lrA,(llA,(ltA,())))) wA.2.2.2.2.2.2.1,← qz (m:=(lrB,(llB,(ltB,())))) wB.2.2.2.2.2.2.1,h]
   rw[← i0,← i1,← i2]
   constructor
   ·intro h
    split at h
    ·assumption
    ·cases h
   ·intro h
    rw[if_pos h]
  have no:∀h:(kA,(vA,(coA,((czA,(csA,())),(((nzA,(nsA,())),(akA,(wtA,(tsA,())))),((frA,(fwA,(fmA,(fxA,(flA,(ftA,())))))),((lrA,(llA,(ltA,()))),())))))))≠(kB,(vB,(coB,((czB,(csB,())),(((nzB,(nsB,())),(akB,(wtB,(tsB,())))),((frB,(fwB,(fmB,(fxB,(flB,(ftB,())))))),((lrB,(llB,(ltB,()))),()))))))),kg (kA,(vA,(coA,((czA,(csA,())),(((nzA,(nsA,())),(akA,(wtA,(tsA,())))),((frA,(fwA,(fmA,(fxA,(flA,(ftA,())))))),((lrA,(llA,(ltA,()))),()))))))) (kB,(vB,(coB,((czB,(csB,())),(((nzB,(nsB,())),(akB,(wtB,(tsB,())))),((frB,(fwB,(fmB,(fxB,(flB,(ftB,())))))),((lrB,(llB,(ltB,()))),())))))))=false:=fun h=>Bool.eq_false_iff.2 fun h'=>h (kX.1 h')
  have fin:∀{b:Bool},kg (kA,(vA,(coA,((czA,(csA,())),(((nzA,(nsA,())),(akA,(wtA,(tsA,())))),((frA,(fwA,(fmA,(fxA,(flA,(ftA,())))))),((lrA,(llA,(ltA,()))),()))))))) (kB,(vB,(coB,((czB,(csB,())),(((nzB,(nsB,())),(akB,(wtB,(tsB,())))),((frB,(fwB,(fmB,(fxB,(flB,(ftB,())))))),((lrB,(llB,(ltB,()))),())))))))=b→(some (Out.ret ((b,()),())):Option iC.Res)=some (Out.ret ((kg (kA,(vA,(coA,((czA,(csA,())),(((nzA,(nsA,())),(akA,(wtA,(tsA,())))),((frA,(fwA,(fmA,(fxA,(flA,(ftA,())))))),((lrA,(llA,(ltA,()))),()))))))) (kB,(vB,(coB,((czB,(csB,())),(((nzB,(nsB,())),(akB,(wtB,(tsB,())))),((frB,(fwB,(fmB,(fxB,(flB,(ftB,())))))),((lrB,(llB,(ltB,()))),()))))))),()),())):=fun h=>by rw[h]
  by_cases ek:kA=kB
  rotate_left
  ·refine (aa (by simpa using ek) _ _).trans ?_
   exact fin (no fun h=>ek (by simp only[Prod.mk.injEq] at h;exact h.1))
  refine (ab (by simpa using ek) _ _).trans ?_
  by_cases ev:vA=vB
  rotate_left
  ·refine (aa (by simpa using ev) _ _).trans ?_
   exact fin (no fun h=>ev (by simp only[Prod.mk.injEq] at h;exact h.2.1))
  refine (ab (by simpa using ev) _ _).trans ?_
  by_cases eo:coA=coB
  rotate_left
  ·refine (aa (by simpa using eo) _ _).trans ?_
   exact fin (no fun h=>eo (by simp only[Prod.mk.injEq] at h;exact h.2.2.1))
  refine (ab (by simpa using eo) _ _).trans ?_
  by_cases ec:czA=czB∧csA=csB
  rotate_left
  ·refine (aa (by cases hh:(czA == czB&&(decide (csA=csB)&&true)) with | false=>rfl | true=>exact absurd (by simpa using hh) ec) _ _).trans ?_
   exact fin (no fun h=>ec (by simp only[Prod.mk.injEq] at h;exact ⟨h.2.2.2.1.1,h.2.2.2.1.2.1⟩))
  refine (ab (by simpa using ec) _ _).trans ?_
  refine (aa (Bool.and_eq_true_iff.2 ⟨rfl,Bool.and_eq_true_iff.2 ⟨hA,hB⟩⟩) _ _).trans ?_
  by_cases h6:s7 (kA,(vA,(coA,((czA,(csA,())),(((nzA,(nsA,())),(akA,(wtA,(tsA,())))),((frA,(fwA,(fmA,(fxA,(flA,(ftA,())))))),((lrA,(llA,(ltA,()))),()))))))) (kB,(vB,(coB,((czB,(csB,())),(((nzB,(nsB,())),(akB,(wtB,(tsB,())))),((frB,(fwB,(fmB,(fxB,(flB,(ftB,())))))),((lrB,(llB,(ltB,()))),())))))))=true
  ·refine (aa h6 _ _).trans ?_
   obtain ⟨e0,e1,e2⟩:=key.1 h6
   refine fin (kX.2 ?_)
   simp only[Prod.mk.injEq] at e0 e1 e2 ⊢
   simp only[ec,ek,ev,eo,e0,e1,e2,and_self]
  ·refine (ab (Bool.eq_false_iff.2 h6) _ _).trans ?_
   refine fin (no fun h=>h6 (key.2 ?_))
   simp only[Prod.mk.injEq] at h ⊢
   simp only[h,and_self]
abbrev fZ:Io:=⟨[.dat jg true false,.dat jg true false],[],[],[dB],none⟩
def s9 (a b:jg.den):Bool:=if (ci (bj a 0) (bj b 0)=true∧ci (bj a 1) (bj b 1)=true∧ci (bj a 2) (bj b 2)=true) then true else false
def vC (d:fZ.In):Tr fZ.Res:=.ite (fB d.1.1&&fB d.1.2.1) (.ret (.ret ((kg d.1.1 d.1.2.1,()),()))) .no
abbrev sq:List (Nat×Hc):=[(52,ah jv y8),(51,ah dW Fg)]
def Am:Hd:=bA sq
abbrev du:Lo:=⟨⟨(bh (.one (.ptr 2 0)::.one (.ptr 3 0)::.any::.one (.hol (.int IntKind.i16))::.any::ai (dR (bQ (bh []))))),[none,none,some [.hol (.int IntKind.i16),.hol (.int IntKind.i16),.hol (.int IntKind.i32),.hol (.sl 212 aV),.hol (.int IntKind.i32),.hol (.int IntKind.i32),.hol (.sl 221 au),.hol (.int IntKind.i32),.hol (.sl 230 al)],some [.hol (.int IntKind.i16),.hol (.int IntKind.i16),.hol (.int IntKind.i32),.hol (.sl 212 aV),.hol (.int IntKind.i32),.hol (.int IntKind.i32),.hol (.sl 221 au),.hol (.int IntKind.i32),.hol (.sl 230 al)]]⟩,[(.ret,⟨(bQ (.one (.hol .bool)::ai (ai ([])))),[]⟩),(.exit 0,⟨(.any::ai (ai (bQ []))),[]⟩)]⟩
def mc (d:du.st.den):Tr (aD du.xs):=
 .ite (decide (d.1.1=0)&&(fB (c9 d.2.1)&&fB (c9 d.2.2.1))) (.ite (s9 (c9 d.2.1) (c9 d.2.2.1)) (.ret (.pan (.ret ((),((),()))))) (.ret (.ret ((),((false,()),()))))) .no
def oU:Lp:=bv [(5,aN du mc)]
def l7 {R:Type}(h18 h19 h20 h21:Int)(h22:List aV.den)(h23 h24:Int)(h25:List au.den)(h26:Int)(h27:List al.den)(h28 h29 h30:Int)(h31:List aV.den)(h32 h33:Int)(h34:List au.den)(h35:Int)(h36:List al.den)(next:Int→Int→Int→Int→List aV.den→Int→Int→List au.den→Int→List al.den→Int→Int→Int→List aV.den→Int→Int→List au.den→Int→List al.den→Option R)(out:aD du.xs→Option R):Option R:=bif decide (h18<3) then bif fB (h19,h20,h21,(h22,h23,()),(h24,h25,()),(h26,h27,()),()) then bif fB (h28,h29,h30,(h31,h32,()),(h33,h34,()),(h35,h36,()),()) then bif !ci (Tre.mk (bj (h19,h20,h21,(h22,h23,()),(h24,h25,()),(h26,h27,()),()) h18).1 (bj (h19,h20,h21,(h22,h23,()),(h24,h25,()),(h26,h27,()),()) h18).2) (Tre.mk (bj (h28,h29,h30,(h31,h32,()),(h33,h34,()),(h35,h36,()),()) h18).1 (bj (h28,h29,h30,(h31,h32,()),(h33,h34,()),(h35,h36,()),()) h18).2) then out (.ret ((),((false,()),()))) else next (IntKind.i16.wrap (h18+1)) (h19) (h20) (h21) (h22) (h23) (h24) (h25) (h26) (h27) (h28) (h29) (h30) (h31) (h32) (h33) (h34) (h35) (h36) else none else none else out (.pan (.ret ((),((),()))))
def cc (n:Nat)(h18 h19 h20 h21:Int)(h22:List aV.den)(h23 h24:Int)(h25:List au.den)(h26:Int)(h27:List al.den)(h28 h29 h30:Int)(h31:List aV.den)(h32 h33:Int)(h34:List au.den)(h35:Int)(h36:List al.den):Option (aD du.xs):=gd tt Am dr oU 0 Tryz.f12 (cE Tryz.f12 0) n (du.st.mk' ((h18,()),((h19,(h20,(h21,(h22,(h23,(h24,(h25,(h26,(h27,()))))))))),((h28,(h29,(h30,(h31,(h32,(h33,(h34,(h35,(h36,()))))))))),())))) (bL du.xs)
theorem uK (n:Nat)(h18 h19 h20 h21:Int)(h22:List aV.den)(h23 h24:Int)(h25:List au.den)(h26:Int)(h27:List al.den)(h28 h29 h30:Int)(h31:List aV.den)(h32 h33:Int)(h34:List au.den)(h35:Int)(h36:List al.den):cc (n+1) h18 h19 h20 h21 h22 h23 h24 h25 h26 h27 h28 h29 h30 h31 h32 h33 h34 h35 h36=l7 h18 h19 h20 h21 h22 h23 h24 h25 h26 h27 h28 h29 h30 h31 h32 h33 h34 h35 h36 (cc n) some:=by kernel_rfl
theorem m6 (kA vA coA:Int)(ptA:List aV.den)(phA fhA:Int)(ftA:List au.den)(lhA:Int)(ltA:List al.den)(kB vB coB:Int)(ptB:List aV.den)(phB fhB:Int)(ftB:List au.den)(lhB:Int)(ltB:List al.den)(hA:fB (kA,(vA,(coA,((ptA,(phA,())),((fhA,(ftA,())),((lhA,(ltA,())),()))))))=true)(hB:fB (kB,(vB,(coB,((ptB,(phB,())),((fhB,(ftB,())),((lhB,(ltB,())),()))))))=true)(n j:Nat)(hj:j<3):cc (n+1) (j:Int) kA vA coA ptA phA fhA ftA lhA ltA kB vB coB ptB phB fhB ftB lhB ltB=
  if ci (bj (kA,(vA,(coA,((ptA,(phA,())),((fhA,(ftA,())),((lhA,(ltA,())),())))))) (j:Int)) (bj (kB,(vB,(coB,((ptB,(phB,())),((fhB,(ftB,())),((lhB,(ltB,())),())))))) (j:Int))=true then cc n ((j+1:Nat):Int) kA vA coA ptA phA fhA ftA lhA ltA kB vB coB ptB phB fhB ftB lhB ltB else some (.ret ((),((false,()),()))):=by
 rw[uK]
 unfold l7
 have hw:IntKind.i16.wrap ((j:Int)+1)=((j+1:Nat):Int):=dd (by simp[ey,IntKind.min,IntKind.max,IntKind.signed,IntKind.bits];omega)
 refine (aa (decide_eq_true (show (j:Int)<3 by omega)) _ _).trans ?_
 refine (aa hA _ _).trans ?_
 refine (aa hB _ _).trans ?_
 generalize bj (kA,(vA,(coA,((ptA,(phA,())),((fhA,(ftA,())),((lhA,(ltA,())),())))))) (j:Int)=n0
 generalize bj (kB,(vB,(coB,((ptB,(phB,())),((fhB,(ftB,())),((lhB,(ltB,())),())))))) (j:Int)=n1
 obtain ⟨nl,nk⟩:=n0
 obtain ⟨ml,mk⟩:=n1
 by_cases h2:ci (Tre.mk nl nk) (Tre.mk ml mk)=true
 ·rw[if_pos h2,h2,Bool.not_true,cond_false,hw]
 ·rw[if_neg h2,Bool.eq_false_iff.2 h2,Bool.not_false,cond_true]
theorem Gc (kA vA coA:Int)(ptA:List aV.den)(phA fhA:Int)(ftA:List au.den)(lhA:Int)(ltA:List al.den)(kB vB coB:Int)(ptB:List aV.den)(phB fhB:Int)(ftB:List au.den)(lhB:Int)(ltB:List al.den)(hA:fB (kA,(vA,(coA,((ptA,(phA,())),((fhA,(ftA,())),((lhA,(ltA,())),()))))))=true)(hB:fB (kB,(vB,(coB,((ptB,(phB,())),((fhB,(ftB,())),((lhB,(ltB,())),()))))))=true):cc 4 0 kA vA coA ptA phA fhA ftA lhA ltA kB vB coB ptB phB fhB ftB lhB ltB=
  if s9 (kA,(vA,(coA,((ptA,(phA,())),((fhA,(ftA,())),((lhA,(ltA,())),())))))) (kB,(vB,(coB,((ptB,(phB,())),((fhB,(ftB,())),((lhB,(ltB,())),()))))))=true then some (.pan (.ret ((),((),())))) else some (.ret ((),((false,()),()))):=by
 have s0:cc 4 0 kA vA coA ptA phA fhA ftA lhA ltA kB vB coB ptB phB fhB ftB lhB ltB=if ci (bj (kA,(vA,(coA,((ptA,(phA,())),((fhA,(ftA,())),((lhA,(ltA,())),())))))) 0) (bj (kB,(vB,(coB,((ptB,(phB,())),((fhB,(ftB,())),((lhB,(ltB,())),())))))) 0)=true then cc 3 ((1:Nat):Int) kA vA coA ptA phA fhA ftA lhA ltA kB vB coB ptB phB fhB ftB lhB ltB else some (.ret ((),((false,()),()))):=m6 kA vA coA ptA phA fhA ftA lhA ltA kB vB coB ptB phB fhB ftB lhB ltB hA hB 3 0 (by decide)
 have s1:cc 3 ((1:Nat):Int) kA vA coA ptA phA fhA ftA lhA ltA kB vB coB ptB phB fhB ftB lhB ltB=if ci (bj (kA,(vA,(coA,((ptA,(phA,())),((fhA,(ftA,())),((lhA,(ltA,())),())))))) 1) (bj (kB,(vB,(coB,((ptB,(phB,())),((fhB,(ftB,())),((lhB,(ltB,())),())))))) 1)=true then cc 2 ((2:Nat):Int) kA vA coA ptA phA fhA ftA lhA ltA kB vB coB ptB phB fhB ftB lhB ltB else some (.ret ((),((false,()),()))):=m6 kA vA coA ptA phA fhA ftA lhA ltA kB vB coB ptB phB fhB ftB lhB ltB hA hB 2 1 (by decide)
 have s2:cc 2 ((2:Nat):Int) kA vA coA ptA phA fhA ftA lhA ltA kB vB coB ptB phB fhB ftB lhB ltB=if ci (bj (kA,(vA,(coA,((ptA,(phA,())),((fhA,(ftA,())),((lhA,(ltA,())),())))))) 2) (bj (kB,(vB,(coB,((ptB,(phB,())),((fhB,(ftB,())),((lhB,(ltB,())),())))))) 2)=true then cc 1 ((3:Nat):Int) kA vA coA ptA phA fhA ftA lhA ltA kB vB coB ptB phB fhB ftB lhB ltB else some (.ret ((),((false,()),()))):=m6 kA vA coA ptA phA fhA ftA lhA ltA kB vB coB ptB phB fhB ftB lhB ltB hA hB 1 2 (by decide)
 have s3:cc 1 ((3:Nat):Int) kA vA coA ptA phA fhA ftA lhA ltA kB vB coB ptB phB fhB ftB lhB ltB=some (.pan (.ret ((),((),())))):=by
  rw[uK]
  unfold l7
  exact ab (by decide) _ _
 rw[s0,s1,s2,s3]
 unfold s9
 by_cases h0:ci (bj (kA,(vA,(coA,((ptA,(phA,())),((fhA,(ftA,())),((lhA,(ltA,())),())))))) 0) (bj (kB,(vB,(coB,((ptB,(phB,())),((fhB,(ftB,())),((lhB,(ltB,())),())))))) 0)=true
 ·rw[if_pos h0]
  by_cases h1:ci (bj (kA,(vA,(coA,((ptA,(phA,())),((fhA,(ftA,())),((lhA,(ltA,())),())))))) 1) (bj (kB,(vB,(coB,((ptB,(phB,())),((fhB,(ftB,())),((lhB,(ltB,())),())))))) 1)=true
  ·rw[if_pos h1]
   by_cases h2:ci (bj (kA,(vA,(coA,((ptA,(phA,())),((fhA,(ftA,())),((lhA,(ltA,())),())))))) 2) (bj (kB,(vB,(coB,((ptB,(phB,())),((fhB,(ftB,())),((lhB,(ltB,())),())))))) 2)=true
   ·rw[if_pos h2,if_pos (by rw[if_pos ⟨h0,h1,h2⟩])]
   ·rw[if_neg h2,if_neg (by rw[if_neg (fun h=>h2 h.2.2)];decide)]
  ·rw[if_neg h1,if_neg (by rw[if_neg (fun h=>h1 h.2.1)];decide)]
 ·rw[if_neg h0,if_neg (by rw[if_neg (fun h=>h0 h.1)];decide)]
def tW (a0 a1 a2:Int)(a3:List aV.den)(a4 a5:Int)(a6:List au.den)(a7:Int)(a8:List al.den)(a9 a10 a11:Int)(a12:List aV.den)(a13 a14:Int)(a15:List au.den)(a16:Int)(a17:List al.den):Option fZ.Res:=bif a0 != a9 then some (Out.ret ((false,()),())) else bif a1 != a10 then some (Out.ret ((false,()),())) else bif a2 != a11 then some (Out.ret ((false,()),())) else (mc ((0,()),((a0,(a1,(a2,(a3,(a4,(a5,(a6,(a7,(a8,()))))))))),((a9,(a10,(a11,(a12,(a13,(a14,(a15,(a16,(a17,()))))))))),())))).run fun y=>match y with | .ret ((),((x57,()),()))=>(some (Out.ret ((x57,()),()))) | .pan (.ret ((),((),())))=>(some (Out.ret ((true,()),())))
theorem JY (a0 a1 a2:Int)(a3:List aV.den)(a4 a5:Int)(a6:List au.den)(a7:Int)(a8:List al.den)(a9 a10 a11:Int)(a12:List aV.den)(a13 a14:Int)(a15:List au.den)(a16:Int)(a17:List al.den):Io.run tt Am dr oU fZ Tryz.f12 (((a0,a1,a2,(a3,a4,()),(a5,a6,()),(a7,a8,()),()),(a9,a10,a11,(a12,a13,()),(a14,a15,()),(a16,a17,()),()),()),())=tW a0 a1 a2 a3 a4 a5 a6 a7 a8 a9 a10 a11 a12 a13 a14 a15 a16 a17:=by kernel_rfl
theorem Me:HcOk prog 12 (ah fZ vC):=by
 refine aj (n:=400) hm (cs:=sq) (.cons Es (.cons uE .nil)) (lp:=oU) (fn:=Tryz.f12) (by kernel_rfl) (by kernel_rfl) (by kernel_rfl) fZ (.step (h0:=aN du mc) (by kernel_rfl) (aw (n:=400) hm (cs:=sq) (.cons Es (.cons uE .nil)) (lp:=oU) (fn:=Tryz.f12) (.done (by kernel_rfl)) du mc ?_) (.done (by kernel_rfl))) vC ?_
 ·rintro ⟨⟨(j:Int),⟨⟩⟩,⟨⟨(kA:Int),(vA:Int),(coA:Int),(ptA:List aV.den),(phA:Int),(fhA:Int),(ftA:List au.den),(lhA:Int),(ltA:List al.den),⟨⟩⟩,⟨(kB:Int),(vB:Int),(coB:Int),(ptB:List aV.den),(phB:Int),(fhB:Int),(ftB:List au.den),(lhB:Int),(ltB:List al.den),⟨⟩⟩,⟨⟩⟩⟩ y hw hy
  obtain ⟨hg,hy⟩:=Tr.guard hy
  simp only[Bool.and_eq_true,decide_eq_true_eq] at hg
  obtain ⟨h1,h2,h3⟩:=hg
  have h1:j=0:=h1
  subst h1
  refine ⟨4,(Gc kA vA coA ptA phA fhA ftA lhA ltA kB vB coB ptB phB fhB ftB lhB ltB h2 h3).trans ?_⟩
  rw[← hy]
  show _=(Tr.ite (s9 (kA,(vA,(coA,((ptA,(phA,())),((fhA,(ftA,())),((lhA,(ltA,())),())))))) (kB,(vB,(coB,((ptB,(phB,())),((fhB,(ftB,())),((lhB,(ltB,())),()))))))) _ _).val
  rw[Tr.val_ite]
  rfl
 ·rintro ⟨⟨⟨(kA:Int),(vA:Int),(coA:Int),⟨(ptA:List aV.den),(phA:Int),⟨⟩⟩,⟨(fhA:Int),(ftA:List au.den),⟨⟩⟩,⟨(lhA:Int),(ltA:List al.den),⟨⟩⟩,⟨⟩⟩,⟨(kB:Int),(vB:Int),(coB:Int),⟨(ptB:List aV.den),(phB:Int),⟨⟩⟩,⟨(fhB:Int),(ftB:List au.den),⟨⟩⟩,⟨(lhB:Int),(ltB:List al.den),⟨⟩⟩,⟨⟩⟩,⟨⟩⟩,⟨⟩⟩ out hw ho
  obtain ⟨hg,ho⟩:=Tr.guard ho
  obtain ⟨hA,hB⟩:=Bool.and_eq_true_iff.1 hg
  have hA:fB (kA,(vA,(coA,((ptA,(phA,())),((fhA,(ftA,())),((lhA,(ltA,())),()))))))=true:=hA
  have hB:fB (kB,(vB,(coB,((ptB,(phB,())),((fhB,(ftB,())),((lhB,(ltB,())),()))))))=true:=hB
  cases ho
  have wA:=hw.1.1
  have wB:=hw.1.2.1
  refine (JY kA vA coA ptA phA fhA ftA lhA ltA kB vB coB ptB phB fhB ftB lhB ltB).trans ?_
  unfold tW
  show _=some (Out.ret ((kg (kA,(vA,(coA,((ptA,(phA,())),((fhA,(ftA,())),((lhA,(ltA,())),())))))) (kB,(vB,(coB,((ptB,(phB,())),((fhB,(ftB,())),((lhB,(ltB,())),())))))),()),()))
  have key:s9 (kA,(vA,(coA,((ptA,(phA,())),((fhA,(ftA,())),((lhA,(ltA,())),())))))) (kB,(vB,(coB,((ptB,(phB,())),((fhB,(ftB,())),((lhB,(ltB,())),()))))))=true↔((ptA,(phA,()))=(ptB,(phB,()))∧(fhA,(ftA,()))=(fhB,(ftB,()))∧(lhA,(ltA,()))=(lhB,(ltB,()))):=by
   unfold s9
   have i0:ci (bj (kA,(vA,(coA,((ptA,(phA,())),((fhA,(ftA,())),((lhA,(ltA,())),())))))) 0) (bj (kB,(vB,(coB,((ptB,(phB,())),((fhB,(ftB,())),((lhB,(ltB,())),())))))) 0)=true↔(ptA,(phA,()))=(ptB,(phB,())):=by
    rw[gF]
    refine ⟨fun h=>?_,fun h=>congrArg eO h⟩
    have h:eO (ptA,(phA,()))=eO (ptB,(phB,())):=h
    rw[← uS (m:=(ptA,(phA,()))) wA.2.2.2.1,← uS (m:=(ptB,(phB,()))) wB.2.2.2.1,h]
   have i1:ci (bj (kA,(vA,(coA,((ptA,(phA,())),((fhA,(ftA,())),((lhA,(ltA,())),())))))) 1) (bj (kB,(vB,(coB,((ptB,(phB,())),((fhB,(ftB,())),((lhB,(ltB,())),())))))) 1)=true↔(fhA,(ftA,()))=(fhB,(ftB,())):=by
    rw[gF]
    refine ⟨fun h=>?_,fun h=>congrArg f7 h⟩
    have h:f7 (fhA,(ftA,()))=f7 (fhB,(ftB,())):=h
    rw[← xE (m:=(fhA,(ftA,()))) wA.2.2.2.2.1,← xE (m:=(fhB,(ftB,()))) wB.2.2.2.2.1,h]
   have i2:ci (bj (kA,(vA,(coA,((ptA,(phA,())),((fhA,(ftA,())),((lhA,(ltA,())),())))))) 2) (bj (kB,(vB,(coB,((ptB,(phB,())),((fhB,(ftB,())),((lhB,(ltB,())),())))))) 2)=true↔(lhA,(ltA,()))=(lhB,(ltB,())):=by
    rw[gF]
    refine ⟨fun h=>?_,fun h=>congrArg eR h⟩
    have h:eR (lhA,(ltA,()))=eR (lhB,(ltB,())):=h
    rw[← xF (m:=(lhA,(ltA,()))) wA.2.2.2.2.2.1,← xF (m:=(lhB,(ltB,()))) wB.2.2.2.2.2.1,h]
   rw[← i0,← i1,← i2]
   constructor
   ·intro h
    split at h
    ·assumption
    ·cases h
   ·intro h
    rw[if_pos h]
  have no:∀h:(kA,(vA,(coA,((ptA,(phA,())),((fhA,(ftA,())),((lhA,(ltA,())),()))))))≠(kB,(vB,(coB,((ptB,(phB,())),((fhB,(ftB,())),((lhB,(ltB,())),())))))),kg (kA,(vA,(coA,((ptA,(phA,())),((fhA,(ftA,())),((lhA,(ltA,())),())))))) (kB,(vB,(coB,((ptB,(phB,())),((fhB,(ftB,())),((lhB,(ltB,())),()))))))=false:=fun h=>Bool.eq_false_iff.2 fun h'=>h (kX.1 h')
  have fin:∀{b:Bool},kg (kA,(vA,(coA,((ptA,(phA,())),((fhA,(ftA,())),((lhA,(ltA,())),())))))) (kB,(vB,(coB,((ptB,(phB,())),((fhB,(ftB,())),((lhB,(ltB,())),()))))))=b→(some (Out.ret ((b,()),())):Option fZ.Res)=some (Out.ret ((kg (kA,(vA,(coA,((ptA,(phA,())),((fhA,(ftA,())),((lhA,(ltA,())),())))))) (kB,(vB,(coB,((ptB,(phB,())),((fhB,(ftB,())),((lhB,(ltB,())),())))))),()),())):=fun h=>by rw[h]
  by_cases ek:kA=kB
  rotate_left
  ·refine (aa (by simpa using ek) _ _).trans ?_
   exact fin (no fun h=>ek (by simp only[Prod.mk.injEq] at h;exact h.1))
  refine (ab (by simpa using ek) _ _).trans ?_
  by_cases ev:vA=vB
  rotate_left
  ·refine (aa (by simpa using ev) _ _).trans ?_
   exact fin (no fun h=>ev (by simp only[Prod.mk.injEq] at h;exact h.2.1))
  refine (ab (by simpa using ev) _ _).trans ?_
  by_cases eo:coA=coB
  rotate_left
  ·refine (aa (by simpa using eo) _ _).trans ?_
   exact fin (no fun h=>eo (by simp only[Prod.mk.injEq] at h;exact h.2.2.1))
  refine (ab (by simpa using eo) _ _).trans ?_
  refine (aa (Bool.and_eq_true_iff.2 ⟨rfl,Bool.and_eq_true_iff.2 ⟨hA,hB⟩⟩) _ _).trans ?_
  by_cases h6:s9 (kA,(vA,(coA,((ptA,(phA,())),((fhA,(ftA,())),((lhA,(ltA,())),())))))) (kB,(vB,(coB,((ptB,(phB,())),((fhB,(ftB,())),((lhB,(ltB,())),()))))))=true
  ·refine (aa h6 _ _).trans ?_
   obtain ⟨e0,e1,e2⟩:=key.1 h6
   refine fin (kX.2 ?_)
   simp only[Prod.mk.injEq] at e0 e1 e2 ⊢
   simp only[ek,ev,eo,e0,e1,e2,and_self]
  ·refine (ab (Bool.eq_false_iff.2 h6) _ _).trans ?_
   refine fin (no fun h=>h6 (key.2 ?_))
   simp only[Prod.mk.injEq] at h ⊢
   simp only[h,and_self]
def PA (c:cD.den):Bool:=(cF c.2.2.2.2.1.2.2.2.1&&decide (aP (bg c.2.2.2.2.1)≤4294967296))&&((dj c.2.2.2.2.2.1.2.2.2.2.2.1&&decide (aP (bD c.2.2.2.2.2.1)≤4294967296))&&(dk c.2.2.2.2.2.2.1.2.2.1&&decide (aP (bE c.2.2.2.2.2.2.1)≤4294967296)))
abbrev lB:Io:=⟨[.dat cD true false],[],[],[.dat cD true false],none⟩
def Fc (d:lB.In):Tr lB.Res:=.ite (PA d.1.1) (.ret (.ret ((d.1.1,()),()))) .no
abbrev Is:List (Nat×Hc):=[(30,ah ip vG),(31,ah jD zh),(32,ah jF zj)]
def Ui:Hd:=bA Is
def Jr:Lp:=bv []
def zH (a0 a1 a2:Int)(a3:Bool)(a4:List Int)(a5:Bool)(a6:List Int)(a7 a8:Int)(a9:List ap.den)(a10 a11 a12 a13 a14:Int)(a15:List ag.den)(a16 a17:Int)(a18:List af.den):Option lB.Res:=bif cF a9&&decide (aP (bg ((a5,a6,()),a7,a8,a9,()))≤4294967296) then bif dj a15&&decide (aP (bD (a10,a11,a12,a13,a14,a15,()))≤4294967296) then bif dk a18&&decide (aP (bE (a16,a17,a18,()))≤4294967296) then some (Out.ret (((a0,a1,a2,(a3,a4,()),((a5,a6,()),a7,a8,a9,()),(a10,a11,a12,a13,a14,a15,()),(a16,a17,a18,()),()),()),())) else none else none else none
theorem Rh (a0 a1 a2:Int)(a3:Bool)(a4:List Int)(a5:Bool)(a6:List Int)(a7 a8:Int)(a9:List ap.den)(a10 a11 a12 a13 a14:Int)(a15:List ag.den)(a16 a17:Int)(a18:List af.den):Io.run tt Ui dr Jr lB Tryz.f9 (((a0,a1,a2,(a3,a4,()),((a5,a6,()),a7,a8,a9,()),(a10,a11,a12,a13,a14,a15,()),(a16,a17,a18,()),()),()),())=zH a0 a1 a2 a3 a4 a5 a6 a7 a8 a9 a10 a11 a12 a13 a14 a15 a16 a17 a18:=by kernel_rfl
theorem Vx:HcOk prog 9 (ah lB Fc):=by
 refine aj (n:=400) hm (cs:=Is) (.cons Mj (.cons QP (.cons QR .nil))) (lp:=Jr) (fn:=Tryz.f9) (by kernel_rfl) (by kernel_rfl) (by kernel_rfl) lB (.done (by kernel_rfl)) Fc ?_
 rintro ⟨⟨⟨(k:Int),(v:Int),(co:Int),⟨(cz:Bool),(cs:List Int),⟨⟩⟩,⟨⟨(nz:Bool),(ns:List Int),⟨⟩⟩,(ak:Int),(wt:Int),(ts:List ap.den),⟨⟩⟩,⟨(fr:Int),(fw:Int),(fm:Int),(fx:Int),(fl:Int),(ft:List ag.den),⟨⟩⟩,⟨(lr:Int),(ll:Int),(lt:List af.den),⟨⟩⟩,⟨⟩⟩,⟨⟩⟩,⟨⟩⟩ out hw ho
 obtain ⟨hg,ho⟩:=Tr.guard ho
 obtain ⟨h1,hg⟩:=Bool.and_eq_true_iff.1 hg
 obtain ⟨h2,h3⟩:=Bool.and_eq_true_iff.1 hg
 cases ho
 refine (Rh k v co cz cs nz ns ak wt ts fr fw fm fx fl ft lr ll lt).trans ?_
 unfold zH
 refine (aa h1 _ _).trans ?_
 refine (aa h2 _ _).trans ?_
 exact aa h3 _ _
theorem qu (l:List Nd):bW (bb l)=((l.length:Int) == 0):=by
 unfold bW
 by_cases h:l=[]
 ·subst h;rfl
 ·have h1:l.length≠0:=by simpa using h
  have h2:((l.length:Int) == 0)=false:=by simpa using h
  rw[h2]
  exact if_neg h1
theorem Gu {n:Nd}{b:Bool}(h:n.kids.all bW=b):b9 n=b:=by
 unfold b9
 rw[h]
 cases b <;> rfl
theorem U9 (m:kr.den):b9 (bg m)=KF m:=by
 unfold bg
 refine Gu ?_
 show (List.all [i4 m.1,ay 2 m.2.1,ay 3 m.2.2.1,bb (m.2.2.2.1.map cv)] bW)=_
 simp only[List.all_cons,List.all_nil]
 rw[va,bK,bK,qu,List.length_map]
 unfold KF
 simp only[Bool.and_true]
theorem Ym (m:cn.den):b9 (bD m)=G6 m:=by
 unfold bD
 refine Gu ?_
 show (List.all [ay 3 m.1,ay 3 m.2.1,ay 3 m.2.2.1,ay 3 m.2.2.2.1,ay 1 m.2.2.2.2.1,bb (m.2.2.2.2.2.1.map fD)] bW)=_
 simp only[List.all_cons,List.all_nil]
 rw[bK,bK,bK,bK,bK,qu,List.length_map]
 unfold G6
 simp only[Bool.and_true]
theorem Yn (m:bT.den):b9 (bE m)=BJ m:=by
 unfold bE
 refine Gu ?_
 show (List.all [ay 3 m.1,ay 1 m.2.1,bb (m.2.2.1.map fF)] bW)=_
 simp only[List.all_cons,List.all_nil]
 rw[bK,bK,qu,List.length_map]
 unfold BJ
 simp only[Bool.and_true]
theorem WF (c:cD.den):GZ c=rZ c:=by
 have e0:b9 (aA c 0)=KF c.2.2.2.2.1:=U9 _
 have e1:b9 (aA c 1)=G6 c.2.2.2.2.2.1:=Ym _
 have e2:b9 (aA c 2)=BJ c.2.2.2.2.2.2.1:=Yn _
 unfold GZ rZ
 rw[e0,e1,e2]
 cases KF c.2.2.2.2.1 <;> cases G6 c.2.2.2.2.2.1 <;> cases BJ c.2.2.2.2.2.2.1 <;> by_cases h0:c.1=0 <;> by_cases h1:c.1=1 <;> by_cases h2:c.1=2 <;> simp[h0,h1,h2]
theorem Xx (c:cD.den)(h:c.1=0∨c.1=1∨c.1=2):o7 c=fT c.1 false c.2.1 (aA c c.1):=by
 unfold o7 aA
 rcases h with h | h | h
 ·rw[if_pos h,if_pos h,h]
  unfold fA;rfl
 ·have n0:¬ c.1=0:=fun e=>absurd (h.symm.trans e) (by decide)
  rw[if_neg n0,if_pos h,if_neg n0,if_pos h,h]
  unfold jc;rfl
 ·have n0:¬ c.1=0:=fun e=>absurd (h.symm.trans e) (by decide)
  have n1:¬ c.1=1:=fun e=>absurd (h.symm.trans e) (by decide)
  rw[if_neg n0,if_neg n1,if_neg n0,if_neg n1,h]
  unfold iK;rfl
theorem H3 (c:cD.den):fv c=i5 c:=by
 unfold fv i5
 rw[WF]
 by_cases h1:gE c.1 c.2.1=0
 ·rw[if_neg (not_not_intro h1),if_neg (not_not_intro h1),Xx c (WG h1)]
  by_cases h2:o8 c.2.2.2.1=0
  ·rw[if_neg (not_not_intro h2),if_neg (not_not_intro h2)]
   cases rZ c with
   |false=>rw[if_pos rfl,if_neg (by decide)]
   |true=>rw[if_neg (by decide),if_pos rfl]
  ·rw[if_pos h2,if_pos h2]
 ·rw[if_pos h1,if_pos h1]
theorem Ta (c:cD.den):(fv c).1.length≤4294967000:=by
 rw[H3]
 unfold i5
 have hy:(fT c.1 false c.2.1 (aA c c.1)).1.length≤130048:=lM _ _ _ _
 split
 ·simp
 ·split
  ·simp
  ·rename_i h
   split
   ·split
    ·simp
    ·have hn:(rB c.2.2.2.1).length≤257:=by
      unfold rB
      split
      ·rw[bN];omega
      ·have hc:o8 c.2.2.2.1=0:=Classical.byContradiction fun h'=>h h'
       have:c.2.2.2.1.2.1.length≤255:=by
        unfold o8 at hc
        split at hc
        ·cases hc
        ·split at hc
         ·cases hc
         ·split at hc
          ·cases hc
          ·rename_i h3;exact Nat.le_of_not_lt h3
       rw[List.length_append,bN];omega
     unfold Bx
     simp only[List.length_append,bN]
     omega
   ·simp
def j0 (c:jg.den):List Int×Int:=if gE c.1 c.2.1≠0 then ([],gE c.1 c.2.1) else if BM c=false then ([],7) else
 if (jk c.2.1 c.2.2.2.2.2.1).2≠0 then ([],(jk c.2.1 c.2.2.2.2.2.1).2) else (aB c.2.2.1 4++(jk c.2.1 c.2.2.2.2.2.1).1,0)
abbrev lj:Io:=⟨[.dat jg true false],[],[],[dO,dI],none⟩
def EX (d:lj.In):Tr lj.Res:=.ite (decide (d.1.1.1=2)) (.ret (.ret (((j0 d.1.1).1,((j0 d.1.1).2,())),()))) .no
abbrev Ia:List (Nat×Hc):=[(40,ah iP vu),(60,ah un NG),(46,ah oM Hu),(48,ah oL Ht),(49,ah m5 CQ),(50,ah iS tI)]
def T2:Hd:=bA Ia
def Jd:Lp:=bv []
def zq (a0 a1 a2:Int)(a3:List aV.den)(a4 a5:Int)(a6:List au.den)(a7:Int)(a8:List al.den):Option lj.Res:=bif gE a0 a1 != 0 then some (Out.ret (([],gE a0 a1,()),())) else bif bif !!bif !a0 == 0 then a4 == 0&&Decidable.rec (fun (h:¬(↑(List.length (((a0,a1,a2,(a3,a4,()),(a5,a6,()),(a7,a8,()),()),()),()).1.1.2.2.2.1.1):Int)=0)=>false) (fun (h:(↑(List.length (((a0,a1,a2,(a3,a4,()),(a5,a6,()),(a7,a8,()),()),()),()).1.1.2.2.2.1.1):Int)=0)=>true) ((↑(List.length (((a0,a1,a2,(a3,a4,()),(a5,a6,()),(a7,a8,()),()),()),()).1.1.2.2.2.1.1):Int).instDecidableEq 0) else true then bif !!bif !a0 == 1 then a5 == 0&&Decidable.rec (fun (h:¬(↑(List.length (((a0,a1,a2,(a3,a4,()),(a5,a6,()),(a7,a8,()),()),()),()).1.1.2.2.2.2.1.2.1):Int)=0)=>false) (fun (h:(↑(List.length (((a0,a1,a2,(a3,a4,()),(a5,a6,()),(a7,a8,()),()),()),()).1.1.2.2.2.2.1.2.1):Int)=0)=>true) ((↑(List.length (((a0,a1,a2,(a3,a4,()),(a5,a6,()),(a7,a8,()),()),()),()).1.1.2.2.2.2.1.2.1):Int).instDecidableEq 0) else true then !bif !a0 == 2 then a7 == 0&&Decidable.rec (fun (h:¬(↑(List.length (((a0,a1,a2,(a3,a4,()),(a5,a6,()),(a7,a8,()),()),()),()).1.1.2.2.2.2.2.1.2.1):Int)=0)=>false) (fun (h:(↑(List.length (((a0,a1,a2,(a3,a4,()),(a5,a6,()),(a7,a8,()),()),()),()).1.1.2.2.2.2.2.1.2.1):Int)=0)=>true) ((↑(List.length (((a0,a1,a2,(a3,a4,()),(a5,a6,()),(a7,a8,()),()),()),()).1.1.2.2.2.2.2.1.2.1):Int).instDecidableEq 0) else true else true else true then some (Out.ret (([],7,()),())) else bif a0 == 0 then none else bif a0 == 1 then none else bif a0 == 2 then bif (jk (IntKind.i64.wrap a1) (a7,a8,())).2 != 0 then some (Out.ret (([],(jk (IntKind.i64.wrap a1) (a7,a8,())).2,()),())) else bif bf (ax [] (an (am 131072 0) 1048576) a2 4).2 (an (am 131072 0) 1048576)&&decide (aS [(jk (IntKind.i64.wrap a1) (a7,a8,())).1]≤4294960000) then bif decide ((bm (ax [] (an (am 131072 0) 1048576) a2 4).2 (an (am 131072 0) 1048576) [(jk (IntKind.i64.wrap a1) (a7,a8,())).1]).2.length≤4294967296) then some (Out.ret (((bm (ax [] (an (am 131072 0) 1048576) a2 4).2 (an (am 131072 0) 1048576) [(jk (IntKind.i64.wrap a1) (a7,a8,())).1]).2,0,()),())) else none else none else bif bf (ax [] (an (am 131072 0) 1048576) a2 4).2 (an (am 131072 0) 1048576)&&decide (aS [[]]≤4294960000) then bif decide ((bm (ax [] (an (am 131072 0) 1048576) a2 4).2 (an (am 131072 0) 1048576) [[]]).2.length≤4294967296) then some (Out.ret (((bm (ax [] (an (am 131072 0) 1048576) a2 4).2 (an (am 131072 0) 1048576) [[]]).2,0,()),())) else none else none
theorem QY (a0 a1 a2:Int)(a3:List aV.den)(a4 a5:Int)(a6:List au.den)(a7:Int)(a8:List al.den):Io.run tt T2 drG Jd lj Tryz.f18 (((a0,a1,a2,(a3,a4,()),(a5,a6,()),(a7,a8,()),()),()),())=zq a0 a1 a2 a3 a4 a5 a6 a7 a8:=by kernel_rfl
theorem Vf:HcOk prog 18 (ah lj EX):=by
 refine DQ (n:=400) hm (cs:=Ia) (.cons yF (.cons Vq (.cons Mh (.cons Mg (.cons GH (.cons A9 .nil)))))) (lp:=Jd) (fn:=Tryz.f18) (by kernel_rfl) (by kernel_rfl) (by kernel_rfl) lj (.done (by kernel_rfl)) EX ?_
 rintro ⟨⟨⟨(k:Int),(v:Int),(co:Int),⟨(pt:List aV.den),(ph:Int),⟨⟩⟩,⟨(fh:Int),(ft:List au.den),⟨⟩⟩,⟨(lh:Int),(lt:List al.den),⟨⟩⟩,⟨⟩⟩,⟨⟩⟩,⟨⟩⟩ out hw ho
 obtain ⟨hg,ho⟩:=Tr.guard ho
 have hg:k=2:=of_decide_eq_true hg
 cases ho
 refine (QY k v co pt ph fh ft lh lt).trans ?_
 unfold zq
 have hv:IntKind.i64.wrap v=v:=ge hw.1.1.2.1
 rw[hv]
 show _=some (Out.ret (((j0 (k,(v,(co,((pt,(ph,())),((fh,(ft,())),((lh,(lt,())),()))))))).1,((j0 (k,(v,(co,((pt,(ph,())),((fh,(ft,())),((lh,(lt,())),()))))))).2,())),()))
 unfold j0
 dsimp only
 by_cases h1:gE k v=0
 ·rw[ab (by simpa using h1),if_neg (not_not_intro h1)]
  show (bif (bif !!(bif !(k == 0) then KG (pt,(ph,())) else true) then (bif !!(bif !(k == 1) then Kv (fh,(ft,())) else true) then !(bif !(k == 2) then Ky (lh,(lt,())) else true) else true) else true) then _ else _)=_
  rw[S5 k v co pt ph fh lh ft lt]
  generalize BM (k,(v,(co,((pt,(ph,())),((fh,(ft,())),((lh,(lt,())),()))))))=ot
  cases ot with
  |false=>rw[Bool.not_false,cond_true,if_pos rfl]
  |true=>
   rw[Bool.not_true,cond_false,if_neg (by decide)]
   have lo:(jk v (lh,(lt,()))).1.length≤130048:=by unfold jk;exact lM _ _ _ _
   have k0:k≠0:=by omega
   have k1:k≠1:=by omega
   rw[ab (by simpa using k0)]
   rw[ab (by simpa using k1)]
   have k2:k=2:=hg
   rw[aa (by simpa using k2)]
   by_cases h4:(jk v (lh,(lt,()))).2=0
   ·rw[ab (by simpa using h4),if_neg (not_not_intro h4)]
    exact Xz co _ lo
   ·rw[aa (by simpa using h4),if_pos h4]
 ·rw[aa (by simpa using h1),if_pos h1]
def fu (b:List Int):cD.den×Int:=
 if (dh b 0).2.2≠0 then (ZX,(dh b 0).2.2) else
 (if (nJ (dh b 0).1.2.1 (b.drop (dh b 0).2.1.toNat)).2≠0 then (ZX,(nJ (dh b 0).1.2.1 (b.drop (dh b 0).2.1.toNat)).2) else (XL (dh b 0).1 YP fq0 (nJ (dh b 0).1.2.1 (b.drop (dh b 0).2.1.toNat)).1,0))
abbrev oh:Io:=⟨[dL],[],[],[.dat cD true false,dI],none⟩
def K3 (d:oh.In):Tr oh.Res:=.ite (decide (d.1.1.length≤4294960000)&&decide ((dh d.1.1 0).1.1=2)) (.ret (.ret (((fu d.1.1).1,((fu d.1.1).2,())),()))) .no
abbrev NX:List (Nat×Hc):=[(61,ah jU vD),(62,ah lg EV),(64,ah gS qI),(63,ah gT qJ),(67,ah ln E4)]
def XM:Hd:=bA NX
def OG:Lp:=bv []
def CX (a0:List Int):Option oh.Res:=bif decide (a0.length≤4294967296) then bif bo a0 0 then bif (dh a0 0).2.2 != 0 then some (Out.ret (((0,0,0,(false,[],()),((false,[],()),0,0,[],()),(0,0,0,0,0,[],()),(0,0,[],()),()),(dh a0 0).2.2,()),())) else bif bo a0 (dh a0 0).2.1 then bif (dh a0 0).1.1 == 0 then none else bif (dh a0 0).1.1 == 1 then none else bif (dh a0 0).1.1 == 2 then bif (nJ (IntKind.i64.wrap (dh a0 0).1.2.1) (aR a0 (dh a0 0).2.1 (IntKind.i64.wrap ((↑a0.length:Int) - (dh a0 0).2.1))).1).2 != 0 then some (Out.ret (((0,0,0,(false,[],()),((false,[],()),0,0,[],()),(0,0,0,0,0,[],()),(0,0,[],()),()),(nJ (IntKind.i64.wrap (dh a0 0).1.2.1) (aR a0 (dh a0 0).2.1 (IntKind.i64.wrap ((↑a0.length:Int) - (dh a0 0).2.1))).1).2,()),())) else some (Out.ret ((((dh a0 0).1.1,(dh a0 0).1.2.1,(dh a0 0).1.2.2.1,(dh a0 0).1.2.2.2,((false,[],()),0,0,[],()),(0,0,0,0,0,[],()),(nJ (IntKind.i64.wrap (dh a0 0).1.2.1) (aR a0 (dh a0 0).2.1 (IntKind.i64.wrap ((↑a0.length:Int) - (dh a0 0).2.1))).1).1,()),0,()),())) else bif (dh a0 0).2.2 != 0 then some (Out.ret (((0,0,0,(false,[],()),((false,[],()),0,0,[],()),(0,0,0,0,0,[],()),(0,0,[],()),()),(dh a0 0).2.2,()),())) else some (Out.ret ((((dh a0 0).1.1,(dh a0 0).1.2.1,(dh a0 0).1.2.2.1,(dh a0 0).1.2.2.2,((false,[],()),0,0,[],()),(0,0,0,0,0,[],()),(0,0,[],()),()),0,()),())) else none else none else none
theorem VT (a0:List Int):Io.run tt XM dr OG oh Tryz.f20 ((a0,()),())=CX a0:=by kernel_rfl
theorem Yr:HcOk prog 20 (ah oh K3):=by
 refine aj (n:=400) hm (cs:=NX) (.cons yH (.cons Vc (.cons qe (.cons uD (.cons Vm .nil))))) (lp:=OG) (fn:=Tryz.f20) (by kernel_rfl) (by kernel_rfl) (by kernel_rfl) oh (.done (by kernel_rfl)) K3 ?_
 rintro ⟨⟨(b:List Int),⟨⟩⟩,⟨⟩⟩ out hw ho
 obtain ⟨hg,ho⟩:=Tr.guard ho
 obtain ⟨hg,h2⟩:=Bool.and_eq_true_iff.1 hg
 have hg:b.length≤4294960000:=of_decide_eq_true hg
 have h2:(dh b 0).1.1=2:=of_decide_eq_true h2
 cases ho
 refine (VT b).trans ?_
 unfold CX
 show _=some (Out.ret (((fu b).1,((fu b).2,())),()))
 have g0:bo b 0=true:=by simp[bo];omega
 have g1:=Zv g0
 have hl:IntKind.i64.wrap ((b.length:Int) - (dh b 0).2.1)=(b.length:Int) - (dh b 0).2.1:=by
  unfold bo at g1
  simp only[Bool.and_eq_true,decide_eq_true_eq] at g1
  exact aC (by omega) (by omega)
 rw[hl,EA g1,WE]
 refine (aa (decide_eq_true (show b.length≤4294967296 by omega)) _ _).trans ?_
 refine (aa g0 _ _).trans ?_
 unfold fu
 generalize dh b 0=r at g1 h2 ⊢
 obtain ⟨⟨k,v,co,n⟩,q,e⟩:=r
 have g1:bo b q=true:=g1
 have k2:k=2:=h2
 dsimp only
 generalize b.drop q.toNat=rest
 by_cases h1:e=0
 ·rw[ab (by simpa using h1),if_neg (not_not_intro h1),aa g1]
  have k0:k≠0:=by omega
  have k1:k≠1:=by omega
  rw[ab (by simpa using k0)]
  rw[ab (by simpa using k1)]
  rw[aa (by simpa using k2)]
  by_cases hd:(nJ v rest).2=0
  ·rw[ab (by simpa using hd),if_neg (not_not_intro hd)]
  ·rw[aa (by simpa using hd),if_pos hd]
 ·rw[aa (by simpa using h1),if_pos h1]
def kN (k v:Int)(b:List Int):jg.den×Int:=
 if gE k v≠0 then (VR,gE k v) else if (aq b 0 4).2.2≠0 then (VR,(aq b 0 4).2.2) else
 (if (nK v (b.drop (aq b 0 4).2.1.toNat)).2≠0 then (VR,(nK v (b.drop (aq b 0 4).2.1.toNat)).2) else (acs k v (IntKind.i32.wrap (aq b 0 4).1) QT fr0 (nK v (b.drop (aq b 0 4).2.1.toNat)).1,0))
abbrev li:Io:=⟨[K1,K1,dL],[],[],[.dat jg true false,dI],none⟩
def EW (d:li.In):Tr li.Res:=.ite (decide (d.1.2.2.1.length≤4294960000)&&decide (d.1.1=2)) (.ret (.ret (((kN d.1.1 d.1.2.1 d.1.2.2.1).1,((kN d.1.1 d.1.2.1 d.1.2.2.1).2,())),()))) .no
abbrev H9:List (Nat×Hc):=[(40,ah iP vu),(61,ah jU vD),(74,ah kE za),(64,ah gS qI),(63,ah gT qJ),(77,ah ls E5)]
def T1:Hd:=bA H9
def Jc:Lp:=bv []
def zp (a0 a1:Int)(a2:List Int):Option li.Res:=bif gE a0 a1 != 0 then some (Out.ret (((0,0,0,([],0,()),(0,[],()),(0,[],()),()),gE a0 a1,()),())) else bif decide (a2.length≤4294967296) then bif bo a2 0 then bif (aq a2 0 4).2.2 != 0 then some (Out.ret (((0,0,0,([],0,()),(0,[],()),(0,[],()),()),(aq a2 0 4).2.2,()),())) else bif bo a2 (aq a2 0 4).2.1 then bif a0 == 0 then none else bif a0 == 1 then none else bif a0 == 2 then bif (nK (IntKind.i64.wrap a1) (aR a2 (aq a2 0 4).2.1 (IntKind.i64.wrap ((↑a2.length:Int) - (aq a2 0 4).2.1))).1).2 != 0 then some (Out.ret (((0,0,0,([],0,()),(0,[],()),(0,[],()),()),(nK (IntKind.i64.wrap a1) (aR a2 (aq a2 0 4).2.1 (IntKind.i64.wrap ((↑a2.length:Int) - (aq a2 0 4).2.1))).1).2,()),())) else some (Out.ret (((a0,a1,IntKind.i32.wrap (aq a2 0 4).1,([],0,()),(0,[],()),(nK (IntKind.i64.wrap a1) (aR a2 (aq a2 0 4).2.1 (IntKind.i64.wrap ((↑a2.length:Int) - (aq a2 0 4).2.1))).1).1,()),0,()),())) else bif (aq a2 0 4).2.2 != 0 then some (Out.ret (((0,0,0,([],0,()),(0,[],()),(0,[],()),()),(aq a2 0 4).2.2,()),())) else some (Out.ret (((a0,a1,IntKind.i32.wrap (aq a2 0 4).1,([],0,()),(0,[],()),(0,[],()),()),0,()),())) else none else none else none
theorem QX (a0 a1:Int)(a2:List Int):Io.run tt T1 dr Jc li Tryz.f22 ((a0,a1,a2,()),())=zp a0 a1 a2:=by kernel_rfl
theorem Vd:HcOk prog 22 (ah li EW):=by
 refine aj (n:=400) hm (cs:=H9) (.cons yF (.cons yH (.cons GF (.cons qe (.cons uD (.cons Vn .nil)))))) (lp:=Jc) (fn:=Tryz.f22) (by kernel_rfl) (by kernel_rfl) (by kernel_rfl) li (.done (by kernel_rfl)) EW ?_
 rintro ⟨⟨(k:Int),(v:Int),(b:List Int),⟨⟩⟩,⟨⟩⟩ out hw ho
 obtain ⟨hg,ho⟩:=Tr.guard ho
 obtain ⟨hg,k2⟩:=Bool.and_eq_true_iff.1 hg
 have hg:b.length≤4294960000:=of_decide_eq_true hg
 have k2:k=2:=of_decide_eq_true k2
 cases ho
 refine (QX k v b).trans ?_
 unfold zp
 show _=some (Out.ret (((kN k v b).1,((kN k v b).2,())),()))
 have g0:bo b 0=true:=by simp[bo];omega
 have g1:=uR 4 g0
 have hl:IntKind.i64.wrap ((b.length:Int) - (aq b 0 4).2.1)=(b.length:Int) - (aq b 0 4).2.1:=by
  unfold bo at g1
  simp only[Bool.and_eq_true,decide_eq_true_eq] at g1
  exact aC (by omega) (by omega)
 have hv:IntKind.i64.wrap v=v:=ge hw.1.2.1
 rw[hl,EA g1,hv]
 unfold kN
 by_cases h0:gE k v=0
 ·rw[ab (by simpa using h0),if_neg (not_not_intro h0),aa (decide_eq_true (show b.length≤4294967296 by omega)),aa g0]
  generalize aq b 0 4=r at g1 ⊢
  obtain ⟨co,q,e⟩:=r
  have g1:bo b q=true:=g1
  dsimp only
  generalize b.drop q.toNat=rest
  by_cases h1:e=0
  ·rw[ab (by simpa using h1),if_neg (not_not_intro h1),aa g1]
   have k0:k≠0:=by omega
   have k1:k≠1:=by omega
   rw[ab (by simpa using k0)]
   rw[ab (by simpa using k1)]
   rw[aa (by simpa using k2)]
   by_cases hd:(nK v rest).2=0
   ·rw[ab (by simpa using hd),if_neg (not_not_intro hd)]
   ·rw[aa (by simpa using hd),if_pos hd]
  ·rw[aa (by simpa using h1),if_pos h1]
 ·rw[aa (by simpa using h0),if_pos h0]
theorem S6:fu [0,2,0,1,0,0,0,7,0,1,99,255,255,255,255,0,0,0,0]=((2,(1,(7,((false,([99],())),(((false,([],())),(0,(0,(([]:List ap.den),())))),((0,(0,(0,(0,(0,(([]:List ag.den),())))))),((-1,(0,(([]:List af.den),()))),()))))))),0):=by kernel_rfl
theorem S8:j0 (2,(1,(7,(QT,(fr0,(or0,()))))))=([0,0,0,7,0,0,0,0],0):=by
 have w1:jk 1 or0=([0,0,0,0],0):=(VL (v:=1) (m:=or0) ⟨⟨by decide,by decide⟩,⟨Nat.zero_le _,fun x h=>absurd h (by simp)⟩,trivial⟩).symm.trans (by kernel_rfl)
 have h1:gE 2 1=0:=by kernel_rfl
 have h3:BM (2,(1,(7,(QT,(fr0,(or0,()))))))=true:=by kernel_rfl
 unfold j0
 rw[h1,h3,w1]
 rfl
theorem S7:kN 2 1 [0,0,0,7,0,0,0,0]=((2,(1,(7,(QT,(fr0,(or0,())))))),0):=by kernel_rfl
theorem S9:fv (2,(1,(7,((false,([99],())),(((false,([],())),(0,(0,(([]:List ap.den),())))),((0,(0,(0,(0,(0,(([]:List ag.den),())))))),((-1,(0,(([]:List af.den),()))),())))))))=([0,2,0,1,0,0,0,7,0,1,99,255,255,255,255,0,0,0,0],0):=by
 have w1:iK 1 (-1,(0,(([]:List af.den),())))=([255,255,255,255,0,0,0,0],0):=(VK (v:=1) (m:=(-1,(0,(([]:List af.den),())))) ⟨⟨by decide,by decide⟩,⟨by decide,by decide⟩,⟨Nat.zero_le _,fun x h=>absurd h (by simp)⟩,trivial⟩).symm.trans (by kernel_rfl)
 have hb:o7 (2,(1,(7,((false,([99],())),(((false,([],())),(0,(0,(([]:List ap.den),())))),((0,(0,(0,(0,(0,(([]:List ag.den),())))))),((-1,(0,(([]:List af.den),()))),())))))))=([255,255,255,255,0,0,0,0],0):=((if_neg (by decide)).trans (if_neg (by decide))).trans w1
 have h1:gE 2 1=0:=by kernel_rfl
 have h2:o8 (false,([99],()))=0:=by kernel_rfl
 have h3:rZ (2,(1,(7,((false,([99],())),(((false,([],())),(0,(0,(([]:List ap.den),())))),((0,(0,(0,(0,(0,(([]:List ag.den),())))))),((-1,(0,(([]:List af.den),()))),())))))))=true:=by kernel_rfl
 unfold fv
 rw[hb,h3]
 dsimp only
 rw[h1,h2]
 rfl
abbrev lk:Io:=⟨[],[],[],[dB],none⟩
def EZ (d:lk.In):Tr lk.Res:=.ret (.ret ((true,()),()))
abbrev Ib:List (Nat×Hc):=[(11,ah pZ Nz),(20,ah oh K3),(13,ah j6 yf),(18,ah lj EX),(22,ah li EW),(28,ah og Hn)]
def T3:Hd:=bA Ib
def Je:Lp:=bv []
def zr:Option lk.Res:=bif decide ((fu [0,2,0,1,0,0,0,7,0,1,99,255,255,255,255,0,0,0,0]).1.1=2) then bif (fv (2,1,7,(false,[99],()),((false,[],()),0,0,[],()),(0,0,0,0,0,[],()),(-1,0,[],()),())).2 != 0 then some (Out.ret ((false,()),())) else bif (fu [0,2,0,1,0,0,0,7,0,1,99,255,255,255,255,0,0,0,0]).2 != 0 then some (Out.ret ((false,()),())) else bif (j0 ((fu [0,2,0,1,0,0,0,7,0,1,99,255,255,255,255,0,0,0,0]).1.1,(fu [0,2,0,1,0,0,0,7,0,1,99,255,255,255,255,0,0,0,0]).1.2.1,(fu [0,2,0,1,0,0,0,7,0,1,99,255,255,255,255,0,0,0,0]).1.2.2.1,([],0,()),(0,[],()),(0,[],()),())).2 != 0 then some (Out.ret ((false,()),())) else bif (kN 2 1 [0,0,0,7,0,0,0,0]).2 != 0 then some (Out.ret ((false,()),())) else bif (fu [0,2,0,1,0,0,0,7,0,1,99,255,255,255,255,0,0,0,0]).1.2.2.1 != 7 then some (Out.ret ((false,()),())) else bif (kN 2 1 [0,0,0,7,0,0,0,0]).1.2.2.1 != 7 then some (Out.ret ((false,()),())) else bif decide ((fv (2,1,7,(false,[99],()),((false,[],()),0,0,[],()),(0,0,0,0,0,[],()),(-1,0,[],()),())).1=[0,2,0,1,0,0,0,7,0,1,99,255,255,255,255,0,0,0,0]) then some (Out.ret ((decide ((j0 ((fu [0,2,0,1,0,0,0,7,0,1,99,255,255,255,255,0,0,0,0]).1.1,(fu [0,2,0,1,0,0,0,7,0,1,99,255,255,255,255,0,0,0,0]).1.2.1,(fu [0,2,0,1,0,0,0,7,0,1,99,255,255,255,255,0,0,0,0]).1.2.2.1,([],0,()),(0,[],()),(0,[],()),())).1=[0,0,0,7,0,0,0,0]),()),())) else some (Out.ret ((false,()),())) else none
theorem QZ:Io.run tt T3 dr Je lk Tryz.f8 ((),())=zr:=by kernel_rfl
theorem Vg:HcOk prog 8 (ah lk EZ):=by
 refine aj (n:=400) hm (cs:=Ib) (.cons Ve (.cons Yr (.cons JG (.cons Vf (.cons Vd (.cons Gw .nil)))))) (lp:=Je) (fn:=Tryz.f8) (by kernel_rfl) (by kernel_rfl) (by kernel_rfl) lk (.done (by kernel_rfl)) EZ ?_
 rintro ⟨⟨⟩,⟨⟩⟩ out hw ho
 cases ho
 refine QZ.trans ?_
 unfold zr
 rw[S9,S6]
 show (bif (j0 (2,(1,(7,(QT,(fr0,(or0,()))))))).2 != 0 then _ else _)=_
 rw[S8]
 show (bif (0:Int) != 0 then _ else (bif (kN 2 1 [0,0,0,7,0,0,0,0]).2 != 0 then _ else _))=_
 rw[S7]
 rfl
abbrev mp:Io:=⟨[.dat cD true false],[],[],[dB],none⟩
def BP (c:cD.den):Bool:=cB c.2.2.2.2.1.2.2.2.1&&(bO c&&(PA c&&decide (8*aP (aA c c.1)≤4294967296)))
def EY (d:mp.In):Tr mp.Res:=.ite (BP d.1.1) (.ret (.ret ((true,()),()))) .no
abbrev N0:List (Nat×Hc):=[(8,ah lk EZ),(9,ah lB Fc),(10,ah oJ Ld),(11,GO (ah pZ Nz)),(13,ah j6 yf),(12,ah fZ vC),(14,ah iC y7),(15,Fv)]
def XP:Hd:=bA N0
def OJ:Lp:=bv []
def C0 (a0 a1 a2:Int)(a3:Bool)(a4:List Int)(a5:Bool)(a6:List Int)(a7 a8:Int)(a9:List ap.den)(a10 a11 a12 a13 a14:Int)(a15:List ag.den)(a16 a17:Int)(a18:List af.den):Option mp.Res:=bif PA (a0,a1,a2,(a3,a4,()),((a5,a6,()),a7,a8,a9,()),(a10,a11,a12,a13,a14,a15,()),(a16,a17,a18,()),()) then bif bO (a0,a1,a2,(a3,a4,()),((a5,a6,()),a7,a8,a9,()),(a10,a11,a12,a13,a14,a15,()),(a16,a17,a18,()),())&&decide (8*aP (aA (a0,a1,a2,(a3,a4,()),((a5,a6,()),a7,a8,a9,()),(a10,a11,a12,a13,a14,a15,()),(a16,a17,a18,()),()) a0)≤4294967296) then bif cB a9 then bif cB a9 then bif (fv (a0,a1,a2,(a3,a4,()),((a5,a6,()),a7,a8,a9,()),(a10,a11,a12,a13,a14,a15,()),(a16,a17,a18,()),())).2 != (i5 (a0,a1,a2,(a3,a4,()),((a5,a6,()),a7,a8,a9,()),(a10,a11,a12,a13,a14,a15,()),(a16,a17,a18,()),())).2 then some (Out.ret ((false,()),())) else bif (fv (a0,a1,a2,(a3,a4,()),((a5,a6,()),a7,a8,a9,()),(a10,a11,a12,a13,a14,a15,()),(a16,a17,a18,()),())).2 != (fv (a0,a1,a2,(a3,a4,()),((a5,a6,()),a7,a8,a9,()),(a10,a11,a12,a13,a14,a15,()),(a16,a17,a18,()),())).2 then some (Out.ret ((false,()),())) else bif !kg (α:=jg.den) (a0,a1,a2,([],0,()),(0,[],()),(0,[],()),()) (a0,a1,a2,([],0,()),(0,[],()),(0,[],()),()) then some (Out.ret ((false,()),())) else bif bO (a0,a1,a2,(a3,a4,()),((a5,a6,()),a7,a8,a9,()),(a10,a11,a12,a13,a14,a15,()),(a16,a17,a18,()),())&&bO (a0,a1,a2,(a3,a4,()),((a5,a6,()),a7,a8,a9,()),(a10,a11,a12,a13,a14,a15,()),(a16,a17,a18,()),()) then bif kg (a0,a1,a2,(a3,a4,()),((a5,a6,()),a7,a8,a9,()),(a10,a11,a12,a13,a14,a15,()),(a16,a17,a18,()),()) (a0,a1,a2,(a3,a4,()),((a5,a6,()),a7,a8,a9,()),(a10,a11,a12,a13,a14,a15,()),(a16,a17,a18,()),()) then bif decide ((fv (a0,a1,a2,(a3,a4,()),((a5,a6,()),a7,a8,a9,()),(a10,a11,a12,a13,a14,a15,()),(a16,a17,a18,()),())).1.length≤4294967000)&&decide ((fv (a0,a1,a2,(a3,a4,()),((a5,a6,()),a7,a8,a9,()),(a10,a11,a12,a13,a14,a15,()),(a16,a17,a18,()),())).1.length≤4294967000) then bif decide ((fv (a0,a1,a2,(a3,a4,()),((a5,a6,()),a7,a8,a9,()),(a10,a11,a12,a13,a14,a15,()),(a16,a17,a18,()),())).1=(i5 (a0,a1,a2,(a3,a4,()),((a5,a6,()),a7,a8,a9,()),(a10,a11,a12,a13,a14,a15,()),(a16,a17,a18,()),())).1)&&decide ((fv (a0,a1,a2,(a3,a4,()),((a5,a6,()),a7,a8,a9,()),(a10,a11,a12,a13,a14,a15,()),(a16,a17,a18,()),())).1=(i5 (a0,a1,a2,(a3,a4,()),((a5,a6,()),a7,a8,a9,()),(a10,a11,a12,a13,a14,a15,()),(a16,a17,a18,()),())).1) then bif bO (a0,a1,a2,(a3,a4,()),((a5,a6,()),a7,a8,a9,()),(a10,a11,a12,a13,a14,a15,()),(a16,a17,a18,()),())&&bO (a0,a1,a2,(a3,a4,()),((a5,a6,()),a7,a8,a9,()),(a10,a11,a12,a13,a14,a15,()),(a16,a17,a18,()),()) then some (Out.ret ((kg (a0,a1,a2,(a3,a4,()),((a5,a6,()),a7,a8,a9,()),(a10,a11,a12,a13,a14,a15,()),(a16,a17,a18,()),()) (a0,a1,a2,(a3,a4,()),((a5,a6,()),a7,a8,a9,()),(a10,a11,a12,a13,a14,a15,()),(a16,a17,a18,()),()),()),())) else none else some (Out.ret ((false,()),())) else none else some (Out.ret ((false,()),())) else none else none else none else none else none
theorem VW (a0 a1 a2:Int)(a3:Bool)(a4:List Int)(a5:Bool)(a6:List Int)(a7 a8:Int)(a9:List ap.den)(a10 a11 a12 a13 a14:Int)(a15:List ag.den)(a16 a17:Int)(a18:List af.den):Io.run tt XP dr OJ mp Tryz.f3 (((a0,a1,a2,(a3,a4,()),((a5,a6,()),a7,a8,a9,()),(a10,a11,a12,a13,a14,a15,()),(a16,a17,a18,()),()),()),())=C0 a0 a1 a2 a3 a4 a5 a6 a7 a8 a9 a10 a11 a12 a13 a14 a15 a16 a17 a18:=by kernel_rfl
theorem Yt:HcOk prog 3 (ah mp EY):=by
 refine aj (n:=400) hm (cs:=N0) (.cons Vg (.cons Vx (.cons YE (.cons (s6 Ve) (.cons JG (.cons Me (.cons QG (.cons Yq .nil)))))))) (lp:=OJ) (fn:=Tryz.f3) (by kernel_rfl) (by kernel_rfl) (by kernel_rfl) mp (.done (by kernel_rfl)) EY ?_
 rintro ⟨⟨⟨(k:Int),(v:Int),(co:Int),⟨(cz:Bool),(cs:List Int),⟨⟩⟩,⟨⟨(nz:Bool),(ns:List Int),⟨⟩⟩,(ak:Int),(wt:Int),(ts:List ap.den),⟨⟩⟩,⟨(fr:Int),(fw:Int),(fm:Int),(fx:Int),(fl:Int),(ft:List ag.den),⟨⟩⟩,⟨(lr:Int),(ll:Int),(lt:List af.den),⟨⟩⟩,⟨⟩⟩,⟨⟩⟩,⟨⟩⟩ out hw ho
 obtain ⟨hg,ho⟩:=Tr.guard ho
 cases ho
 refine (VW k v co cz cs nz ns ak wt ts fr fw fm fx fl ft lr ll lt).trans ?_
 unfold C0
 have hg:BP (k,(v,(co,((cz,(cs,())),(((nz,(ns,())),(ak,(wt,(ts,())))),((fr,(fw,(fm,(fx,(fl,(ft,())))))),((lr,(ll,(lt,()))),())))))))=true:=hg
 generalize hR:(k,(v,(co,((cz,(cs,())),(((nz,(ns,())),(ak,(wt,(ts,())))),((fr,(fw,(fm,(fx,(fl,(ft,())))))),((lr,(ll,(lt,()))),())))))))=R at hg ⊢
 have hts:ts=R.2.2.2.2.1.2.2.2.1:=by rw[← hR]
 have hk:k=R.1:=by rw[← hR]
 unfold BP at hg
 simp only[Bool.and_eq_true,decide_eq_true_eq] at hg
 obtain ⟨g1,g2,g3,g4⟩:=hg
 rw[hts,hk,← H3 R]
 have g4:=decide_eq_true g4
 have h6:=decide_eq_true (Ta R)
 have h7:kg R R=true:=kX.2 rfl
 have h8:∀x:jg.den,kg x x=true:=fun x=>kX.2 rfl
 simp only[g1,g2,g3,g4,h6,h7,h8,cond_true,cond_false,bne_self_eq_false,Bool.not_true,decide_true,Bool.and_self]
theorem PN {c:cD.den}(h:jR cD c≤1048576):BP c=true:=by
 have e:jR cD c=1+(1+(1+(jR gP c.2.2.2.1+(jR kr c.2.2.2.2.1+(jR cn c.2.2.2.2.2.1+(jR bT c.2.2.2.2.2.2.1+0)))))):=rfl
 have h1:=VQ (m:=c.2.2.2.2.1) (by omega)
 have h2:=XJ (m:=c.2.2.2.2.2.1) (by omega)
 have h3:=YN (m:=c.2.2.2.2.2.2.1) (by omega)
 unfold G7 at h1
 unfold M9 at h2
 unfold Na at h3
 simp only[Bool.and_eq_true,decide_eq_true_eq] at h1 h2 h3
 obtain ⟨a1,a2,a3⟩:=h1
 obtain ⟨b2,b3⟩:=h2
 obtain ⟨c2,c3⟩:=h3
 unfold BP bO PA
 simp only[Bool.and_eq_true,decide_eq_true_eq]
 refine ⟨a1,⟨a2,b2,c2⟩,⟨⟨a2,by omega⟩,⟨b2,by omega⟩,c2,by omega⟩,?_⟩
 unfold aA
 split
 ·exact a3
 ·split
  ·exact b3
  ·exact c3
end
end Go.Proofs.YtomeplopmndbgaaGreat.Sym
