/- leatref04: well-formed text. -/
import Derived.Lib.SliceRun
import Derived.Test.YtomeplopmndbgaaGreatQ3

namespace Go.Proofs.YtomeplopmndbgaaGreat.Sym
open Go
set_option linter.unusedSimpArgs false
set_option linter.unusedVariables false
noncomputable section
def bL (b:List Int)(p lo hi:Int):Bool:=decide (p<(b.length:Int))&&(decide (lo≤b.getD p.toNat 0)&&decide (b.getD p.toNat 0≤hi))
abbrev i7:Io:=⟨[dL,dI,dU,dU],[],[],[dB],none⟩
def yg (d:i7.In):Tr i7.Res:=.ite (decide ((0:Int)≤d.1.2.1)) (.ret (.ret ((bL d.1.1 d.1.2.1 d.1.2.2.1 d.1.2.2.2.1,()),()))) .no
abbrev CO:List (Nat×Hc):=[]
def OX:Hd:=bz CO
def Dh:Lp:=bo []
def wb (a0:List Int)(a1 a2 a3:Int):Option i7.Res:=bif decide (a1<(↑a0.length:Int)) then bif decide (0≤a1)&&decide (a1<(↑a0.length:Int)) then bif decide (a2≤a0.getD a1.toNat 0) then bif decide (0≤a1)&&decide (a1<(↑a0.length:Int)) then some (Out.ret ((decide (a0.getD a1.toNat 0≤a3),()),())) else none else some (Out.ret ((false,()),())) else none else some (Out.ret ((false,()),()))
theorem Lr (a0:List Int)(a1 a2 a3:Int):Io.run tt OX dr Dh i7 Tryz.f186 ((a0,a1,a2,a3,()),())=wb a0 a1 a2 a3:=by kernel_rfl
theorem Pt:HcOk prog 186 (ah i7 yg):=by
 refine aj (n:=400) hm (cs:=CO) HcsOk.nil (lp:=Dh) (fn:=Tryz.f186) (by kernel_rfl) (by kernel_rfl) (by kernel_rfl) i7 (.done (by kernel_rfl)) yg ?_
 rintro ⟨⟨(b:List Int),(p:Int),(lo:Int),(hi:Int),⟨⟩⟩,⟨⟩⟩ out hw ho
 obtain ⟨hg,ho⟩:=Tr.guard ho
 cases ho
 refine (Lr b p lo hi).trans ?_
 have hg:(0:Int)≤p:=by simpa using hg
 unfold wb
 show _=some (Out.ret ((bL b p lo hi,()),()))
 unfold bL
 generalize b.getD p.toNat 0=c
 by_cases h1:p<(b.length:Int)
 ·by_cases h2:lo≤c
  ·simp[hg,h1,h2]
  ·simp[hg,h1,h2]
 ·simp[h1]
def lc (c:Int):Int:=if c=240 then 144 else if c=224 then 160 else 128
def la (c:Int):Int:=if c=244 then 143 else if c=237 then 159 else 191
def eZ (b:List Int)(p:Int):Int:=
 if p<0∨(b.length:Int)≤p then 0
 else if b.getD p.toNat 0<128 then 1
 else if b.getD p.toNat 0<194∨244<b.getD p.toNat 0∨bL b (p+1) (lc (b.getD p.toNat 0)) (la (b.getD p.toNat 0))=false then 0
 else if b.getD p.toNat 0<224 then 2
 else if bL b (p+2) 128 191=false then 0
 else if b.getD p.toNat 0<240 then 3
 else if bL b (p+3) 128 191=false then 0
 else 4
abbrev lN:Io:=⟨[dL,dI],[],[],[dI],none⟩
def JW (d:lN.In):Tr lN.Res:=.ret (.ret ((eZ d.1.1 d.1.2.1,()),()))
abbrev M0:List (Nat×Hc):=[(186,ah i7 yg)]
def WG:Hd:=bz M0
def NI:Lp:=bo []
def Cq (a0:List Int)(a1:Int):Option lN.Res:=bif decide (a1<0) then some (Out.ret ((0,()),())) else bif decide ((↑a0.length:Int)≤a1) then some (Out.ret ((0,()),())) else bif decide (0≤a1)&&decide (a1<(↑a0.length:Int)) then bif decide (a0.getD a1.toNat 0<128) then some (Out.ret ((1,()),())) else bif a0.getD a1.toNat 0 == 224 then bif a0.getD a1.toNat 0 == 237 then bif a0.getD a1.toNat 0 == 240 then bif a0.getD a1.toNat 0 == 244 then bif decide (a0.getD a1.toNat 0<194) then some (Out.ret ((0,()),())) else bif decide (244<a0.getD a1.toNat 0) then some (Out.ret ((0,()),())) else bif decide (0≤IntKind.i64.wrap (a1+1)) then bif !bL a0 (IntKind.i64.wrap (a1+1)) 144 143 then some (Out.ret ((0,()),())) else bif decide (a0.getD a1.toNat 0<224) then some (Out.ret ((2,()),())) else bif decide (0≤IntKind.i64.wrap (a1+2)) then bif !bL a0 (IntKind.i64.wrap (a1+2)) 128 191 then some (Out.ret ((0,()),())) else bif decide (a0.getD a1.toNat 0<240) then some (Out.ret ((3,()),())) else bif decide (0≤IntKind.i64.wrap (a1+3)) then bif !bL a0 (IntKind.i64.wrap (a1+3)) 128 191 then some (Out.ret ((0,()),())) else some (Out.ret ((4,()),())) else none else none else none else bif decide (a0.getD a1.toNat 0<194) then some (Out.ret ((0,()),())) else bif decide (244<a0.getD a1.toNat 0) then some (Out.ret ((0,()),())) else bif decide (0≤IntKind.i64.wrap (a1+1)) then bif !bL a0 (IntKind.i64.wrap (a1+1)) 144 159 then some (Out.ret ((0,()),())) else bif decide (a0.getD a1.toNat 0<224) then some (Out.ret ((2,()),())) else bif decide (0≤IntKind.i64.wrap (a1+2)) then bif !bL a0 (IntKind.i64.wrap (a1+2)) 128 191 then some (Out.ret ((0,()),())) else bif decide (a0.getD a1.toNat 0<240) then some (Out.ret ((3,()),())) else bif decide (0≤IntKind.i64.wrap (a1+3)) then bif !bL a0 (IntKind.i64.wrap (a1+3)) 128 191 then some (Out.ret ((0,()),())) else some (Out.ret ((4,()),())) else none else none else none else bif a0.getD a1.toNat 0 == 244 then bif decide (a0.getD a1.toNat 0<194) then some (Out.ret ((0,()),())) else bif decide (244<a0.getD a1.toNat 0) then some (Out.ret ((0,()),())) else bif decide (0≤IntKind.i64.wrap (a1+1)) then bif !bL a0 (IntKind.i64.wrap (a1+1)) 160 143 then some (Out.ret ((0,()),())) else bif decide (a0.getD a1.toNat 0<224) then some (Out.ret ((2,()),())) else bif decide (0≤IntKind.i64.wrap (a1+2)) then bif !bL a0 (IntKind.i64.wrap (a1+2)) 128 191 then some (Out.ret ((0,()),())) else bif decide (a0.getD a1.toNat 0<240) then some (Out.ret ((3,()),())) else bif decide (0≤IntKind.i64.wrap (a1+3)) then bif !bL a0 (IntKind.i64.wrap (a1+3)) 128 191 then some (Out.ret ((0,()),())) else some (Out.ret ((4,()),())) else none else none else none else bif decide (a0.getD a1.toNat 0<194) then some (Out.ret ((0,()),())) else bif decide (244<a0.getD a1.toNat 0) then some (Out.ret ((0,()),())) else bif decide (0≤IntKind.i64.wrap (a1+1)) then bif !bL a0 (IntKind.i64.wrap (a1+1)) 160 159 then some (Out.ret ((0,()),())) else bif decide (a0.getD a1.toNat 0<224) then some (Out.ret ((2,()),())) else bif decide (0≤IntKind.i64.wrap (a1+2)) then bif !bL a0 (IntKind.i64.wrap (a1+2)) 128 191 then some (Out.ret ((0,()),())) else bif decide (a0.getD a1.toNat 0<240) then some (Out.ret ((3,()),())) else bif decide (0≤IntKind.i64.wrap (a1+3)) then bif !bL a0 (IntKind.i64.wrap (a1+3)) 128 191 then some (Out.ret ((0,()),())) else some (Out.ret ((4,()),())) else none else none else none else bif a0.getD a1.toNat 0 == 240 then bif a0.getD a1.toNat 0 == 244 then bif decide (a0.getD a1.toNat 0<194) then some (Out.ret ((0,()),())) else bif decide (244<a0.getD a1.toNat 0) then some (Out.ret ((0,()),())) else bif decide (0≤IntKind.i64.wrap (a1+1)) then bif !bL a0 (IntKind.i64.wrap (a1+1)) 144 143 then some (Out.ret ((0,()),())) else bif decide (a0.getD a1.toNat 0<224) then some (Out.ret ((2,()),())) else bif decide (0≤IntKind.i64.wrap (a1+2)) then bif !bL a0 (IntKind.i64.wrap (a1+2)) 128 191 then some (Out.ret ((0,()),())) else bif decide (a0.getD a1.toNat 0<240) then some (Out.ret ((3,()),())) else bif decide (0≤IntKind.i64.wrap (a1+3)) then bif !bL a0 (IntKind.i64.wrap (a1+3)) 128 191 then some (Out.ret ((0,()),())) else some (Out.ret ((4,()),())) else none else none else none else bif decide (a0.getD a1.toNat 0<194) then some (Out.ret ((0,()),())) else bif decide (244<a0.getD a1.toNat 0) then some (Out.ret ((0,()),())) else bif decide (0≤IntKind.i64.wrap (a1+1)) then bif !bL a0 (IntKind.i64.wrap (a1+1)) 144 191 then some (Out.ret ((0,()),())) else bif decide (a0.getD a1.toNat 0<224) then some (Out.ret ((2,()),())) else bif decide (0≤IntKind.i64.wrap (a1+2)) then bif !bL a0 (IntKind.i64.wrap (a1+2)) 128 191 then some (Out.ret ((0,()),())) else bif decide (a0.getD a1.toNat 0<240) then some (Out.ret ((3,()),())) else bif decide (0≤IntKind.i64.wrap (a1+3)) then bif !bL a0 (IntKind.i64.wrap (a1+3)) 128 191 then some (Out.ret ((0,()),())) else some (Out.ret ((4,()),())) else none else none else none else bif a0.getD a1.toNat 0 == 244 then bif decide (a0.getD a1.toNat 0<194) then some (Out.ret ((0,()),())) else bif decide (244<a0.getD a1.toNat 0) then some (Out.ret ((0,()),())) else bif decide (0≤IntKind.i64.wrap (a1+1)) then bif !bL a0 (IntKind.i64.wrap (a1+1)) 160 143 then some (Out.ret ((0,()),())) else bif decide (a0.getD a1.toNat 0<224) then some (Out.ret ((2,()),())) else bif decide (0≤IntKind.i64.wrap (a1+2)) then bif !bL a0 (IntKind.i64.wrap (a1+2)) 128 191 then some (Out.ret ((0,()),())) else bif decide (a0.getD a1.toNat 0<240) then some (Out.ret ((3,()),())) else bif decide (0≤IntKind.i64.wrap (a1+3)) then bif !bL a0 (IntKind.i64.wrap (a1+3)) 128 191 then some (Out.ret ((0,()),())) else some (Out.ret ((4,()),())) else none else none else none else bif decide (a0.getD a1.toNat 0<194) then some (Out.ret ((0,()),())) else bif decide (244<a0.getD a1.toNat 0) then some (Out.ret ((0,()),())) else bif decide (0≤IntKind.i64.wrap (a1+1)) then bif !bL a0 (IntKind.i64.wrap (a1+1)) 160 191 then some (Out.ret ((0,()),())) else bif decide (a0.getD a1.toNat 0<224) then some (Out.ret ((2,()),())) else bif decide (0≤IntKind.i64.wrap (a1+2)) then bif !bL a0 (IntKind.i64.wrap (a1+2)) 128 191 then some (Out.ret ((0,()),())) else bif decide (a0.getD a1.toNat 0<240) then some (Out.ret ((3,()),())) else bif decide (0≤IntKind.i64.wrap (a1+3)) then bif !bL a0 (IntKind.i64.wrap (a1+3)) 128 191 then some (Out.ret ((0,()),())) else some (Out.ret ((4,()),())) else none else none else none else bif a0.getD a1.toNat 0 == 237 then bif a0.getD a1.toNat 0 == 240 then bif a0.getD a1.toNat 0 == 244 then bif decide (a0.getD a1.toNat 0<194) then some (Out.ret ((0,()),())) else bif decide (244<a0.getD a1.toNat 0) then some (Out.ret ((0,()),())) else bif decide (0≤IntKind.i64.wrap (a1+1)) then bif !bL a0 (IntKind.i64.wrap (a1+1)) 144 143 then some (Out.ret ((0,()),())) else bif decide (a0.getD a1.toNat 0<224) then some (Out.ret ((2,()),())) else bif decide (0≤IntKind.i64.wrap (a1+2)) then bif !bL a0 (IntKind.i64.wrap (a1+2)) 128 191 then some (Out.ret ((0,()),())) else bif decide (a0.getD a1.toNat 0<240) then some (Out.ret ((3,()),())) else bif decide (0≤IntKind.i64.wrap (a1+3)) then bif !bL a0 (IntKind.i64.wrap (a1+3)) 128 191 then some (Out.ret ((0,()),())) else some (Out.ret ((4,()),())) else none else none else none else bif decide (a0.getD a1.toNat 0<194) then some (Out.ret ((0,()),())) else bif decide (244<a0.getD a1.toNat 0) then some (Out.ret ((0,()),())) else bif decide (0≤IntKind.i64.wrap (a1+1)) then bif !bL a0 (IntKind.i64.wrap (a1+1)) 144 159 then some (Out.ret ((0,()),())) else bif decide (a0.getD a1.toNat 0<224) then some (Out.ret ((2,()),())) else bif decide (0≤IntKind.i64.wrap (a1+2)) then bif !bL a0 (IntKind.i64.wrap (a1+2)) 128 191 then some (Out.ret ((0,()),())) else bif decide (a0.getD a1.toNat 0<240) then some (Out.ret ((3,()),())) else bif decide (0≤IntKind.i64.wrap (a1+3)) then bif !bL a0 (IntKind.i64.wrap (a1+3)) 128 191 then some (Out.ret ((0,()),())) else some (Out.ret ((4,()),())) else none else none else none else bif a0.getD a1.toNat 0 == 244 then bif decide (a0.getD a1.toNat 0<194) then some (Out.ret ((0,()),())) else bif decide (244<a0.getD a1.toNat 0) then some (Out.ret ((0,()),())) else bif decide (0≤IntKind.i64.wrap (a1+1)) then bif !bL a0 (IntKind.i64.wrap (a1+1)) 128 143 then some (Out.ret ((0,()),())) else bif decide (a0.getD a1.toNat 0<224) then some (Out.ret ((2,()),())) else bif decide (0≤IntKind.i64.wrap (a1+2)) then bif !bL a0 (IntKind.i64.wrap (a1+2)) 128 191 then some (Out.ret ((0,()),())) else bif decide (a0.getD a1.toNat 0<240) then some (Out.ret ((3,()),())) else bif decide (0≤IntKind.i64.wrap (a1+3)) then bif !bL a0 (IntKind.i64.wrap (a1+3)) 128 191 then some (Out.ret ((0,()),())) else some (Out.ret ((4,()),())) else none else none else none else bif decide (a0.getD a1.toNat 0<194) then some (Out.ret ((0,()),())) else bif decide (244<a0.getD a1.toNat 0) then some (Out.ret ((0,()),())) else bif decide (0≤IntKind.i64.wrap (a1+1)) then bif !bL a0 (IntKind.i64.wrap (a1+1)) 128 159 then some (Out.ret ((0,()),())) else bif decide (a0.getD a1.toNat 0<224) then some (Out.ret ((2,()),())) else bif decide (0≤IntKind.i64.wrap (a1+2)) then bif !bL a0 (IntKind.i64.wrap (a1+2)) 128 191 then some (Out.ret ((0,()),())) else bif decide (a0.getD a1.toNat 0<240) then some (Out.ret ((3,()),())) else bif decide (0≤IntKind.i64.wrap (a1+3)) then bif !bL a0 (IntKind.i64.wrap (a1+3)) 128 191 then some (Out.ret ((0,()),())) else some (Out.ret ((4,()),())) else none else none else none else bif a0.getD a1.toNat 0 == 240 then bif a0.getD a1.toNat 0 == 244 then bif decide (a0.getD a1.toNat 0<194) then some (Out.ret ((0,()),())) else bif decide (244<a0.getD a1.toNat 0) then some (Out.ret ((0,()),())) else bif decide (0≤IntKind.i64.wrap (a1+1)) then bif !bL a0 (IntKind.i64.wrap (a1+1)) 144 143 then some (Out.ret ((0,()),())) else bif decide (a0.getD a1.toNat 0<224) then some (Out.ret ((2,()),())) else bif decide (0≤IntKind.i64.wrap (a1+2)) then bif !bL a0 (IntKind.i64.wrap (a1+2)) 128 191 then some (Out.ret ((0,()),())) else bif decide (a0.getD a1.toNat 0<240) then some (Out.ret ((3,()),())) else bif decide (0≤IntKind.i64.wrap (a1+3)) then bif !bL a0 (IntKind.i64.wrap (a1+3)) 128 191 then some (Out.ret ((0,()),())) else some (Out.ret ((4,()),())) else none else none else none else bif decide (a0.getD a1.toNat 0<194) then some (Out.ret ((0,()),())) else bif decide (244<a0.getD a1.toNat 0) then some (Out.ret ((0,()),())) else bif decide (0≤IntKind.i64.wrap (a1+1)) then bif !bL a0 (IntKind.i64.wrap (a1+1)) 144 191 then some (Out.ret ((0,()),())) else bif decide (a0.getD a1.toNat 0<224) then some (Out.ret ((2,()),())) else bif decide (0≤IntKind.i64.wrap (a1+2)) then bif !bL a0 (IntKind.i64.wrap (a1+2)) 128 191 then some (Out.ret ((0,()),())) else bif decide (a0.getD a1.toNat 0<240) then some (Out.ret ((3,()),())) else bif decide (0≤IntKind.i64.wrap (a1+3)) then bif !bL a0 (IntKind.i64.wrap (a1+3)) 128 191 then some (Out.ret ((0,()),())) else some (Out.ret ((4,()),())) else none else none else none else bif a0.getD a1.toNat 0 == 244 then bif decide (a0.getD a1.toNat 0<194) then some (Out.ret ((0,()),())) else bif decide (244<a0.getD a1.toNat 0) then some (Out.ret ((0,()),())) else bif decide (0≤IntKind.i64.wrap (a1+1)) then bif !bL a0 (IntKind.i64.wrap (a1+1)) 128 143 then some (Out.ret ((0,()),())) else bif decide (a0.getD a1.toNat 0<224) then some (Out.ret ((2,()),())) else bif decide (0≤IntKind.i64.wrap (a1+2)) then bif !bL a0 (IntKind.i64.wrap (a1+2)) 128 191 then some (Out.ret ((0,()),())) else bif decide (a0.getD a1.toNat 0<240) then some (Out.ret ((3,()),())) else bif decide (0≤IntKind.i64.wrap (a1+3)) then bif !bL a0 (IntKind.i64.wrap (a1+3)) 128 191 then some (Out.ret ((0,()),())) else some (Out.ret ((4,()),())) else none else none else none else bif decide (a0.getD a1.toNat 0<194) then some (Out.ret ((0,()),())) else bif decide (244<a0.getD a1.toNat 0) then some (Out.ret ((0,()),())) else bif decide (0≤IntKind.i64.wrap (a1+1)) then bif !bL a0 (IntKind.i64.wrap (a1+1)) 128 191 then some (Out.ret ((0,()),())) else bif decide (a0.getD a1.toNat 0<224) then some (Out.ret ((2,()),())) else bif decide (0≤IntKind.i64.wrap (a1+2)) then bif !bL a0 (IntKind.i64.wrap (a1+2)) 128 191 then some (Out.ret ((0,()),())) else bif decide (a0.getD a1.toNat 0<240) then some (Out.ret ((3,()),())) else bif decide (0≤IntKind.i64.wrap (a1+3)) then bif !bL a0 (IntKind.i64.wrap (a1+3)) 128 191 then some (Out.ret ((0,()),())) else some (Out.ret ((4,()),())) else none else none else none else none
theorem UR (a0:List Int)(a1:Int):Io.run tt WG dr NI lN Tryz.f87 ((a0,a1,()),())=Cq a0 a1:=by kernel_rfl
theorem tU {b:List Int}{p lo hi:Int}(h:bL b p lo hi=true):p<(b.length:Int):=by
 simp only[bL,Bool.and_eq_true,decide_eq_true_eq] at h
 exact h.1
def Kb (b:List Int)(p c lo hi:Int):Option lN.Res:=
 bif decide (c<194) then some (Out.ret ((0,()),())) else bif decide (244<c) then some (Out.ret ((0,()),())) else bif decide (0≤p+1) then bif !bL b (p+1) lo hi then some (Out.ret ((0,()),()))
  else bif decide (c<224) then some (Out.ret ((2,()),())) else bif decide (0≤IntKind.i64.wrap (p+2)) then bif !bL b (IntKind.i64.wrap (p+2)) 128 191 then some (Out.ret ((0,()),()))
  else bif decide (c<240) then some (Out.ret ((3,()),())) else bif decide (0≤IntKind.i64.wrap (p+3)) then bif !bL b (IntKind.i64.wrap (p+3)) 128 191 then some (Out.ret ((0,()),())) else some (Out.ret ((4,()),())) else none else none else none
theorem OE {b:List Int}{p c lo hi:Int}(hp:0≤p)(hb:(b.length:Int)≤9223372036854775807):Kb b p c lo hi=some (Out.ret ((if c<194∨244<c∨bL b (p+1) lo hi=false then 0 else if c<224 then 2 else if bL b (p+2) 128 191=false then 0 else if c<240 then 3 else if bL b (p+3) 128 191=false then 0 else 4,()),())):=by
 unfold Kb
 by_cases d2:c<194
 ·simp[d2]
 by_cases d3:244<c
 ·simp[d2,d3]
 rw[ab (by simpa using d2),ab (by simpa using d3),aa (by simp;omega)]
 cases a1:bL b (p+1) lo hi with
 |false=>simp
 |true=>
  have h1:=tU a1
  have e2:IntKind.i64.wrap (p+2)=p+2:=by rw[az] <;> omega
  rw[e2]
  by_cases d4:c<224
  ·simp[d2,d3,d4]
  rw[ab (by rfl),ab (by simpa using d4),aa (by simp;omega)]
  cases a2:bL b (p+2) 128 191 with
  |false=>simp[d2,d3,d4]
  |true=>
   have h2:=tU a2
   have e3:IntKind.i64.wrap (p+3)=p+3:=by rw[az] <;> omega
   rw[e3]
   by_cases d5:c<240
   ·simp[d2,d3,d4,d5]
   rw[ab (by rfl),ab (by simpa using d5),aa (by simp;omega)]
   cases a3:bL b (p+3) 128 191 <;> simp[d2,d3,d4,d5]
theorem N6:HcOk prog 87 (ah lN JW):=by
 refine aj (n:=400) hm (cs:=M0) (.cons Pt .nil) (lp:=NI) (fn:=Tryz.f87) (by kernel_rfl) (by kernel_rfl) (by kernel_rfl) lN (.done (by kernel_rfl)) JW ?_
 rintro ⟨⟨(b:List Int),(p:Int),⟨⟩⟩,⟨⟩⟩ out hw ho
 cases ho
 refine (UR b p).trans ?_
 have hb:b.length≤maxLen:=hw.1.1.1
 rw[dp] at hb
 unfold Cq
 show _=some (Out.ret ((eZ b p,()),()))
 unfold eZ
 by_cases h1:p<0
 ·simp[h1]
 by_cases h2:(b.length:Int)≤p
 ·simp[h1,h2]
 have e1:IntKind.i64.wrap (p+1)=p+1:=by rw[az] <;> omega
 rw[e1]
 have h3:0≤p:=by omega
 have h4:p<(b.length:Int):=by omega
 have h5:(0:Int)≤p+1:=by omega
 have h6:(0:Int)≤p+2:=by omega
 have h7:(0:Int)≤p+3:=by omega
 generalize b.getD p.toNat 0=c
 rw[ab (by simpa using h1),ab (by simpa using h2),aa (by simp;omega),if_neg (by omega)]
 by_cases d1:c<128
 ·rw[aa (by simpa using d1),if_pos d1]
 rw[ab (by simpa using d1),if_neg d1]
 have tail:∀lo hi,lc c=lo→la c=hi→Kb b p c lo hi=some (Out.ret ((if c<194∨244<c∨bL b (p+1) (lc c) (la c)=false then 0 else if c<224 then 2 else if bL b (p+2) 128 191=false then 0 else if c<240 then 3 else if bL b (p+3) 128 191=false then 0 else 4,()),())):=by
  intro lo hi e1 e2
  rw[e1,e2]
  exact OE h3 (by omega)
 have no:∀x:Int,c≠x→(c == x)=false:=fun x h=>by simpa using h
 have ye:∀x:Int,c=x→(c == x)=true:=fun x h=>by simpa using h
 by_cases c1:c=224
 ·rw[aa (ye _ c1),ab (no 237 (by omega)),ab (no 240 (by omega)),ab (no 244 (by omega))]
  exact tail 160 191 (by simp[lc,c1]) (by simp[la,c1])
 rw[ab (no _ c1)]
 by_cases c2:c=237
 ·rw[aa (ye _ c2),ab (no 240 (by omega)),ab (no 244 (by omega))]
  exact tail 128 159 (by simp[lc,c2]) (by simp[la,c2])
 rw[ab (no _ c2)]
 by_cases c3:c=240
 ·rw[aa (ye _ c3),ab (no 244 (by omega))]
  exact tail 144 191 (by simp[lc,c3]) (by simp[la,c3])
 rw[ab (no _ c3)]
 by_cases c4:c=244
 ·rw[aa (ye _ c4)]
  exact tail 128 143 (by simp[lc,c4]) (by simp[la,c4])
 rw[ab (no _ c4)]
 exact tail 128 191 (by simp[lc,c1,c3]) (by simp[la,c2,c4])
def dm (b:List Int):Nat→Int→Int×Bool
 |0,p=>(p,true)
 |n+1,p=>if (b.length:Int)≤p then (p,true) else if eZ b p=0 then (p,false) else dm b n (p+eZ b p)
def ca (b:List Int):Int×Bool:=dm b (b.length+1) 0
theorem vy {b:List Int}{p:Int}(h0:0≤p)(h:p<(b.length:Int)):0≤eZ b p∧p+eZ b p≤b.length:=by
 unfold eZ
 rw[if_neg (by omega)]
 split
 ·omega
 split
 ·omega
 rename_i h1
 have a1:bL b (p+1) (lc (b.getD p.toNat 0)) (la (b.getD p.toNat 0))=true:=by
  cases hx:bL b (p+1) (lc (b.getD p.toNat 0)) (la (b.getD p.toNat 0)) with
  |true=>rfl
  |false=>exact absurd (.inr (.inr hx)) h1
 have h2:=tU a1
 split
 ·omega
 split
 ·omega
 rename_i h3
 have h4:=tU (show bL b (p+2) 128 191=true by simpa using h3)
 split
 ·omega
 split
 ·omega
 rename_i h5
 have h6:=tU (show bL b (p+3) 128 191=true by simpa using h5)
 omega
abbrev rE:Io:=⟨[dL],[],[],[dI,dB],none⟩
def Rg (d:rE.In):Tr rE.Res:=.ret (.ret (((ca d.1.1).1,(ca d.1.1).2,()),()))
abbrev Kl:List (Nat×Hc):=[(87,ah lN JW)]
def SR:Hd:=bz Kl
abbrev iH:Lo:=⟨⟨(.one (.hol (.sl 5 (Ty.int IntKind.u8)))::.any::be (.one (.hol (.int IntKind.i64))::.any::dE (bJ (be [])))),[]⟩,[(.ret,⟨(be (.one (.hol (.int IntKind.i64))::.one (.hol .bool)::ai [])),[]⟩),(.exit 0,⟨(bJ (.one (.hol (.int IntKind.i64))::.any::dE (bJ (be [])))),[]⟩)]⟩
def so (d:iH.st.den):Tr (ax iH.xs):=
 .ite (decide (d.1.2.1=(0:Int))) (.ite (ca d.1.1).2 (.ret (.pan (.ret ((),(((ca d.1.1).1,()),()))))) (.ret (.ret ((),(((ca d.1.1).1,(false,())),()))))) .no
def Fy:Lp:=bo [(3,aP iH so)]
def Bl {R:Type}(h1:List Int)(h2:Int)(next:List Int→Int→Option R)(out:ax iH.xs→Option R):Option R:=bif decide (h2<(↑h1.length:Int)) then bif eZ h1 h2 == 0 then out (.ret ((),((h2,(false,())),()))) else next (h1) (IntKind.i64.wrap (h2+eZ h1 h2)) else out (.pan (.ret ((),((h2,()),()))))
def zD (n:Nat)(h1:List Int)(h2:Int):Option (ax iH.xs):=gk tt SR dr Fy 0 Tryz.f34 (cI Tryz.f34 0) n (iH.st.mk' ((h1,(h2,())),())) (bI iH.xs)
theorem Vg (n:Nat)(h1:List Int)(h2:Int):zD (n+1) h1 h2=Bl h1 h2 (zD n) some:=by kernel_rfl
theorem Tf (b:List Int)(hb:(b.length:Int)≤9223372036854775807):∀(k:Nat) (p:Int),0≤p→p≤b.length→(b.length:Int)<p+k→
  zD k b p=if (dm b k p).2=true then some (.pan (.ret ((),(((dm b k p).1,()),())))) else some (.ret ((),(((dm b k p).1,(false,())),()))):=by
 intro k
 induction k with
 |zero=>intro p h0 h1 h2;omega
 |succ k ih=>
  intro p h0 h1 h2
  rw[Vg]
  unfold Bl
  by_cases h3:(b.length:Int)≤p
  ·have h4:¬ p<(b.length:Int):=by omega
   have hS:dm b (k+1) p=(p,true):=by simp[dm,h3]
   simp[hS,h4]
  ·have h4:p<(b.length:Int):=by omega
   obtain ⟨h5,h6⟩:=vy h0 h4
   rw[aa (by simpa using h4)]
   by_cases h7:eZ b p=0
   ·have hS:dm b (k+1) p=(p,false):=by simp[dm,h3,h7]
    simp[hS,h7]
   ·have hS:dm b (k+1) p=dm b k (p+eZ b p):=by simp[dm,h3,h7]
    simp only[hS]
    rw[ab (by simpa using h7),az (by omega) (by omega),ih _ (by omega) h6 (by omega)]
def GW (a0:List Int):Option rE.Res:=(so ((a0,(0,())),())).run fun y=>match y with | .ret ((),((x8,x9,()),()))=>(some (Out.ret ((x8,x9,()),()))) | .pan (.ret ((),((x10,()),())))=>(some (Out.ret ((x10,true,()),())))
theorem XT (a0:List Int):Io.run tt SR dr Fy rE Tryz.f34 ((a0,()),())=GW a0:=by kernel_rfl
theorem Ua:HcOk prog 34 (ah rE Rg):=by
 refine aj (n:=400) hm (cs:=Kl) (.cons N6 .nil) (lp:=Fy) (fn:=Tryz.f34) (by kernel_rfl) (by kernel_rfl) (by kernel_rfl) rE
  (.step (h0:=aP iH so) (by kernel_rfl) (aw (n:=400) hm (cs:=Kl) (.cons N6 .nil) (lp:=Fy) (fn:=Tryz.f34) (.done (by kernel_rfl)) iH so ?_) (.done (by kernel_rfl))) Rg ?_
 ·rintro ⟨⟨(b:List Int),(p:Int),⟨⟩⟩,⟨⟩⟩ y hw hy
  obtain ⟨hg,hy⟩:=Tr.guard hy
  have hg:p=0:=by simpa using hg
  subst hg
  have hb:b.length≤maxLen:=hw.1.1.1
  rw[dp] at hb
  refine ⟨b.length+1,(Tf b (by omega) (b.length+1) 0 (by omega) (by omega) (by omega)).trans ?_⟩
  rw[← hy]
  simp only[Tr.val_ite,Tr.val_ret]
  rfl
 ·rintro ⟨⟨(b:List Int),⟨⟩⟩,⟨⟩⟩ out hw ho
  cases ho
  refine (XT b).trans ?_
  unfold GW so
  show _=some (Out.ret (((ca b).1,(ca b).2,()),()))
  simp only[Tr.run_ite,Tr.run_ret]
  generalize ca b=r
  obtain ⟨r1,r2⟩:=r
  cases r2 <;> simp
abbrev dS:Sh:=.dat .str false false
def oL (s p:List Int):Bool:=decide (s.take p.length=p)
theorem Dt {s:List Int}(hs:byteR s)(k:Nat):((aV s).get! k).toNat=(s.getD k 0).toNat:=by
 by_cases h:k<s.length
 ·have h1:(aV s).get! k=UInt8.ofNat (s[k]).toNat:=by
   have:k<(aV s).data.size:=by simp[aV,h]
   have e:(aV s).get! k=(aV s).data[k]:=getElem!_pos (aV s).data k this
   rw[e]
   simp[aV]
  rw[h1,aH h]
  have:=hs s[k] (List.getElem_mem h)
  rw[UInt8.toNat_ofNat',Nat.mod_eq_of_lt (by omega)]
 ·have h1:(aV s).get! k=0:=by
   have:¬ k<(aV s).data.size:=by simp[aV];omega
   have e:(aV s).get! k=default:=getElem!_neg (aV s).data k this
   rw[e]
   rfl
  rw[h1,List.getD_eq_getElem?_getD,List.getElem?_eq_none (by omega)]
  rfl
def OD (r1 r2 r3:Prop)[Decidable r1][Decidable r2][Decidable r3](x0 x1 x2 x3:Nat):Nat:=
 if x0<128 then 1
 else if x0<194∨244<x0∨¬(r1∧(if x0=240 then 144 else if x0=224 then 160 else 128)≤x1∧x1≤(if x0=244 then 143 else if x0=237 then 159 else 191)) then 0
 else if x0<224 then 2
 else if ¬(r2∧128≤x2∧x2≤191) then 0
 else if x0<240 then 3
 else if ¬(r3∧128≤x3∧x3≤191) then 0 else 4
theorem Vo {b:List Int}(hs:byteR b){n:Nat}(h:n<b.length):eZ b n=(OD (n+1<b.length) (n+2<b.length) (n+3<b.length) (b.getD n 0).toNat (b.getD (n+1) 0).toNat (b.getD (n+2) 0).toNat (b.getD (n+3) 0).toNat:Int):=by
 have hr:∀k,0≤b.getD k 0∧b.getD k 0<256:=fun k=>by
  by_cases hk:k<b.length
  ·rw[aH hk];exact hs _ (List.getElem_mem hk)
  ·rw[List.getD_eq_getElem?_getD,List.getElem?_eq_none (by omega)];simp
 unfold eZ OD bL lc la
 have e1:((n:Int)+1).toNat=n+1:=by omega
 have e2:((n:Int)+2).toNat=n+2:=by omega
 have e3:((n:Int)+3).toNat=n+3:=by omega
 rw[e1,e2,e3,Int.toNat_natCast]
 have h0:=hr n
 have h1:=hr (n+1)
 have h2:=hr (n+2)
 have h3:=hr (n+3)
 generalize b.getD n 0=y0 at *
 generalize b.getD (n+1) 0=y1 at *
 generalize b.getD (n+2) 0=y2 at *
 generalize b.getD (n+3) 0=y3 at *
 obtain ⟨x0,rfl⟩:=dZ h0.1
 obtain ⟨x1,rfl⟩:=dZ h1.1
 obtain ⟨x2,rfl⟩:=dZ h2.1
 obtain ⟨x3,rfl⟩:=dZ h3.1
 generalize b.length=L at *
 rw[if_neg (by omega)]
 simp only[Bool.and_eq_false_iff,decide_eq_false_iff_not,Int.toNat_natCast]
 by_cases a0:x0<128
 ·rw[if_pos (by omega),if_pos a0];rfl
 rw[if_neg (by omega),if_neg a0]
 have hi:(if (x0:Int)=240 then (144:Int) else if (x0:Int)=224 then 160 else 128)=((if x0=240 then 144 else if x0=224 then 160 else 128:Nat):Int):=by
  repeat' split
  all_goals omega
 have hj:(if (x0:Int)=244 then (143:Int) else if (x0:Int)=237 then 159 else 191)=((if x0=244 then 143 else if x0=237 then 159 else 191:Nat):Int):=by
  repeat' split
  all_goals omega
 rw[hi,hj]
 generalize (if x0=240 then 144 else if x0=224 then 160 else 128:Nat)=lo
 generalize (if x0=244 then 143 else if x0=237 then 159 else 191:Nat)=hi
 by_cases a1:x0<194∨244<x0∨¬(n+1<L∧lo≤x1∧x1≤hi)
 ·rw[if_pos a1,if_pos (by omega)];rfl
 rw[if_neg a1,if_neg (by omega)]
 by_cases a2:x0<224
 ·rw[if_pos a2,if_pos (by omega)];rfl
 rw[if_neg a2,if_neg (by omega)]
 by_cases a3:¬(n+2<L∧128≤x2∧x2≤191)
 ·rw[if_pos a3,if_pos (by omega)];rfl
 rw[if_neg a3,if_neg (by omega)]
 by_cases a4:x0<240
 ·rw[if_pos a4,if_pos (by omega)];rfl
 rw[if_neg a4,if_neg (by omega)]
 by_cases a5:¬(n+3<L∧128≤x3∧x3≤191)
 ·rw[if_pos a5,if_pos (by omega)];rfl
 rw[if_neg a5,if_neg (by omega)];rfl
def Og (r1 r2 r3:Prop)[Decidable r1][Decidable r2][Decidable r3](x0 x1 x2 x3:Nat):Nat×Nat:=
 if x0<128 then (x0,1)
 else if x0 / 32=6∧(r1∧x1 / 64=2) then (if 128≤(x0 % 32)*64+x1 % 64 then ((x0 % 32)*64+x1 % 64,2) else (65533,1))
 else if (x0 / 16=14∧(r1∧x1 / 64=2))∧(r2∧x2 / 64=2) then
  (if 2048≤(x0 % 16)*4096+(x1 % 64)*64+x2 % 64∧((x0 % 16)*4096+(x1 % 64)*64+x2 % 64<55296∨57344≤(x0 % 16)*4096+(x1 % 64)*64+x2 % 64) then ((x0 % 16)*4096+(x1 % 64)*64+x2 % 64,3) else (65533,1))
 else if ((x0 / 8=30∧(r1∧x1 / 64=2))∧(r2∧x2 / 64=2))∧(r3∧x3 / 64=2) then
  (if 65536≤(x0 % 8)*262144+(x1 % 64)*4096+(x2 % 64)*64+x3 % 64∧(x0 % 8)*262144+(x1 % 64)*4096+(x2 % 64)*64+x3 % 64≤1114111 then ((x0 % 8)*262144+(x1 % 64)*4096+(x2 % 64)*64+x3 % 64,4) else (65533,1))
 else (65533,1)
theorem VY {c:Nat}(h:c<65536):Utf8.valid (c:Int)=true↔(c<55296∨57344≤c):=by
 simp only[Utf8.valid,Bool.or_eq_true,Bool.and_eq_true,decide_eq_true_eq];omega
theorem VZ {c:Nat}(h:65536≤c):Utf8.valid (c:Int)=true↔c≤1114111:=by
 simp only[Utf8.valid,Bool.or_eq_true,Bool.and_eq_true,decide_eq_true_eq];omega
theorem Sr {b:List Int}(hs:byteR b)(n:Nat):Utf8.decode (aV b) n=Og (n+1<b.length) (n+2<b.length) (n+3<b.length) (b.getD n 0).toNat (b.getD (n+1) 0).toNat (b.getD (n+2) 0).toNat (b.getD (n+3) 0).toNat:=by
 unfold Utf8.decode Og Utf8.runeError
 simp only[Dt hs,cV,Nat.add_zero]
 generalize (b.getD n 0).toNat=x0
 generalize (b.getD (n+1) 0).toNat=x1
 generalize (b.getD (n+2) 0).toNat=x2
 generalize (b.getD (n+3) 0).toNat=x3
 simp only[Bool.and_eq_true,decide_eq_true_eq,beq_iff_eq,ge_iff_le]
 congr 1
 congr 1
 congr 1
 ·congr 1
  apply propext
  constructor
  ·rintro ⟨h1,h2⟩;exact ⟨h1,(VY (by omega)).1 h2⟩
  ·rintro ⟨h1,h2⟩;exact ⟨h1,(VY (by omega)).2 h2⟩
 ·congr 1
  congr 1
  apply propext
  constructor
  ·rintro ⟨h1,h2⟩;exact ⟨h1,(VZ h1).1 h2⟩
  ·rintro ⟨h1,h2⟩;exact ⟨h1,(VZ h1).2 h2⟩
theorem ru2 {x0 x1:Nat}(h0:x0<256)(h1:x1<256):(x0 / 32=6∧x1 / 64=2)∧128≤(x0 % 32)*64+x1 % 64↔194≤x0∧x0<224∧128≤x1∧x1≤191:=by omega
theorem ru3 {x0 x1 x2:Nat}(h0:x0<256)(h1:x1<256)(h2:x2<256):((x0 / 16=14∧x1 / 64=2)∧x2 / 64=2)∧(2048≤(x0 % 16)*4096+(x1 % 64)*64+x2 % 64∧((x0 % 16)*4096+(x1 % 64)*64+x2 % 64<55296∨57344≤(x0 % 16)*4096+(x1 % 64)*64+x2 % 64)) ↔
  224≤x0∧x0<240∧((if x0=224 then 160 else 128)≤x1∧x1≤(if x0=237 then 159 else 191))∧128≤x2∧x2≤191:=by
 constructor
 ·rintro ⟨⟨⟨h3,h4⟩,h5⟩,h6⟩
  refine ⟨by omega,by omega,⟨?_,?_⟩,by omega,by omega⟩
  ·split <;> omega
  ·split <;> omega
 ·rintro ⟨h3,h4,⟨h5,h6⟩,h7,h8⟩
  split at h5 <;> split at h6 <;> omega
theorem ru4 {x0 x1 x2 x3:Nat}(h0:x0<256)(h1:x1<256)(h2:x2<256)(h3:x3<256):(((x0 / 8=30∧x1 / 64=2)∧x2 / 64=2)∧x3 / 64=2)∧(65536≤(x0 % 8)*262144+(x1 % 64)*4096+(x2 % 64)*64+x3 % 64∧(x0 % 8)*262144+(x1 % 64)*4096+(x2 % 64)*64+x3 % 64≤1114111) ↔
  240≤x0∧x0≤244∧((if x0=240 then 144 else 128)≤x1∧x1≤(if x0=244 then 143 else 191))∧(128≤x2∧x2≤191)∧(128≤x3∧x3≤191):=by
 constructor
 ·rintro ⟨⟨⟨⟨h3,h4⟩,h5⟩,h6⟩,h7⟩
  refine ⟨by omega,by omega,⟨?_,?_⟩,⟨by omega,by omega⟩,by omega,by omega⟩
  ·split <;> omega
  ·split <;> omega
 ·rintro ⟨h3,h4,⟨h5,h6⟩,⟨h7,h8⟩,h9,h10⟩
  split at h5 <;> split at h6 <;> omega
theorem aa7 (r1 r2 r3:Prop)[Decidable r1][Decidable r2][Decidable r3](x0 x1 x2 x3:Nat)(h0:x0<256)(h1:x1<256)(h2:x2<256)(h3:x3<256):
  (OD r1 r2 r3 x0 x1 x2 x3=0∧Og r1 r2 r3 x0 x1 x2 x3=(65533,1)∧¬(r1∧r2∧x0=239∧x1=191∧x2=189)) ∨
  (0<OD r1 r2 r3 x0 x1 x2 x3∧(Og r1 r2 r3 x0 x1 x2 x3).2=OD r1 r2 r3 x0 x1 x2 x3∧((Og r1 r2 r3 x0 x1 x2 x3).1=65533→(r1∧r2∧x0=239∧x1=191∧x2=189))):=by
 by_cases a0:x0<128
 ·right
  unfold OD Og
  rw[if_pos a0,if_pos a0]
  exact ⟨by omega,rfl,fun h=>by simp only at h;omega⟩
 by_cases c2:r1∧194≤x0∧x0<224∧128≤x1∧x1≤191
 ·right
  obtain ⟨⟨g1,g2⟩,g3⟩:=(ru2 h0 h1).2 c2.2
  have e1:OD r1 r2 r3 x0 x1 x2 x3=2:=by
   unfold OD
   rw[if_neg a0,if_neg,if_pos (by omega)]
   rintro (h | h | h)
   ·omega
   ·omega
   ·refine h ⟨c2.1,?_,?_⟩
    ·rw[if_neg (by omega),if_neg (by omega)];omega
    ·rw[if_neg (by omega),if_neg (by omega)];omega
  have e2:Og r1 r2 r3 x0 x1 x2 x3=((x0 % 32)*64+x1 % 64,2):=by
   unfold Og
   rw[if_neg a0,if_pos ⟨g1,c2.1,g2⟩,if_pos g3]
  rw[e1,e2]
  exact ⟨by omega,rfl,fun h=>by simp only at h;omega⟩
 by_cases c3:r1∧r2∧(224≤x0∧x0<240∧((if x0=224 then 160 else 128)≤x1∧x1≤(if x0=237 then 159 else 191))∧128≤x2∧x2≤191)
 ·right
  obtain ⟨k1,k2,k⟩:=c3
  obtain ⟨⟨⟨g1,g2⟩,g3⟩,g4⟩:=(ru3 h0 h1 h2).2 k
  have e1:OD r1 r2 r3 x0 x1 x2 x3=3:=by
   unfold OD
   rw[if_neg a0,if_neg,if_neg (by omega),if_neg (fun h=>h ⟨k2,k.2.2.2⟩),if_pos (by omega)]
   rintro (h | h | h)
   ·omega
   ·omega
   ·refine h ⟨k1,?_,?_⟩
    ·rw[if_neg (by omega)];exact k.2.2.1.1
    ·rw[if_neg (by omega)];exact k.2.2.1.2
  have e2:Og r1 r2 r3 x0 x1 x2 x3=((x0 % 16)*4096+(x1 % 64)*64+x2 % 64,3):=by
   unfold Og
   rw[if_neg a0,if_neg (by omega),if_pos ⟨⟨g1,k1,g2⟩,k2,g3⟩,if_pos g4]
  rw[e1,e2]
  refine ⟨by omega,rfl,fun h=>?_⟩
  simp only at h
  exact ⟨k1,k2,by omega⟩
 by_cases c4:r1∧r2∧r3∧(240≤x0∧x0≤244∧((if x0=240 then 144 else 128)≤x1∧x1≤(if x0=244 then 143 else 191))∧(128≤x2∧x2≤191)∧(128≤x3∧x3≤191))
 ·right
  obtain ⟨k1,k2,k3,k⟩:=c4
  obtain ⟨⟨⟨⟨g1,g2⟩,g3⟩,g4⟩,g5⟩:=(ru4 h0 h1 h2 h3).2 k
  have e1:OD r1 r2 r3 x0 x1 x2 x3=4:=by
   unfold OD
   rw[if_neg a0,if_neg,if_neg (by omega),if_neg (fun h=>h ⟨k2,k.2.2.2.1⟩),if_neg (by omega),if_neg (fun h=>h ⟨k3,k.2.2.2.2⟩)]
   rintro (h | h | h)
   ·omega
   ·omega
   ·refine h ⟨k1,?_,?_⟩
    ·have:=k.2.2.1.1
     split at this
     ·rename_i e;rw[if_pos e];exact this
     ·rename_i e;rw[if_neg e,if_neg (by omega)];exact this
    ·have:=k.2.2.1.2
     split at this
     ·rename_i e;rw[if_pos e];exact this
     ·rename_i e;rw[if_neg e,if_neg (by omega)];exact this
  have e2:Og r1 r2 r3 x0 x1 x2 x3=((x0 % 8)*262144+(x1 % 64)*4096+(x2 % 64)*64+x3 % 64,4):=by
   unfold Og
   rw[if_neg a0,if_neg (by omega),if_neg (by omega),if_pos ⟨⟨⟨g1,k1,g2⟩,k2,g3⟩,k3,g4⟩,if_pos g5]
  rw[e1,e2]
  exact ⟨by omega,rfl,fun h=>by simp only at h;omega⟩
 ·left
  have e2:Og r1 r2 r3 x0 x1 x2 x3=(65533,1):=by
   unfold Og
   rw[if_neg a0]
   split
   ·rename_i g
    rw[if_neg fun g'=>c2 ⟨g.2.1,(ru2 h0 h1).1 ⟨⟨g.1,g.2.2⟩,g'⟩⟩]
   split
   ·rename_i g
    rw[if_neg fun g'=>c3 ⟨g.1.2.1,g.2.1,(ru3 h0 h1 h2).1 ⟨⟨⟨g.1.1,g.1.2.2⟩,g.2.2⟩,g'⟩⟩]
   split
   ·rename_i g
    rw[if_neg fun g'=>c4 ⟨g.1.1.2.1,g.1.2.1,g.2.1,(ru4 h0 h1 h2 h3).1 ⟨⟨⟨⟨g.1.1.1,g.1.1.2.2⟩,g.1.2.2⟩,g.2.2⟩,g'⟩⟩]
   rfl
  have e3:¬(r1∧r2∧x0=239∧x1=191∧x2=189):=by
   rintro ⟨k1,k2,rfl,rfl,rfl⟩
   exact c3 ⟨k1,k2,by simp⟩
  refine ⟨?_,e2,e3⟩
  unfold OD
  rw[if_neg a0]
  generalize hlo:(if x0=240 then 144 else if x0=224 then 160 else 128:Nat)=lo
  generalize hhi:(if x0=244 then 143 else if x0=237 then 159 else 191:Nat)=hi
  by_cases g:x0<194∨244<x0∨¬(r1∧lo≤x1∧x1≤hi)
  ·rw[if_pos g]
  rw[if_neg g]
  simp only[not_or,Decidable.not_not] at g
  obtain ⟨g1,g2,g3,g4,g5⟩:=g
  by_cases g6:x0<224
  ·rw[if_neg (by omega),if_neg (by omega)] at hlo hhi
   exact absurd ⟨g3,by omega,by omega,by omega,by omega⟩ c2
  rw[if_neg g6]
  by_cases g7:¬(r2∧128≤x2∧x2≤191)
  ·rw[if_pos g7]
  rw[if_neg g7]
  simp only[Decidable.not_not] at g7
  by_cases g8:x0<240
  ·rw[if_neg (by omega)] at hlo hhi
   subst hlo hhi
   exact absurd ⟨g3,g7.1,by omega,by omega,⟨g4,g5⟩,g7.2⟩ c3
  rw[if_neg g8]
  by_cases g9:¬(r3∧128≤x3∧x3≤191)
  ·rw[if_pos g9]
  exfalso
  simp only[Decidable.not_not] at g9
  refine c4 ⟨g3,g7.1,g9.1,by omega,by omega,⟨?_,?_⟩,g7.2,g9.2⟩
  ·by_cases e:x0=240
   ·rw[if_pos e] at hlo ⊢;omega
   ·rw[if_neg e] at hlo ⊢;rw[if_neg (by omega)] at hlo;omega
  ·by_cases e:x0=244
   ·rw[if_pos e] at hhi ⊢;omega
   ·rw[if_neg e] at hhi ⊢;rw[if_neg (by omega)] at hhi;omega
theorem Ob {b:List Int}{n:Nat}(hs:byteR b):oL (b.drop n) [239,191,189]=true↔(n+1<b.length∧n+2<b.length∧(b.getD n 0).toNat=239∧(b.getD (n+1) 0).toNat=191∧(b.getD (n+2) 0).toNat=189):=by
 unfold oL
 rw[decide_eq_true_eq]
 show (b.drop n).take 3=_↔_
 constructor
 ·intro h
  have hl:=congrArg List.length h
  simp only[List.length_take,List.length_drop,List.length_cons,List.length_nil] at hl
  have h3:n+2<b.length:=by omega
  rw[List.drop_eq_getElem_cons (by omega),List.drop_eq_getElem_cons (by omega),List.drop_eq_getElem_cons (by omega)] at h
  simp only[List.take_succ_cons,List.take_zero,List.cons.injEq,and_true] at h
  obtain ⟨k1,k2,k3⟩:=h
  have k3:b[n+2]=189:=k3
  rw[aH (by omega),aH (by omega),aH h3,k1,k2,k3]
  exact ⟨by omega,by omega,rfl,rfl,rfl⟩
 ·rintro ⟨h1,h2,h3,h4,h5⟩
  rw[aH (by omega)] at h3 h4 h5
  rw[List.drop_eq_getElem_cons (by omega),List.drop_eq_getElem_cons (by omega),List.drop_eq_getElem_cons (by omega)]
  simp only[List.take_succ_cons,List.take_zero,List.cons.injEq,and_true]
  refine ⟨by omega,by omega,?_⟩
  show b[n+2]=189
  omega
theorem PO {b:List Int}(hs:byteR b){n:Nat}(h:n<b.length):
  (eZ b n=0∧(gR b n).1=65533∧oL (b.drop n) [239,191,189]=false) ∨
  (0<eZ b n∧(gR b n).2=eZ b n∧((gR b n).1=65533→oL (b.drop n) [239,191,189]=true)):=by
 rw[oq,Vo hs h,Sr hs n]
 have hx:∀k,(b.getD k 0).toNat<256:=fun k=>by rw[← Dt hs];exact UInt8.toNat_lt _
 have:=aa7 (n+1<b.length) (n+2<b.length) (n+3<b.length) _ _ _ _ (hx n) (hx (n+1)) (hx (n+2)) (hx (n+3))
 rw[Ob hs,← Bool.not_eq_true,Ob hs]
 rcases this with ⟨h1,h2,h3⟩ | ⟨h1,h2,h3⟩
 ·left
  exact ⟨by rw[h1];rfl,by rw[h2];rfl,h3⟩
 ·right
  exact ⟨by omega,by simp only;rw[h2],fun h=>h3 (by simp only at h;omega)⟩
abbrev nJ:Io:=⟨[dS,dS],[],[],[dB],none⟩
def JV (d:nJ.In):Tr nJ.Res:=.ret (.ret ((oL d.1.1 d.1.2.1,()),()))
abbrev MZ:List (Nat×Hc):=[]
def WF:Hd:=bz MZ
def NH:Lp:=bo []
def Co (a0 a1:List Int):Option nJ.Res:=bif decide ((↑a1.length:Int)≤(↑a0.length:Int)) then bif decide (0≤0)&&(decide (0≤(↑a1.length:Int))&&decide ((↑a1.length:Int)≤(↑a0.length:Int))) then some (Out.ret ((decide (List.drop (Int.toNat 0) (List.take (↑a1.length:Int).toNat a0)=a1),()),())) else none else some (Out.ret ((false,()),()))
theorem UQ (a0 a1:List Int):Io.run tt WF dr NH nJ Tryz.f212 ((a0,a1,()),())=Co a0 a1:=by kernel_rfl
theorem Xg:HcOk prog 212 (ah nJ JV):=by
 refine aj (n:=400) hm (cs:=MZ) .nil (lp:=NH) (fn:=Tryz.f212) (by kernel_rfl) (by kernel_rfl) (by kernel_rfl) nJ (.done (by kernel_rfl)) JV ?_
 rintro ⟨⟨(s:List Int),(p:List Int),⟨⟩⟩,⟨⟩⟩ out hw ho
 cases ho
 refine (UQ s p).trans ?_
 show _=some (Out.ret ((oL s p,()),()))
 unfold Co
 by_cases h:p.length≤s.length
 ·rw[aa (by simpa using h),aa (by simp;omega)]
  rfl
 ·rw[ab (by simpa using h)]
  have:oL s p=false:=by
   unfold oL
   rw[decide_eq_false_iff_not]
   intro e
   have:=congrArg List.length e
   simp only[List.length_take] at this
   omega
  rw[this]
abbrev rC:Io:=⟨[dS,dS],[],[],[dB],none⟩
def Rb (d:rC.In):Tr rC.Res:=.ret (.ret ((oL d.1.1 d.1.2.1,()),()))
abbrev Se:List (Nat×Hc):=[(212,ah nJ JV)]
def ZX:Hd:=bz Se
def Tz:Lp:=bo []
def RA (a0 a1:List Int):Option rC.Res:=some (Out.ret ((oL a0 a1,()),()))
theorem XQ (a0 a1:List Int):Io.run tt ZX dr Tz rC Tryz.f193 ((a0,a1,()),())=RA a0 a1:=by kernel_rfl
theorem T8:HcOk prog 193 (ah rC Rb):=by
 refine aj (n:=400) hm (cs:=Se) (.cons Xg .nil) (lp:=Tz) (fn:=Tryz.f193) (by kernel_rfl) (by kernel_rfl) (by kernel_rfl) rC (.done (by kernel_rfl)) Rb ?_
 rintro ⟨⟨(s:List Int),(p:List Int),⟨⟩⟩,⟨⟩⟩ out hw ho
 cases ho
 exact XQ s p
theorem AU (b:List Int):∀(n:Nat) (p:Int),0≤p→p≤b.length→(b.length:Int)<p+n→(dm b n p).2=true→(dm b n p).1=b.length
 |0,p,h0,h1,h2,h=>by omega
 |n+1,p,h0,h1,h2,h=>by
  unfold dm at h ⊢
  split
  ·rename_i h3;simp only;omega
  ·rename_i h3
   rw[if_neg h3] at h
   split
   ·rename_i h4;rw[if_pos h4] at h;cases h
   ·rename_i h4
    rw[if_neg h4] at h
    have h5:=vy (b:=b) h0 (show p<(b.length:Int) by omega)
    exact AU b n _ (by omega) (by omega) (by omega) h
theorem QI (b:List Int)(h:(ca b).2=true):(ca b).1=b.length:=AU b (b.length+1) 0 (by omega) (by omega) (by omega) h
abbrev mq:Io:=⟨[dL],[],[],[dI,dB],none⟩
def BW (d:mq.In):Tr mq.Res:=.ret (.ret (((ca d.1.1).1,(ca d.1.1).2,()),()))
abbrev Kk:List (Nat×Hc):=[(193,ah rC Rb)]
def SQ:Hd:=bz Kk
abbrev iE:Lo:=⟨⟨(.one (.hol (.sl 5 (Ty.int IntKind.u8)))::.any::be (.one (.hol .str)::.any::bJ (.one (.ptr 10 0)::ai []))),[none,none,none,none,none,none,none,none,none,none,some [.itr]]⟩,[(.ret,⟨(be (.one (.hol (.int IntKind.i64))::.one (.hol .bool)::.any::ai (bJ (be [])))),[]⟩),(.exit 0,⟨(.one (.hol (.sl 5 (Ty.int IntKind.u8)))::ai (dE (be []))),[]⟩)]⟩
def sk (d:iE.st.den):Tr (ax iE.xs):=
 .ite (decide (d.2.1.1.2=(0:Int))&&decide (d.2.1.1.1=d.1.2.1)) (.ite (ca d.1.2.1).2 (.ret (.pan (.ret ((),((d.1.1,()),()))))) (.ret (.ret ((),(((ca d.1.2.1).1,(false,())),()))))) .no
def Fx:Lp:=bo [(4,aP iE sk)]
def Bi {R:Type}(h1 h2:List Int)(h3:List Int×Int)(next:List Int→List Int→List Int×Int→Option R)(out:ax iE.xs→Option R):Option R:=bif decide (h3.2<(↑h3.1.length:Int)) then bif (gR h3.1 h3.2).1 == 65533 then bif decide (0≤h3.2)&&(decide (h3.2≤(↑h2.length:Int))&&decide ((↑h2.length:Int)≤(↑h2.length:Int))) then bif !oL (List.drop h3.2.toNat (List.take (↑h2.length:Int).toNat h2)) (List.map (fun (c:UInt8)=>(↑c.toNat:Int)) [UInt8.ofBitVec (BitVec.ofFin (Fin.mk (239 % 2 ^ 8) (Nat.mod_lt 239 (BitVec.ofNat._proof_1 8)))),UInt8.ofBitVec (BitVec.ofFin (Fin.mk (191 % 2 ^ 8) (Nat.mod_lt 191 (BitVec.ofNat._proof_1 8)))),UInt8.ofBitVec (BitVec.ofFin (Fin.mk (189 % 2 ^ 8) (Nat.mod_lt 189 (BitVec.ofNat._proof_1 8))))]) then out (.ret ((),((h3.2,(false,())),()))) else next (h1) (h2) ((h3.1,h3.2+(gR h3.1 h3.2).2)) else none else next (h1) (h2) ((h3.1,h3.2+(gR h3.1 h3.2).2)) else out (.pan (.ret ((),((h1,()),()))))
def pi (n:Nat)(h1 h2:List Int)(h3:List Int×Int):Option (ax iE.xs):=gk tt SQ dr Fx 0 Tryz.f92 (cI Tryz.f92 0) n (iE.st.mk' ((h1,(h2,())),((h3,()),()))) (bI iE.xs)
theorem Vd (n:Nat)(h1 h2:List Int)(h3:List Int×Int):pi (n+1) h1 h2 h3=Bi h1 h2 h3 (pi n) some:=by kernel_rfl
theorem Te (b s:List Int)(hs:byteR s)(hb:(s.length:Int)≤9223372036854775807):∀(k:Nat) (p:Int),0≤p→p≤s.length→(s.length:Int)<p+k→
  pi k b s (s,p)=if (dm s k p).2=true then some (.pan (.ret ((),((b,()),())))) else some (.ret ((),(((dm s k p).1,(false,())),()))):=by
 intro k
 induction k with
 |zero=>intro p h0 h1 h2;omega
 |succ k ih=>
  intro p h0 h1 h2
  rw[Vd]
  unfold Bi
  change (bif decide (p<(s.length:Int)) then bif (gR s p).1 == 65533 then bif decide (0≤p)&&(decide (p≤(s.length:Int))&&decide ((s.length:Int)≤(s.length:Int))) then bif !oL (List.drop p.toNat (List.take (s.length:Int).toNat s)) [239,191,189] then some (.ret ((),((p,(false,())),()))) else pi k b s (s,p+(gR s p).2) else none else pi k b s (s,p+(gR s p).2) else some (.pan (.ret ((),((b,()),())))))=_
  by_cases h3:(s.length:Int)≤p
  ·have h4:¬ p<(s.length:Int):=by omega
   have hS:dm s (k+1) p=(p,true):=by simp[dm,h3]
   simp[hS,h4]
  ·have h4:p<(s.length:Int):=by omega
   obtain ⟨n,rfl⟩:=dZ h0
   have h5:=PO hs (show n<s.length by omega)
   have h6:=vy h0 h4
   rw[aa (by simpa using h4),Int.toNat_natCast,Int.toNat_natCast,List.take_length]
   rcases h5 with ⟨g1,g2,g3⟩ | ⟨g1,g2,g3⟩
   ·have hS:dm s (k+1) n=(↑n,false):=by simp[dm,h3,g1]
    rw[hS,g3,aa (by simpa using g2),aa (by simp;omega)]
    rfl
   ·have hS:dm s (k+1) n=dm s k (n+eZ s n):=by
     simp only[dm]
     rw[if_neg h3,if_neg (by omega)]
    rw[hS,g2]
    have hn:=ih (n+eZ s n) (by omega) (by omega) (by omega)
    by_cases g4:(gR s n).1=65533
    ·rw[aa (by simpa using g4),aa (by simp;omega),g3 g4]
     exact hn
    ·rw[ab (by simpa using g4)]
     exact hn
def GU (a0:List Int):Option mq.Res:=(sk ((a0,(a0,())),(((a0,0),()),()))).run fun y=>match y with | .ret ((),((x13,x14,()),()))=>(some (Out.ret ((x13,x14,()),()))) | .pan (.ret ((),((x15,()),())))=>(some (Out.ret (((↑x15.length:Int),true,()),())))
theorem XR (a0:List Int):Io.run tt SQ dr Fx mq Tryz.f92 ((a0,()),())=GU a0:=by kernel_rfl
theorem FO:HcOk prog 92 (ah mq BW):=by
 refine aj (n:=400) hm (cs:=Kk) (.cons T8 .nil) (lp:=Fx) (fn:=Tryz.f92) (by kernel_rfl) (by kernel_rfl) (by kernel_rfl) mq
  (.step (h0:=aP iE sk) (by kernel_rfl) (aw (n:=400) hm (cs:=Kk) (.cons T8 .nil) (lp:=Fx) (fn:=Tryz.f92) (.done (by kernel_rfl)) iE sk ?_) (.done (by kernel_rfl))) BW ?_
 ·rintro ⟨⟨(b:List Int),(s:List Int),⟨⟩⟩,⟨⟨⟨(s':List Int),(p:Int)⟩,⟨⟩⟩,⟨⟩⟩⟩ y hw hy
  obtain ⟨hg,hy⟩:=Tr.guard hy
  simp only[Bool.and_eq_true,decide_eq_true_eq] at hg
  have hg1:p=0:=hg.1
  have hg2:s'=s:=hg.2
  subst hg1 hg2
  have hs:byteR s'∧s'.length≤maxLen:=hw.1.2.1
  have hb:=hs.2
  rw[dp] at hb
  refine ⟨s'.length+1,(Te b s' hs.1 (by omega) (s'.length+1) 0 (by omega) (by omega) (by omega)).trans ?_⟩
  rw[← hy]
  simp only[Tr.val_ite,Tr.val_ret]
  rfl
 ·rintro ⟨⟨(b:List Int),⟨⟩⟩,⟨⟩⟩ out hw ho
  cases ho
  refine (XR b).trans ?_
  unfold GU sk
  show _=some (Out.ret (((ca b).1,(ca b).2,()),()))
  simp only[Tr.run_ite,Tr.run_ret]
  have he:(ca b).2=true→(ca b).1=b.length:=QI b
  generalize ca b=r at *
  obtain ⟨r1,r2⟩:=r
  cases r2 with
  |true=>
   have he:r1=b.length:=he rfl
   simp[he]
  |false=>simp
abbrev clC:Code:=ni Tryz.f118
abbrev clO:Array Oper:=Ao (BE (BE (I4 clC)))
abbrev clX:Code:=abb (I4 (BE (I4 clC)))
abbrev clY:Code:=I4 (I4 clC)
abbrev gn:Io:=⟨[dL],[],[],[dO],none⟩
def sj (d:gn.In):Tr gn.Res:=.ite (decide (d.1.1.length≤4294967296)) (.ret (.ret ((d.1.1,()),()))) .no
abbrev We:Hd:=bz []
abbrev OF:Lp:=bo []
def clA (b:List Int)(v3 v4:V):AS:=⟨[.one (.lst 5 (.int .u8) b 0),.any,.one (.lst 5 (.int .u8) [] 5),v3,v4,.any,.any,.any],[],[]⟩
def clK (ex:Ex)(A:AS):Option gn.Res:=match ex with
 |.ret=>gn.fin tt Tryz.f118 .ret A
 |_=>none
abbrev Hb:Nat:=zT Tryz.f118
theorem cl0 (b:List Int):ev tt We dr OF 0 Hb (BE clC) Hb [] (gn.start 8 ((b,()),())) (fun ex A=>match ex with | .normal=>some A | _=>none)=some (clA b .any .any):=by kernel_rfl
theorem clx (b:List Int):ev tt We dr OF 0 Hb clX Hb [] (clA b (.one (.lst 5 (.int .u8) b 0)) (.one (.bool true))) clK=some (.ret (([],()),())):=by kernel_rfl
theorem cly (b:List Int):ev tt We dr OF 0 Hb clY Hb [] (clA b (.one (.lst 5 (.int .u8) b 0)) (.one (.bool false))) clK=bif decide (([]:List Int).length+b.length≤4294967296) then some (.ret ((b,()),())) else none:=by kernel_rfl
theorem zZ:HcOk prog 118 (ah gn sj):=by
 have htt:=gH Tryz.prog 400
 refine uU (P:=prog) htt (fn:=Tryz.f118) (by kernel_rfl) (by kernel_rfl) gn sj ?_ (by kernel_rfl)
 rintro ⟨⟨(b:List Int),⟨⟩⟩,⟨⟩⟩ out hwf hout F G cst w vals R Rl hkb hend
 obtain ⟨hg,hout⟩:=Tr.guard hout
 have hg:b.length≤4294967296:=by simpa using hg
 cases hout
 have hc:(Tryz.f118).body=some (.seq (BE clC) (.seq (.seq (.region 1 clO false) (.cond (.tmp 4) clX .skip)) clY)):=by kernel_rfl
 have hdr:=mS (gH Tryz.prog 400)
 have hhd:sI prog We:=zi HcsOk.nil
 refine calls_of_wp (P:=prog) (fn:=Tryz.f118) (by kernel_rfl) hc ?_
 refine wp_seq (mL htt hm hhd hdr hkb (lp:=OF) _ (FE (c:=(BE clC)) (by kernel_rfl)) (cl0 b) Rl ?_)
 intro ex A1 G1 a1 w1 R1 hd1 h1
 cases ex with
 |normal=>
  simp only[Option.some.injEq] at h1
  subst h1
  show (Code.seq (.seq (.region 1 clO false) (.cond (.tmp 4) clX .skip)) clY).wp prog _ a1 w1
  refine wp_seq (wp_seq (wp_region ?_))
  have hr:List.range clO.size=[0,1]:=by kernel_rfl
  rw[hr]
  obtain ⟨p0,f0,ho0⟩:∃pos after,clO[0]?=some { dst:=some 3,op:=.move (.tmp 0),type:=39,pos:=pos,after:=after,guard:=none }:=⟨_,_,rfl⟩
  obtain ⟨p1,f1,ho1⟩:∃pos after,clO[1]?=some { dst:=some 4,op:=.binOp .eql 39 (.tmp 3) (.const (.slice none 0 0)) 39,type:=4,pos:=pos,after:=after,guard:=none }:=⟨_,_,rfl⟩
  have hu:Program.underlying prog 39=some (.slice 5):=by kernel_rfl
  simp only[wpOps,ho0,ho1]
  rw[if_pos (by rfl)]
  refine .inl ?_
  obtain ⟨u0,hu0,hv0⟩:=qa (P:=prog) htt (fun x=>R1.opd x) R1.ob { dst:=some 3,op:=.move (.tmp 0),type:=39,pos:=p0,after:=f0,guard:=none } (id:=7) (chk:=true) (v:=.one (.lst 5 (.int .u8) b 0)) (by kernel_rfl) rfl
  unfold Oper.wp
  rw[hu0,Oper.upon_value]
  have R2:=R1.puts hv0 (some 3)
  have hd2:(a1.put (some 3) u0).defers=[]:=(Act.put_defers' _ _ _).trans hd1
  generalize a1.put (some 3) u0=a2 at R2 hd2 ⊢
  rw[if_pos (by rfl)]
  refine .inl ?_
  obtain ⟨Aa,cap,he,hc1,hc2,hrow,_⟩:Rc G1 w1 (.lst 5 (.int .u8) b 0) (a2.eval (.tmp 3)):=R2.opd (.tmp 3)
  have hrun:(execOp a2.eval { dst:=some 4,op:=.binOp .eql 39 (.tmp 3) (.const (.slice none 0 0)) 39,type:=4,pos:=p1,after:=f1,guard:=none }).run prog w1=.ok (.value (.bool Aa.isNone)) w1:=by
   have h1:=Go.Lib.run_eql_slice_nil (P:=prog) w1 39 5 Aa b.length cap 0 0 hu
   have h2:a2.eval (.const (.slice none 0 0))=.slice none 0 0:=rfl
   simp only[execOp,Sem.run_bind,he,h2]
   simp[eqGuard,h1]
  rw[hrun,Oper.upon_value]
  have R3:=R2.puts (v:=.one (.bool Aa.isNone)) (u:=.bool Aa.isNone) rfl (some 4)
  have hd3:(a2.put (some 4) (.bool Aa.isNone)).defers=[]:=(Act.put_defers' _ _ _).trans hd2
  generalize a2.put (some 4) (.bool Aa.isNone)=a3 at R3 hd3 ⊢
  have hb4:a3.eval (.tmp 4)=.bool Aa.isNone:=R3.opd (.tmp 4)
  refine wp_cond hb4 ?_
  cases Aa with
  |none=>
   have hb:b=[]:=Classical.byContradiction fun hne=>by
    obtain ⟨_,_,e,_⟩:=hrow hne
    cases e
   subst hb
   refine mL htt hm hhd hdr hkb (lp:=OF) (l:=Hb) (x:=[]) clX (FE (c:=clX) (by kernel_rfl)) (clx []) R3 ?_
   intro ex A' G' a' w' R' hd' hk
   cases ex with
   |ret=>exact ⟨hd'.trans hd3,hend .ret A' G' a' w' R' hk⟩
   |normal=>cases hk
   |exit i=>cases hk
   |panic v=>cases hk
  |some ad=>
   refine wp_skip ?_
   refine mL htt hm hhd hdr hkb (lp:=OF) (l:=Hb) (x:=[]) clY (FE (c:=clY) (by kernel_rfl)) ((cly b).trans (aa (by simpa using hg) _ _)) R3 ?_
   intro ex A' G' a' w' R' hd' hk
   cases ex with
   |ret=>exact ⟨hd'.trans hd3,hend .ret A' G' a' w' R' hk⟩
   |normal=>cases hk
   |exit i=>cases hk
   |panic v=>cases hk
 |exit i=>cases h1
 |ret=>cases h1
 |panic v=>cases h1
abbrev W4:List Sh:=[dO,dI]
abbrev Kn:Sh:=.dat (.int .i16) false false
abbrev OJ:Sh:=.dat (.int .i32) false false
abbrev abf:Sh:=.dat (.int .u64) false false
def aM (v:Int):Nat→List Int
 |0=>[]
 |n+1=>(v / 256 ^ n) % 256::aM v n
theorem bY (v:Int):∀n,(aM v n).length=n
 |0=>rfl
 |n+1=>by rw[aM,List.length_cons,bY v n]
def aE (b:List Int)(most v:Int)(n:Nat):Int×List Int:=if most - b.length<n then (10,b) else (0,b++aM v n)
def bB (b:List Int)(most:Int):Bool:=decide (b.length≤4294960000)&&(decide (0≤most)&&decide (most≤(1048576:Int)))
abbrev lS:Io:=⟨[.ptr 0 0],[W4],[],[dI],none⟩
def Ey (d:lS.In):Tr lS.Res:=.ret (.ret ((IntKind.i64.wrap (d.2.1.2.1 - d.2.1.1.length),()),((d.2.1.1,(d.2.1.2.1,())),())))
abbrev Nc:List (Nat×Hc):=[]
def WS:Hd:=bz Nc
def NU:Lp:=bo []
def OA (a0:List Int)(a1:Int):Option lS.Res:=some (Out.ret ((IntKind.i64.wrap (a1 - (↑a0.length:Int)),()),(a0,a1,()),()))
theorem U6 (a0:List Int)(a1:Int):Io.run tt WS dr NU lS Tryz.f117 (((),()),(a0,a1,()),())=OA a0 a1:=by kernel_rfl
theorem tK:HcOk prog 117 (ah lS Ey):=by
 refine aj (n:=400) hm (cs:=Nc) HcsOk.nil (lp:=NU) (fn:=Tryz.f117) (by kernel_rfl) (by kernel_rfl) (by kernel_rfl) lS (.done (by kernel_rfl)) Ey ?_
 rintro ⟨⟨⟨⟩,⟨⟩⟩,⟨⟨(b:List Int),(m:Int),⟨⟩⟩,⟨⟩⟩⟩ out hw ho
 rw[← ho]
 exact U6 b m
abbrev fp:Io:=⟨[.ptr 0 0,abf,dI],[W4],[],[dI],none⟩
def mJ (d:fp.In):Tr fp.Res:=
 .ite (bB d.2.1.1 d.2.1.2.1&&(decide ((0:Int)≤d.1.2.2.1)&&decide (d.1.2.2.1≤(8:Int)))) (.ret (.ret (((aE d.2.1.1 d.2.1.2.1 d.1.2.1 d.1.2.2.1.toNat).1,()),(((aE d.2.1.1 d.2.1.2.1 d.1.2.1 d.1.2.2.1.toNat).2,(d.2.1.2.1,())),())))) .no
abbrev uK:List (Nat×Hc):=[(117,ah lS Ey)]
def C0:Hd:=bz uK
abbrev dK:Lo:=⟨⟨(.one (.ptr 0 0)::.one (.hol (.int IntKind.u64))::.any::bJ (.one (.hol (.int IntKind.i64))::ai (dE []))),[some [.onl 5 (Ty.int IntKind.u8) 2,.hol (.int IntKind.i64)]]⟩,[(.exit 0,⟨(ai (ai ([]))),[some [.onl 5 (Ty.int IntKind.u8) 2,.hol (.int IntKind.i64)]]⟩)]⟩
def kw (d:dK.st.den):Tr (ax dK.xs):=
 .ite (decide (-1≤d.1.2.1)&&(decide (d.1.2.1≤7)&&decide (d.2.1.1.length≤4294960000))) (.ret (.ret ((),((),((d.2.1.1++aM d.1.1 (d.1.2.1+1).toNat,(d.2.1.2.1,())),()))))) .no
def qr:Lp:=bo [(5,aP dK kw)]
def q6 {R:Type}(h4 h5:Int)(h6:List Int)(h7:Int)(next:Int→Int→List Int→Int→Option R)(out:ax dK.xs→Option R):Option R:=bif decide (0≤h5) then bif decide (0≤IntKind.i64.wrap (8*h5)) then bif !(0 == 1+29 || false)&&true&&decide (h6.length+[IntKind.u8.wrap (DH IntKind.u64 h4 (IntKind.i64.wrap (8*h5)))].length≤4294967296) then next (h4) (IntKind.i64.wrap (h5 - 1)) (h6++[IntKind.u8.wrap (DH IntKind.u64 h4 (IntKind.i64.wrap (8*h5)))]) (h7) else none else none else out (.ret ((),((),((h6,(h7,())),()))))
def pm (n:Nat)(h4 h5:Int)(h6:List Int)(h7:Int):Option (ax dK.xs):=gk tt C0 dr qr 1 Tryz.f116 (cI Tryz.f116 0) n (dK.st.mk' ((h4,(h5,())),((h6,(h7,())),()))) (bI dK.xs)
theorem I9 (n:Nat)(h4 h5:Int)(h6:List Int)(h7:Int):pm (n+1) h4 h5 h6 h7=q6 h4 h5 h6 h7 (pm n) some:=by kernel_rfl
theorem U9 {v:Int}(h0:0≤v)(h1:v≤18446744073709551615){i:Nat}(hi:i≤7):IntKind.u8.wrap (DH .u64 v (IntKind.i64.wrap (8*(i:Int))))=(v / 256 ^ i) % 256:=by
 rw[az (n:=8*(i:Int)) (by omega) (by omega)]
 unfold DH
 have e:min (8*(i:Int)).toNat (IntKind.u64).bits=8*i:=by
  show min (8*(i:Int)).toNat 64=8*i
  omega
 rw[e]
 have e2:(2:Int) ^ (8*i)=256 ^ i:=by rw[Int.pow_mul];rfl
 have hp:(0:Int)<256 ^ i:=Int.pow_pos (by decide)
 rw[e2,Int.fdiv_eq_ediv_of_nonneg _ (Int.le_of_lt hp)]
 have h3:0≤v / 256 ^ i:=Int.ediv_nonneg h0 (Int.le_of_lt hp)
 have h4:v / 256 ^ i≤v:=Int.ediv_le_self _ h0
 rw[dD (k:=.u64) (by simp[eE,IntKind.min,IntKind.max,IntKind.signed,IntKind.bits];omega)]
 simp[IntKind.wrap,IntKind.signed,IntKind.bits]
theorem H9 {v:Int}(h0:0≤v)(h1:v≤18446744073709551615)(most:Int):∀(k m:Nat) (b:List Int),m<k→m≤8→b.length+m≤4294967296→
  pm k v ((m:Int) - 1) b most=some (.ret ((),((),((b++aM v m,(most,())),())))):=by
 intro k
 induction k with
 |zero=>intro m b h;omega
 |succ k ih=>
  intro m b h2 h3 h4
  rw[I9]
  unfold q6
  cases m with
  |zero=>simp[aM]
  |succ m=>
   have e:((m+1:Nat):Int) - 1=(m:Int):=by omega
   rw[e,aa (by simp),az (n:=(m:Int) - 1) (by omega) (by omega),U9 h0 h1 (by omega),az (n:=8*(m:Int)) (by omega) (by omega),aa (by simp;omega),aa (by simp;omega),ih m _ (by omega) (by omega) (by simp;omega)]
   simp[aM]
def wg (a0 a1:Int)(a2:List Int)(a3:Int):Option fp.Res:=bif decide (IntKind.i64.wrap (a3 - (↑a2.length:Int))<a1) then some (Out.ret ((10,()),(a2,a3,()),())) else (kw ((a0,(IntKind.i64.wrap (a1 - 1),())),((a2,(a3,())),()))).run fun y=>match y with | .ret ((),((),(x14,x15,()),()))=>(some (Out.ret ((0,()),(x14,x15,()),())))
theorem Lz (a0 a1:Int)(a2:List Int)(a3:Int):Io.run tt C0 dr qr fp Tryz.f116 (((),a0,a1,()),(a2,a3,()),())=wg a0 a1 a2 a3:=by kernel_rfl
theorem qy:HcOk prog 116 (ah fp mJ):=by
 refine aj (n:=400) hm (cs:=uK) (.cons tK .nil) (lp:=qr) (fn:=Tryz.f116) (by kernel_rfl) (by kernel_rfl) (by kernel_rfl) fp (.step (h0:=aP dK kw) (by kernel_rfl) (aw (n:=400) hm (cs:=uK) (.cons tK .nil) (lp:=qr) (fn:=Tryz.f116) (.done (by kernel_rfl)) dK kw ?_) (.done (by kernel_rfl))) mJ ?_
 ·rintro ⟨⟨(v:Int),(i:Int),⟨⟩⟩,⟨⟨(b:List Int),(m:Int),⟨⟩⟩,⟨⟩⟩⟩ y hw hy
  obtain ⟨hg,hy⟩:=Tr.guard hy
  simp only[Bool.and_eq_true,decide_eq_true_eq] at hg
  have hv:eE .u64 v:=hw.1.1
  simp[eE,IntKind.min,IntKind.max,IntKind.signed,IntKind.bits] at hv
  have g1:(-1:Int)≤i:=hg.1
  have g2:i≤(7:Int):=hg.2.1
  have g3:b.length≤4294960000:=hg.2.2
  obtain ⟨n,hn⟩:∃n:Nat,i=(n:Int) - 1:=⟨(i+1).toNat,by omega⟩
  subst hn
  refine ⟨10,(H9 hv.1 (by omega) m 10 n b (by omega) (by omega) (by omega)).trans ?_⟩
  rw[← hy,show ((n:Int) - 1+1).toNat=n by omega];rfl
 ·rintro ⟨⟨⟨⟩,(v:Int),(n:Int),⟨⟩⟩,⟨⟨(b:List Int),(m:Int),⟨⟩⟩,⟨⟩⟩⟩ out hw ho
  obtain ⟨hg,ho⟩:=Tr.guard ho
  simp only[bB,Bool.and_eq_true,decide_eq_true_eq] at hg
  obtain ⟨⟨h1,h2,h3⟩,h4,h5⟩:=hg
  have h4:(0:Int)≤n:=h4
  have h5:n≤(8:Int):=h5
  cases ho
  refine (Lz v n b m).trans ?_
  unfold wg kw
  simp only
  rw[az (n:=m - (b.length:Int)) (by omega) (by omega),az (n:=n - 1) (by omega) (by omega),show n - 1+1=n by omega]
  unfold aE
  by_cases hl:m - (b.length:Int)<n
  ·rw[aa (by simpa using hl),if_pos (by omega)]
  ·rw[ab (by simpa using hl),if_neg (by omega)]
   have:(decide (-1≤n - 1)&&(decide (n - 1≤7)&&decide (b.length≤4294960000)))=true:=by simp;omega
   rw[this]
   rfl
theorem tO (v:Int){n:Nat}(h:n≤8):aM (IntKind.u64.wrap v) n=aM v n:=by
 have e:IntKind.u64.wrap v=v % 18446744073709551616:=by simp[IntKind.wrap,IntKind.signed,IntKind.bits]
 rw[e]
 have key:∀k:Nat,k<8→(v % 18446744073709551616 / 256 ^ k) % 256=(v / 256 ^ k) % 256:=by
  intro k hk
  match k,hk with
  |0,_=>omega
  |1,_=>omega
  |2,_=>omega
  |3,_=>omega
  |4,_=>omega
  |5,_=>omega
  |6,_=>omega
  |7,_=>omega
 induction n with
 |zero=>rfl
 |succ n ih=>rw[aM,aM,key n (by omega),ih (by omega)]
abbrev pg:Io:=⟨[.ptr 0 0,Kn],[W4],[],[dI],none⟩
def Mx (d:pg.In):Tr pg.Res:=
 .ite (bB d.2.1.1 d.2.1.2.1) (.ret (.ret (((aE d.2.1.1 d.2.1.2.1 d.1.2.1 2).1,()),(((aE d.2.1.1 d.2.1.2.1 d.1.2.1 2).2,(d.2.1.2.1,())),())))) .no
abbrev Sm:List (Nat×Hc):=[(116,ah fp mJ)]
def Z2:Hd:=bz Sm
def TE:Lp:=bo []
def G6 (a0:Int)(a1:List Int)(a2:Int):Option pg.Res:=bif bB a1 a2&&(decide (0≤2)&&decide (2≤8)) then some (Out.ret (((aE a1 a2 (IntKind.u64.wrap a0) (Int.toNat 2)).1,()),((aE a1 a2 (IntKind.u64.wrap a0) (Int.toNat 2)).2,a2,()),())) else none
theorem XZ (a0:Int)(a1:List Int)(a2:Int):Io.run tt Z2 dr TE pg Tryz.f47 (((),a0,()),(a1,a2,()),())=G6 a0 a1 a2:=by kernel_rfl
theorem Ul:HcOk prog 47 (ah pg Mx):=by
 refine aj (n:=400) hm (cs:=Sm) (.cons qy .nil) (lp:=TE) (fn:=Tryz.f47) (by kernel_rfl) (by kernel_rfl) (by kernel_rfl) pg (.done (by kernel_rfl)) Mx ?_
 rintro ⟨⟨⟨⟩,(v:Int),⟨⟩⟩,⟨⟨(b:List Int),(m:Int),⟨⟩⟩,⟨⟩⟩⟩ out hw ho
 obtain ⟨hg,ho⟩:=Tr.guard ho
 have hg:bB b m=true:=hg
 cases ho
 refine (XZ v b m).trans ?_
 unfold G6
 have e:aE b m (IntKind.u64.wrap v) 2=aE b m v 2:=by unfold aE;rw[tO v (by decide)]
 simp[hg,e]
abbrev nO:Io:=⟨[.ptr 0 0,OJ],[W4],[],[dI],none⟩
def Gx (d:nO.In):Tr nO.Res:=
 .ite (bB d.2.1.1 d.2.1.2.1) (.ret (.ret (((aE d.2.1.1 d.2.1.2.1 d.1.2.1 4).1,()),(((aE d.2.1.1 d.2.1.2.1 d.1.2.1 4).2,(d.2.1.2.1,())),())))) .no
abbrev Sn:List (Nat×Hc):=[(116,ah fp mJ)]
def Z3:Hd:=bz Sn
def TF:Lp:=bo []
def G7 (a0:Int)(a1:List Int)(a2:Int):Option nO.Res:=bif bB a1 a2&&(decide (0≤4)&&decide (4≤8)) then some (Out.ret (((aE a1 a2 (IntKind.u64.wrap a0) (Int.toNat 4)).1,()),((aE a1 a2 (IntKind.u64.wrap a0) (Int.toNat 4)).2,a2,()),())) else none
theorem X0 (a0:Int)(a1:List Int)(a2:Int):Io.run tt Z3 dr TF nO Tryz.f48 (((),a0,()),(a1,a2,()),())=G7 a0 a1 a2:=by kernel_rfl
theorem K2:HcOk prog 48 (ah nO Gx):=by
 refine aj (n:=400) hm (cs:=Sn) (.cons qy .nil) (lp:=TF) (fn:=Tryz.f48) (by kernel_rfl) (by kernel_rfl) (by kernel_rfl) nO (.done (by kernel_rfl)) Gx ?_
 rintro ⟨⟨⟨⟩,(v:Int),⟨⟩⟩,⟨⟨(b:List Int),(m:Int),⟨⟩⟩,⟨⟩⟩⟩ out hw ho
 obtain ⟨hg,ho⟩:=Tr.guard ho
 have hg:bB b m=true:=hg
 cases ho
 refine (X0 v b m).trans ?_
 unfold G7
 have e:aE b m (IntKind.u64.wrap v) 4=aE b m v 4:=by unfold aE;rw[tO v (by decide)]
 simp[hg,e]
abbrev rH:Io:=⟨[.ptr 0 0,.dat (.int .i64) false false],[W4],[],[dI],none⟩
def Rm (d:rH.In):Tr rH.Res:=
 .ite (bB d.2.1.1 d.2.1.2.1) (.ret (.ret (((aE d.2.1.1 d.2.1.2.1 d.1.2.1 8).1,()),(((aE d.2.1.1 d.2.1.2.1 d.1.2.1 8).2,(d.2.1.2.1,())),())))) .no
abbrev So:List (Nat×Hc):=[(116,ah fp mJ)]
def Z4:Hd:=bz So
def TG:Lp:=bo []
def G8 (a0:Int)(a1:List Int)(a2:Int):Option rH.Res:=bif bB a1 a2&&(decide (0≤8)&&decide (8≤8)) then some (Out.ret (((aE a1 a2 (IntKind.u64.wrap a0) (Int.toNat 8)).1,()),((aE a1 a2 (IntKind.u64.wrap a0) (Int.toNat 8)).2,a2,()),())) else none
theorem X1 (a0:Int)(a1:List Int)(a2:Int):Io.run tt Z4 dr TG rH Tryz.f197 (((),a0,()),(a1,a2,()),())=G8 a0 a1 a2:=by kernel_rfl
theorem aaf:HcOk prog 197 (ah rH Rm):=by
 refine aj (n:=400) hm (cs:=So) (.cons qy .nil) (lp:=TG) (fn:=Tryz.f197) (by kernel_rfl) (by kernel_rfl) (by kernel_rfl) rH (.done (by kernel_rfl)) Rm ?_
 rintro ⟨⟨⟨⟩,(v:Int),⟨⟩⟩,⟨⟨(b:List Int),(m:Int),⟨⟩⟩,⟨⟩⟩⟩ out hw ho
 obtain ⟨hg,ho⟩:=Tr.guard ho
 have hg:bB b m=true:=hg
 cases ho
 refine (X1 v b m).trans ?_
 unfold G8
 have e:aE b m (IntKind.u64.wrap v) 8=aE b m v 8:=by unfold aE;rw[tO v (by decide)]
 simp[hg,e]
abbrev nP:Io:=⟨[dI],[],[W4],[.ptr 0 0],none⟩
def Gy (d:nP.In):Tr nP.Res:=.ret (.ret (((),()),((([]:List Int),(ao (an d.1.1 0) 1048576,())),())))
abbrev Sp:List (Nat×Hc):=[]
def Z5:Hd:=bz Sp
def TH:Lp:=bo []
def RD (a0:Int):Option nP.Res:=some (Out.ret (((),()),([],ao (an a0 0) 1048576,()),()))
theorem X2 (a0:Int):Io.run tt Z5 dr TH nP Tryz.f46 ((a0,()),())=RD a0:=by kernel_rfl
theorem K3:HcOk prog 46 (ah nP Gy):=by
 refine aj (n:=400) hm (cs:=Sp) HcsOk.nil (lp:=TH) (fn:=Tryz.f46) (by kernel_rfl) (by kernel_rfl) (by kernel_rfl) nP (.done (by kernel_rfl)) Gy ?_
 rintro ⟨⟨(m:Int),⟨⟩⟩,⟨⟩⟩ out hw ho
 rw[← ho]
 exact X2 m
abbrev iz:Io:=⟨[.ptr 0 0],[W4],[],[dO],none⟩
def sC (d:iz.In):Tr iz.Res:=.ite (decide (d.2.1.1.length≤4294967296)) (.ret (.ret ((d.2.1.1,()),((d.2.1.1,(d.2.1.2.1,())),())))) .no
abbrev HE:List (Nat×Hc):=[(118,ah gn sj)]
def S5:Hd:=bz HE
def IB:Lp:=bo []
def Ka (a0:List Int)(a1:Int):Option iz.Res:=bif decide (a0.length≤4294967296) then some (Out.ret ((a0,()),(a0,a1,()),())) else none
theorem P9 (a0:List Int)(a1:Int):Io.run tt S5 dr IB iz Tryz.f50 (((),()),(a0,a1,()),())=Ka a0 a1:=by kernel_rfl
theorem z8:HcOk prog 50 (ah iz sC):=by
 refine aj (n:=400) hm (cs:=HE) (.cons zZ .nil) (lp:=IB) (fn:=Tryz.f50) (by kernel_rfl) (by kernel_rfl) (by kernel_rfl) iz (.done (by kernel_rfl)) sC ?_
 rintro ⟨⟨⟨⟩,⟨⟩⟩,⟨⟨(b:List Int),(m:Int),⟨⟩⟩,⟨⟩⟩⟩ out hw ho
 obtain ⟨hg,ho⟩:=Tr.guard ho
 cases ho
 exact (P9 b m).trans (aa hg _ _)
def aT:List (List Int)→Nat
 |[]=>0
 |p::ps=>p.length+aT ps
def lb:List (List Int)→List Int
 |[]=>[]
 |p::ps=>p++lb ps
def bC (b:List Int)(most:Int)(ps:List (List Int)):Int×List Int:=if most - b.length<aT ps then (10,b) else (0,b++lb ps)
abbrev mt:Io:=⟨[.ptr 0 0,.dat (.sl 39 bs) false false],[W4],[],[dI],none⟩
def BY (d:mt.In):Tr mt.Res:=
 .ite (bB d.2.1.1 d.2.1.2.1&&decide (aT d.1.2.1≤4294960000)) (.ret (.ret (((bC d.2.1.1 d.2.1.2.1 d.1.2.1).1,()),(((bC d.2.1.1 d.2.1.2.1 d.1.2.1).2,(d.2.1.2.1,())),())))) .no
abbrev ER:List (Nat×Hc):=[(117,ah lS Ey)]
def KA:Hd:=bz ER
abbrev iJ:Lo:=⟨⟨(.one (.ptr 0 0)::.one (.hol (.sl 39 (Ty.sl 5 (Ty.int IntKind.u8))))::.any::be (.one (.hol (.int IntKind.i64))::bJ (.one (.hol (.sl 39 (Ty.sl 5 (Ty.int IntKind.u8))))::.one (.hol (.int IntKind.i64))::.one (.hol (.int IntKind.i64))::ai (dE (bJ []))))),[some [.onl 5 (Ty.int IntKind.u8) 2,.hol (.int IntKind.i64)]]⟩,[(.exit 0,⟨(.one (.ptr 0 0)::.one (.hol (.sl 39 (Ty.sl 5 (Ty.int IntKind.u8))))::.any::be (.one (.hol (.int IntKind.i64))::.any::ai (ai (be [])))),[some [.onl 5 (Ty.int IntKind.u8) 2,.hol (.int IntKind.i64)]]⟩)]⟩
abbrev fY:Lo:=⟨⟨(.one (.ptr 0 0)::ai (dE (.one (.hol (.sl 39 (Ty.sl 5 (Ty.int IntKind.u8))))::.one (.hol (.int IntKind.i64))::.one (.hol (.int IntKind.i64))::.any::dE (bJ [])))),[some [.onl 5 (Ty.int IntKind.u8) 2,.hol (.int IntKind.i64)]]⟩,[(.exit 2,⟨(.any::ai (ai (dE []))),[some [.onl 5 (Ty.int IntKind.u8) 2,.hol (.int IntKind.i64)]]⟩)]⟩
def sD (d:iJ.st.den):Tr (ax iJ.xs):=
 .ite (decide (d.1.2.1=0)&&(decide (d.1.2.2.2.2.1=0)&&(decide (d.1.2.2.2.1=(d.1.2.2.1.length:Int))&&decide (aT d.1.2.2.1≤4294960000)))) (.ret (.ret ((),((d.1.1,((aT d.1.2.2.1:Int),())),(d.2.1,()))))) .no
def o5 (d:fY.st.den):Tr (ax fY.xs):=
 .ite (decide (d.1.2.2.1=0)&&(decide (d.1.2.1=(d.1.1.length:Int))&&decide (d.2.1.1.length+aT d.1.1≤4294967296))) (.ret (.ret ((),((),((d.2.1.1++lb d.1.1,(d.2.1.2.1,())),()))))) .no
def vj:Lp:=bo [(4,aP iJ sD),(11,aP fY o5)]
def Bo {R:Type}(h3:List bs.den)(h4:Int)(h5:List bs.den)(h6 h7:Int)(h8:List Int)(h9:Int)(next:List bs.den→Int→List bs.den→Int→Int→List Int→Int→Option R)(out:ax iJ.xs→Option R):Option R:=bif decide (h7<h6) then bif decide (0≤h7)&&decide (h7<(↑h5.length:Int)) then next (h3) (IntKind.i64.wrap (h4+(↑(List.length (h5.getD h7.toNat [])):Int))) (h5) (h6) (IntKind.i64.wrap (h7+1)) (h8) (h9) else none else out (.ret ((),((h3,(h4,())),((h8,(h9,())),()))))
def zE (n:Nat)(h3:List bs.den)(h4:Int)(h5:List bs.den)(h6 h7:Int)(h8:List Int)(h9:Int):Option (ax iJ.xs):=gk tt KA dr vj 1 Tryz.f49 (cI Tryz.f49 0) n (iJ.st.mk' ((h3,(h4,(h5,(h6,(h7,()))))),((h8,(h9,())),()))) (bI iJ.xs)
theorem Vi (n:Nat)(h3:List bs.den)(h4:Int)(h5:List bs.den)(h6 h7:Int)(h8:List Int)(h9:Int):zE (n+1) h3 h4 h5 h6 h7 h8 h9=Bo h3 h4 h5 h6 h7 h8 h9 (zE n) some:=by kernel_rfl
def w3 {R:Type}(h25:List (Ty.sl 5 (Ty.int IntKind.u8)).den)(h26 h27:Int)(h28:List Int)(h29:Int)(next:List (Ty.sl 5 (Ty.int IntKind.u8)).den→Int→Int→List Int→Int→Option R)(out:ax fY.xs→Option R):Option R:=bif decide (h27<h26) then bif decide (0≤h27)&&decide (h27<(↑h25.length:Int)) then bif decide (h28.length+List.length (h25.getD h27.toNat [])≤4294967296) then next (h25) (h26) (IntKind.i64.wrap (h27+1)) (h28++h25.getD h27.toNat []) (h29) else none else none else out (.ret ((),((),((h28,(h29,())),()))))
def ve (n:Nat)(h25:List (Ty.sl 5 (Ty.int IntKind.u8)).den)(h26 h27:Int)(h28:List Int)(h29:Int):Option (ax fY.xs):=gk tt KA dr vj 1 Tryz.f49 (cI Tryz.f49 1) n (fY.st.mk' ((h25,(h26,(h27,()))),((h28,(h29,())),()))) (bI fY.xs)
theorem Qp (n:Nat)(h25:List (Ty.sl 5 (Ty.int IntKind.u8)).den)(h26 h27:Int)(h28:List Int)(h29:Int):ve (n+1) h25 h26 h27 h28 h29=w3 h25 h26 h27 h28 h29 (ve n) some:=by kernel_rfl
theorem q3 {ps:List (List Int)}{i:Nat}(h:i<ps.length):aT (ps.drop i)=ps[i].length+aT (ps.drop (i+1)):=by rw[List.drop_eq_getElem_cons h];rfl
theorem Jp {ps:List (List Int)}{i:Nat}(h:i<ps.length):lb (ps.drop i)=ps[i]++lb (ps.drop (i+1)):=by rw[List.drop_eq_getElem_cons h];rfl
theorem KR (ps0 ps:List (List Int))(b:List Int)(m:Int)(hl:ps.length≤maxLen):∀(k i s:Nat),ps.length<i+k→i≤ps.length→s+aT (ps.drop i)≤4294960000→
  zE k ps0 s ps (ps.length:Int) i b m=some (.ret ((),((ps0,(((s+aT (ps.drop i):Nat):Int),())),((b,(m,())),())))):=by
 intro k
 induction k with
 |zero=>intro i s h;omega
 |succ k ih=>
  intro i s h1 h2 h3
  rw[Vi]
  unfold Bo
  by_cases hi:i<ps.length
  ·rw[q3 hi] at h3 ⊢
   have e:List.getD ps (i:Int).toNat []=ps[i]:=by simp only[Int.toNat_natCast,aH hi]
   rw[aa (by simpa using hi),aa (by simpa using hi),e,bb hi hl,az (n:=(s:Int)+(List.length (α:=Int) ps[i]:Int)) (by omega) (by omega)]
   have e2:(s:Int)+(List.length (α:=Int) ps[i]:Int)=((s+ps[i].length:Nat):Int):=by omega
   rw[e2,ih (i+1) (s+ps[i].length) (by omega) (by omega) (by omega),Nat.add_assoc]
  ·rw[ab (by simp;omega),List.drop_of_length_le (by omega)]
   rfl
theorem H8 (ps:List (List Int))(m:Int)(hl:ps.length≤maxLen):∀(k i:Nat) (b:List Int),ps.length<i+k→i≤ps.length→b.length+aT (ps.drop i)≤4294967296→
  ve k ps (ps.length:Int) i b m=some (.ret ((),((),((b++lb (ps.drop i),(m,())),())))):=by
 intro k
 induction k with
 |zero=>intro i b h;omega
 |succ k ih=>
  intro i b h1 h2 h3
  rw[Qp]
  unfold w3
  by_cases hi:i<ps.length
  ·rw[q3 hi] at h3
   rw[Jp hi]
   have e:List.getD ps (i:Int).toNat []=ps[i]:=by simp only[Int.toNat_natCast,aH hi]
   rw[aa (by simpa using hi),aa (by simpa using hi),e,bb hi hl,aa (by simp;omega),ih (i+1) _ (by omega) (by omega) (by simp;omega),List.append_assoc]
  ·rw[ab (by simp;omega),List.drop_of_length_le (by omega)]
   simp[lb]
def G9 (a0:List bs.den)(a1:List Int)(a2:Int):Option mt.Res:=(sD ((a0,(0,(a0,((↑a0.length:Int),(0,()))))),((a1,(a2,())),()))).run fun y=>match y with | .ret ((),((x21,x22,()),(x23,x24,()),()))=>(bif decide (IntKind.i64.wrap (x24 - (↑x23.length:Int))<x22) then some (Out.ret ((10,()),(x23,x24,()),())) else (o5 ((x21,((↑x21.length:Int),(0,()))),((x23,(x24,())),()))).run fun y=>match y with | .ret ((),((),(x37,x38,()),()))=>(some (Out.ret ((0,()),(x37,x38,()),()))))
theorem X3 (a0:List bs.den)(a1:List Int)(a2:Int):Io.run tt KA dr vj mt Tryz.f49 (((),a0,()),(a1,a2,()),())=G9 a0 a1 a2:=by kernel_rfl
theorem FS:HcOk prog 49 (ah mt BY):=by
 refine aj (n:=400) hm (cs:=ER) (.cons tK .nil) (lp:=vj) (fn:=Tryz.f49) (by kernel_rfl) (by kernel_rfl) (by kernel_rfl) mt (.step (h0:=aP iJ sD) (by kernel_rfl) (aw (n:=400) hm (cs:=ER) (.cons tK .nil) (lp:=vj) (fn:=Tryz.f49) (.done (by kernel_rfl)) iJ sD ?_) (.step (h0:=aP fY o5) (by kernel_rfl) (aw (n:=400) hm (cs:=ER) (.cons tK .nil) (lp:=vj) (fn:=Tryz.f49) (.done (by kernel_rfl)) fY o5 ?_) (.done (by kernel_rfl)))) BY ?_
 ·rintro ⟨⟨ps0,s,ps,n,i,⟨⟩⟩,⟨⟨b,m,⟨⟩⟩,⟨⟩⟩⟩ y hw hy
  obtain ⟨hg,hy⟩:=Tr.guard hy
  simp only[Bool.and_eq_true,decide_eq_true_eq] at hg
  obtain ⟨rfl,rfl,rfl,h4⟩:=hg
  refine ⟨ps.length+1,(KR ps0 ps b m hw.1.2.2.1.1 _ 0 0 (by omega) (by omega) (by simpa using h4)).trans ?_⟩
  rw[← hy,Nat.zero_add];rfl
 ·rintro ⟨⟨ps,n,i,⟨⟩⟩,⟨⟨b,m,⟨⟩⟩,⟨⟩⟩⟩ y hw hy
  obtain ⟨hg,hy⟩:=Tr.guard hy
  simp only[Bool.and_eq_true,decide_eq_true_eq] at hg
  obtain ⟨rfl,rfl,h4⟩:=hg
  refine ⟨ps.length+1,(H8 ps m hw.1.1.1 _ 0 b (by omega) (by omega) (by simpa using h4)).trans ?_⟩
  rw[← hy];rfl
 ·rintro ⟨⟨⟨⟩,(ps:List (List Int)),⟨⟩⟩,⟨⟨(b:List Int),(m:Int),⟨⟩⟩,⟨⟩⟩⟩ out hw ho
  obtain ⟨hg,ho⟩:=Tr.guard ho
  simp only[bB,Bool.and_eq_true,decide_eq_true_eq] at hg
  obtain ⟨⟨h1,h2,h3⟩,h4⟩:=hg
  have h4:aT ps≤4294960000:=h4
  cases ho
  refine (X3 ps b m).trans ?_
  unfold G9
  have c1:(decide ((0:Int)=0)&&(decide ((0:Int)=0)&&(decide ((ps.length:Int)=(ps.length:Int))&&decide (aT ps≤4294960000))))=true:=by simp;omega
  have e1:sD ((ps,(0,(ps,((ps.length:Int),(0,()))))),((b,(m,())),()))=.ite true (.ret (.ret ((),((ps,((aT ps:Int),())),((b,(m,())),()))))) .no:=congrArg (fun c=>Tr.ite c _ _) c1
  rw[e1]
  simp only[Tr.run,cond_true]
  rw[az (n:=m - (b.length:Int)) (by omega) (by omega)]
  unfold bC
  by_cases hl:m - (b.length:Int)<(aT ps:Int)
  ·rw[aa (by simpa using hl),if_pos hl]
  ·rw[ab (by simpa using hl),if_neg hl]
   have c2:(decide ((0:Int)=0)&&(decide ((ps.length:Int)=(ps.length:Int))&&decide (b.length+aT ps≤4294967296)))=true:=by simp;omega
   have e2:o5 ((ps,((ps.length:Int),(0,()))),((b,(m,())),()))=.ite true (.ret (.ret ((),((),((b++lb ps,(m,())),()))))) .no:=congrArg (fun c=>Tr.ite c _ _) c2
   rw[e2]
   rfl
abbrev QZ:List Sh:=[dL,dI]
abbrev Ko:Sh:=.dat (.int .i64) false false
def gr (l:List Int):Int:=l.foldl (fun v c=>v*256+c) 0
def al (b:List Int)(p:Int)(n:Nat):Int×(Int×Int):=if (b.length:Int) - p<n then (0,(p,1)) else (gr ((b.drop p.toNat).take n),(p+n,0))
def bi (b:List Int)(p:Int):Bool:=decide (b.length≤4294960000)&&(decide (0≤p)&&decide (p≤(b.length:Int)))
def jQ (b:List Int)(p n:Int):Int×Int:=if n<0 then (p,3) else if (b.length:Int) - p<n then (p,1) else (p+n,0)
def aR (b:List Int)(p n:Int):List Int×(Int×Int):=if n<0 then ([],(p,3)) else if (b.length:Int) - p<n then ([],(p,1)) else ((b.drop p.toNat).take n.toNat,(p+n,0))
def Jk (b:List Int)(p:Int):Int:=if p<(b.length:Int) then 2 else 0
abbrev gp:Io:=⟨[.ptr 0 0],[QZ],[],[dI],none⟩
def pU (d:gp.In):Tr gp.Res:=.ret (.ret ((IntKind.i64.wrap ((d.2.1.1.length:Int) - d.2.1.2.1),()),((d.2.1.1,(d.2.1.2.1,())),())))
abbrev Hv:List (Nat×Hc):=[]
def ST:Hd:=bz Hv
def Is:Lp:=bo []
def J8 (a0:List Int)(a1:Int):Option gp.Res:=some (Out.ret ((IntKind.i64.wrap ((↑a0.length:Int) - a1),()),(a0,a1,()),()))
theorem PW (a0:List Int)(a1:Int):Io.run tt ST dr Is gp Tryz.f64 (((),()),(a0,a1,()),())=J8 a0 a1:=by kernel_rfl
theorem pu:HcOk prog 64 (ah gp pU):=by
 refine aj (n:=400) hm (cs:=Hv) HcsOk.nil (lp:=Is) (fn:=Tryz.f64) (by kernel_rfl) (by kernel_rfl) (by kernel_rfl) gp (.done (by kernel_rfl)) pU ?_
 rintro ⟨⟨⟨⟩,⟨⟩⟩,⟨⟨(b:List Int),(p:Int),⟨⟩⟩,⟨⟩⟩⟩ out hw ho
 rw[← ho]
 exact PW b p
abbrev d7:Io:=⟨[.ptr 0 0,dI],[QZ],[],[abf,dI],none⟩
def kk (d:d7.In):Tr d7.Res:=
 .ite (bi d.2.1.1 d.2.1.2.1&&(decide ((0:Int)≤d.1.2.1)&&decide (d.1.2.1≤(8:Int)))) (.ret (.ret (((al d.2.1.1 d.2.1.2.1 d.1.2.1.toNat).1,((al d.2.1.1 d.2.1.2.1 d.1.2.1.toNat).2.2,())),((d.2.1.1,((al d.2.1.1 d.2.1.2.1 d.1.2.1.toNat).2.1,())),())))) .no
abbrev rn:List (Nat×Hc):=[(64,ah gp pU)]
def zk:Hd:=bz rn
abbrev dh:Lo:=⟨⟨(.one (.ptr 0 0)::.one (.hol (.int IntKind.i64))::bJ (.one (.hol (.int IntKind.u64))::ai (bJ (.one (.hol (.sl 5 (Ty.int IntKind.u8)))::.one (.hol (.int IntKind.i64))::.one (.hol (.int IntKind.i64))::ai (be []))))),[some [.hol (.sl 5 (Ty.int IntKind.u8)),.hol (.int IntKind.i64)]]⟩,[(.exit 0,⟨(.one (.ptr 0 0)::.one (.hol (.int IntKind.i64))::bJ (.one (.hol (.int IntKind.u64))::.any::ai (ai (dE [])))),[some [.hol (.sl 5 (Ty.int IntKind.u8)),.hol (.int IntKind.i64)]]⟩)]⟩
def jx (d:dh.st.den):Tr (ax dh.xs):=
 .ite (decide (d.1.2.1=0)&&(decide (d.1.2.2.2.2.1=0)&&(decide (d.1.2.2.2.1=(d.1.2.2.1.length:Int))&&decide (d.1.2.2.1.length≤8)))) (.ret (.ret ((),((d.1.1,(gr d.1.2.2.1,())),(d.2.1,()))))) .no
def nY:Lp:=bo [(6,aP dh jx)]
def pM {R:Type}(h3 h4:Int)(h5:List Int)(h6 h7:Int)(h8:List Int)(h9:Int)(next:Int→Int→List Int→Int→Int→List Int→Int→Option R)(out:ax dh.xs→Option R):Option R:=bif decide (h7<h6) then bif decide (0≤h7)&&decide (h7<(↑h5.length:Int)) then next (h3) (Yd IntKind.u64 (Om IntKind.u64 h4 8) (IntKind.u64.wrap (h5.getD h7.toNat 0))) (h5) (h6) (IntKind.i64.wrap (h7+1)) (h8) (h9) else none else out (.ret ((),((h3,(h4,())),((h8,(h9,())),()))))
def nV (n:Nat)(h3 h4:Int)(h5:List Int)(h6 h7:Int)(h8:List Int)(h9:Int):Option (ax dh.xs):=gk tt zk dr nY 1 Tryz.f166 (cI Tryz.f166 0) n (dh.st.mk' ((h3,(h4,(h5,(h6,(h7,()))))),((h8,(h9,())),()))) (bI dh.xs)
theorem F3 (n:Nat)(h3 h4:Int)(h5:List Int)(h6 h7:Int)(h8:List Int)(h9:Int):nV (n+1) h3 h4 h5 h6 h7 h8 h9=pM h3 h4 h5 h6 h7 h8 h9 (nV n) some:=by kernel_rfl
theorem Xt {v c:Int}(h0:0≤v)(h1:v<72057594037927936)(h2:0≤c)(h3:c≤255):Yd .u64 (Om .u64 v 8) (IntKind.u64.wrap c)=v*256+c:=by
 have e1:Om .u64 v 8=v*256:=by
  show IntKind.wrap .u64 (v*2 ^ 8)=_
  rw[show v*2 ^ 8=v*256 by omega]
  exact dD (k:=.u64) (by simp[eE,IntKind.min,IntKind.max,IntKind.signed,IntKind.bits];omega)
 have e0:IntKind.u64.wrap c=c:=dD (k:=.u64) (by simp[eE,IntKind.min,IntKind.max,IntKind.signed,IntKind.bits];omega)
 rw[e1,e0]
 obtain ⟨v,rfl⟩:=dZ h0
 obtain ⟨c,rfl⟩:=dZ h2
 have e4:=Nat.two_pow_add_eq_or_of_lt (show c<2 ^ 8 by omega) v
 show IntKind.wrap .u64 ((BitVec.ofInt 64 ((v:Int)*256) ||| BitVec.ofInt 64 (c:Int)).toNat:Int)=_
 have e2:(BitVec.ofInt 64 (c:Int)).toNat=c:=by rw[BitVec.toNat_ofInt];omega
 have e3:(BitVec.ofInt 64 ((v:Int)*256)).toNat=2 ^ 8*v:=by rw[BitVec.toNat_ofInt];omega
 rw[BitVec.toNat_or,e2,e3,← e4]
 refine (dD (k:=.u64) ?_).trans ?_
 ·simp[eE,IntKind.min,IntKind.max,IntKind.signed,IntKind.bits];omega
 ·omega
theorem F7 (l:List Int)(c:Int):gr (l++[c])=gr l*256+c:=by simp[gr]
theorem zg:∀(l:List Int) (v:Int),(∀c∈l,0≤c∧c≤255)→0≤v→0≤l.foldl (fun v c=>v*256+c) v∧l.foldl (fun v c=>v*256+c) v<(v+1)*256 ^ l.length
 |[],v,_,h0=>⟨h0,by simp;omega⟩
 |c::l,v,h,h0=>by
  obtain ⟨h3,h4⟩:=h c (by simp)
  obtain ⟨h1,h2⟩:=zg l (v*256+c) (fun d hd=>h d (by simp[hd])) (by omega)
  refine ⟨h1,Int.lt_of_lt_of_le h2 ?_⟩
  rw[List.length_cons,Int.pow_succ,Int.mul_comm (256 ^ l.length) 256,← Int.mul_assoc]
  exact Int.mul_le_mul_of_nonneg_right (by omega) (Int.le_of_lt (Int.pow_pos (by decide)))
theorem Ji (l:List Int)(h:∀c∈l,0≤c∧c≤255):0≤gr l∧gr l<256 ^ l.length:=by
 have:=zg l 0 h (Int.le_refl _)
 simpa [gr] using this
theorem Fo (n:Int)(l b:List Int)(p:Int)(hl:l.length≤8)(hr:∀c∈l,0≤c∧c≤255):∀(k i:Nat),l.length<i+k→i≤l.length→
  nV k n (gr (l.take i)) l (l.length:Int) i b p=some (.ret ((),((n,(gr l,())),((b,(p,())),())))):=by
 intro k
 induction k with
 |zero=>intro i h;omega
 |succ k ih=>
  intro i h1 h2
  rw[F3]
  unfold pM
  by_cases hi:i<l.length
  ·have hc:=hr l[i] (List.getElem_mem hi)
   have hb:=Ji (l.take i) fun c hc=>hr c (List.mem_of_mem_take hc)
   have hlt:(256:Int) ^ (l.take i).length≤72057594037927936:=by
    rw[List.length_take,show min i l.length=i by omega]
    have hi7:i≤7:=by omega
    match i,hi7 with
    |0,_=>decide
    |1,_=>decide
    |2,_=>decide
    |3,_=>decide
    |4,_=>decide
    |5,_=>decide
    |6,_=>decide
    |7,_=>decide
   have e1:List.getD l (i:Int).toNat 0=l[i]:=by simp only[Int.toNat_natCast,aH hi]
   rw[aa (by simpa using hi),aa (by simpa using hi),e1,Xt hb.1 (by omega) hc.1 hc.2,← F7,← List.take_succ_eq_append_getElem hi,bb hi (by rw[dp];omega),ih (i+1) (by omega) (by omega)]
  ·rw[ab (by simp;omega),List.take_of_length_le (by omega)]
def sS (a0:Int)(a1:List Int)(a2:Int):Option d7.Res:=bif decide (IntKind.i64.wrap ((↑a1.length:Int) - a2)<a0) then some (Out.ret ((0,1,()),(a1,a2,()),())) else bif decide (0≤a2)&&(decide (a2≤IntKind.i64.wrap (a2+a0))&&decide (IntKind.i64.wrap (a2+a0)≤(↑a1.length:Int))) then (jx ((a0,(0,(List.drop a2.toNat (List.take (IntKind.i64.wrap (a2+a0)).toNat a1),((↑(List.drop a2.toNat (List.take (IntKind.i64.wrap (a2+a0)).toNat a1)).length:Int),(0,()))))),((a1,(a2,())),()))).run fun y=>match y with | .ret ((),((x21,x22,()),(x23,x24,()),()))=>(some (Out.ret ((x22,0,()),(x23,IntKind.i64.wrap (x24+x21),()),()))) else none
theorem I0 (a0:Int)(a1:List Int)(a2:Int):Io.run tt zk dr nY d7 Tryz.f166 (((),a0,()),(a1,a2,()),())=sS a0 a1 a2:=by kernel_rfl
theorem RE {b:List Int}(h:Ty.wf bs b):∀c∈b,0≤c∧c≤255:=fun c hc=>by
 have:=h.2 c hc
 simpa [Ty.wf,eE,IntKind.min,IntKind.max,IntKind.signed,IntKind.bits] using this
theorem n5:HcOk prog 166 (ah d7 kk):=by
 refine aj (n:=400) hm (cs:=rn) (.cons pu .nil) (lp:=nY) (fn:=Tryz.f166) (by kernel_rfl) (by kernel_rfl) (by kernel_rfl) d7 (.step (h0:=aP dh jx) (by kernel_rfl) (aw (n:=400) hm (cs:=rn) (.cons pu .nil) (lp:=nY) (fn:=Tryz.f166) (.done (by kernel_rfl)) dh jx ?_) (.done (by kernel_rfl))) kk ?_
 ·rintro ⟨⟨(n:Int),(v:Int),(l:List Int),(m:Int),(i:Int),⟨⟩⟩,⟨⟨(b:List Int),(p:Int),⟨⟩⟩,⟨⟩⟩⟩ y hw hy
  obtain ⟨hg,hy⟩:=Tr.guard hy
  simp only[Bool.and_eq_true,decide_eq_true_eq] at hg
  obtain ⟨rfl,rfl,rfl,h4⟩:=hg
  refine ⟨l.length+1,(Fo n l b p h4 (RE hw.1.2.2.1) _ 0 (by omega) (by omega)).trans ?_⟩
  rw[← hy];rfl
 ·rintro ⟨⟨⟨⟩,(n:Int),⟨⟩⟩,⟨⟨(b:List Int),(p:Int),⟨⟩⟩,⟨⟩⟩⟩ out hw ho
  obtain ⟨hg,ho⟩:=Tr.guard ho
  simp only[bi,Bool.and_eq_true,decide_eq_true_eq] at hg
  obtain ⟨⟨h1,h2,h3⟩,h4,h5⟩:=hg
  have h1:b.length≤4294960000:=h1
  have h2:(0:Int)≤p:=h2
  have h3:p≤(b.length:Int):=h3
  have h4:(0:Int)≤n:=h4
  have h5:n≤(8:Int):=h5
  cases ho
  refine (I0 n b p).trans ?_
  show _=some (Out.ret (((al b p n.toNat).1,((al b p n.toNat).2.2,())),((b,((al b p n.toNat).2.1,())),())))
  unfold sS
  rw[az (n:=(b.length:Int) - p) (by omega) (by omega),az (n:=p+n) (by omega) (by omega)]
  unfold al
  by_cases hl:(b.length:Int) - p<n
  ·rw[aa (by simpa using hl),if_pos (by omega)]
  ·have e0:List.drop p.toNat (List.take (p+n).toNat b)=(b.drop p.toNat).take n.toNat:=by rw[List.drop_take,show (p+n).toNat - p.toNat=n.toNat by omega]
   rw[ab (by simpa using hl),if_neg (by omega),aa (by simp;omega),e0]
   have hl8:((b.drop p.toNat).take n.toNat).length≤8:=by simp;omega
   have e1:jx ((n,(0,((b.drop p.toNat).take n.toNat,((((b.drop p.toNat).take n.toNat).length:Int),(0,()))))),((b,(p,())),()))=.ite true (.ret (.ret ((),((n,(gr ((b.drop p.toNat).take n.toNat),())),((b,(p,())),()))))) .no:=
    congrArg (fun c=>Tr.ite c _ _) (show (decide ((0:Int)=0)&&(decide ((0:Int)=0)&&(decide ((((b.drop p.toNat).take n.toNat).length:Int)=(((b.drop p.toNat).take n.toNat).length:Int))&&decide (((b.drop p.toNat).take n.toNat).length≤8))))=true by simp;omega)
   rw[e1]
   simp only[Tr.run,cond_true]
   rw[az (n:=p+n) (by omega) (by omega),show ((n.toNat:Nat):Int)=n by omega]
abbrev j3:Io:=⟨[.ptr 0 0],[QZ],[],[Kn,dI],none⟩
def yd (d:j3.In):Tr j3.Res:=
 .ite (bi d.2.1.1 d.2.1.2.1) (.ret (.ret ((IntKind.i16.wrap (al d.2.1.1 d.2.1.2.1 2).1,((al d.2.1.1 d.2.1.2.1 2).2.2,())),((d.2.1.1,((al d.2.1.1 d.2.1.2.1 2).2.1,())),())))) .no
abbrev M4:List (Nat×Hc):=[(166,ah d7 kk)]
def WK:Hd:=bz M4
def NM:Lp:=bo []
def Cu (a0:List Int)(a1:Int):Option j3.Res:=bif bi a0 a1&&(decide (0≤2)&&decide (2≤8)) then some (Out.ret ((IntKind.i16.wrap (al a0 a1 (Int.toNat 2)).1,(al a0 a1 (Int.toNat 2)).2.2,()),(a0,(al a0 a1 (Int.toNat 2)).2.1,()),())) else none
theorem UV (a0:List Int)(a1:Int):Io.run tt WK dr NM j3 Tryz.f136 (((),()),(a0,a1,()),())=Cu a0 a1:=by kernel_rfl
theorem FP:HcOk prog 136 (ah j3 yd):=by
 refine aj (n:=400) hm (cs:=M4) (.cons n5 .nil) (lp:=NM) (fn:=Tryz.f136) (by kernel_rfl) (by kernel_rfl) (by kernel_rfl) j3 (.done (by kernel_rfl)) yd ?_
 rintro ⟨⟨⟨⟩,⟨⟩⟩,⟨⟨(b:List Int),(p:Int),⟨⟩⟩,⟨⟩⟩⟩ out hw ho
 obtain ⟨hg,ho⟩:=Tr.guard ho
 have hg:bi b p=true:=hg
 cases ho
 refine (UV b p).trans ?_
 unfold Cu
 rw[aa (by simp[hg])]
 rfl
abbrev j4:Io:=⟨[.ptr 0 0],[QZ],[],[OJ,dI],none⟩
def yf (d:j4.In):Tr j4.Res:=
 .ite (bi d.2.1.1 d.2.1.2.1) (.ret (.ret ((IntKind.i32.wrap (al d.2.1.1 d.2.1.2.1 4).1,((al d.2.1.1 d.2.1.2.1 4).2.2,())),((d.2.1.1,((al d.2.1.1 d.2.1.2.1 4).2.1,())),())))) .no
abbrev M5:List (Nat×Hc):=[(166,ah d7 kk)]
def WL:Hd:=bz M5
def NN:Lp:=bo []
def Cv (a0:List Int)(a1:Int):Option j4.Res:=bif bi a0 a1&&(decide (0≤4)&&decide (4≤8)) then some (Out.ret ((IntKind.i32.wrap (al a0 a1 (Int.toNat 4)).1,(al a0 a1 (Int.toNat 4)).2.2,()),(a0,(al a0 a1 (Int.toNat 4)).2.1,()),())) else none
theorem UW (a0:List Int)(a1:Int):Io.run tt WL dr NN j4 Tryz.f74 (((),()),(a0,a1,()),())=Cv a0 a1:=by kernel_rfl
theorem FQ:HcOk prog 74 (ah j4 yf):=by
 refine aj (n:=400) hm (cs:=M5) (.cons n5 .nil) (lp:=NN) (fn:=Tryz.f74) (by kernel_rfl) (by kernel_rfl) (by kernel_rfl) j4 (.done (by kernel_rfl)) yf ?_
 rintro ⟨⟨⟨⟩,⟨⟩⟩,⟨⟨(b:List Int),(p:Int),⟨⟩⟩,⟨⟩⟩⟩ out hw ho
 obtain ⟨hg,ho⟩:=Tr.guard ho
 have hg:bi b p=true:=hg
 cases ho
 refine (UW b p).trans ?_
 unfold Cv
 rw[aa (by simp[hg])]
 rfl
abbrev nM:Io:=⟨[.ptr 0 0],[QZ],[],[Ko,dI],none⟩
def JZ (d:nM.In):Tr nM.Res:=
 .ite (bi d.2.1.1 d.2.1.2.1) (.ret (.ret ((IntKind.i64.wrap (al d.2.1.1 d.2.1.2.1 8).1,((al d.2.1.1 d.2.1.2.1 8).2.2,())),((d.2.1.1,((al d.2.1.1 d.2.1.2.1 8).2.1,())),())))) .no
abbrev M6:List (Nat×Hc):=[(166,ah d7 kk)]
def WM:Hd:=bz M6
def NO:Lp:=bo []
def Cw (a0:List Int)(a1:Int):Option nM.Res:=bif bi a0 a1&&(decide (0≤8)&&decide (8≤8)) then some (Out.ret ((IntKind.i64.wrap (al a0 a1 (Int.toNat 8)).1,(al a0 a1 (Int.toNat 8)).2.2,()),(a0,(al a0 a1 (Int.toNat 8)).2.1,()),())) else none
theorem UX (a0:List Int)(a1:Int):Io.run tt WM dr NO nM Tryz.f207 (((),()),(a0,a1,()),())=Cw a0 a1:=by kernel_rfl
theorem Xk:HcOk prog 207 (ah nM JZ):=by
 refine aj (n:=400) hm (cs:=M6) (.cons n5 .nil) (lp:=NO) (fn:=Tryz.f207) (by kernel_rfl) (by kernel_rfl) (by kernel_rfl) nM (.done (by kernel_rfl)) JZ ?_
 rintro ⟨⟨⟨⟩,⟨⟩⟩,⟨⟨(b:List Int),(p:Int),⟨⟩⟩,⟨⟩⟩⟩ out hw ho
 obtain ⟨hg,ho⟩:=Tr.guard ho
 have hg:bi b p=true:=hg
 cases ho
 refine (UX b p).trans ?_
 unfold Cw
 rw[aa (by simp[hg])]
 rfl
abbrev kO:Io:=⟨[.ptr 0 0,dI],[QZ],[],[dI],none⟩
def En (d:kO.In):Tr kO.Res:=
 .ite (bi d.2.1.1 d.2.1.2.1) (.ret (.ret (((jQ d.2.1.1 d.2.1.2.1 d.1.2.1).2,()),((d.2.1.1,((jQ d.2.1.1 d.2.1.2.1 d.1.2.1).1,())),())))) .no
abbrev Hw:List (Nat×Hc):=[(64,ah gp pU)]
def SU:Hd:=bz Hw
def It:Lp:=bo []
def yH (a0:Int)(a1:List Int)(a2:Int):Option kO.Res:=bif decide (a0<0) then some (Out.ret ((3,()),(a1,a2,()),())) else bif decide (IntKind.i64.wrap ((↑a1.length:Int) - a2)<a0) then some (Out.ret ((1,()),(a1,a2,()),())) else some (Out.ret ((0,()),(a1,IntKind.i64.wrap (a2+a0),()),()))
theorem PX (a0:Int)(a1:List Int)(a2:Int):Io.run tt SU dr It kO Tryz.f138 (((),a0,()),(a1,a2,()),())=yH a0 a1 a2:=by kernel_rfl
theorem Uc:HcOk prog 138 (ah kO En):=by
 refine aj (n:=400) hm (cs:=Hw) (.cons pu .nil) (lp:=It) (fn:=Tryz.f138) (by kernel_rfl) (by kernel_rfl) (by kernel_rfl) kO (.done (by kernel_rfl)) En ?_
 rintro ⟨⟨⟨⟩,(n:Int),⟨⟩⟩,⟨⟨(b:List Int),(p:Int),⟨⟩⟩,⟨⟩⟩⟩ out hw ho
 obtain ⟨hg,ho⟩:=Tr.guard ho
 simp only[bi,Bool.and_eq_true,decide_eq_true_eq] at hg
 obtain ⟨h1,h2,h3⟩:=hg
 have h1:b.length≤4294960000:=h1
 have h2:(0:Int)≤p:=h2
 have h3:p≤(b.length:Int):=h3
 cases ho
 refine (PX n b p).trans ?_
 unfold yH jQ
 rw[az (n:=(b.length:Int) - p) (by omega) (by omega)]
 by_cases h4:n<0
 ·rw[aa (by simpa using h4),if_pos h4]
 ·rw[ab (by simpa using h4),if_neg h4]
  by_cases h5:(b.length:Int) - p<n
  ·rw[aa (by simpa using h5),if_pos h5]
  ·rw[ab (by simpa using h5),if_neg h5,az (n:=p+n) (by omega) (by omega)]
abbrev gq:Io:=⟨[.ptr 0 0,dI],[QZ],[],[dO,dI],none⟩
def pV (d:gq.In):Tr gq.Res:=
 .ite (bi d.2.1.1 d.2.1.2.1) (.ret (.ret (((aR d.2.1.1 d.2.1.2.1 d.1.2.1).1,((aR d.2.1.1 d.2.1.2.1 d.1.2.1).2.2,())),((d.2.1.1,((aR d.2.1.1 d.2.1.2.1 d.1.2.1).2.1,())),())))) .no
abbrev Hx:List (Nat×Hc):=[(138,ah kO En),(118,ah gn sj)]
def SW:Hd:=bz Hx
def Iu:Lp:=bo []
def yI (a0:Int)(a1:List Int)(a2:Int):Option gq.Res:=bif bi a1 a2 then bif (jQ a1 a2 a0).2 != 0 then some (Out.ret (([],(jQ a1 a2 a0).2,()),(a1,(jQ a1 a2 a0).1,()),())) else bif decide (0≤a2)&&(decide (a2≤(jQ a1 a2 a0).1)&&decide ((jQ a1 a2 a0).1≤(↑a1.length:Int))) then bif decide ((List.drop a2.toNat (List.take (jQ a1 a2 a0).1.toNat a1)).length≤4294967296) then some (Out.ret ((List.drop a2.toNat (List.take (jQ a1 a2 a0).1.toNat a1),0,()),(a1,(jQ a1 a2 a0).1,()),())) else none else none else none
theorem PY (a0:Int)(a1:List Int)(a2:Int):Io.run tt SW dr Iu gq Tryz.f63 (((),a0,()),(a1,a2,()),())=yI a0 a1 a2:=by kernel_rfl
theorem tI:HcOk prog 63 (ah gq pV):=by
 refine aj (n:=400) hm (cs:=Hx) (.cons Uc (.cons zZ .nil)) (lp:=Iu) (fn:=Tryz.f63) (by kernel_rfl) (by kernel_rfl) (by kernel_rfl) gq (.done (by kernel_rfl)) pV ?_
 rintro ⟨⟨⟨⟩,(n:Int),⟨⟩⟩,⟨⟨(b:List Int),(p:Int),⟨⟩⟩,⟨⟩⟩⟩ out hw ho
 obtain ⟨hg,ho⟩:=Tr.guard ho
 have hg0:bi b p=true:=hg
 simp only[bi,Bool.and_eq_true,decide_eq_true_eq] at hg
 obtain ⟨h1,h2,h3⟩:=hg
 have h1:b.length≤4294960000:=h1
 have h2:(0:Int)≤p:=h2
 have h3:p≤(b.length:Int):=h3
 cases ho
 refine (PY n b p).trans ?_
 unfold yI aR jQ
 rw[aa hg0]
 by_cases h4:n<0
 ·simp[h4]
 ·by_cases h5:(b.length:Int) - p<n
  ·simp[h4,h5]
  ·have e0:List.drop p.toNat (List.take (p+n).toNat b)=(b.drop p.toNat).take n.toNat:=by rw[List.drop_take,show (p+n).toNat - p.toNat=n.toNat by omega]
   simp only[h4,h5,if_false,e0,bne_self_eq_false,cond_false]
   rw[aa (by simp;omega),aa (by simp;omega)]
abbrev lO:Io:=⟨[.ptr 0 0],[QZ],[],[dI],none⟩
def Em (d:lO.In):Tr lO.Res:=.ret (.ret ((Jk d.2.1.1 d.2.1.2.1,()),(d.2.1,())))
abbrev M3:List (Nat×Hc):=[]
def WJ:Hd:=bz M3
def NL:Lp:=bo []
def Ct (a0:List Int)(a1:Int):Option lO.Res:=bif decide (a1<(↑a0.length:Int)) then some (Out.ret ((2,()),(a0,a1,()),())) else some (Out.ret ((0,()),(a0,a1,()),()))
theorem UU (a0:List Int)(a1:Int):Io.run tt WJ dr NL lO Tryz.f203 (((),()),(a0,a1,()),())=Ct a0 a1:=by kernel_rfl
theorem N7:HcOk prog 203 (ah lO Em):=by
 refine aj (n:=400) hm (cs:=M3) HcsOk.nil (lp:=NL) (fn:=Tryz.f203) (by kernel_rfl) (by kernel_rfl) (by kernel_rfl) lO (.done (by kernel_rfl)) Em ?_
 rintro ⟨⟨⟨⟩,⟨⟩⟩,⟨⟨(b:List Int),(p:Int),⟨⟩⟩,⟨⟩⟩⟩ out hw ho
 cases ho
 refine (UU b p).trans ?_
 unfold Ct Jk
 by_cases h:p<(b.length:Int)
 ·rw[aa (by simpa using h),if_pos h]
 ·rw[ab (by simpa using h),if_neg h]
abbrev jr:Io:=⟨[dL],[],[QZ],[.ptr 0 0],none⟩
def uC (d:jr.In):Tr jr.Res:=.ite (decide (d.1.1.length≤4294967296)) (.ret (.ret (((),()),((d.1.1,(0,())),())))) .no
abbrev M7:List (Nat×Hc):=[(118,ah gn sj)]
def WN:Hd:=bz M7
def NP:Lp:=bo []
def Ow (a0:List Int):Option jr.Res:=bif decide (a0.length≤4294967296) then some (Out.ret (((),()),(a0,0,()),())) else none
theorem UY (a0:List Int):Io.run tt WN dr NP jr Tryz.f61 ((a0,()),())=Ow a0:=by kernel_rfl
theorem xH:HcOk prog 61 (ah jr uC):=by
 refine aj (n:=400) hm (cs:=M7) (.cons zZ .nil) (lp:=NP) (fn:=Tryz.f61) (by kernel_rfl) (by kernel_rfl) (by kernel_rfl) jr (.done (by kernel_rfl)) uC ?_
 rintro ⟨⟨(b:List Int),⟨⟩⟩,⟨⟩⟩ out hw ho
 obtain ⟨hg,ho⟩:=Tr.guard ho
 cases ho
 exact (UY b).trans (aa hg _ _)
def fu (v n:Int):Bool:=if 8≤n then true else if -(2 ^ (8*n - 1).toNat)≤v∧v<2 ^ (8*n - 1).toNat then true else false
abbrev nE:Io:=⟨[Ko,dI],[],[],[dB],none⟩
def JU (d:nE.In):Tr nE.Res:=.ite (decide ((1:Int)≤d.1.2.1)) (.ret (.ret ((fu d.1.1 d.1.2.1,()),()))) .no
abbrev EM:List (Nat×Hc):=[]
def Ni:Hd:=bz EM
abbrev fO:Lo:=⟨⟨(.one (.hol (.int IntKind.i64))::.one (.hol (.int IntKind.i64))::.any::be (.one (.hol (.int IntKind.i64))::.one (.hol (.int IntKind.i64))::ai (bJ []))),[]⟩,[(.exit 0,⟨(.one (.hol (.int IntKind.i64))::bJ (.one (.hol (.int IntKind.i64))::.any::ai (bJ []))),[]⟩)]⟩
def oS (d:fO.st.den):Tr (ax fO.xs):=
 .ite (decide (d.1.2.2.1=1)&&(decide (d.1.2.2.2.1=0)&&(decide ((1:Int)≤d.1.2.1)&&decide (d.1.2.1≤(7:Int))))) (.ret (.ret ((),((d.1.1,((2:Int) ^ (8*d.1.2.1 - 1).toNat,())),())))) .no
def xC:Lp:=bo [(6,aP fO oS)]
def wQ {R:Type}(h2 h3 h4 h5:Int)(next:Int→Int→Int→Int→Option R)(out:ax fO.xs→Option R):Option R:=bif decide (h5<IntKind.i64.wrap (IntKind.i64.wrap (8*h3) - 1)) then next (h2) (h3) (IntKind.i64.wrap (h4*2)) (IntKind.i64.wrap (h5+1)) else out (.ret ((),((h2,(h4,())),())))
def uY (n:Nat)(h2 h3 h4 h5:Int):Option (ax fO.xs):=gk tt Ni dr xC 0 Tryz.f218 (cI Tryz.f218 0) n (fO.st.mk' ((h2,(h3,(h4,(h5,())))),())) (bI fO.xs)
theorem Qe (n:Nat)(h2 h3 h4 h5:Int):uY (n+1) h2 h3 h4 h5=wQ h2 h3 h4 h5 (uY n) some:=by kernel_rfl
theorem sd {m:Nat}(h:m≤56):(1:Int)≤2 ^ m∧(2:Int) ^ m≤72057594037927936:=by
 constructor
 ·have:(0:Int)<2 ^ m:=Int.pow_pos (by decide)
  omega
 ·have:=Nat.pow_le_pow_right (show 0<2 by decide) h
  have e:((2 ^ m:Nat):Int)=(2:Int) ^ m:=by simp
  have e2:(2:Nat) ^ 56=72057594037927936:=by decide
  omega
theorem Pa (v:Int){n:Int}(h0:1≤n)(h1:n≤7):∀(k j:Nat),(8*n - 1).toNat<j+k→j≤(8*n - 1).toNat→
  uY k v n ((2:Int) ^ j) j=some (.ret ((),((v,((2:Int) ^ (8*n - 1).toNat,())),()))):=by
 intro k
 induction k with
 |zero=>intro j h;omega
 |succ k ih=>
  intro j h2 h3
  rw[Qe]
  unfold wQ
  rw[az (n:=8*n) (by omega) (by omega),az (n:=8*n - 1) (by omega) (by omega)]
  by_cases hj:(j:Int)<8*n - 1
  ·refine (aa (by simpa using hj) _ _).trans ?_
   have hp:=sd (m:=j+1) (by omega)
   have hp0:=sd (m:=j) (by omega)
   have e:(2:Int) ^ j*2=2 ^ (j+1):=(Int.pow_succ 2 j).symm
   rw[e,az (n:=(2:Int) ^ (j+1)) (by omega) (by omega),az (n:=(j:Int)+1) (by omega) (by omega)]
   exact ih (j+1) (by omega) (by omega)
  ·refine (ab (by simpa using hj) _ _).trans ?_
   have e:j=(8*n - 1).toNat:=by omega
   rw[← e]
def Cl (a0 a1:Int):Option nE.Res:=bif decide (8≤a1) then some (Out.ret ((true,()),())) else (oS ((a0,(a1,(1,(0,())))),())).run fun y=>match y with | .ret ((),((x12,x13,()),()))=>(bif decide (IntKind.i64.wrap (0 - x13)≤x12) then some (Out.ret ((decide (x12<x13),()),())) else some (Out.ret ((false,()),())))
theorem UN (a0 a1:Int):Io.run tt Ni dr xC nE Tryz.f218 ((a0,a1,()),())=Cl a0 a1:=by kernel_rfl
theorem N5:HcOk prog 218 (ah nE JU):=by
 refine aj (n:=400) hm (cs:=EM) HcsOk.nil (lp:=xC) (fn:=Tryz.f218) (by kernel_rfl) (by kernel_rfl) (by kernel_rfl) nE (.step (h0:=aP fO oS) (by kernel_rfl) (aw (n:=400) hm (cs:=EM) HcsOk.nil (lp:=xC) (fn:=Tryz.f218) (.done (by kernel_rfl)) fO oS ?_) (.done (by kernel_rfl))) JU ?_
 ·rintro ⟨⟨(v:Int),(n:Int),(a:Int),(i:Int),⟨⟩⟩,⟨⟩⟩ y hw hy
  obtain ⟨hg,hy⟩:=Tr.guard hy
  simp only[Bool.and_eq_true,decide_eq_true_eq] at hg
  obtain ⟨h1,h2,h3,h4⟩:=hg
  have h1:a=1:=h1
  have h2:i=0:=h2
  have h3:(1:Int)≤n:=h3
  have h4:n≤(7:Int):=h4
  subst h1
  subst h2
  refine ⟨(8*n - 1).toNat+1,(Pa v h3 h4 ((8*n - 1).toNat+1) 0 (by omega) (by omega)).trans ?_⟩
  rw[← hy];rfl
 ·rintro ⟨⟨(v:Int),(n:Int),⟨⟩⟩,⟨⟩⟩ out hw ho
  obtain ⟨hg,ho⟩:=Tr.guard ho
  have hg:(1:Int)≤n:=of_decide_eq_true hg
  cases ho
  refine (UN v n).trans ?_
  unfold Cl
  show _=some (Out.ret ((fu v n,()),()))
  unfold fu
  by_cases h8:8≤n
  ·rw[if_pos h8]
   exact aa (by simpa using h8) _ _
  ·rw[if_neg h8]
   refine (ab (by simpa using h8) _ _).trans ?_
   have c1:(decide ((1:Int)=1)&&(decide ((0:Int)=0)&&(decide ((1:Int)≤n)&&decide (n≤(7:Int)))))=true:=by simp;omega
   have e1:oS ((v,(n,(1,(0,())))),())=.ite true (.ret (.ret ((),((v,((2:Int) ^ (8*n - 1).toNat,())),())))) .no:=congrArg (fun c=>Tr.ite c _ _) c1
   rw[e1]
   have hp:=sd (m:=(8*n - 1).toNat) (by omega)
   show (bif decide (IntKind.i64.wrap (0 - (2:Int) ^ (8*n - 1).toNat)≤v) then some (Out.ret ((decide (v<(2:Int) ^ (8*n - 1).toNat),()),())) else some (Out.ret ((false,()),())))=_
   generalize (2:Int) ^ (8*n - 1).toNat=m at hp ⊢
   rw[az (n:=0 - m) (by omega) (by omega)]
   by_cases h1:0 - m≤v
   ·refine (aa (by simpa using h1) _ _).trans ?_
    by_cases h2:v<m
    ·rw[if_pos ⟨by omega,h2⟩,decide_eq_true h2]
    ·rw[if_neg (by omega),decide_eq_false h2]
   ·refine (ab (by simpa using h1) _ _).trans ?_
    rw[if_neg (by omega)]
abbrev gX:Io:=⟨[Ko,dI],[],[],[dO],none⟩
def si (d:gX.In):Tr gX.Res:=.ite (decide ((0:Int)≤d.1.2.1)&&decide (d.1.2.1≤(8:Int))) (.ret (.ret ((aM d.1.1 d.1.2.1.toNat,()),()))) .no
abbrev p5:List (Nat×Hc):=[]
def uP:Hd:=bz p5
abbrev dH:Lo:=⟨⟨(.one (.hol (.int IntKind.i64))::.one (.hol (.int IntKind.i64))::.any::be (.one (.onl 5 (Ty.int IntKind.u8) 11)::.one (.hol (.int IntKind.i64))::.any::ai (ai (bJ (be []))))),[]⟩,[(.exit 0,⟨(.any::.one (.hol (.int IntKind.i64))::.any::be (.one (.onl 5 (Ty.int IntKind.u8) 11)::ai (ai (dE [])))),[]⟩)]⟩
abbrev de:Lo:=⟨⟨(.any::bJ (.one (.onl 5 (Ty.int IntKind.u8) 11)::be (.one (.onl 5 (Ty.int IntKind.u8) 17)::.one (.hol (.int IntKind.i64))::ai (ai (bJ []))))),[]⟩,[(.exit 2,⟨(dE (.one (.onl 5 (Ty.int IntKind.u8) 17)::.any::ai (ai (bJ [])))),[]⟩)]⟩
def ik (v:Int):Nat→List Int
 |0=>[]
 |n+1=>v % 256::ik (v / 256) n
def ku (d:dH.st.den):Tr (ax dH.xs):=
 .ite (decide (d.1.2.2.1.length=0)&&(decide (d.1.2.2.2.1=0)&&(decide ((0:Int)≤d.1.2.1)&&decide (d.1.2.1≤(8:Int))))) (.ret (.ret ((),((d.1.2.1,(ik d.1.1 d.1.2.1.toNat,())),())))) .no
def gU (d:de.st.den):Tr (ax de.xs):=
 .ite (decide (d.1.2.1.length=0)&&(decide (d.1.2.2.1=(d.1.1.length:Int) - 1)&&decide (d.1.1.length≤8))) (.ret (.ret ((),((d.1.1.reverse,()),())))) .no
def kl:Lp:=bo [(4,aP dH ku),(13,aP de gU)]
def q4 {R:Type}(h2 h3:Int)(h4:List Int)(h5:Int)(next:Int→Int→List Int→Int→Option R)(out:ax dH.xs→Option R):Option R:=bif decide (h5<h3) then bif decide (IntKind.i64.wrap (h2.tmod 256)<0) then bif decide (h4.length+[IntKind.u8.wrap (IntKind.i64.wrap (IntKind.i64.wrap (h2.tmod 256)+256))].length≤4294967296) then next (IntKind.i64.wrap ((IntKind.i64.wrap (h2 - IntKind.i64.wrap (IntKind.i64.wrap (h2.tmod 256)+256))).tdiv 256)) (h3) (h4++[IntKind.u8.wrap (IntKind.i64.wrap (IntKind.i64.wrap (h2.tmod 256)+256))]) (IntKind.i64.wrap (h5+1)) else none else bif decide (h4.length+[IntKind.u8.wrap (IntKind.i64.wrap (h2.tmod 256))].length≤4294967296) then next (IntKind.i64.wrap ((IntKind.i64.wrap (h2 - IntKind.i64.wrap (h2.tmod 256))).tdiv 256)) (h3) (h4++[IntKind.u8.wrap (IntKind.i64.wrap (h2.tmod 256))]) (IntKind.i64.wrap (h5+1)) else none else out (.ret ((),((h3,(h4,())),())))
def lT (n:Nat)(h2 h3:Int)(h4:List Int)(h5:Int):Option (ax dH.xs):=gk tt uP dr kl 0 Tryz.f39 (cI Tryz.f39 0) n (dH.st.mk' ((h2,(h3,(h4,(h5,())))),())) (bI dH.xs)
theorem I7 (n:Nat)(h2 h3:Int)(h4:List Int)(h5:Int):lT (n+1) h2 h3 h4 h5=q4 h2 h3 h4 h5 (lT n) some:=by kernel_rfl
def ls {R:Type}(h18 h19:List Int)(h20:Int)(next:List Int→List Int→Int→Option R)(out:ax de.xs→Option R):Option R:=bif decide (0≤h20) then bif decide (0≤h20)&&decide (h20<(↑h18.length:Int)) then bif decide (h19.length+[h18.getD h20.toNat 0].length≤4294967296) then next (h18) (h19++[h18.getD h20.toNat 0]) (IntKind.i64.wrap (h20 - 1)) else none else none else out (.ret ((),((h19,()),())))
def nU (n:Nat)(h18 h19:List Int)(h20:Int):Option (ax de.xs):=gk tt uP dr kl 0 Tryz.f39 (cI Tryz.f39 1) n (de.st.mk' ((h18,(h19,(h20,()))),())) (bI de.xs)
theorem tM (n:Nat)(h18 h19:List Int)(h20:Int):nU (n+1) h18 h19 h20=ls h18 h19 h20 (nU n) some:=by kernel_rfl
theorem VW (v:Int):(v.tmod 256<0→v.tmod 256+256=v % 256)∧(¬ v.tmod 256<0→v.tmod 256=v % 256):=by
 by_cases h:0≤v
 ·rw[Int.tmod_eq_emod_of_nonneg h];omega
 ·obtain ⟨u,rfl⟩:∃u,v = -u:=⟨-v,by omega⟩
  rw[Int.neg_tmod,Int.tmod_eq_emod_of_nonneg (by omega)];omega
theorem VT (v:Int):(v - v % 256).tdiv 256=v / 256:=by
 have e:v - v % 256=v / 256*256:=by omega
 rw[e,Int.mul_tdiv_cancel _ (by decide)]
theorem Ys {n:Int}(h0:0≤n)(h1:n<256):IntKind.u8.wrap n=n:=dD (by simp[eE,IntKind.min,IntKind.max,IntKind.signed,IntKind.bits];omega)
theorem Bx {m:Nat}(hm:m≤8):∀(k j:Nat) (v:Int) (acc:List Int),m<j+k→j≤m→acc.length=j→-9223372036854775808≤v→v≤9223372036854775807→
  lT k v (m:Int) acc j=some (.ret ((),(((m:Int),(acc++ik v (m - j),())),()))):=by
 intro k
 induction k with
 |zero=>intro j v acc h;omega
 |succ k ih=>
  intro j v acc h1 h2 h3 h4 h5
  rw[I7]
  unfold q4
  by_cases hj:j<m
  ·refine (aa (decide_eq_true (show (j:Int)<(m:Int) by omega)) _ _).trans ?_
   have ht:=VW v
   have hd:∀x:Int,x=v % 256→lT k (IntKind.i64.wrap ((IntKind.i64.wrap (v - x)).tdiv 256)) (m:Int) (acc++[IntKind.u8.wrap x]) (IntKind.i64.wrap ((j:Int)+1))=some (.ret ((),(((m:Int),(acc++ik v (m - j),())),()))):=by
    rintro x rfl
    rw[az (n:=v - v % 256) (by omega) (by omega),VT,az (n:=v / 256) (by omega) (by omega),az (n:=(j:Int)+1) (by omega) (by omega),Ys (n:=v % 256) (by omega) (by omega)]
    refine (ih (j+1) (v / 256) (acc++[v % 256]) (by omega) (by omega) (by simp[h3]) (by omega) (by omega)).trans ?_
    obtain ⟨q,hq⟩:∃q,m - j=q+1:=⟨m - j - 1,by omega⟩
    rw[hq,show m - (j+1)=q by omega,ik]
    simp
   have hr : -256≤v.tmod 256∧v.tmod 256<256:=by
    by_cases h:v.tmod 256<0
    ·have:=ht.1 h;omega
    ·have:=ht.2 h;omega
   rw[az (n:=v.tmod 256) (by omega) (by omega),az (n:=v.tmod 256+256) (by omega) (by omega)]
   by_cases hn:v.tmod 256<0
   ·refine (aa (by simpa using hn) _ _).trans ?_
    refine (aa (decide_eq_true (show acc.length+1≤4294967296 by omega)) _ _).trans ?_
    exact hd _ (ht.1 hn)
   ·refine (ab (by simpa using hn) _ _).trans ?_
    refine (aa (decide_eq_true (show acc.length+1≤4294967296 by omega)) _ _).trans ?_
    exact hd _ (ht.2 hn)
  ·refine (ab (decide_eq_false (show ¬(j:Int)<(m:Int) by omega)) _ _).trans ?_
   rw[show m - j=0 by omega,ik]
   simp
theorem zG {low:List Int}(hl:low.length≤8):∀(j:Nat) (acc:List Int),j≤low.length→acc.length+j≤8→
  nU (j+1) low acc ((j:Int) - 1)=some (.ret ((),((acc++(low.take j).reverse,()),()))):=by
 intro j
 induction j with
 |zero=>
  intro acc h1 h2
  rw[tM]
  unfold ls
  refine (ab (by decide) _ _).trans ?_
  simp
 |succ j ih=>
  intro acc h1 h2
  rw[tM]
  unfold ls
  rw[show ((j+1:Nat):Int) - 1=(j:Int) by omega]
  have hg:List.getD low j (0:Int)=low[j]'(by omega):=aH (by omega)
  refine (aa (by simp) _ _).trans ?_
  refine (aa (by simp;omega) _ _).trans ?_
  simp only[Int.toNat_natCast,hg]
  refine (aa (decide_eq_true (show acc.length+1≤4294967296 by omega)) _ _).trans ?_
  rw[az (n:=(j:Int) - 1) (by omega) (by omega)]
  refine (ih (acc++[low[j]'(by omega)]) (by omega) (by simp;omega)).trans ?_
  rw[List.take_succ_eq_append_getElem (by omega),List.reverse_append,List.reverse_singleton,List.append_assoc]
theorem QD (v:Int):∀n,(ik v n).length=n:=by
 intro n
 induction n generalizing v with
 |zero=>rfl
 |succ n ih=>rw[ik,List.length_cons,ih]
theorem AM:∀(n:Nat) (v:Int),ik v (n+1)=ik v n++[(v / 256 ^ n) % 256]
 |0,v=>by simp[ik]
 |n+1,v=>by
  rw[ik,AM n (v / 256),ik]
  have e:v / 256 / 256 ^ n=v / 256 ^ (n+1):=by
   rw[Int.pow_succ,Int.mul_comm,Int.ediv_ediv_of_nonneg (by decide)]
  rw[e];rfl
theorem DG (v:Int):∀n,(ik v n).reverse=aM v n
 |0=>rfl
 |n+1=>by rw[AM,List.reverse_append,DG v n];rfl
def v5 (a0 a1:Int):Option gX.Res:=(ku ((a0,(a1,([],(0,())))),())).run fun y=>match y with | .ret ((),((x16,x17,()),()))=>((gU ((x17,([],(IntKind.i64.wrap (x16 - 1),()))),())).run fun y=>match y with | .ret ((),((x25,()),()))=>(some (Out.ret ((x25,()),()))))
theorem Lj (a0 a1:Int):Io.run tt uP dr kl gX Tryz.f39 ((a0,a1,()),())=v5 a0 a1:=by kernel_rfl
theorem qv:HcOk prog 39 (ah gX si):=by
 refine aj (n:=400) hm (cs:=p5) HcsOk.nil (lp:=kl) (fn:=Tryz.f39) (by kernel_rfl) (by kernel_rfl) (by kernel_rfl) gX (.step (h0:=aP dH ku) (by kernel_rfl) (aw (n:=400) hm (cs:=p5) HcsOk.nil (lp:=kl) (fn:=Tryz.f39) (.done (by kernel_rfl)) dH ku ?_) (.step (h0:=aP de gU) (by kernel_rfl) (aw (n:=400) hm (cs:=p5) HcsOk.nil (lp:=kl) (fn:=Tryz.f39) (.done (by kernel_rfl)) de gU ?_) (.done (by kernel_rfl)))) si ?_
 ·rintro ⟨⟨(v:Int),(m:Int),(acc:List Int),(i:Int),⟨⟩⟩,⟨⟩⟩ y hw hy
  obtain ⟨hg,hy⟩:=Tr.guard hy
  simp only[Bool.and_eq_true,decide_eq_true_eq] at hg
  obtain ⟨h1,h2,h3,h4⟩:=hg
  have h1:acc=[]:=List.eq_nil_of_length_eq_zero h1
  have h2:i=0:=h2
  have h3:(0:Int)≤m:=h3
  have h4:m≤(8:Int):=h4
  subst h1
  subst h2
  obtain ⟨m,rfl⟩:=dZ h3
  have hv:eE .i64 v:=hw.1.1
  simp only[eE,IntKind.min,IntKind.max,IntKind.signed,IntKind.bits] at hv
  simp at hv
  refine ⟨m+1,(Bx (m:=m) (by omega) (m+1) 0 v [] (by omega) (by omega) rfl (by omega) (by omega)).trans ?_⟩
  rw[← hy];rfl
 ·rintro ⟨⟨(low:List Int),(acc:List Int),(i:Int),⟨⟩⟩,⟨⟩⟩ y hw hy
  obtain ⟨hg,hy⟩:=Tr.guard hy
  simp only[Bool.and_eq_true,decide_eq_true_eq] at hg
  obtain ⟨h1,h2,h3⟩:=hg
  have h1:acc=[]:=List.eq_nil_of_length_eq_zero h1
  have h2:i=(low.length:Int) - 1:=h2
  have h3:low.length≤8:=h3
  subst h1
  subst h2
  refine ⟨low.length+1,(zG h3 low.length [] (by omega) (by simpa using h3)).trans ?_⟩
  rw[← hy,List.take_length];rfl
 ·rintro ⟨⟨(v:Int),(m:Int),⟨⟩⟩,⟨⟩⟩ out hw ho
  obtain ⟨hg,ho⟩:=Tr.guard ho
  simp only[Bool.and_eq_true,decide_eq_true_eq] at hg
  obtain ⟨h5,h6⟩:=hg
  have h5:(0:Int)≤m:=h5
  have h6:m≤(8:Int):=h6
  cases ho
  refine (Lj v m).trans ?_
  unfold v5
  have c1:(decide (([]:List Int).length=0)&&(decide ((0:Int)=0)&&(decide ((0:Int)≤m)&&decide (m≤(8:Int)))))=true:=by simp;omega
  have e1:ku ((v,(m,([],(0,())))),())=.ite true (.ret (.ret ((),((m,(ik v m.toNat,())),())))) .no:=congrArg (fun c=>Tr.ite c _ _) c1
  rw[e1]
  show (gU ((ik v m.toNat,([],(IntKind.i64.wrap (m - 1),()))),())).run _=_
  rw[az (n:=m - 1) (by omega) (by omega)]
  have c2:(decide (([]:List Int).length=0)&&(decide (m - 1=((ik v m.toNat).length:Int) - 1)&&decide ((ik v m.toNat).length≤8)))=true:=by
   rw[QD];simp;omega
  have e2:gU ((ik v m.toNat,([],(m - 1,()))),())=.ite true (.ret (.ret ((),(((ik v m.toNat).reverse,()),())))) .no:=congrArg (fun c=>Tr.ite c _ _) c2
  rw[e2,DG]
  rfl
def abG (l:List Int):Int:=match l with
 |[]=>0
 |c::l=>l.foldl (fun v c=>v*256+c) (if 128≤c then c - 256 else c)
abbrev wu:Lo:=⟨⟨(.one (.hol (.sl 5 (Ty.int IntKind.u8)))::.one (.hol (.int IntKind.i64))::.one (.hol (.int IntKind.i64))::.any::bJ (.one (.hol (.int IntKind.i64))::.one (.hol (.int IntKind.i64))::ai (ai (dE (be []))))),[]⟩,[(.exit 0,⟨(dE (.one (.hol (.int IntKind.i64))::.any::ai (ai (dE (be []))))),[]⟩)]⟩
def Zl (d:wu.st.den):Tr (ax wu.xs):=
 .ite (decide (d.1.2.2.2.1=0)&&(decide (d.1.2.2.2.2.1=0)&&((decide ((0:Int)≤d.1.2.1)&&decide (d.1.2.1+d.1.2.2.1≤(d.1.1.length:Int)))&&(decide ((0:Int)≤d.1.2.2.1)&&decide (d.1.2.2.1≤(8:Int)))))) (.ret (.ret ((),((abG ((d.1.1.drop d.1.2.1.toNat).take d.1.2.2.1.toNat),()),())))) .no
abbrev xg:Ty:=.prod (.int .i64) (.prod (.int .i64) (.prod .bool (.prod bs .unit)))
abbrev ap:Ty:=.tree xg 91
abbrev du:Sh:=.dat ap true false
abbrev VR:Ty:=.sl 91 ap
abbrev Nd:Type:=Tre xg.den
abbrev mr:Io:=⟨[dI,Ko],[],[],[du],none⟩
def BX (d:mr.In):Tr mr.Res:=.ret (.ret ((.mk (d.1.1,(d.1.2.1,(false,(([]:List Int),())))) [],()),()))
abbrev Sj:List (Nat×Hc):=[]
def ZZ:Hd:=bz Sj
def TB:Lp:=bo []
def RB (a0 a1:Int):Option mr.Res:=some (Out.ret ((Tre.mk (a0,a1,false,[],()) [],()),()))
theorem XV (a0 a1:Int):Io.run tt ZZ dr TB mr Tryz.f181 ((a0,a1,()),())=RB a0 a1:=by kernel_rfl
theorem kU:HcOk prog 181 (ah mr BX):=by
 refine aj (n:=400) hm (cs:=Sj) HcsOk.nil (lp:=TB) (fn:=Tryz.f181) (by kernel_rfl) (by kernel_rfl) (by kernel_rfl) mr (.done (by kernel_rfl)) BX ?_
 rintro ⟨⟨(k:Int),(n:Int),⟨⟩⟩,⟨⟩⟩ out hw ho
 cases ho
 exact XV k n
abbrev nN:Io:=⟨[.dat VR false false],[],[],[du],none⟩
def Gw (d:nN.In):Tr nN.Res:=.ret (.ret ((.mk (10,(0,(false,(([]:List Int),())))) d.1.1,()),()))
abbrev Sk:List (Nat×Hc):=[]
def Z0:Hd:=bz Sk
def TC:Lp:=bo []
def RC (a0:List ap.den):Option nN.Res:=some (Out.ret ((Tre.mk (10,0,false,[],()) a0,()),()))
theorem XW (a0:List ap.den):Io.run tt Z0 dr TC nN Tryz.f180 ((a0,()),())=RC a0:=by kernel_rfl
theorem n6:HcOk prog 180 (ah nN Gw):=by
 refine aj (n:=400) hm (cs:=Sk) HcsOk.nil (lp:=TC) (fn:=Tryz.f180) (by kernel_rfl) (by kernel_rfl) (by kernel_rfl) nN (.done (by kernel_rfl)) Gw ?_
 rintro ⟨⟨l,⟨⟩⟩,⟨⟩⟩ out hw ho
 cases ho
 exact XW l
abbrev tl:Io:=⟨[du,dI],[],[],[du],none⟩
def bf (n:Nd)(i:Int):Nd:=if 0≤i∧i<(n.kids.length:Int) then n.kids.getD i.toNat (.mk (0,(0,(false,([],())))) []) else .mk (0,(0,(false,([],())))) []
def Ri (d:tl.In):Tr tl.Res:=.ret (.ret ((bf d.1.1 d.1.2.1,()),()))
abbrev YK:List (Nat×Hc):=[]
def abr:Hd:=bz YK
def YX:Lp:=bo []
def MG (a0:Tre xg.den)(a1:Int):Option tl.Res:=bif decide (a1<0) then some (Out.ret ((Tre.mk (0,0,false,[],()) [],()),())) else bif decide ((↑a0.2.length:Int)≤a1) then some (Out.ret ((Tre.mk (0,0,false,[],()) [],()),())) else bif decide (0≤a1)&&decide (a1<(↑a0.2.length:Int)) then some (Out.ret ((Tre.mk (a0.2.getD a1.toNat (Tre.mk (0,0,false,[],()) [])).1 (a0.2.getD a1.toNat (Tre.mk (0,0,false,[],()) [])).2,()),())) else none
theorem aap (a0:Tre xg.den)(a1:Int):Io.run tt abr dr YX tl Tryz.f164 ((a0,a1,()),())=MG a0 a1:=by kernel_rfl
theorem qQ:HcOk prog 164 (ah tl Ri):=by
 refine aj (n:=400) hm (cs:=YK) HcsOk.nil (lp:=YX) (fn:=Tryz.f164) (by kernel_rfl) (by kernel_rfl) (by kernel_rfl) tl (.done (by kernel_rfl)) Ri ?_
 rintro ⟨⟨(n:Nd),(i:Int),⟨⟩⟩,⟨⟩⟩ out hw ho
 cases ho
 refine (aap n i).trans ?_
 unfold MG
 show _=some (Out.ret ((bf n i,()),()))
 unfold bf
 by_cases h1:i<0
 ·rw[if_neg (by omega)]
  exact aa (by simpa using h1) _ _
 ·refine (ab (by simpa using h1) _ _).trans ?_
  by_cases h2:(n.kids.length:Int)≤i
  ·rw[if_neg (by omega)]
   exact aa (by simpa using h2) _ _
  ·rw[if_pos (by omega)]
   refine (ab (by simpa using h2) _ _).trans ?_
   refine (aa (by simp;omega) _ _).trans ?_
   cases n.kids.getD i.toNat (.mk (0,(0,(false,([],())))) [])
   rfl
abbrev rS:List (List Sh):=[[.ptr 1 0,dI,dI,dB],[dO,dI]]
abbrev aW:Type:=Int×(Bool×List Int)
abbrev EnO:Type:=kt rS
abbrev fC (d:EnO):aW:=(d.1.2.2.1,(d.1.2.2.2.1,d.2.1.1))
abbrev ch (v:Int)(s:aW):EnO:=(((),(v,(s.1,(s.2.1,())))),((s.2.2,(130048,())),()))
abbrev fB (d:EnO):Bool:=decide (d.2.1.2.1=130048)&&decide (d.2.1.1.length≤130048)
def bv (e:Int)(s:aW):aW:=if s.1=0 then (e,s.2) else s
def ac (v:Int)(n:Nat)(s:aW):aW:=if 130048 - (s.2.2.length:Int)<n then (s.1,(true,s.2.2)) else (s.1,(s.2.1,s.2.2++aM v n))
def jk (p:List Int)(s:aW):aW:=if 130048 - (s.2.2.length:Int)<p.length then (s.1,(true,s.2.2)) else (s.1,(s.2.1,s.2.2++p))
def bR (t:List Int)(s:aW):aW:=if (ca t).2=false then bv 6 s else if 255<(t.length:Int) then bv 4 s else jk t (ac t.length 2 s)
def ar (v:Int)(z:Bool)(lo hi:Int)(s:aW):aW:=if z=false∧(v<lo∨hi<v) then bv 7 s else s
abbrev lx:Ty:=.prod .bool (.prod .str .unit)
abbrev ES:Sh:=.dat lx true false
abbrev oA:Ty:=.prod .bool (.prod bs .unit)
abbrev Kp:Sh:=.dat oA true false
theorem bx {v e:Int}{f:Bool}{b:List Int}{m:Int}(h:fB (((),(v,(e,(f,())))),((b,(m,())),()))=true):m=130048∧b.length≤130048:=by
 simpa [fB] using h
theorem Yp {b:List Int}(x:Int)(n:Nat)(h:b.length≤130048):(aE b 130048 x n).2.length≤130048:=by
 unfold aE
 split
 ·exact h
 ·simp only[List.length_append,bY];omega
theorem QK (x:Int)(n:Nat)(v e:Int)(f:Bool)(b:List Int):
  ch v (ac x n (e,f,b))=(((),(v,(e,((f || decide ((aE b 130048 x n).1≠0)),())))),(((aE b 130048 x n).2,(130048,())),())):=by
 unfold ac aE ch
 by_cases h:130048 - (b.length:Int)<n
 ·simp[h]
 ·simp[h]
theorem JB {b:List Int}(h:b.length≤130048):bB b 130048=true:=by
 simp[bB];omega
theorem aA {s:aW}(x:Int)(n:Nat)(h:s.2.2.length≤130048):(ac x n s).2.2.length≤130048:=by
 unfold ac
 split
 ·exact h
 ·simp only[List.length_append,bY];omega
theorem QF {b:List Int}(p:List Int)(h:b.length≤130048):(bC b 130048 [p]).2.length≤130048:=by
 unfold bC
 split
 ·exact h
 ·simp only[aT,lb,List.length_append,List.length_nil] at *;omega
theorem LZ (p:List Int)(v e:Int)(f:Bool)(b:List Int):
  ch v (jk p (e,f,b))=(((),(v,(e,((f || decide ((bC b 130048 [p]).1≠0)),())))),(((bC b 130048 [p]).2,(130048,())),())):=by
 unfold jk bC ch
 by_cases h:130048 - (b.length:Int)<p.length
 ·simp[h,aT]
 ·simp[h,aT,lb]
abbrev cJ:Io:=⟨[.ptr 0 0,dI],rS,[],[],none⟩
def gI (d:cJ.In):Tr cJ.Res:=.ite (fB d.2) (.ret (.ret ((),ch d.2.1.2.1 (bv d.1.2.1 (fC d.2))))) .no
abbrev MY:List (Nat×Hc):=[]
def WE:Hd:=bz MY
def NF:Lp:=bo []
def Cj (a0 a1 a2:Int)(a3:Bool)(a4:List Int)(a5:Int):Option cJ.Res:=bif a2 == 0 then some (Out.ret ((),((),a1,a0,a3,()),(a4,a5,()),())) else some (Out.ret ((),((),a1,a2,a3,()),(a4,a5,()),()))
theorem UL (a0 a1 a2:Int)(a3:Bool)(a4:List Int)(a5:Int):Io.run tt WE dr NF cJ Tryz.f194 (((),a0,()),((),a1,a2,a3,()),(a4,a5,()),())=Cj a0 a1 a2 a3 a4 a5:=by kernel_rfl
theorem fv:HcOk prog 194 (ah cJ gI):=by
 refine aj (n:=400) hm (cs:=MY) HcsOk.nil (lp:=NF) (fn:=Tryz.f194) (by kernel_rfl) (by kernel_rfl) (by kernel_rfl) cJ (.done (by kernel_rfl)) gI ?_
 rintro ⟨⟨⟨⟩,(x:Int),⟨⟩⟩,⟨⟨⟨⟩,(v:Int),(e:Int),(f:Bool),⟨⟩⟩,⟨(b:List Int),(m:Int),⟨⟩⟩,⟨⟩⟩⟩ out hw ho
 obtain ⟨hg,ho⟩:=Tr.guard ho
 obtain ⟨rfl,hb⟩:=bx hg
 cases ho
 refine (UL x v e f b 130048).trans ?_
 unfold Cj bv fC ch
 by_cases h:e=0
 ·rw[aa (by simpa using h),if_pos h]
 ·rw[ab (by simpa using h),if_neg h]
abbrev fg:Io:=⟨[.ptr 0 0,dI],rS,[],[],none⟩
def lz (d:fg.In):Tr fg.Res:=.ite (fB d.2) (.ret (.ret ((),ch d.2.1.2.1 (d.2.1.2.2.1,(d.2.1.2.2.2.1 || decide (d.1.2.1≠0),d.2.2.1.1))))) .no
abbrev Hq:List (Nat×Hc):=[]
def SM:Hd:=bz Hq
def Il:Lp:=bo []
def yA (a0 a1 a2:Int)(a3:Bool)(a4:List Int)(a5:Int):Option fg.Res:=bif a3 then some (Out.ret ((),((),a1,a2,true,()),(a4,a5,()),())) else some (Out.ret ((),((),a1,a2,a0 != 0,()),(a4,a5,()),()))
theorem PP (a0 a1 a2:Int)(a3:Bool)(a4:List Int)(a5:Int):Io.run tt SM dr Il fg Tryz.f195 (((),a0,()),((),a1,a2,a3,()),(a4,a5,()),())=yA a0 a1 a2 a3 a4 a5:=by kernel_rfl
theorem mR:HcOk prog 195 (ah fg lz):=by
 refine aj (n:=400) hm (cs:=Hq) HcsOk.nil (lp:=Il) (fn:=Tryz.f195) (by kernel_rfl) (by kernel_rfl) (by kernel_rfl) fg (.done (by kernel_rfl)) lz ?_
 rintro ⟨⟨⟨⟩,(x:Int),⟨⟩⟩,⟨⟨⟨⟩,(v:Int),(e:Int),(f:Bool),⟨⟩⟩,⟨(b:List Int),(m:Int),⟨⟩⟩,⟨⟩⟩⟩ out hw ho
 obtain ⟨hg,ho⟩:=Tr.guard ho
 obtain ⟨rfl,hb⟩:=bx hg
 cases ho
 refine (PP x v e f b 130048).trans ?_
 unfold yA
 cases f
 ·show some _=_
  have:(x != 0)=decide (x≠0):=by rw[Bool.eq_iff_iff];simp
  rw[this];rfl
 ·rfl
abbrev fG:Io:=⟨[.ptr 0 0,dB,dI,dI],rS,[],[],none⟩
def m3 (d:fG.In):Tr fG.Res:=.ite (fB d.2) (.ret (.ret ((),ch d.2.1.2.1 (ar d.2.1.2.1 d.1.2.1 d.1.2.2.1 d.1.2.2.2.1 (fC d.2))))) .no
abbrev Hp:List (Nat×Hc):=[(194,ah cJ gI)]
def SL:Hd:=bz Hp
def Ik:Lp:=bo []
def yz (a0:Bool)(a1 a2 a3 a4:Int)(a5:Bool)(a6:List Int)(a7:Int):Option fG.Res:=bif !a0 then bif decide (a3<a1) then bif decide (a7=130048)&&decide (a6.length≤130048) then some (Out.ret ((),((),a3,(bv 7 (a4,a5,a6)).1,(bv 7 (a4,a5,a6)).2.1,()),((bv 7 (a4,a5,a6)).2.2,130048,()),())) else none else bif decide (a2<a3) then bif decide (a7=130048)&&decide (a6.length≤130048) then some (Out.ret ((),((),a3,(bv 7 (a4,a5,a6)).1,(bv 7 (a4,a5,a6)).2.1,()),((bv 7 (a4,a5,a6)).2.2,130048,()),())) else none else some (Out.ret ((),((),a3,a4,a5,()),(a6,a7,()),())) else some (Out.ret ((),((),a3,a4,a5,()),(a6,a7,()),()))
theorem PN (a0:Bool)(a1 a2 a3 a4:Int)(a5:Bool)(a6:List Int)(a7:Int):Io.run tt SL dr Ik fG Tryz.f94 (((),a0,a1,a2,()),((),a3,a4,a5,()),(a6,a7,()),())=yz a0 a1 a2 a3 a4 a5 a6 a7:=by kernel_rfl
theorem ey:HcOk prog 94 (ah fG m3):=by
 refine aj (n:=400) hm (cs:=Hp) (.cons fv .nil) (lp:=Ik) (fn:=Tryz.f94) (by kernel_rfl) (by kernel_rfl) (by kernel_rfl) fG (.done (by kernel_rfl)) m3 ?_
 rintro ⟨⟨⟨⟩,(z:Bool),(lo:Int),(hi:Int),⟨⟩⟩,⟨⟨⟨⟩,(v:Int),(e:Int),(f:Bool),⟨⟩⟩,⟨(b:List Int),(m:Int),⟨⟩⟩,⟨⟩⟩⟩ out hw ho
 obtain ⟨hg,ho⟩:=Tr.guard ho
 obtain ⟨rfl,hb⟩:=bx hg
 cases ho
 refine (PN z lo hi v e f b 130048).trans ?_
 unfold yz
 have g:(decide ((130048:Int)=130048)&&decide (b.length≤130048))=true:=by simpa using hb
 show _=some (Out.ret ((),ch v (ar v z lo hi (e,f,b))))
 unfold ar
 cases z
 ·by_cases h1:v<lo
  ·rw[aa (by rfl),aa (by simpa using h1),aa g,if_pos ⟨rfl,.inl h1⟩]
  ·rw[aa (by rfl),ab (by simpa using h1)]
   by_cases h2:hi<v
   ·rw[aa (by simpa using h2),aa g,if_pos ⟨rfl,.inr h2⟩]
   ·rw[ab (by simpa using h2),if_neg (by simp;omega)]
 ·rw[ab (by rfl),if_neg (by simp)]
abbrev iv:Io:=⟨[.ptr 0 0,dI,dI],rS,[],[dB],none⟩
def qN (d:iv.In):Tr iv.Res:=.ite (fB d.2) (.ret (.ret ((decide (d.1.2.1≤d.2.1.2.1)&&decide (d.2.1.2.1≤d.1.2.2.1),()),ch d.2.1.2.1 (fC d.2)))) .no
abbrev R7:List (Nat×Hc):=[]
def ZR:Hd:=bz R7
def Ts:Lp:=bo []
def GR (a0 a1 a2 a3:Int)(a4:Bool)(a5:List Int)(a6:Int):Option iv.Res:=bif decide (a0≤a2) then some (Out.ret ((decide (a2≤a1),()),((),a2,a3,a4,()),(a5,a6,()),())) else some (Out.ret ((false,()),((),a2,a3,a4,()),(a5,a6,()),()))
theorem XK (a0 a1 a2 a3:Int)(a4:Bool)(a5:List Int)(a6:Int):Io.run tt ZR dr Ts iv Tryz.f95 (((),a0,a1,()),((),a2,a3,a4,()),(a5,a6,()),())=GR a0 a1 a2 a3 a4 a5 a6:=by kernel_rfl
theorem gg:HcOk prog 95 (ah iv qN):=by
 refine aj (n:=400) hm (cs:=R7) HcsOk.nil (lp:=Ts) (fn:=Tryz.f95) (by kernel_rfl) (by kernel_rfl) (by kernel_rfl) iv (.done (by kernel_rfl)) qN ?_
 rintro ⟨⟨⟨⟩,(lo:Int),(hi:Int),⟨⟩⟩,⟨⟨⟨⟩,(v:Int),(e:Int),(f:Bool),⟨⟩⟩,⟨(b:List Int),(m:Int),⟨⟩⟩,⟨⟩⟩⟩ out hw ho
 obtain ⟨hg,ho⟩:=Tr.guard ho
 obtain ⟨rfl,hb⟩:=bx hg
 cases ho
 refine (XK lo hi v e f b 130048).trans ?_
 unfold GR
 show _=some (Out.ret ((decide (lo≤v)&&decide (v≤hi),()),ch v (e,f,b)))
 by_cases h:lo≤v
 ·rw[aa (by simpa using h),decide_eq_true h];rfl
 ·rw[ab (by simpa using h),decide_eq_false h];rfl
theorem E1 (n:Nat)(x:Int){a1 a2:Int}{a3:Bool}{a4:List Int}(h:a4.length≤130048):
  (bif bB a4 130048 then bif decide ((130048:Int)=130048)&&decide ((aE a4 130048 x n).2.length≤130048) then some (Out.ret ((),((),a1,a2,a3 || decide ((aE a4 130048 x n).1≠0),()),((aE a4 130048 x n).2,130048,()),())) else none else (none:Option cJ.Res))
   = some (Out.ret ((),ch a1 (ac x n (a2,a3,a4)))):=by
 rw[aa (JB h),aa (by simpa using Yp x n h),QK]
theorem St (p:List Int){a1 a2:Int}{a3:Bool}{a4:List Int}(h:a4.length≤130048)(hp:p.length≤4294960000):
  (bif bB a4 130048&&decide (aT [p]≤4294960000) then bif decide ((130048:Int)=130048)&&decide ((bC a4 130048 [p]).2.length≤130048) then some (Out.ret ((),((),a1,a2,a3 || decide ((bC a4 130048 [p]).1≠0),()),((bC a4 130048 [p]).2,130048,()),())) else none else (none:Option cJ.Res))
   = some (Out.ret ((),ch a1 (jk p (a2,a3,a4)))):=by
 rw[aa (by rw[JB h,Bool.true_and];exact decide_eq_true (show p.length+0≤4294960000 by omega)),aa (by simpa using QF p h),LZ]
abbrev mj:Io:=⟨[.ptr 0 0,Kn],rS,[],[],none⟩
def BQ (d:mj.In):Tr mj.Res:=.ite (fB d.2) (.ret (.ret ((),ch d.2.1.2.1 (ac d.1.2.1 2 (fC d.2))))) .no
abbrev R8:List (Nat×Hc):=[(47,ah pg Mx),(195,ah fg lz)]
def ZS:Hd:=bz R8
def Tt:Lp:=bo []
def Rx (a0 a1 a2:Int)(a3:Bool)(a4:List Int)(a5:Int):Option mj.Res:=bif bB a4 a5 then bif decide (a5=130048)&&decide ((aE a4 a5 a0 2).2.length≤130048) then some (Out.ret ((),((),a1,a2,a3 || decide ((aE a4 a5 a0 2).1≠0),()),((aE a4 a5 a0 2).2,130048,()),())) else none else none
theorem XL (a0 a1 a2:Int)(a3:Bool)(a4:List Int)(a5:Int):Io.run tt ZS dr Tt mj Tryz.f97 (((),a0,()),((),a1,a2,a3,()),(a4,a5,()),())=Rx a0 a1 a2 a3 a4 a5:=by kernel_rfl
theorem FM:HcOk prog 97 (ah mj BQ):=by
 refine aj (n:=400) hm (cs:=R8) (.cons Ul (.cons mR .nil)) (lp:=Tt) (fn:=Tryz.f97) (by kernel_rfl) (by kernel_rfl) (by kernel_rfl) mj (.done (by kernel_rfl)) BQ ?_
 rintro ⟨⟨⟨⟩,(x:Int),⟨⟩⟩,⟨⟨⟨⟩,(v:Int),(e:Int),(f:Bool),⟨⟩⟩,⟨(b:List Int),(m:Int),⟨⟩⟩,⟨⟩⟩⟩ out hw ho
 obtain ⟨hg,ho⟩:=Tr.guard ho
 obtain ⟨rfl,hb⟩:=bx hg
 cases ho
 refine (XL x v e f b 130048).trans ?_
 exact E1 2 x hb
abbrev dd:Io:=⟨[.ptr 0 0,OJ],rS,[],[],none⟩
def gT (d:dd.In):Tr dd.Res:=.ite (fB d.2) (.ret (.ret ((),ch d.2.1.2.1 (ac d.1.2.1 4 (fC d.2))))) .no
abbrev R9:List (Nat×Hc):=[(48,ah nO Gx),(195,ah fg lz)]
def ZT:Hd:=bz R9
def Tu:Lp:=bo []
def Ry (a0 a1 a2:Int)(a3:Bool)(a4:List Int)(a5:Int):Option dd.Res:=bif bB a4 a5 then bif decide (a5=130048)&&decide ((aE a4 a5 a0 4).2.length≤130048) then some (Out.ret ((),((),a1,a2,a3 || decide ((aE a4 a5 a0 4).1≠0),()),((aE a4 a5 a0 4).2,130048,()),())) else none else none
theorem XM (a0 a1 a2:Int)(a3:Bool)(a4:List Int)(a5:Int):Io.run tt ZT dr Tu dd Tryz.f98 (((),a0,()),((),a1,a2,a3,()),(a4,a5,()),())=Ry a0 a1 a2 a3 a4 a5:=by kernel_rfl
theorem cF:HcOk prog 98 (ah dd gT):=by
 refine aj (n:=400) hm (cs:=R9) (.cons K2 (.cons mR .nil)) (lp:=Tu) (fn:=Tryz.f98) (by kernel_rfl) (by kernel_rfl) (by kernel_rfl) dd (.done (by kernel_rfl)) gT ?_
 rintro ⟨⟨⟨⟩,(x:Int),⟨⟩⟩,⟨⟨⟨⟩,(v:Int),(e:Int),(f:Bool),⟨⟩⟩,⟨(b:List Int),(m:Int),⟨⟩⟩,⟨⟩⟩⟩ out hw ho
 obtain ⟨hg,ho⟩:=Tr.guard ho
 obtain ⟨rfl,hb⟩:=bx hg
 cases ho
 refine (XM x v e f b 130048).trans ?_
 exact E1 4 x hb
abbrev kI:Io:=⟨[.ptr 0 0,Ko],rS,[],[],none⟩
def xX (d:kI.In):Tr kI.Res:=.ite (fB d.2) (.ret (.ret ((),ch d.2.1.2.1 (ac d.1.2.1 8 (fC d.2))))) .no
abbrev Sa:List (Nat×Hc):=[(197,ah rH Rm),(195,ah fg lz)]
def ZU:Hd:=bz Sa
def Tv:Lp:=bo []
def Rz (a0 a1 a2:Int)(a3:Bool)(a4:List Int)(a5:Int):Option kI.Res:=bif bB a4 a5 then bif decide (a5=130048)&&decide ((aE a4 a5 a0 8).2.length≤130048) then some (Out.ret ((),((),a1,a2,a3 || decide ((aE a4 a5 a0 8).1≠0),()),((aE a4 a5 a0 8).2,130048,()),())) else none else none
theorem XN (a0 a1 a2:Int)(a3:Bool)(a4:List Int)(a5:Int):Io.run tt ZU dr Tv kI Tryz.f111 (((),a0,()),((),a1,a2,a3,()),(a4,a5,()),())=Rz a0 a1 a2 a3 a4 a5:=by kernel_rfl
theorem vo:HcOk prog 111 (ah kI xX):=by
 refine aj (n:=400) hm (cs:=Sa) (.cons aaf (.cons mR .nil)) (lp:=Tv) (fn:=Tryz.f111) (by kernel_rfl) (by kernel_rfl) (by kernel_rfl) kI (.done (by kernel_rfl)) xX ?_
 rintro ⟨⟨⟨⟩,(x:Int),⟨⟩⟩,⟨⟨⟨⟩,(v:Int),(e:Int),(f:Bool),⟨⟩⟩,⟨(b:List Int),(m:Int),⟨⟩⟩,⟨⟩⟩⟩ out hw ho
 obtain ⟨hg,ho⟩:=Tr.guard ho
 obtain ⟨rfl,hb⟩:=bx hg
 cases ho
 refine (XN x v e f b 130048).trans ?_
 exact E1 8 x hb
abbrev mp:Io:=⟨[.ptr 0 0,.dat .str false false],rS,[],[],none⟩
def BS (d:mp.In):Tr mp.Res:=.ite (fB d.2) (.ret (.ret ((),ch d.2.1.2.1 (bR d.1.2.1 (fC d.2))))) .no
abbrev Sd:List (Nat×Hc):=[(92,ah mq BW),(194,ah cJ gI),(97,ah mj BQ),(49,ah mt BY),(195,ah fg lz)]
def ZW:Hd:=bz Sd
def Tx:Lp:=bo []
def GT (a0:List Int)(a1 a2:Int)(a3:Bool)(a4:List Int)(a5:Int):Option mp.Res:=bif !(ca a0).2 then bif decide (a5=130048)&&decide (a4.length≤130048) then some (Out.ret ((),((),a1,(bv 6 (a2,a3,a4)).1,(bv 6 (a2,a3,a4)).2.1,()),((bv 6 (a2,a3,a4)).2.2,130048,()),())) else none else bif decide (255<(↑a0.length:Int)) then bif decide (a5=130048)&&decide (a4.length≤130048) then some (Out.ret ((),((),a1,(bv 4 (a2,a3,a4)).1,(bv 4 (a2,a3,a4)).2.1,()),((bv 4 (a2,a3,a4)).2.2,130048,()),())) else none else bif decide (a5=130048)&&decide (a4.length≤130048) then bif bB (ac (IntKind.i16.wrap (↑a0.length:Int)) 2 (a2,a3,a4)).2.2 130048&&decide (aT [a0]≤4294960000) then bif decide (130048=130048)&&decide ((bC (ac (IntKind.i16.wrap (↑a0.length:Int)) 2 (a2,a3,a4)).2.2 130048 [a0]).2.length≤130048) then some (Out.ret ((),((),a1,(ac (IntKind.i16.wrap (↑a0.length:Int)) 2 (a2,a3,a4)).1,(ac (IntKind.i16.wrap (↑a0.length:Int)) 2 (a2,a3,a4)).2.1 || decide ((bC (ac (IntKind.i16.wrap (↑a0.length:Int)) 2 (a2,a3,a4)).2.2 130048 [a0]).1≠0),()),((bC (ac (IntKind.i16.wrap (↑a0.length:Int)) 2 (a2,a3,a4)).2.2 130048 [a0]).2,130048,()),())) else none else none else none
theorem XP (a0:List Int)(a1 a2:Int)(a3:Bool)(a4:List Int)(a5:Int):Io.run tt ZW dr Tx mp Tryz.f101 (((),a0,()),((),a1,a2,a3,()),(a4,a5,()),())=GT a0 a1 a2 a3 a4 a5:=by kernel_rfl
theorem FN:HcOk prog 101 (ah mp BS):=by
 refine aj (n:=400) hm (cs:=Sd) (.cons FO (.cons fv (.cons FM (.cons FS (.cons mR .nil))))) (lp:=Tx) (fn:=Tryz.f101) (by kernel_rfl) (by kernel_rfl) (by kernel_rfl) mp (.done (by kernel_rfl)) BS ?_
 rintro ⟨⟨⟨⟩,(t:List Int),⟨⟩⟩,⟨⟨⟨⟩,(v:Int),(e:Int),(f:Bool),⟨⟩⟩,⟨(b:List Int),(m:Int),⟨⟩⟩,⟨⟩⟩⟩ out hw ho
 obtain ⟨hg,ho⟩:=Tr.guard ho
 obtain ⟨rfl,hb⟩:=bx hg
 cases ho
 refine (XP t v e f b 130048).trans ?_
 unfold GT
 have g:∀c:List Int,c.length≤130048→(decide ((130048:Int)=130048)&&decide (c.length≤130048))=true:=fun c h=>by simpa using h
 show _=some (Out.ret ((),ch v (bR t (e,f,b))))
 unfold bR
 cases hu:(ca t).2
 ·rw[aa (by rfl),aa (g b hb),if_pos rfl]
 ·rw[ab (by rfl),if_neg (by simp)]
  by_cases h1:(255:Int)<(t.length:Int)
  ·rw[aa (by simpa using h1),aa (g b hb),if_pos h1]
  ·rw[ab (by simpa using h1),if_neg h1,aa (g b hb),show IntKind.i16.wrap (t.length:Int)=t.length from dD (by simp[eE,IntKind.min,IntKind.max,IntKind.signed,IntKind.bits];omega)]
   exact St t (aA (s:=(e,f,b)) _ 2 hb) (by omega)
def oh (n:Bool×(List Int×Unit))(s:aW):aW:=if n.1=true∧n.2.1≠[] then bv 70 s else if n.1=true then ac (-1) 2 s else bR n.2.1 s
abbrev nB:Io:=⟨[.ptr 0 0,Kp],rS,[],[],none⟩
def bV (n:Bool×(List Int×Unit))(s:aW):aW:=if n.1=true∧0<n.2.1.length then bv 70 s else if n.1=true then ac (-1) 4 s else jk n.2.1 (ac (IntKind.i32.wrap n.2.1.length) 4 s)
def JT (d:nB.In):Tr nB.Res:=.ite (fB d.2&&decide (d.1.2.1.2.1.length≤2147483647)) (.ret (.ret ((),ch d.2.1.2.1 (bV d.1.2.1 (fC d.2))))) .no
abbrev MW:List (Nat×Hc):=[(194,ah cJ gI),(98,ah dd gT),(49,ah mt BY),(195,ah fg lz)]
def WC:Hd:=bz MW
def ND:Lp:=bo []
def Ch (a0:Bool)(a1:List Int)(a2 a3:Int)(a4:Bool)(a5:List Int)(a6:Int):Option nB.Res:=bif a0 then bif decide (0<(↑a1.length:Int)) then bif decide (a6=130048)&&decide (a5.length≤130048) then some (Out.ret ((),((),a2,(bv 70 (a3,a4,a5)).1,(bv 70 (a3,a4,a5)).2.1,()),((bv 70 (a3,a4,a5)).2.2,130048,()),())) else none else bif a0 then bif decide (a6=130048)&&decide (a5.length≤130048) then some (Out.ret ((),((),a2,(ac (-1) 4 (a3,a4,a5)).1,(ac (-1) 4 (a3,a4,a5)).2.1,()),((ac (-1) 4 (a3,a4,a5)).2.2,130048,()),())) else none else bif decide (a6=130048)&&decide (a5.length≤130048) then bif bB (ac (IntKind.i32.wrap (↑a1.length:Int)) 4 (a3,a4,a5)).2.2 130048&&decide (aT [a1]≤4294960000) then bif decide (130048=130048)&&decide ((bC (ac (IntKind.i32.wrap (↑a1.length:Int)) 4 (a3,a4,a5)).2.2 130048 [a1]).2.length≤130048) then some (Out.ret ((),((),a2,(ac (IntKind.i32.wrap (↑a1.length:Int)) 4 (a3,a4,a5)).1,(ac (IntKind.i32.wrap (↑a1.length:Int)) 4 (a3,a4,a5)).2.1 || decide ((bC (ac (IntKind.i32.wrap (↑a1.length:Int)) 4 (a3,a4,a5)).2.2 130048 [a1]).1≠0),()),((bC (ac (IntKind.i32.wrap (↑a1.length:Int)) 4 (a3,a4,a5)).2.2 130048 [a1]).2,130048,()),())) else none else none else none else bif a0 then bif decide (a6=130048)&&decide (a5.length≤130048) then some (Out.ret ((),((),a2,(ac (-1) 4 (a3,a4,a5)).1,(ac (-1) 4 (a3,a4,a5)).2.1,()),((ac (-1) 4 (a3,a4,a5)).2.2,130048,()),())) else none else bif decide (a6=130048)&&decide (a5.length≤130048) then bif bB (ac (IntKind.i32.wrap (↑a1.length:Int)) 4 (a3,a4,a5)).2.2 130048&&decide (aT [a1]≤4294960000) then bif decide (130048=130048)&&decide ((bC (ac (IntKind.i32.wrap (↑a1.length:Int)) 4 (a3,a4,a5)).2.2 130048 [a1]).2.length≤130048) then some (Out.ret ((),((),a2,(ac (IntKind.i32.wrap (↑a1.length:Int)) 4 (a3,a4,a5)).1,(ac (IntKind.i32.wrap (↑a1.length:Int)) 4 (a3,a4,a5)).2.1 || decide ((bC (ac (IntKind.i32.wrap (↑a1.length:Int)) 4 (a3,a4,a5)).2.2 130048 [a1]).1≠0),()),((bC (ac (IntKind.i32.wrap (↑a1.length:Int)) 4 (a3,a4,a5)).2.2 130048 [a1]).2,130048,()),())) else none else none else none
theorem UJ (a0:Bool)(a1:List Int)(a2 a3:Int)(a4:Bool)(a5:List Int)(a6:Int):Io.run tt WC dr ND nB Tryz.f104 (((),(a0,a1,()),()),((),a2,a3,a4,()),(a5,a6,()),())=Ch a0 a1 a2 a3 a4 a5 a6:=by kernel_rfl
theorem Xc:HcOk prog 104 (ah nB JT):=by
 refine aj (n:=400) hm (cs:=MW) (.cons fv (.cons cF (.cons FS (.cons mR .nil)))) (lp:=ND) (fn:=Tryz.f104) (by kernel_rfl) (by kernel_rfl) (by kernel_rfl) nB (.done (by kernel_rfl)) JT ?_
 rintro ⟨⟨⟨⟩,⟨(z:Bool),(t:List Int),⟨⟩⟩,⟨⟩⟩,⟨⟨⟨⟩,(v:Int),(e:Int),(f:Bool),⟨⟩⟩,⟨(b:List Int),(m:Int),⟨⟩⟩,⟨⟩⟩⟩ out hw ho
 obtain ⟨hg,ho⟩:=Tr.guard ho
 obtain ⟨hg,ht⟩:=Bool.and_eq_true_iff.1 hg
 have ht:t.length≤2147483647:=of_decide_eq_true ht
 obtain ⟨rfl,hb⟩:=bx hg
 cases ho
 refine (UJ z t v e f b 130048).trans ?_
 unfold Ch
 have g:(decide ((130048:Int)=130048)&&decide (b.length≤130048))=true:=by simpa using hb
 show _=some (Out.ret ((),ch v (bV (z,(t,())) (e,f,b))))
 unfold bV
 rw[g]
 simp only[cond_true]
 cases z
 ·simp only[cond_false,Bool.false_eq_true,false_and,if_false]
  exact St t (aA (s:=(e,f,b)) _ 4 hb) (by omega)
 ·by_cases h:0<t.length
  ·rw[aa (by rfl),aa (by simpa using h),if_pos ⟨rfl,h⟩]
  ·rw[aa (by rfl),ab (by simpa using h),if_neg (fun c=>h c.2),if_pos rfl]
   rfl
abbrev mm:Io:=⟨[dI],[],rS,[.ptr 0 0],none⟩
def bc (v:Int):Int:=if v<0∨3<v then 8 else 0
def BR (d:mm.In):Tr mm.Res:=.ret (.ret (((),()),ch d.1.1 (bc d.1.1,(false,([]:List Int)))))
abbrev Sb:List (Nat×Hc):=[(46,ah nP Gy),(194,ah cJ gI)]
def ZV:Hd:=bz Sb
def Tw:Lp:=bo []
def GS (a0:Int):Option mm.Res:=bif decide (a0<0) then some (Out.ret (((),()),((),a0,8,false,()),([],130048,()),())) else bif decide (3<a0) then some (Out.ret (((),()),((),a0,8,false,()),([],130048,()),())) else some (Out.ret (((),()),((),a0,0,false,()),([],ao (an 130048 0) 1048576,()),()))
theorem XO (a0:Int):Io.run tt ZV dr Tw mm Tryz.f93 ((a0,()),())=GS a0:=by kernel_rfl
theorem jM:HcOk prog 93 (ah mm BR):=by
 refine aj (n:=400) hm (cs:=Sb) (.cons K3 (.cons fv .nil)) (lp:=Tw) (fn:=Tryz.f93) (by kernel_rfl) (by kernel_rfl) (by kernel_rfl) mm (.done (by kernel_rfl)) BR ?_
 rintro ⟨⟨(v:Int),⟨⟩⟩,⟨⟩⟩ out hw ho
 cases ho
 refine (XO v).trans ?_
 unfold GS
 have e:ao (an 130048 0) 1048576=130048:=by decide
 show _=some (Out.ret (((),()),ch v (if v<0∨3<v then 8 else 0,(false,([]:List Int)))))
 by_cases h1:v<0
 ·rw[aa (by simpa using h1),if_pos (.inl h1)]
 ·rw[ab (by simpa using h1)]
  by_cases h2:3<v
  ·rw[aa (by simpa using h2),if_pos (.inr h2)]
  ·rw[ab (by simpa using h2),if_neg (by omega),e]
abbrev jq:Io:=⟨[.ptr 0 0],rS,[],[dO,dI],none⟩
def bw (s:aW):Int:=if s.1=0 then (if s.2.1=true then 4 else 0) else s.1
def bP (s:aW):List Int:=if bw s=0 then s.2.2 else []
def uA (d:jq.In):Tr jq.Res:=.ite (fB d.2) (.ret (.ret ((bP (fC d.2),(bw (fC d.2),())),ch d.2.1.2.1 (bw (fC d.2),(d.2.1.2.2.2.1,d.2.2.1.1))))) .no
abbrev MX:List (Nat×Hc):=[(50,ah iz sC)]
def WD:Hd:=bz MX
def NE:Lp:=bo []
def Ci (a0 a1:Int)(a2:Bool)(a3:List Int)(a4:Int):Option jq.Res:=bif a1 == 0 then bif a2 then some (Out.ret (([],4,()),((),a0,4,a2,()),(a3,a4,()),())) else bif a1 != 0 then some (Out.ret (([],a1,()),((),a0,a1,a2,()),(a3,a4,()),())) else bif decide (a3.length≤4294967296) then some (Out.ret ((a3,0,()),((),a0,a1,a2,()),(a3,a4,()),())) else none else bif a1 != 0 then some (Out.ret (([],a1,()),((),a0,a1,a2,()),(a3,a4,()),())) else bif decide (a3.length≤4294967296) then some (Out.ret ((a3,0,()),((),a0,a1,a2,()),(a3,a4,()),())) else none
theorem UK (a0 a1:Int)(a2:Bool)(a3:List Int)(a4:Int):Io.run tt WD dr NE jq Tryz.f105 (((),()),((),a0,a1,a2,()),(a3,a4,()),())=Ci a0 a1 a2 a3 a4:=by kernel_rfl
theorem gD:HcOk prog 105 (ah jq uA):=by
 refine aj (n:=400) hm (cs:=MX) (.cons z8 .nil) (lp:=NE) (fn:=Tryz.f105) (by kernel_rfl) (by kernel_rfl) (by kernel_rfl) jq (.done (by kernel_rfl)) uA ?_
 rintro ⟨⟨⟨⟩,⟨⟩⟩,⟨⟨⟨⟩,(v:Int),(e:Int),(f:Bool),⟨⟩⟩,⟨(b:List Int),(m:Int),⟨⟩⟩,⟨⟩⟩⟩ out hw ho
 obtain ⟨hg,ho⟩:=Tr.guard ho
 obtain ⟨rfl,hb⟩:=bx hg
 cases ho
 refine (UK v e f b 130048).trans ?_
 unfold Ci
 unfold bP
 show _=some (Out.ret (((if bw (e,f,b)=0 then b else []:List Int),(bw (e,f,b),())),ch v (bw (e,f,b),(f,b))))
 have g:decide (b.length≤4294967296)=true:=by simp;omega
 unfold bw
 rw[g]
 simp only[cond_true]
 by_cases h:e=0
 ·subst h
  cases f
  ·rw[aa (by rfl),ab (by rfl),ab (by rfl)];rfl
  ·rw[aa (by rfl),aa (by rfl)];rfl
 ·rw[ab (by simpa using h),aa (by simpa using h),if_neg h,if_neg h]
abbrev oN:List (List Sh):=[[.ptr 1 0,dI,dI],[dL,dI]]
abbrev wG:List (List Sh):=[[.nil,dI,dI]]
abbrev abv:List (List Sh):=[[.ptr 1 0,dI,dI],[dL,dI],[.ptr 0 0],[dI]]
abbrev abw:List (List Sh):=[[.ptr 2 0],[dI],[.ptr 3 0,dI,dI],[dL,dI]]
abbrev aN:Type:=Int×Int
abbrev eG (d:kt oN):aN:=(d.1.2.2.1,d.2.1.2.1)
abbrev dc (v:Int)(b:List Int)(s:aN):kt oN:=(((),(v,(s.1,()))),((b,(s.2,())),()))
def au (b:List Int)(p:Int):Bool:=decide (b.length≤130048)&&(decide (0≤p)&&decide (p≤(b.length:Int)))
abbrev o6 (d:kt oN):Bool:=au d.2.1.1 d.2.1.2.1
def ae (k:IntKind)(n:Nat)(b:List Int)(s:aN):Int×aN:=if s.1=0 then (k.wrap (al b s.2 n).1,((al b s.2 n).2.2,(al b s.2 n).2.1)) else (0,s)
def bO (b:List Int)(n:Int)(s:aN):List Int×aN:=if s.1=0 then (if n<0 then ([],(5,s.2)) else ((aR b s.2 n).1,((aR b s.2 n).2.2,(aR b s.2 n).2.1))) else ([],s)
def ju (n:Int)(s:aN):aN:=if 255<n then (4,s.2) else s
def dV (b:List Int)(n:Int)(s:aN):List Int×aN:=if (ca (bO b n (ju n s)).1).2=true then bO b n (ju n s) else ([],(6,(bO b n (ju n s)).2.2))
theorem pH {b:List Int}{p:Int}(h:au b p=true):bi b p=true:=by
 simp only[au,bi,Bool.and_eq_true,decide_eq_true_eq] at h ⊢
 exact ⟨by omega,h.2⟩
theorem Yg {b:List Int}{p:Int}(n:Nat)(h:au b p=true):au b (al b p n).2.1=true:=by
 unfold al
 split
 ·exact h
 ·simp only[au,Bool.and_eq_true,decide_eq_true_eq] at h ⊢
  exact ⟨h.1,by omega,by omega⟩
theorem L4 {b:List Int}{p:Int}(n:Int)(h:au b p=true):au b (aR b p n).2.1=true:=by
 unfold aR
 split
 ·exact h
 ·split
  ·exact h
  ·simp only[au,Bool.and_eq_true,decide_eq_true_eq] at h ⊢
   exact ⟨h.1,by omega,by omega⟩
theorem bF {b:List Int}{s:aN}(k:IntKind)(n:Nat)(h:au b s.2=true):au b (ae k n b s).2.2=true:=by
 unfold ae
 split
 ·exact Yg n h
 ·exact h
theorem Vu (b:List Int)(n:Nat)(s:aN):IntKind.i64.wrap (ae .i16 n b s).1=(ae .i16 n b s).1:=by
 unfold ae
 split
 ·have h:=ej .i16 (al b s.2 n).1
  simp only[eE,IntKind.min,IntKind.max,IntKind.signed,IntKind.bits] at h
  exact az (by simp at h;omega) (by simp at h;omega)
 ·rfl
theorem AG {b:List Int}{s:aN}(n:Int)(h:au b s.2=true):au b (bO b n s).2.2=true:=by
 unfold bO
 split
 ·split
  ·exact h
  ·exact L4 n h
 ·exact h
theorem AF {b:List Int}{s:aN}(n:Int)(h:au b s.2=true):au b (ju n s).2=true:=by
 unfold ju
 split <;> exact h
theorem LS {b:List Int}{s:aN}(n:Int)(h:au b s.2=true):au b (dV b n s).2.2=true:=by
 unfold dV
 split
 ·exact AG n (AF n h)
 ·exact AG n (AF n h)
abbrev rz:Io:=⟨[.ptr 0 0,.fnc 136 true [1]],oN,[],[Kn],none⟩
def Q5 (d:rz.In):Tr rz.Res:=.ite (o6 d.2) (.ret (.ret ((IntKind.i16.wrap (al d.2.2.1.1 d.2.2.1.2.1 2).1,()),dc d.2.1.2.1 d.2.2.1.1 ((al d.2.2.1.1 d.2.2.1.2.1 2).2.2,(al d.2.2.1.1 d.2.2.1.2.1 2).2.1)))) .no
abbrev RU:List (Nat×Hc):=[(136,ah j3 yd)]
def ZM:Hd:=bz RU
def Tm:Lp:=bo []
def GM (a0 a1:Int)(a2:List Int)(a3:Int):Option rz.Res:=bif bi a2 a3 then some (Out.ret ((IntKind.i16.wrap (al a2 a3 2).1,()),((),a0,(al a2 a3 2).2.2,()),(a2,(al a2 a3 2).2.1,()),())) else none
theorem XF (a0 a1:Int)(a2:List Int)(a3:Int):Io.run tt ZM dr Tm rz Tryz.f200 (((),(),()),((),a0,a1,()),(a2,a3,()),())=GM a0 a1 a2 a3:=by kernel_rfl
theorem Z9:HcOk prog 200 (ah rz Q5):=by
 refine aj (n:=400) hm (cs:=RU) (.cons FP .nil) (lp:=Tm) (fn:=Tryz.f200) (by kernel_rfl) (by kernel_rfl) (by kernel_rfl) rz (.done (by kernel_rfl)) Q5 ?_
 rintro ⟨⟨⟨⟩,⟨⟩,⟨⟩⟩,⟨⟨⟩,(v:Int),(e:Int),⟨⟩⟩,⟨(b:List Int),(p:Int),⟨⟩⟩,⟨⟩⟩ out hw ho
 obtain ⟨hg,ho⟩:=Tr.guard ho
 have hg:au b p=true:=hg
 cases ho
 refine (XF v e b p).trans ?_
 unfold GM
 exact aa (pH hg) _ _
abbrev rA:Io:=⟨[.ptr 0 0,.fnc 74 true [1]],oN,[],[OJ],none⟩
def Q6 (d:rA.In):Tr rA.Res:=.ite (o6 d.2) (.ret (.ret ((IntKind.i32.wrap (al d.2.2.1.1 d.2.2.1.2.1 4).1,()),dc d.2.1.2.1 d.2.2.1.1 ((al d.2.2.1.1 d.2.2.1.2.1 4).2.2,(al d.2.2.1.1 d.2.2.1.2.1 4).2.1)))) .no
abbrev RV:List (Nat×Hc):=[(74,ah j4 yf)]
def ZN:Hd:=bz RV
def Tn:Lp:=bo []
def GN (a0 a1:Int)(a2:List Int)(a3:Int):Option rA.Res:=bif bi a2 a3 then some (Out.ret ((IntKind.i32.wrap (al a2 a3 4).1,()),((),a0,(al a2 a3 4).2.2,()),(a2,(al a2 a3 4).2.1,()),())) else none
theorem XG (a0 a1:Int)(a2:List Int)(a3:Int):Io.run tt ZN dr Tn rA Tryz.f201 (((),(),()),((),a0,a1,()),(a2,a3,()),())=GN a0 a1 a2 a3:=by kernel_rfl
theorem aaa:HcOk prog 201 (ah rA Q6):=by
 refine aj (n:=400) hm (cs:=RV) (.cons FQ .nil) (lp:=Tn) (fn:=Tryz.f201) (by kernel_rfl) (by kernel_rfl) (by kernel_rfl) rA (.done (by kernel_rfl)) Q6 ?_
 rintro ⟨⟨⟨⟩,⟨⟩,⟨⟩⟩,⟨⟨⟩,(v:Int),(e:Int),⟨⟩⟩,⟨(b:List Int),(p:Int),⟨⟩⟩,⟨⟩⟩ out hw ho
 obtain ⟨hg,ho⟩:=Tr.guard ho
 have hg:au b p=true:=hg
 cases ho
 refine (XG v e b p).trans ?_
 unfold GN
 exact aa (pH hg) _ _
abbrev rB:Io:=⟨[.ptr 0 0,.fnc 207 true [1]],oN,[],[Ko],none⟩
def Q7 (d:rB.In):Tr rB.Res:=.ite (o6 d.2) (.ret (.ret ((IntKind.i64.wrap (al d.2.2.1.1 d.2.2.1.2.1 8).1,()),dc d.2.1.2.1 d.2.2.1.1 ((al d.2.2.1.1 d.2.2.1.2.1 8).2.2,(al d.2.2.1.1 d.2.2.1.2.1 8).2.1)))) .no
abbrev RW:List (Nat×Hc):=[(207,ah nM JZ)]
def ZO:Hd:=bz RW
def To:Lp:=bo []
def GO (a0 a1:Int)(a2:List Int)(a3:Int):Option rB.Res:=bif bi a2 a3 then some (Out.ret ((IntKind.i64.wrap (al a2 a3 8).1,()),((),a0,(al a2 a3 8).2.2,()),(a2,(al a2 a3 8).2.1,()),())) else none
theorem XH (a0 a1:Int)(a2:List Int)(a3:Int):Io.run tt ZO dr To rB Tryz.f206 (((),(),()),((),a0,a1,()),(a2,a3,()),())=GO a0 a1 a2 a3:=by kernel_rfl
theorem aab:HcOk prog 206 (ah rB Q7):=by
 refine aj (n:=400) hm (cs:=RW) (.cons Xk .nil) (lp:=To) (fn:=Tryz.f206) (by kernel_rfl) (by kernel_rfl) (by kernel_rfl) rB (.done (by kernel_rfl)) Q7 ?_
 rintro ⟨⟨⟨⟩,⟨⟩,⟨⟩⟩,⟨⟨⟩,(v:Int),(e:Int),⟨⟩⟩,⟨(b:List Int),(p:Int),⟨⟩⟩,⟨⟩⟩ out hw ho
 obtain ⟨hg,ho⟩:=Tr.guard ho
 have hg:au b p=true:=hg
 cases ho
 refine (XH v e b p).trans ?_
 unfold GO
 exact aa (pH hg) _ _
abbrev zr:Io:=⟨[.ptr 0 0,.ptr 1 0],abw,[],[dO,dI],none⟩
def Zi (d:zr.In):Tr zr.Res:=.ite (au d.2.2.2.2.1.1 d.2.2.2.2.1.2.1) (.ret (.ret (((aR d.2.2.2.2.1.1 d.2.2.2.2.1.2.1 d.2.2.1.1).1,((aR d.2.2.2.2.1.1 d.2.2.2.2.1.2.1 d.2.2.1.1).2.2,())),(((),()),(d.2.2.1,(d.2.2.2.1,((d.2.2.2.2.1.1,((aR d.2.2.2.2.1.1 d.2.2.2.2.1.2.1 d.2.2.1.1).2.1,())),()))))))) .no
abbrev YI:List (Nat×Hc):=[(63,ah gq pV)]
def abp:Hd:=bz YI
def YV:Lp:=bo []
def ME (a0 a1 a2:Int)(a3:List Int)(a4:Int):Option zr.Res:=bif bi a3 a4 then some (Out.ret (((aR a3 a4 a0).1,(aR a3 a4 a0).2.2,()),((),()),(a0,()),((),a1,a2,()),(a3,(aR a3 a4 a0).2.1,()),())) else none
theorem aam (a0 a1 a2:Int)(a3:List Int)(a4:Int):Io.run tt abp dr YV zr Tryz.f214 (((),(),()),((),()),(a0,()),((),a1,a2,()),(a3,a4,()),())=ME a0 a1 a2 a3 a4:=by kernel_rfl
theorem abB:HcOk prog 214 (ah zr Zi):=by
 refine aj (n:=400) hm (cs:=YI) (.cons tI .nil) (lp:=YV) (fn:=Tryz.f214) (by kernel_rfl) (by kernel_rfl) (by kernel_rfl) zr (.done (by kernel_rfl)) Zi ?_
 rintro ⟨⟨⟨⟩,⟨⟩,⟨⟩⟩,⟨⟨⟩,⟨⟩⟩,⟨(n:Int),⟨⟩⟩,⟨⟨⟩,(v:Int),(e:Int),⟨⟩⟩,⟨(b:List Int),(p:Int),⟨⟩⟩,⟨⟩⟩ out hw ho
 obtain ⟨hg,ho⟩:=Tr.guard ho
 have hg:au b p=true:=hg
 cases ho
 refine (aam n v e b p).trans ?_
 unfold ME
 exact aa (pH hg) _ _
abbrev zp:Io:=⟨[.ptr 0 0,.fnc 214 false [2,3]],abv,[],[dO],none⟩
def Zg (d:zp.In):Tr zp.Res:=.ite (au d.2.2.1.1 d.2.2.1.2.1) (.ret (.ret (((aR d.2.2.1.1 d.2.2.1.2.1 d.2.2.2.2.1.1).1,()),(((),(d.2.1.2.1,((aR d.2.2.1.1 d.2.2.1.2.1 d.2.2.2.2.1.1).2.2,()))),((d.2.2.1.1,((aR d.2.2.1.1 d.2.2.1.2.1 d.2.2.2.2.1.1).2.1,())),(((),()),(d.2.2.2.2.1,()))))))) .no
abbrev YH:List (Nat×Hc):=[(214,ah zr Zi)]
def abo:Hd:=bz YH
def YU:Lp:=bo []
def MC (a0 a1:Int)(a2:List Int)(a3 a4:Int):Option zp.Res:=bif au a2 a3 then some (Out.ret (((aR a2 a3 a4).1,()),((),a0,(aR a2 a3 a4).2.2,()),(a2,(aR a2 a3 a4).2.1,()),((),()),(a4,()),())) else none
theorem aak (a0 a1:Int)(a2:List Int)(a3 a4:Int):Io.run tt abo dr YU zp Tryz.f213 (((),(),()),((),a0,a1,()),(a2,a3,()),((),()),(a4,()),())=MC a0 a1 a2 a3 a4:=by kernel_rfl
theorem abz:HcOk prog 213 (ah zp Zg):=by
 refine aj (n:=400) hm (cs:=YH) (.cons abB .nil) (lp:=YU) (fn:=Tryz.f213) (by kernel_rfl) (by kernel_rfl) (by kernel_rfl) zp (.done (by kernel_rfl)) Zg ?_
 rintro ⟨⟨⟨⟩,⟨⟩,⟨⟩⟩,⟨⟨⟩,(v:Int),(e:Int),⟨⟩⟩,⟨(b:List Int),(p:Int),⟨⟩⟩,⟨⟨⟩,⟨⟩⟩,⟨(n:Int),⟨⟩⟩,⟨⟩⟩ out hw ho
 obtain ⟨hg,ho⟩:=Tr.guard ho
 have hg:au b p=true:=hg
 cases ho
 refine (aak v e b p n).trans ?_
 unfold MC
 exact aa hg _ _
abbrev pc:Io:=⟨[.ptr 0 0],oN,[],[Kn],none⟩
def Mn (d:pc.In):Tr pc.Res:=.ite (o6 d.2) (.ret (.ret (((ae .i16 2 d.2.2.1.1 (eG d.2)).1,()),dc d.2.1.2.1 d.2.2.1.1 (ae .i16 2 d.2.2.1.1 (eG d.2)).2))) .no
abbrev RQ:List (Nat×Hc):=[(200,ah rz Q5)]
def ZI:Hd:=bz RQ
def Ti:Lp:=bo []
def GI (a0 a1:Int)(a2:List Int)(a3:Int):Option pc.Res:=bif a1 != 0 then some (Out.ret ((0,()),((),a0,a1,()),(a2,a3,()),())) else bif au a2 a3 then some (Out.ret ((IntKind.i16.wrap (al a2 a3 2).1,()),((),a0,(al a2 a3 2).2.2,()),(a2,(al a2 a3 2).2.1,()),())) else none
theorem XB (a0 a1:Int)(a2:List Int)(a3:Int):Io.run tt ZI dr Ti pc Tryz.f142 (((),()),((),a0,a1,()),(a2,a3,()),())=GI a0 a1 a2 a3:=by kernel_rfl
theorem TV:HcOk prog 142 (ah pc Mn):=by
 refine aj (n:=400) hm (cs:=RQ) (.cons Z9 .nil) (lp:=Ti) (fn:=Tryz.f142) (by kernel_rfl) (by kernel_rfl) (by kernel_rfl) pc (.done (by kernel_rfl)) Mn ?_
 rintro ⟨⟨⟨⟩,⟨⟩⟩,⟨⟨⟩,(v:Int),(e:Int),⟨⟩⟩,⟨(b:List Int),(p:Int),⟨⟩⟩,⟨⟩⟩ out hw ho
 obtain ⟨hg,ho⟩:=Tr.guard ho
 have hg:au b p=true:=hg
 cases ho
 refine (XB v e b p).trans ?_
 unfold GI
 show _=some (Out.ret (((ae .i16 2 b (e,p)).1,()),dc v b (ae .i16 2 b (e,p)).2))
 unfold ae
 by_cases h:e=0
 ·rw[if_pos h]
  refine (ab (by simpa using h) _ _).trans ?_
  exact aa hg _ _
 ·rw[if_neg h]
  exact aa (by simpa using h) _ _
abbrev fF:Io:=⟨[.ptr 0 0],oN,[],[OJ],none⟩
def mG (d:fF.In):Tr fF.Res:=.ite (o6 d.2) (.ret (.ret (((ae .i32 4 d.2.2.1.1 (eG d.2)).1,()),dc d.2.1.2.1 d.2.2.1.1 (ae .i32 4 d.2.2.1.1 (eG d.2)).2))) .no
abbrev RR:List (Nat×Hc):=[(201,ah rA Q6)]
def ZJ:Hd:=bz RR
def Tj:Lp:=bo []
def GJ (a0 a1:Int)(a2:List Int)(a3:Int):Option fF.Res:=bif a1 != 0 then some (Out.ret ((0,()),((),a0,a1,()),(a2,a3,()),())) else bif au a2 a3 then some (Out.ret ((IntKind.i32.wrap (al a2 a3 4).1,()),((),a0,(al a2 a3 4).2.2,()),(a2,(al a2 a3 4).2.1,()),())) else none
theorem XC (a0 a1:Int)(a2:List Int)(a3:Int):Io.run tt ZJ dr Tj fF Tryz.f143 (((),()),((),a0,a1,()),(a2,a3,()),())=GJ a0 a1 a2 a3:=by kernel_rfl
theorem jL:HcOk prog 143 (ah fF mG):=by
 refine aj (n:=400) hm (cs:=RR) (.cons aaa .nil) (lp:=Tj) (fn:=Tryz.f143) (by kernel_rfl) (by kernel_rfl) (by kernel_rfl) fF (.done (by kernel_rfl)) mG ?_
 rintro ⟨⟨⟨⟩,⟨⟩⟩,⟨⟨⟩,(v:Int),(e:Int),⟨⟩⟩,⟨(b:List Int),(p:Int),⟨⟩⟩,⟨⟩⟩ out hw ho
 obtain ⟨hg,ho⟩:=Tr.guard ho
 have hg:au b p=true:=hg
 cases ho
 refine (XC v e b p).trans ?_
 unfold GJ
 show _=some (Out.ret (((ae .i32 4 b (e,p)).1,()),dc v b (ae .i32 4 b (e,p)).2))
 unfold ae
 by_cases h:e=0
 ·rw[if_pos h]
  refine (ab (by simpa using h) _ _).trans ?_
  exact aa hg _ _
 ·rw[if_neg h]
  exact aa (by simpa using h) _ _
abbrev nw:Io:=⟨[.ptr 0 0],oN,[],[Ko],none⟩
def Gs (d:nw.In):Tr nw.Res:=.ite (o6 d.2) (.ret (.ret (((ae .i64 8 d.2.2.1.1 (eG d.2)).1,()),dc d.2.1.2.1 d.2.2.1.1 (ae .i64 8 d.2.2.1.1 (eG d.2)).2))) .no
abbrev RS:List (Nat×Hc):=[(206,ah rB Q7)]
def ZK:Hd:=bz RS
def Tk:Lp:=bo []
def GK (a0 a1:Int)(a2:List Int)(a3:Int):Option nw.Res:=bif a1 != 0 then some (Out.ret ((0,()),((),a0,a1,()),(a2,a3,()),())) else bif au a2 a3 then some (Out.ret ((IntKind.i64.wrap (al a2 a3 8).1,()),((),a0,(al a2 a3 8).2.2,()),(a2,(al a2 a3 8).2.1,()),())) else none
theorem XD (a0 a1:Int)(a2:List Int)(a3:Int):Io.run tt ZK dr Tk nw Tryz.f156 (((),()),((),a0,a1,()),(a2,a3,()),())=GK a0 a1 a2 a3:=by kernel_rfl
theorem FJ:HcOk prog 156 (ah nw Gs):=by
 refine aj (n:=400) hm (cs:=RS) (.cons aab .nil) (lp:=Tk) (fn:=Tryz.f156) (by kernel_rfl) (by kernel_rfl) (by kernel_rfl) nw (.done (by kernel_rfl)) Gs ?_
 rintro ⟨⟨⟨⟩,⟨⟩⟩,⟨⟨⟩,(v:Int),(e:Int),⟨⟩⟩,⟨(b:List Int),(p:Int),⟨⟩⟩,⟨⟩⟩ out hw ho
 obtain ⟨hg,ho⟩:=Tr.guard ho
 have hg:au b p=true:=hg
 cases ho
 refine (XD v e b p).trans ?_
 unfold GK
 show _=some (Out.ret (((ae .i64 8 b (e,p)).1,()),dc v b (ae .i64 8 b (e,p)).2))
 unfold ae
 by_cases h:e=0
 ·rw[if_pos h]
  refine (ab (by simpa using h) _ _).trans ?_
  exact aa hg _ _
 ·rw[if_neg h]
  exact aa (by simpa using h) _ _
abbrev lK:Io:=⟨[.ptr 0 0,dI],oN,[],[dO],none⟩
def Ec (d:lK.In):Tr lK.Res:=.ite (o6 d.2) (.ret (.ret (((bO d.2.2.1.1 d.1.2.1 (eG d.2)).1,()),dc d.2.1.2.1 d.2.2.1.1 (bO d.2.2.1.1 d.1.2.1 (eG d.2)).2))) .no
abbrev MU:List (Nat×Hc):=[(213,ah zp Zg)]
def WA:Hd:=bz MU
def NB:Lp:=bo []
def Cf (a0 a1 a2:Int)(a3:List Int)(a4:Int):Option lK.Res:=bif a2 == 0 then bif decide (a0<0) then some (Out.ret (([],()),((),a1,5,()),(a3,a4,()),())) else bif a2 != 0 then some (Out.ret (([],()),((),a1,a2,()),(a3,a4,()),())) else bif au a3 a4 then some (Out.ret (((aR a3 a4 a0).1,()),((),a1,(aR a3 a4 a0).2.2,()),(a3,(aR a3 a4 a0).2.1,()),())) else none else bif a2 != 0 then some (Out.ret (([],()),((),a1,a2,()),(a3,a4,()),())) else bif au a3 a4 then some (Out.ret (((aR a3 a4 a0).1,()),((),a1,(aR a3 a4 a0).2.2,()),(a3,(aR a3 a4 a0).2.1,()),())) else none
theorem UH (a0 a1 a2:Int)(a3:List Int)(a4:Int):Io.run tt WA dr NB lK Tryz.f202 (((),a0,()),((),a1,a2,()),(a3,a4,()),())=Cf a0 a1 a2 a3 a4:=by kernel_rfl
theorem N4:HcOk prog 202 (ah lK Ec):=by
 refine aj (n:=400) hm (cs:=MU) (.cons abz .nil) (lp:=NB) (fn:=Tryz.f202) (by kernel_rfl) (by kernel_rfl) (by kernel_rfl) lK (.done (by kernel_rfl)) Ec ?_
 rintro ⟨⟨⟨⟩,(n:Int),⟨⟩⟩,⟨⟨⟩,(v:Int),(e:Int),⟨⟩⟩,⟨(b:List Int),(p:Int),⟨⟩⟩,⟨⟩⟩ out hw ho
 obtain ⟨hg,ho⟩:=Tr.guard ho
 have hg:au b p=true:=hg
 cases ho
 refine (UH n v e b p).trans ?_
 unfold Cf
 show _=some (Out.ret (((bO b n (e,p)).1,()),dc v b (bO b n (e,p)).2))
 unfold bO
 by_cases h:e=0
 ·rw[if_pos h]
  refine (aa (by simpa using h) _ _).trans ?_
  by_cases h2:n<0
  ·rw[if_pos h2]
   exact aa (by simpa using h2) _ _
  ·rw[if_neg h2]
   refine (ab (by simpa using h2) _ _).trans ?_
   refine (ab (by simpa using h) _ _).trans ?_
   exact aa hg _ _
 ·rw[if_neg h]
  refine (ab (by simpa using h) _ _).trans ?_
  exact aa (by simpa using h) _ _
abbrev nv:Io:=⟨[.ptr 0 0],wG,[],[Kn],none⟩
def JR (d:nv.In):Tr nv.Res:=.ite (decide (d.2.1.2.2.1≠0)) (.ret (.ret ((0,()),d.2))) .no
abbrev MR:List (Nat×Hc):=[]
def Wx:Hd:=bz MR
def Nx:Lp:=bo []
def Cc (a0 a1:Int):Option nv.Res:=bif a1 != 0 then some (Out.ret ((0,()),((),a0,a1,()),())) else none
theorem UE (a0 a1:Int):Io.run tt Wx dr Nx nv Tryz.f142 (((),()),((),a0,a1,()),())=Cc a0 a1:=by kernel_rfl
theorem Xa:HcOk prog 142 (ah nv JR):=by
 refine aj (n:=400) hm (cs:=MR) HcsOk.nil (lp:=Nx) (fn:=Tryz.f142) (by kernel_rfl) (by kernel_rfl) (by kernel_rfl) nv (.done (by kernel_rfl)) JR ?_
 rintro ⟨⟨⟨⟩,⟨⟩⟩,⟨⟨⟩,(v:Int),(e:Int),⟨⟩⟩,⟨⟩⟩ out hw ho
 obtain ⟨hg,ho⟩:=Tr.guard ho
 have hg:e≠0:=of_decide_eq_true hg
 cases ho
 refine (UE v e).trans ?_
 unfold Cc
 exact aa (by simpa using hg) _ _
abbrev jp:Io:=⟨[.ptr 0 0],wG,[],[OJ],none⟩
def uw (d:jp.In):Tr jp.Res:=.ite (decide (d.2.1.2.2.1≠0)) (.ret (.ret ((0,()),d.2))) .no
abbrev MS:List (Nat×Hc):=[]
def Wy:Hd:=bz MS
def Ny:Lp:=bo []
def Cd (a0 a1:Int):Option jp.Res:=bif a1 != 0 then some (Out.ret ((0,()),((),a0,a1,()),())) else none
theorem UF (a0 a1:Int):Io.run tt Wy dr Ny jp Tryz.f143 (((),()),((),a0,a1,()),())=Cd a0 a1:=by kernel_rfl
theorem xG:HcOk prog 143 (ah jp uw):=by
 refine aj (n:=400) hm (cs:=MS) HcsOk.nil (lp:=Ny) (fn:=Tryz.f143) (by kernel_rfl) (by kernel_rfl) (by kernel_rfl) jp (.done (by kernel_rfl)) uw ?_
 rintro ⟨⟨⟨⟩,⟨⟩⟩,⟨⟨⟩,(v:Int),(e:Int),⟨⟩⟩,⟨⟩⟩ out hw ho
 obtain ⟨hg,ho⟩:=Tr.guard ho
 have hg:e≠0:=of_decide_eq_true hg
 cases ho
 refine (UF v e).trans ?_
 unfold Cd
 exact aa (by simpa using hg) _ _
abbrev jA:Io:=⟨[.ptr 0 0,dI],wG,[],[dO],none⟩
def xi (d:jA.In):Tr jA.Res:=.ite (decide (d.2.1.2.2.1≠0)) (.ret (.ret ((([]:List Int),()),d.2))) .no
abbrev Hj:List (Nat×Hc):=[]
def SH:Hd:=bz Hj
def Ig:Lp:=bo []
def yv (a0 a1 a2:Int):Option jA.Res:=bif a2 == 0 then bif decide (a0<0) then some (Out.ret (([],()),((),a1,5,()),())) else bif a2 != 0 then some (Out.ret (([],()),((),a1,a2,()),())) else none else bif a2 != 0 then some (Out.ret (([],()),((),a1,a2,()),())) else none
theorem PJ (a0 a1 a2:Int):Io.run tt SH dr Ig jA Tryz.f202 (((),a0,()),((),a1,a2,()),())=yv a0 a1 a2:=by kernel_rfl
theorem IG:HcOk prog 202 (ah jA xi):=by
 refine aj (n:=400) hm (cs:=Hj) HcsOk.nil (lp:=Ig) (fn:=Tryz.f202) (by kernel_rfl) (by kernel_rfl) (by kernel_rfl) jA (.done (by kernel_rfl)) xi ?_
 rintro ⟨⟨⟨⟩,(n:Int),⟨⟩⟩,⟨⟨⟩,(v:Int),(e:Int),⟨⟩⟩,⟨⟩⟩ out hw ho
 obtain ⟨hg,ho⟩:=Tr.guard ho
 have hg:e≠0:=of_decide_eq_true hg
 cases ho
 refine (PJ n v e).trans ?_
 unfold yv
 refine (ab (by simpa using hg) _ _).trans ?_
 exact aa (by simpa using hg) _ _
abbrev nx:Io:=⟨[.ptr 0 0,dI],oN,[],[.dat .str false false],none⟩
def JS (d:nx.In):Tr nx.Res:=.ite (o6 d.2) (.ret (.ret (((dV d.2.2.1.1 d.1.2.1 (eG d.2)).1,()),dc d.2.1.2.1 d.2.2.1.1 (dV d.2.2.1.1 d.1.2.1 (eG d.2)).2))) .no
abbrev MV:List (Nat×Hc):=[(202,n7 kx (ah jA xi) (ah lK Ec)),(92,ah mq BW)]
def WB:Hd:=bz MV
def NC:Lp:=bo []
def Cg (a0 a1 a2:Int)(a3:List Int)(a4:Int):Option nx.Res:=bif decide (255<a0) then bif au a3 a4 then some (Out.ret (([],()),((),a1,4,()),(a3,a4,()),())) else none else bif au a3 a4 then bif !(ca (bO a3 a0 (a2,a4)).1).2 then some (Out.ret ((List.map (fun (c:UInt8)=>(↑c.toNat:Int)) [],()),((),a1,6,()),(a3,(bO a3 a0 (a2,a4)).2.2,()),())) else some (Out.ret (((bO a3 a0 (a2,a4)).1,()),((),a1,(bO a3 a0 (a2,a4)).2.1,()),(a3,(bO a3 a0 (a2,a4)).2.2,()),())) else none
theorem UI (a0 a1 a2:Int)(a3:List Int)(a4:Int):Io.run tt WB dr NC nx Tryz.f199 (((),a0,()),((),a1,a2,()),(a3,a4,()),())=Cg a0 a1 a2 a3 a4:=by kernel_rfl
theorem Xb:HcOk prog 199 (ah nx JS):=by
 refine aj (n:=400) hm (cs:=MV) (.cons (cM IG N4) (.cons FO .nil)) (lp:=NC) (fn:=Tryz.f199) (by kernel_rfl) (by kernel_rfl) (by kernel_rfl) nx (.done (by kernel_rfl)) JS ?_
 rintro ⟨⟨⟨⟩,(n:Int),⟨⟩⟩,⟨⟨⟩,(v:Int),(e:Int),⟨⟩⟩,⟨(b:List Int),(p:Int),⟨⟩⟩,⟨⟩⟩ out hw ho
 obtain ⟨hg,ho⟩:=Tr.guard ho
 have hg:au b p=true:=hg
 cases ho
 refine (UI n v e b p).trans ?_
 unfold Cg
 show _=some (Out.ret (((dV b n (e,p)).1,()),dc v b (dV b n (e,p)).2))
 unfold dV ju
 by_cases h:255<n
 ·rw[if_pos h]
  refine (aa (by simpa using h) _ _).trans ?_
  refine (aa hg _ _).trans ?_
  have e1:bO b n (4,p)=([],(4,p)):=rfl
  rw[e1,if_pos (by rfl)]
 ·rw[if_neg h]
  refine (ab (by simpa using h) _ _).trans ?_
  refine (aa hg _ _).trans ?_
  cases hu:(ca (bO b n (e,p)).1).2
  ·rw[if_neg (by simp)]
   rfl
  ·rw[if_pos rfl]
   rfl
abbrev kF:Io:=⟨[.ptr 0 0,dI],wG,[],[.dat .str false false],none⟩
def Ed (d:kF.In):Tr kF.Res:=.ite (decide (d.2.1.2.2.1≠0)&&decide (d.1.2.1≤255)) (.ret (.ret ((([]:List Int),()),d.2))) .no
abbrev Hk:List (Nat×Hc):=[(202,n7 kx (ah jA xi) (ah lK Ec)),(92,ah mq BW)]
def SI:Hd:=bz Hk
def Ih:Lp:=bo []
def yw (a0 a1 a2:Int):Option kF.Res:=bif decide (255<a0) then some (Out.ret (([],()),((),a1,4,()),())) else bif decide (a2≠0) then some (Out.ret (([],()),((),a1,a2,()),())) else none
theorem PK (a0 a1 a2:Int):Io.run tt SI dr Ih kF Tryz.f199 (((),a0,()),((),a1,a2,()),())=yw a0 a1 a2:=by kernel_rfl
theorem TY:HcOk prog 199 (ah kF Ed):=by
 refine aj (n:=400) hm (cs:=Hk) (.cons (cM IG N4) (.cons FO .nil)) (lp:=Ih) (fn:=Tryz.f199) (by kernel_rfl) (by kernel_rfl) (by kernel_rfl) kF (.done (by kernel_rfl)) Ed ?_
 rintro ⟨⟨⟨⟩,(n:Int),⟨⟩⟩,⟨⟨⟩,(v:Int),(e:Int),⟨⟩⟩,⟨⟩⟩ out hw ho
 obtain ⟨hg,ho⟩:=Tr.guard ho
 obtain ⟨hg,h2⟩:=Bool.and_eq_true_iff.1 hg
 have hg:e≠0:=of_decide_eq_true hg
 have h2:n≤255:=of_decide_eq_true h2
 cases ho
 refine (PK n v e).trans ?_
 unfold yw
 refine (ab (by simp;omega) _ _).trans ?_
 exact aa (by simpa using hg) _ _
def cn (b:List Int)(s:aN):List Int×aN:=dV b (ae .i16 2 b s).1 (ae .i16 2 b s).2
abbrev pe:Io:=⟨[.ptr 0 0],oN,[],[.dat .str false false],none⟩
def Mp (d:pe.In):Tr pe.Res:=.ite (o6 d.2) (.ret (.ret (((cn d.2.2.1.1 (eG d.2)).1,()),dc d.2.1.2.1 d.2.2.1.1 (cn d.2.2.1.1 (eG d.2)).2))) .no
abbrev RZ:List (Nat×Hc):=[(142,n7 kx (ah nv JR) (ah pc Mn)),(199,n7 kx (ah kF Ed) (ah nx JS))]
def ZQ:Hd:=bz RZ
def Tq:Lp:=bo []
def GQ (a0 a1:Int)(a2:List Int)(a3:Int):Option pe.Res:=bif au a2 a3 then bif au a2 (ae IntKind.i16 2 a2 (a1,a3)).2.2 then some (Out.ret (((dV a2 (IntKind.i64.wrap (ae IntKind.i16 2 a2 (a1,a3)).1) (ae IntKind.i16 2 a2 (a1,a3)).2).1,()),((),a0,(dV a2 (IntKind.i64.wrap (ae IntKind.i16 2 a2 (a1,a3)).1) (ae IntKind.i16 2 a2 (a1,a3)).2).2.1,()),(a2,(dV a2 (IntKind.i64.wrap (ae IntKind.i16 2 a2 (a1,a3)).1) (ae IntKind.i16 2 a2 (a1,a3)).2).2.2,()),())) else none else none
theorem XJ (a0 a1:Int)(a2:List Int)(a3:Int):Io.run tt ZQ dr Tq pe Tryz.f146 (((),()),((),a0,a1,()),(a2,a3,()),())=GQ a0 a1 a2 a3:=by kernel_rfl
theorem TX:HcOk prog 146 (ah pe Mp):=by
 refine aj (n:=400) hm (cs:=RZ) (.cons (cM Xa TV) (.cons (cM TY Xb) .nil)) (lp:=Tq) (fn:=Tryz.f146) (by kernel_rfl) (by kernel_rfl) (by kernel_rfl) pe (.done (by kernel_rfl)) Mp ?_
 rintro ⟨⟨⟨⟩,⟨⟩⟩,⟨⟨⟩,(v:Int),(e:Int),⟨⟩⟩,⟨(b:List Int),(p:Int),⟨⟩⟩,⟨⟩⟩ out hw ho
 obtain ⟨hg,ho⟩:=Tr.guard ho
 have hg:au b p=true:=hg
 cases ho
 refine (XJ v e b p).trans ?_
 unfold GQ
 show _=some (Out.ret (((cn b (e,p)).1,()),dc v b (cn b (e,p)).2))
 rw[Vu]
 refine (aa hg _ _).trans ?_
 exact aa (bF .i16 2 (s:=(e,p)) hg) _ _
def qA (b:List Int)(s:aN):oA.den×aN:=if (ae .i32 4 b s).1 = -1 then ((true,(([]:List Int),())),(ae .i32 4 b s).2) else ((false,((bO b (ae .i32 4 b s).1 (ae .i32 4 b s).2).1,())),(bO b (ae .i32 4 b s).1 (ae .i32 4 b s).2).2)
def bg (v lo hi e:Int):Bool:=if e=0∧lo≤v∧v≤hi then true else false
abbrev mi:Io:=⟨[.ptr 0 0,dI,dI],oN,[],[dB],none⟩
def BN (d:mi.In):Tr mi.Res:=.ret (.ret ((bg d.2.1.2.1 d.1.2.1 d.1.2.2.1 d.2.1.2.2.1,()),d.2))
abbrev RP:List (Nat×Hc):=[]
def ZH:Hd:=bz RP
def Th:Lp:=bo []
def GH (a0 a1 a2 a3:Int)(a4:List Int)(a5:Int):Option mi.Res:=bif a3 == 0 then bif decide (a0≤a2) then some (Out.ret ((decide (a2≤a1),()),((),a2,a3,()),(a4,a5,()),())) else some (Out.ret ((false,()),((),a2,a3,()),(a4,a5,()),())) else some (Out.ret ((false,()),((),a2,a3,()),(a4,a5,()),()))
theorem XA (a0 a1 a2 a3:Int)(a4:List Int)(a5:Int):Io.run tt ZH dr Th mi Tryz.f140 (((),a0,a1,()),((),a2,a3,()),(a4,a5,()),())=GH a0 a1 a2 a3 a4 a5:=by kernel_rfl
theorem FI:HcOk prog 140 (ah mi BN):=by
 refine aj (n:=400) hm (cs:=RP) HcsOk.nil (lp:=Th) (fn:=Tryz.f140) (by kernel_rfl) (by kernel_rfl) (by kernel_rfl) mi (.done (by kernel_rfl)) BN ?_
 rintro ⟨⟨⟨⟩,(lo:Int),(hi:Int),⟨⟩⟩,⟨⟨⟩,(v:Int),(e:Int),⟨⟩⟩,⟨(b:List Int),(p:Int),⟨⟩⟩,⟨⟩⟩ out hw ho
 cases ho
 refine (XA lo hi v e b p).trans ?_
 unfold GH
 show _=some (Out.ret ((bg v lo hi e,()),dc v b (e,p)))
 have hs:bg v lo hi e=((e == 0)&&(decide (lo≤v)&&decide (v≤hi))):=by
  unfold bg
  by_cases h:e=0∧lo≤v∧v≤hi
  ·rw[if_pos h];simp[h]
  ·rw[if_neg h]
   rw[eq_comm,Bool.eq_false_iff]
   intro h'
   simp only[Bool.and_eq_true,beq_iff_eq,decide_eq_true_eq] at h'
   exact h h'
 rw[hs]
 cases e == 0
 ·rfl
 ·cases decide (lo≤v) <;> rfl
abbrev lI:Io:=⟨[.ptr 0 0,dI,dI],wG,[],[dB],none⟩
def Eb (d:lI.In):Tr lI.Res:=.ite (decide (d.2.1.2.2.1≠0)) (.ret (.ret ((false,()),d.2))) .no
abbrev MQ:List (Nat×Hc):=[]
def Ww:Hd:=bz MQ
def Nw:Lp:=bo []
def Cb (a0 a1 a2 a3:Int):Option lI.Res:=bif a3 == 0 then bif decide (a0≤a2) then some (Out.ret ((decide (a2≤a1),()),((),a2,a3,()),())) else some (Out.ret ((false,()),((),a2,a3,()),())) else some (Out.ret ((false,()),((),a2,a3,()),()))
theorem UD (a0 a1 a2 a3:Int):Io.run tt Ww dr Nw lI Tryz.f140 (((),a0,a1,()),((),a2,a3,()),())=Cb a0 a1 a2 a3:=by kernel_rfl
theorem N2:HcOk prog 140 (ah lI Eb):=by
 refine aj (n:=400) hm (cs:=MQ) HcsOk.nil (lp:=Nw) (fn:=Tryz.f140) (by kernel_rfl) (by kernel_rfl) (by kernel_rfl) lI (.done (by kernel_rfl)) Eb ?_
 rintro ⟨⟨⟨⟩,(lo:Int),(hi:Int),⟨⟩⟩,⟨⟨⟩,(v:Int),(e:Int),⟨⟩⟩,⟨⟩⟩ out hw ho
 obtain ⟨hg,ho⟩:=Tr.guard ho
 have hg:e≠0:=of_decide_eq_true hg
 cases ho
 refine (UD lo hi v e).trans ?_
 unfold Cb
 exact ab (by simpa using hg) _ _
def bT (b:List Int)(s:aN):Int:=if s.1=0 then Jk b s.2 else s.1
abbrev pb:Io:=⟨[.ptr 0 0],oN,[],[dI],none⟩
def Mm (d:pb.In):Tr pb.Res:=.ret (.ret ((bT d.2.2.1.1 (eG d.2),()),(((),(d.2.1.2.1,(bT d.2.2.1.1 (eG d.2),()))),d.2.2)))
abbrev RO:List (Nat×Hc):=[(203,ah lO Em)]
def ZG:Hd:=bz RO
def Tg:Lp:=bo []
def GG (a0 a1:Int)(a2:List Int)(a3:Int):Option pb.Res:=bif a1 == 0 then some (Out.ret ((Jk a2 a3,()),((),a0,Jk a2 a3,()),(a2,a3,()),())) else some (Out.ret ((a1,()),((),a0,a1,()),(a2,a3,()),()))
theorem Xz (a0 a1:Int)(a2:List Int)(a3:Int):Io.run tt ZG dr Tg pb Tryz.f150 (((),()),((),a0,a1,()),(a2,a3,()),())=GG a0 a1 a2 a3:=by kernel_rfl
theorem TU:HcOk prog 150 (ah pb Mm):=by
 refine aj (n:=400) hm (cs:=RO) (.cons N7 .nil) (lp:=Tg) (fn:=Tryz.f150) (by kernel_rfl) (by kernel_rfl) (by kernel_rfl) pb (.done (by kernel_rfl)) Mm ?_
 rintro ⟨⟨⟨⟩,⟨⟩⟩,⟨⟨⟩,(v:Int),(e:Int),⟨⟩⟩,⟨(b:List Int),(p:Int),⟨⟩⟩,⟨⟩⟩ out hw ho
 cases ho
 refine (Xz v e b p).trans ?_
 unfold GG
 show _=some (Out.ret ((bT b (e,p),()),dc v b (bT b (e,p),p)))
 unfold bT
 by_cases h:e=0
 ·rw[if_pos h]
  exact aa (by simpa using h) _ _
 ·rw[if_neg h]
  exact ab (by simpa using h) _ _
abbrev lH:Io:=⟨[.ptr 0 0],wG,[],[dI],none⟩
def Ea (d:lH.In):Tr lH.Res:=.ite (decide (d.2.1.2.2.1≠0)) (.ret (.ret ((d.2.1.2.2.1,()),d.2))) .no
abbrev MP:List (Nat×Hc):=[(203,ah lO Em)]
def Wv:Hd:=bz MP
def Nv:Lp:=bo []
def Ca (a0 a1:Int):Option lH.Res:=bif a1 == 0 then none else some (Out.ret ((a1,()),((),a0,a1,()),()))
theorem UC (a0 a1:Int):Io.run tt Wv dr Nv lH Tryz.f150 (((),()),((),a0,a1,()),())=Ca a0 a1:=by kernel_rfl
theorem N1:HcOk prog 150 (ah lH Ea):=by
 refine aj (n:=400) hm (cs:=MP) (.cons N7 .nil) (lp:=Nv) (fn:=Tryz.f150) (by kernel_rfl) (by kernel_rfl) (by kernel_rfl) lH (.done (by kernel_rfl)) Ea ?_
 rintro ⟨⟨⟨⟩,⟨⟩⟩,⟨⟨⟩,(v:Int),(e:Int),⟨⟩⟩,⟨⟩⟩ out hw ho
 obtain ⟨hg,ho⟩:=Tr.guard ho
 have hg:e≠0:=of_decide_eq_true hg
 cases ho
 refine (UC v e).trans ?_
 unfold Ca
 exact ab (by simpa using hg) _ _
abbrev pd:Io:=⟨[dI,dL],[],oN,[.ptr 0 0],none⟩
def Mo (d:pd.In):Tr pd.Res:=.ite (decide (0≤d.1.1)&&(decide (d.1.1≤3)&&decide ((d.1.2.1.length:Int)≤130048))) (.ret (.ret (((),()),dc d.1.1 d.1.2.1 (0,0)))) .no
abbrev RX:List (Nat×Hc):=[(61,ah jr uC)]
def ZP:Hd:=bz RX
def Tp:Lp:=bo []
def GP (a0:Int)(a1:List Int):Option pd.Res:=bif decide (a0<0) then none else bif decide (3<a0) then none else bif decide (130048<(↑a1.length:Int)) then none else bif decide (a1.length≤4294967296) then some (Out.ret (((),()),((),a0,0,()),(a1,0,()),())) else none
theorem XI (a0:Int)(a1:List Int):Io.run tt ZP dr Tp pd Tryz.f139 ((a0,a1,()),())=GP a0 a1:=by kernel_rfl
theorem TW:HcOk prog 139 (ah pd Mo):=by
 refine aj (n:=400) hm (cs:=RX) (.cons xH .nil) (lp:=Tp) (fn:=Tryz.f139) (by kernel_rfl) (by kernel_rfl) (by kernel_rfl) pd (.done (by kernel_rfl)) Mo ?_
 rintro ⟨⟨(v:Int),(b:List Int),⟨⟩⟩,⟨⟩⟩ out hw ho
 obtain ⟨hg,ho⟩:=Tr.guard ho
 simp only[Bool.and_eq_true,decide_eq_true_eq] at hg
 obtain ⟨h1,h2,h3⟩:=hg
 have h1:(0:Int)≤v:=h1
 have h2:v≤(3:Int):=h2
 have h3:(b.length:Int)≤130048:=h3
 cases ho
 refine (XI v b).trans ?_
 unfold GP
 refine (ab (by simp;omega) _ _).trans ?_
 refine (ab (by simp;omega) _ _).trans ?_
 refine (ab (by simp;omega) _ _).trans ?_
 exact aa (by simp;omega) _ _
def eb (v:Int):Int:=if v<0∨3<v then 8 else 4
abbrev lJ:Io:=⟨[dI,dL],[],wG,[.ptr 0 0],none⟩
def ux (d:lJ.In):Tr lJ.Res:=.ite (decide (0≤d.1.1)&&(decide (d.1.1≤3)&&decide ((d.1.2.1.length:Int)≤130048))) .no (.ret (.ret (((),()),(((),(d.1.1,(eb d.1.1,()))),()))))
abbrev MT:List (Nat×Hc):=[(61,ah jr uC)]
def Wz:Hd:=bz MT
def Nz:Lp:=bo []
def Ce (a0:Int)(a1:List Int):Option lJ.Res:=bif decide (a0<0) then some (Out.ret (((),()),((),a0,8,()),())) else bif decide (3<a0) then some (Out.ret (((),()),((),a0,8,()),())) else bif decide (130048<(↑a1.length:Int)) then some (Out.ret (((),()),((),a0,4,()),())) else bif decide (a1.length≤4294967296) then none else none
theorem UG (a0:Int)(a1:List Int):Io.run tt Wz dr Nz lJ Tryz.f139 ((a0,a1,()),())=Ce a0 a1:=by kernel_rfl
theorem N3:HcOk prog 139 (ah lJ ux):=by
 refine aj (n:=400) hm (cs:=MT) (.cons xH .nil) (lp:=Nz) (fn:=Tryz.f139) (by kernel_rfl) (by kernel_rfl) (by kernel_rfl) lJ (.done (by kernel_rfl)) ux ?_
 rintro ⟨⟨(v:Int),(b:List Int),⟨⟩⟩,⟨⟩⟩ out hw ho
 have hg:(decide (0≤v)&&(decide (v≤3)&&decide ((b.length:Int)≤130048)))=false:=by
  cases hc:(decide (0≤v)&&(decide (v≤3)&&decide ((b.length:Int)≤130048)))
  ·rfl
  ·have e1:ux ((v,(b,())),())=.ite true .no (.ret (.ret (((),()),(((),(v,(eb v,()))),())))):=congrArg (fun c=>Tr.ite c _ _) hc
   rw[e1] at ho
   cases ho
 have e1:ux ((v,(b,())),())=.ite false .no (.ret (.ret (((),()),(((),(v,(eb v,()))),())))):=congrArg (fun c=>Tr.ite c _ _) hg
 rw[e1] at ho
 cases ho
 refine (UG v b).trans ?_
 unfold Ce eb
 simp only[Bool.and_eq_false_iff,decide_eq_false_iff_not] at hg
 by_cases h1:v<0
 ·rw[if_pos (.inl h1)]
  exact aa (by simpa using h1) _ _
 ·refine (ab (by simpa using h1) _ _).trans ?_
  by_cases h2:3<v
  ·rw[if_pos (.inr h2)]
   exact aa (by simpa using h2) _ _
  ·rw[if_neg (by omega)]
   refine (ab (by simpa using h2) _ _).trans ?_
   exact aa (by simp;omega) _ _
abbrev tH:List (List Sh):=[[.ptr 1 0],[.ptr 2 0,dI,dI,dB],[dO,dI]]
abbrev oE:List (List Sh):=[[.ptr 1 0,dI,dI,dB],[dO,dI],[.ptr 0 0]]
abbrev gz (v:Int)(s:aW):kt tH:=(((),()),ch v s)
abbrev gA (v:Int)(s:aW):kt oE:=(((),(v,(s.1,(s.2.1,())))),((s.2.2,(130048,())),(((),()),())))
abbrev mf (d:kt oE):aW:=(d.1.2.2.1,(d.1.2.2.2.1,d.2.1.1))
abbrev me (d:kt oE):Bool:=decide (d.2.1.2.1=130048)&&decide (d.2.1.1.length≤130048)
def cB {α:Type}(one:α→aW→aW)(xs:List α)(s:aW):aW:=if 16<(xs.length:Int) then bv 9 s else xs.foldl (fun s x=>one x s) (ac xs.length 4 s)
abbrev oM:Ty:=.prod (.int .i32) (.prod oA .unit)
def Ye (p:oM.den)(s:aW):aW:=bV p.2.1 (ac p.1 4 s)
def aag (p:oM.den):Bool:=decide (p.2.1.2.1.length≤2147483647)
abbrev p9 (v:Int)(s:aW):(Int×(Int×(Bool×Unit)))×((List Int×(Int×Unit))×(Unit×Unit)):=((v,(s.1,(s.2.1,()))),((s.2.2,(130048,())),((),())))
theorem vE {s:aW}(p:List Int)(h:s.2.2.length≤130048):(jk p s).2.2.length≤130048:=by
 unfold jk
 split
 ·exact h
 ·simp only[List.length_append];omega
theorem mY {s:aW}(e:Int)(h:s.2.2.length≤130048):(bv e s).2.2.length≤130048:=by
 unfold bv;split <;> exact h
theorem kX {s:aW}(n:Bool×(List Int×Unit))(h:s.2.2.length≤130048):(bV n s).2.2.length≤130048:=by
 unfold bV
 split
 ·exact mY _ h
 ·split
  ·exact aA _ _ h
  ·exact vE _ (aA _ _ h)
theorem il {s:aW}(t:List Int)(h:s.2.2.length≤130048):(bR t s).2.2.length≤130048:=by
 unfold bR
 split
 ·exact mY _ h
 ·split
  ·exact mY _ h
  ·exact vE _ (aA _ _ h)
theorem gl {α:Type}{one:α→aW→aW}(h1:∀x s,s.2.2.length≤130048→(one x s).2.2.length≤130048):∀(xs:List α) (s:aW),s.2.2.length≤130048→(xs.foldl (fun s x=>one x s) s).2.2.length≤130048
 |[],_,h=>h
 |x::xs,s,h=>gl h1 xs (one x s) (h1 x s h)
theorem cY {α:Type}{one:α→aW→aW}(h1:∀x s,s.2.2.length≤130048→(one x s).2.2.length≤130048)(xs:List α){s:aW}(h:s.2.2.length≤130048):(cB one xs s).2.2.length≤130048:=by
 unfold cB
 split
 ·exact mY _ h
 ·exact gl h1 xs _ (aA _ _ h)
abbrev gC (st cf:Nat)(T:Ty):Io:=⟨[.ptr 0 0,.dat (.sl st T) false false,.fnc cf false [2]],oE,[],[],none⟩
def Ml (st cf:Nat)(T:Ty)(gx:T.den→Bool)(sps:Int→List T.den→aW→aW)(d:(gC st cf T).In):Tr (gC st cf T).Res:=.ite (me d.2&&d.1.2.1.all gx) (.ret (.ret ((),gA d.2.1.2.1 (sps d.2.1.2.1 d.1.2.1 (mf d.2))))) .no
abbrev aY (st cf:Nat)(T:Ty):Lo:=⟨⟨[.any,.any,.one (.fnp cf false [2]),.any,.any,.any,.any,.any,.any,.any,.any,.any,.any,.any,.any,.any,.any,.any,.one (.hol (.sl st T)),.one (.hol (.int IntKind.i64)),.one (.hol (.int IntKind.i64)),.any,.any,.any,.any,.any,.any,.any],[some [.ptr 1 0,.hol (.int IntKind.i64),.hol (.int IntKind.i64),.hol .bool],some [.onl 5 (Ty.int IntKind.u8) 514,.hol (.int IntKind.i64)],some [.ptr 0 0]]⟩,[(.exit 0,⟨(ai (dE (bJ []))),[some [.ptr 1 0,.hol (.int IntKind.i64),.hol (.int IntKind.i64),.hol .bool],some [.onl 5 (Ty.int IntKind.u8) 514,.hol (.int IntKind.i64)],some [.ptr 0 0]]⟩)]⟩
def fe (st cf:Nat)(T:Ty)(gx:T.den→Bool)(one:Int→T.den→aW→aW)(d:(aY st cf T).st.den):Tr (ax (aY st cf T).xs):=
 .ite (decide (d.1.2.2.1=0)&&(decide (d.1.2.1=(d.1.1.length:Int))&&(decide (d.2.2.1.2.1=130048)&&(decide (d.2.2.1.1.length≤130048)&&d.1.1.all gx)))) (.ret (.ret ((),((),p9 d.2.1.1 (d.1.1.foldl (fun s x=>one d.2.1.1 x s) (d.2.1.2.1,(d.2.1.2.2.1,d.2.2.1.1))))))) .no
def sb (st cf:Nat)(T:Ty)(gx:T.den→Bool)(one:Int→T.den→aW→aW){R:Type}(h6:List T.den)(h7 h8 h9 h10:Int)(h11:Bool)(h12:List Int)(h13:Int)(next:List T.den→Int→Int→Int→Int→Bool→List Int→Int→Option R)(out:ax (aY st cf T).xs→Option R):Option R:=bif decide (h8<h7) then bif decide (0≤h8)&&decide (h8<(h6.length:Int)) then bif decide (h13=130048)&&decide (h12.length≤130048)&&gx (h6.getD h8.toNat T.zero) then next (h6) (h7) (IntKind.i64.wrap (h8+1)) (h9) ((one h9 (h6.getD h8.toNat T.zero) (h10,h11,h12)).1) ((one h9 (h6.getD h8.toNat T.zero) (h10,h11,h12)).2.1) ((one h9 (h6.getD h8.toNat T.zero) (h10,h11,h12)).2.2) (130048) else none else none else out (.ret ((),((),((h9,(h10,(h11,()))),((h12,(h13,())),((),()))))))
theorem KG {st cf:Nat}{T:Ty}{gx:T.den→Bool}{one:Int→T.den→aW→aW}(hle:∀v x s,s.2.2.length≤130048→(one v x s).2.2.length≤130048)
  (it:Nat→List T.den→Int→Int→Int→Int→Bool→List Int→Int→Option (ax (aY st cf T).xs)) (hit:∀n h6 h7 h8 h9 h10 h11 h12 h13,it (n+1) h6 h7 h8 h9 h10 h11 h12 h13=sb st cf T gx one h6 h7 h8 h9 h10 h11 h12 h13 (it n) some)
  {xs:List T.den} (v:Int) (hl:xs.length≤maxLen) (hok:∀x∈xs,gx x=true):∀(k i:Nat) (s:aW),xs.length<i+k→i≤xs.length→s.2.2.length≤130048→
  it k xs (xs.length:Int) i v s.1 s.2.1 s.2.2 130048=some (.ret ((),((),p9 v ((xs.drop i).foldl (fun s x=>one v x s) s)))):=by
 intro k
 induction k with
 |zero=>intro i s h;omega
 |succ k ih=>
  intro i s h1 h2 h3
  rw[hit]
  unfold sb
  by_cases hi:i<xs.length
  ·refine (aa (decide_eq_true (show (i:Int)<(xs.length:Int) by omega)) _ _).trans ?_
   refine (aa (by simpa using hi) _ _).trans ?_
   simp only[Int.toNat_natCast,aH hi,bb hi hl]
   have g:(decide ((130048:Int)=130048)&&decide (s.2.2.length≤130048)&&gx xs[i])=true:=by
    rw[hok _ (List.getElem_mem hi)];simpa using h3
   refine (aa g _ _).trans ?_
   rw[List.drop_eq_getElem_cons hi]
   exact ih (i+1) (one v xs[i] s) (by omega) (by omega) (hle v _ s h3)
  ·refine (ab (by simp;omega) _ _).trans ?_
   rw[List.drop_of_length_le (by omega)]
   rfl
def yp (st cf:Nat)(T:Ty)(gx:T.den→Bool)(one:Int→T.den→aW→aW)(a0:List T.den)(a1 a2:Int)(a3:Bool)(a4:List Int)(a5:Int):Option (gC st cf T).Res:=bif decide (16<(a0.length:Int)) then bif decide (a5=130048)&&decide (a4.length≤130048) then some (Out.ret ((),((),a1,(bv 9 (a2,a3,a4)).1,(bv 9 (a2,a3,a4)).2.1,()),((bv 9 (a2,a3,a4)).2.2,130048,()),((),()),())) else none else bif decide (a5=130048)&&decide (a4.length≤130048) then (fe st cf T gx one ((a0,((a0.length:Int),(0,()))),((a1,((ac (IntKind.i32.wrap (a0.length:Int)) 4 (a2,a3,a4)).1,((ac (IntKind.i32.wrap (a0.length:Int)) 4 (a2,a3,a4)).2.1,()))),(((ac (IntKind.i32.wrap (a0.length:Int)) 4 (a2,a3,a4)).2.2,(130048,())),((),()))))).run fun y=>match y with | .ret ((),((),(x27,x28,x29,()),(x30,x31,()),(),()))=>(some (Out.ret ((),((),x27,x28,x29,()),(x30,x31,()),((),()),()))) else none
theorem HW {st cf f:Nat}{T:Ty}{gx:T.den→Bool}{sps:Int→List T.den→aW→aW}{one:Int→T.den→aW→aW}(hs:∀v xs s,sps v xs s=cB (one v) xs s)(hle:∀v x s,s.2.2.length≤130048→(one v x s).2.2.length≤130048)
  {cs:List (Nat×Hc)} (hcs:HcsOk prog cs) {fn:Func} (hf:prog.funcs[f]?=some fn) (hname:(fn.name == "runtime.NumGoroutine")=false) (hbody:fn.body.isNone=false)
  (hlp:bo [(5,aP (aY st cf T) (fe st cf T gx one))] (dC ((c6 fn).getD 0 jD).2.1)=some (aP (aY st cf T) (fe st cf T gx one))) (h1:Nat.ble (QX fn ((c6 fn).getD 0 jD)).length 0=true) (h2:Nat.ble (c6 fn).length (0+1)=true)
  (hit:∀(n:Nat) (h6:List T.den) (h7 h8 h9 h10:Int) (h11:Bool) (h12:List Int) (h13:Int),gk tt (bz cs) dr (bo [(5,aP (aY st cf T) (fe st cf T gx one))]) 3 fn ((c6 fn).getD 0 jD) (n+1) ((aY st cf T).st.mk' ((h6,(h7,(h8,()))),((h9,(h10,(h11,()))),((h12,(h13,())),((),()))))) (bI (aY st cf T).xs)=
   sb st cf T gx one h6 h7 h8 h9 h10 h11 h12 h13 (fun h6 h7 h8 h9 h10 h11 h12 h13=>gk tt (bz cs) dr (bo [(5,aP (aY st cf T) (fe st cf T gx one))]) 3 fn ((c6 fn).getD 0 jD) n ((aY st cf T).st.mk' ((h6,(h7,(h8,()))),((h9,(h10,(h11,()))),((h12,(h13,())),((),()))))) (bI (aY st cf T).xs)) some)
  (hrun:∀(a0:List T.den) (a1 a2:Int) (a3:Bool) (a4:List Int) (a5:Int),Io.run tt (bz cs) dr (bo [(5,aP (aY st cf T) (fe st cf T gx one))]) (gC st cf T) fn (((),a0,(),()),((),a1,a2,a3,()),(a4,a5,()),((),()),())=yp st cf T gx one a0 a1 a2 a3 a4 a5):
  HcOk prog f (ah (gC st cf T) (Ml st cf T gx sps)):=by
 refine aj (n:=400) hm (cs:=cs) hcs (lp:=bo [(5,aP (aY st cf T) (fe st cf T gx one))]) (fn:=fn) hf hname hbody (gC st cf T) (.step (h0:=aP (aY st cf T) (fe st cf T gx one)) hlp (aw (n:=400) hm (cs:=cs) hcs (lp:=bo [(5,aP (aY st cf T) (fe st cf T gx one))]) (fn:=fn) (.done h1) (aY st cf T) (fe st cf T gx one) ?_) (.done h2)) (Ml st cf T gx sps) ?_
 ·rintro ⟨⟨(xs:List T.den),(n:Int),(i:Int),⟨⟩⟩,⟨⟨(v:Int),(e:Int),(f:Bool),⟨⟩⟩,⟨(b:List Int),(m:Int),⟨⟩⟩,⟨⟨⟩,⟨⟩⟩⟩⟩ y hw hy
  obtain ⟨hg,hy⟩:=Tr.guard hy
  simp only[Bool.and_eq_true,decide_eq_true_eq] at hg
  obtain ⟨rfl,rfl,rfl,h4,h5⟩:=hg
  have h5:∀x∈xs,gx x=true:=List.all_eq_true.1 h5
  have h4:b.length≤130048:=h4
  have hl:xs.length≤maxLen:=hw.1.1.1
  refine ⟨xs.length+1,(KG (st:=st) (cf:=cf) (gx:=gx) hle (fun n h6 h7 h8 h9 h10 h11 h12 h13=>gk tt (bz cs) dr (bo [(5,aP (aY st cf T) (fe st cf T gx one))]) 3 fn ((c6 fn).getD 0 jD) n ((aY st cf T).st.mk' ((h6,(h7,(h8,()))),((h9,(h10,(h11,()))),((h12,(h13,())),((),()))))) (bI (aY st cf T).xs)) hit v hl h5 (xs.length+1) 0 (e,(f,b)) (by omega) (by omega) h4).trans ?_⟩
  rw[← hy];rfl
 ·rintro ⟨⟨⟨⟩,(xs:List T.den),⟨⟩,⟨⟩⟩,⟨⟨⟩,(v:Int),(e:Int),(f:Bool),⟨⟩⟩,⟨(b:List Int),(m:Int),⟨⟩⟩,⟨⟨⟩,⟨⟩⟩,⟨⟩⟩ out hw ho
  obtain ⟨hg,ho⟩:=Tr.guard ho
  obtain ⟨hg,h5⟩:=Bool.and_eq_true_iff.1 hg
  have h5:xs.all gx=true:=h5
  obtain ⟨rfl,hb⟩:=bx (v:=v) (e:=e) (f:=f) hg
  cases ho
  refine (hrun xs v e f b 130048).trans ?_
  unfold yp
  have g:(decide ((130048:Int)=130048)&&decide (b.length≤130048))=true:=by simpa using hb
  show _=some (Out.ret ((),gA v (sps v xs (e,f,b))))
  rw[hs]
  unfold cB
  by_cases h:16<(xs.length:Int)
  ·rw[if_pos h]
   refine (aa (decide_eq_true h) _ _).trans ?_
   exact aa g _ _
  ·rw[if_neg h]
   refine (ab (decide_eq_false h) _ _).trans ?_
   refine (aa g _ _).trans ?_
   have hw32:IntKind.i32.wrap (xs.length:Int)=xs.length:=dD (by simp[eE,IntKind.min,IntKind.max,IntKind.signed,IntKind.bits];omega)
   rw[hw32]
   have c1:(decide ((0:Int)=0)&&(decide ((xs.length:Int)=(xs.length:Int))&&(decide ((130048:Int)=130048)&&(decide ((ac xs.length 4 (e,f,b)).2.2.length≤130048)&&xs.all gx))))=true:=by
    rw[h5];simpa using aA (s:=(e,f,b)) _ 4 hb
   have e1:fe st cf T gx one ((xs,((xs.length:Int),(0,()))),((v,((ac xs.length 4 (e,f,b)).1,((ac xs.length 4 (e,f,b)).2.1,()))),(((ac xs.length 4 (e,f,b)).2.2,(130048,())),((),()))))=
     .ite true (.ret (.ret ((),((),p9 v (xs.foldl (fun s x=>one v x s) (ac xs.length 4 (e,f,b))))))) .no:=congrArg (fun c=>Tr.ite c _ _) c1
   rw[e1]
   rfl
abbrev bM:Ty:=.prod .str (.prod (.sl 178 oM) .unit)
theorem bp {s:aW}(v:Int)(z:Bool)(lo hi:Int)(h:s.2.2.length≤130048):(ar v z lo hi s).2.2.length≤130048:=by
 unfold ar
 split
 ·exact mY _ h
 ·exact h
abbrev VS:Ty:=.prod lx (.prod (.int .i16) (.prod (.int .i32) (.prod (.sl 172 bM) .unit)))
abbrev IF:List (List Sh):=[[.ptr 1 0],[.ptr 2 0,dI,dI],[dL,dI]]
abbrev zW:List (List Sh):=[[.ptr 1 0,dI,dI],[dL,dI],[.ptr 0 0]]
abbrev KU:List (List Sh):=[[.nil,dI,dI],[.ptr 0 0]]
abbrev lE (v:Int)(b:List Int)(s:aN):kt IF:=(((),()),dc v b s)
abbrev p8 (v:Int)(b:List Int)(s:aN):kt zW:=(((),(v,(s.1,()))),((b,(s.2,())),(((),()),())))
abbrev mb (d:kt zW):aN:=(d.1.2.2.1,d.2.1.2.1)
def dX {α:Type}(one:aN→α×aN):Nat→aN→List α×aN
 |0,s=>([],s)
 |k+1,s=>if s.1=0 then ((one s).1::(dX one k (one s).2).1,(dX one k (one s).2).2) else ([],s)
def pF (n:Int)(s:aN):aN:=if s.1=0 then (if n<0 then (5,s.2) else if 16<n then (9,s.2) else s) else s
def jP {α:Type}(one:aN→α×aN)(b:List Int)(s:aN):List α×aN:=dX one (ae .i32 4 b s).1.toNat (pF (ae .i32 4 b s).1 (ae .i32 4 b s).2)
abbrev EU (v:Int)(b:List Int)(s:aN):(Int×(Int×Unit))×((List Int×(Int×Unit))×(Unit×Unit)):=((v,(s.1,())),((b,(s.2,())),((),())))
theorem Vz {b:List Int}{s:aN}(n:Int)(h:au b s.2=true):au b (pF n s).2=true:=by
 unfold pF
 split
 ·split
  ·exact h
  ·split <;> exact h
 ·exact h
theorem Jw {α:Type}{one:aN→α×aN}{b:List Int}(h1:∀s,au b s.2=true→au b (one s).2.2=true):∀(k:Nat) (s:aN),au b s.2=true→au b (dX one k s).2.2=true
 |0,s,h=>h
 |k+1,s,h=>by
  rw[dX]
  split
  ·exact Jw h1 k _ (h1 s h)
  ·exact h
theorem mZ {α:Type}{one:aN→α×aN}{b:List Int}{s:aN}(h1:∀s,au b s.2=true→au b (one s).2.2=true)(h:au b s.2=true):au b (jP one b s).2.2=true:=
 Jw h1 _ _ (Vz _ (bF _ _ h))
theorem qC {b:List Int}{s:aN}(h:au b s.2=true):au b (cn b s).2.2=true:=LS _ (bF _ _ h)
@[irreducible] noncomputable def Ok (b:List Int)(s:aN):oM.den×aN:=(((ae .i32 4 b s).1,((qA b (ae .i32 4 b s).2).1,())),(qA b (ae .i32 4 b s).2).2)
abbrev uS (st cf:Nat)(T:Ty):Io:=⟨[.ptr 0 0,.fnc cf false [2]],zW,[],[.dat (.sl st T) false false],none⟩
def Yw (st cf:Nat)(T:Ty)(sps:Int→List Int→aN→List T.den×aN)(d:(uS st cf T).In):Tr (uS st cf T).Res:=.ite (au d.2.2.1.1 d.2.2.1.2.1) (.ret (.ret (((sps d.2.1.2.1 d.2.2.1.1 (mb d.2)).1,()),p8 d.2.1.2.1 d.2.2.1.1 (sps d.2.1.2.1 d.2.2.1.1 (mb d.2)).2))) .no
abbrev ew (st cf:Nat)(T:Ty):Lo:=⟨⟨[.one (.ptr 0 0),.one (.fnp cf false [2]),.any,.any,.any,.one (.hol (.int IntKind.i32)),.one (.onl st T 19),.one (.hol (.int IntKind.i32)),.any,.any,.any,.any,.any,.any,.any,.any,.any,.any,.any,.any,.any,.any,.any,.any,.any,.any,.any,.any,.any,.any,.any,.any,.any,.any,.any,.any,.any,.any,.any,.any,.any,.any,.any,.any,.any,.any],[some [.ptr 1 0,.hol (.int IntKind.i64),.hol (.int IntKind.i64)],some [.hol (.sl 5 (Ty.int IntKind.u8)),.hol (.int IntKind.i64)],some [.ptr 0 0]]⟩,[(.exit 1,⟨(bJ (be (.one (.onl st T 19)::.any::ai (ai (bJ (be [])))))),[some [.ptr 1 0,.hol (.int IntKind.i64),.hol (.int IntKind.i64)],some [.hol (.sl 5 (Ty.int IntKind.u8)),.hol (.int IntKind.i64)],some [.ptr 0 0]]⟩)]⟩
def db (st cf:Nat)(T:Ty)(one:Int→List Int→aN→T.den×aN)(d:(ew st cf T).st.den):Tr (ax (ew st cf T).xs):=
 .ite (decide (d.1.2.2.1=0)&&(decide (d.1.2.1.length=0)&&(au d.2.2.1.1 d.2.2.1.2.1&&(decide (d.1.1≤(16:Int)) || decide (d.2.1.2.1≠0))))) (.ret (.ret ((),(((dX (one d.2.1.1 d.2.2.1.1) d.1.1.toNat (d.2.1.2.1,d.2.2.1.2.1)).1,()),EU d.2.1.1 d.2.2.1.1 (dX (one d.2.1.1 d.2.2.1.1) d.1.1.toNat (d.2.1.2.1,d.2.2.1.2.1)).2)))) .no
def Bf (st cf:Nat)(T:Ty)(one:Int→List Int→aN→T.den×aN){R:Type}(h4:Int)(h5:List T.den)(h6 h7 h8:Int)(h9:List Int)(h10:Int)(next:Int→List T.den→Int→Int→Int→List Int→Int→Option R)(out:ax (ew st cf T).xs→Option R):Option R:=bif decide (h6<h4) then bif h8 == 0 then bif au h9 h10 then bif decide (h5.length+1≤4294967296) then next (h4) (h5++[(one h7 h9 (h8,h10)).1]) (IntKind.i32.wrap (h6+1)) (h7) ((one h7 h9 (h8,h10)).2.1) (h9) ((one h7 h9 (h8,h10)).2.2) else none else none else out (.ret ((),((h5,()),((h7,(h8,())),((h9,(h10,())),((),())))))) else out (.ret ((),((h5,()),((h7,(h8,())),((h9,(h10,())),((),()))))))
theorem Tb {st cf:Nat}{T:Ty}{one:Int→List Int→aN→T.den×aN}(hok:∀v b s,au b s.2=true→au b (one v b s).2.2=true)
  (it:Nat→Int→List T.den→Int→Int→Int→List Int→Int→Option (ax (ew st cf T).xs)) (hit:∀n h4 h5 h6 h7 h8 h9 h10,it (n+1) h4 h5 h6 h7 h8 h9 h10=Bf st cf T one h4 h5 h6 h7 h8 h9 h10 (it n) some) (n v:Int) (b:List Int):∀(k j:Nat) (xs:List T.den) (s:aN),n.toNat<j+k→j≤n.toNat→xs.length=j→au b s.2=true→(s.1=0→n≤16)→
  it k n xs j v s.1 b s.2=some (.ret ((),((xs++(dX (one v b) (n.toNat - j) s).1,()),EU v b (dX (one v b) (n.toNat - j) s).2))):=by
 intro k
 induction k with
 |zero=>intro j xs s h;omega
 |succ k ih=>
  intro j xs s h1 h2 h3 h4 h5
  rw[hit]
  unfold Bf
  by_cases hj:(j:Int)<n
  ·refine (aa (by simpa using hj) _ _).trans ?_
   obtain ⟨m,hm⟩:∃m,n.toNat - j=m+1:=⟨n.toNat - j - 1,by omega⟩
   rw[hm]
   by_cases he:s.1=0
   ·refine (aa (by simpa using he) _ _).trans ?_
    have hn:=h5 he
    refine (aa h4 _ _).trans ?_
    refine (aa (decide_eq_true (show xs.length+1≤4294967296 by omega)) _ _).trans ?_
    have hw:IntKind.i32.wrap ((j:Int)+1)=((j+1:Nat):Int):=dD (by simp[eE,IntKind.min,IntKind.max,IntKind.signed,IntKind.bits];omega)
    rw[hw]
    refine (ih (j+1) (xs++[(one v b s).1]) (one v b s).2 (by omega) (by omega) (by simp[h3]) (hok v b s h4) (fun _=>hn)).trans ?_
    rw[show n.toNat - (j+1)=m by omega,dX,if_pos he]
    simp
   ·refine (ab (by simpa using he) _ _).trans ?_
    rw[dX,if_neg he]
    simp
  ·refine (ab (by simpa using hj) _ _).trans ?_
   rw[show n.toNat - j=0 by omega,dX]
   simp
def GD (st cf:Nat)(T:Ty)(one:Int→List Int→aN→T.den×aN)(a0 a1:Int)(a2:List Int)(a3:Int):Option (uS st cf T).Res:=bif au a2 a3 then bif (ae IntKind.i32 4 a2 (a1,a3)).2.1 != 0 then (db st cf T one (((ae IntKind.i32 4 a2 (a1,a3)).1,([],(0,()))),((a0,((ae IntKind.i32 4 a2 (a1,a3)).2.1,())),((a2,((ae IntKind.i32 4 a2 (a1,a3)).2.2,())),((),()))))).run fun y=>match y with | .ret ((),((x28,()),(x29,x30,()),(x31,x32,()),(),()))=>(some (Out.ret ((x28,()),((),x29,x30,()),(x31,x32,()),((),()),()))) else bif decide ((ae IntKind.i32 4 a2 (a1,a3)).1<0) then (db st cf T one (((ae IntKind.i32 4 a2 (a1,a3)).1,([],(0,()))),((a0,(5,())),((a2,((ae IntKind.i32 4 a2 (a1,a3)).2.2,())),((),()))))).run fun y=>match y with | .ret ((),((x40,()),(x41,x42,()),(x43,x44,()),(),()))=>(some (Out.ret ((x40,()),((),x41,x42,()),(x43,x44,()),((),()),()))) else bif decide (16<(ae IntKind.i32 4 a2 (a1,a3)).1) then (db st cf T one (((ae IntKind.i32 4 a2 (a1,a3)).1,([],(0,()))),((a0,(9,())),((a2,((ae IntKind.i32 4 a2 (a1,a3)).2.2,())),((),()))))).run fun y=>match y with | .ret ((),((x52,()),(x53,x54,()),(x55,x56,()),(),()))=>(some (Out.ret ((x52,()),((),x53,x54,()),(x55,x56,()),((),()),()))) else (db st cf T one (((ae IntKind.i32 4 a2 (a1,a3)).1,([],(0,()))),((a0,((ae IntKind.i32 4 a2 (a1,a3)).2.1,())),((a2,((ae IntKind.i32 4 a2 (a1,a3)).2.2,())),((),()))))).run fun y=>match y with | .ret ((),((x64,()),(x65,x66,()),(x67,x68,()),(),()))=>(some (Out.ret ((x64,()),((),x65,x66,()),(x67,x68,()),((),()),()))) else none
theorem Fi {st cf f:Nat}{T:Ty}{sps:Int→List Int→aN→List T.den×aN}{one:Int→List Int→aN→T.den×aN}(hs:∀v b s,sps v b s=jP (one v b) b s)(hok:∀v b s,au b s.2=true→au b (one v b s).2.2=true)
  {cs:List (Nat×Hc)} (hcs:HcsOk prog cs) {fn:Func} (hf:prog.funcs[f]?=some fn) (hname:(fn.name == "runtime.NumGoroutine")=false) (hbody:fn.body.isNone=false)
  (hlp:bo [(10,aP (ew st cf T) (db st cf T one))] (dC ((c6 fn).getD 0 jD).2.1)=some (aP (ew st cf T) (db st cf T one))) (h1:Nat.ble (QX fn ((c6 fn).getD 0 jD)).length 0=true) (h2:Nat.ble (c6 fn).length (0+1)=true)
  (hit:∀(n:Nat) (h4:Int) (h5:List T.den) (h6 h7 h8:Int) (h9:List Int) (h10:Int),gk tt (bz cs) dr (bo [(10,aP (ew st cf T) (db st cf T one))]) 3 fn ((c6 fn).getD 0 jD) (n+1) ((ew st cf T).st.mk' ((h4,(h5,(h6,()))),((h7,(h8,())),((h9,(h10,())),((),()))))) (bI (ew st cf T).xs)=
   Bf st cf T one h4 h5 h6 h7 h8 h9 h10 (fun h4 h5 h6 h7 h8 h9 h10=>gk tt (bz cs) dr (bo [(10,aP (ew st cf T) (db st cf T one))]) 3 fn ((c6 fn).getD 0 jD) n ((ew st cf T).st.mk' ((h4,(h5,(h6,()))),((h7,(h8,())),((h9,(h10,())),((),()))))) (bI (ew st cf T).xs)) some)
  (hrun:∀(a0 a1:Int) (a2:List Int) (a3:Int),Io.run tt (bz cs) dr (bo [(10,aP (ew st cf T) (db st cf T one))]) (uS st cf T) fn (((),(),()),((),a0,a1,()),(a2,a3,()),((),()),())=GD st cf T one a0 a1 a2 a3):
  HcOk prog f (ah (uS st cf T) (Yw st cf T sps)):=by
 refine aj (n:=400) hm (cs:=cs) hcs (lp:=bo [(10,aP (ew st cf T) (db st cf T one))]) (fn:=fn) hf hname hbody (uS st cf T) (.step (h0:=aP (ew st cf T) (db st cf T one)) hlp (aw (n:=400) hm (cs:=cs) hcs (lp:=bo [(10,aP (ew st cf T) (db st cf T one))]) (fn:=fn) (.done h1) (ew st cf T) (db st cf T one) ?_) (.done h2)) (Yw st cf T sps) ?_
 ·rintro ⟨⟨(n:Int),(xs:List T.den),(i:Int),⟨⟩⟩,⟨⟨(v:Int),(e:Int),⟨⟩⟩,⟨(b:List Int),(p:Int),⟨⟩⟩,⟨⟨⟩,⟨⟩⟩⟩⟩ y hw hy
  obtain ⟨hg,hy⟩:=Tr.guard hy
  simp only[Bool.and_eq_true,decide_eq_true_eq,Bool.or_eq_true] at hg
  obtain ⟨h1,h2,h3,h4⟩:=hg
  have h1:i=0:=h1
  have h2:xs=[]:=List.eq_nil_of_length_eq_zero h2
  have h3:au b p=true:=h3
  have h4:n≤16∨e≠0:=h4
  subst h1
  subst h2
  refine ⟨n.toNat+1,(Tb (st:=st) (cf:=cf) hok (fun n h4 h5 h6 h7 h8 h9 h10=>gk tt (bz cs) dr (bo [(10,aP (ew st cf T) (db st cf T one))]) 3 fn ((c6 fn).getD 0 jD) n ((ew st cf T).st.mk' ((h4,(h5,(h6,()))),((h7,(h8,())),((h9,(h10,())),((),()))))) (bI (ew st cf T).xs)) hit n v b (n.toNat+1) 0 [] (e,p) (by omega) (by omega) rfl h3 (fun he=>h4.resolve_right (fun h=>h he))).trans ?_⟩
  rw[← hy];rfl
 ·rintro ⟨⟨⟨⟩,⟨⟩,⟨⟩⟩,⟨⟨⟩,(v:Int),(e:Int),⟨⟩⟩,⟨(b:List Int),(p:Int),⟨⟩⟩,⟨⟨⟩,⟨⟩⟩,⟨⟩⟩ out hw ho
  obtain ⟨hg,ho⟩:=Tr.guard ho
  have hg:au b p=true:=hg
  cases ho
  refine (hrun v e b p).trans ?_
  unfold GD
  show _=some (Out.ret (((sps v b (e,p)).1,()),p8 v b (sps v b (e,p)).2))
  rw[hs]
  unfold jP
  refine (aa hg _ _).trans ?_
  have hr:au b (ae .i32 4 b (e,p)).2.2=true:=bF .i32 4 (s:=(e,p)) hg
  generalize ae .i32 4 b (e,p)=r at hr ⊢
  obtain ⟨n,e1,q⟩:=r
  have hr:au b q=true:=hr
  have key:∀e':Int,(e'=0→n≤16)→db st cf T one ((n,([],(0,()))),((v,(e',())),((b,(q,())),((),()))))=.ite true (.ret (.ret ((),(((dX (one v b) n.toNat (e',q)).1,()),EU v b (dX (one v b) n.toNat (e',q)).2)))) .no:=by
   intro e' he
   refine congrArg (fun c=>Tr.ite c _ _) ?_
   show (decide ((0:Int)=0)&&(decide (([]:List T.den).length=0)&&(au b q&&(decide (n≤16) || decide (e'≠0)))))=true
   rw[hr]
   by_cases h:e'=0
   ·simp[he h]
   ·simp[h]
  unfold pF
  show (bif e1 != 0 then _ else _)=_
  by_cases h1:e1=0
  ·refine (ab (by simpa using h1) _ _).trans ?_
   show (bif decide (n<0) then _ else _)=_
   rw[if_pos h1]
   by_cases h2:n<0
   ·refine (aa (by simpa using h2) _ _).trans ?_
    show (db st cf T one ((n,([],(0,()))),((v,(5,())),((b,(q,())),((),()))))).run _=_
    rw[key 5 (by omega),if_pos h2]
    rfl
   ·refine (ab (by simpa using h2) _ _).trans ?_
    show (bif decide (16<n) then _ else _)=_
    rw[if_neg h2]
    by_cases h3:16<n
    ·refine (aa (by simpa using h3) _ _).trans ?_
     show (db st cf T one ((n,([],(0,()))),((v,(9,())),((b,(q,())),((),()))))).run _=_
     rw[key 9 (by omega),if_pos h3]
     rfl
    ·refine (ab (by simpa using h3) _ _).trans ?_
     show (db st cf T one ((n,([],(0,()))),((v,(e1,())),((b,(q,())),((),()))))).run _=_
     rw[key e1 (by omega),if_neg h3]
     rfl
  ·refine (aa (by simpa using h1) _ _).trans ?_
   show (db st cf T one ((n,([],(0,()))),((v,(e1,())),((b,(q,())),((),()))))).run _=_
   rw[key e1 (fun h=>absurd h h1),if_neg h1]
   rfl
abbrev qe (st cf:Nat)(T:Ty):Io:=⟨[.ptr 0 0,.fnc cf false [1]],KU,[],[.dat (.sl st T) false false],none⟩
def Q3 (st cf:Nat)(T:Ty)(d:(qe st cf T).In):Tr (qe st cf T).Res:=.ite (decide (d.2.1.2.2.1≠0)) (.ret (.ret ((([]:List T.den),()),d.2))) .no
abbrev eh (st cf:Nat)(T:Ty):Lo:=⟨⟨[.one (.ptr 0 0),.one (.fnp cf false [1]),.any,.any,.any,.one (.hol (.int IntKind.i32)),.one (.onl st T 17),.one (.hol (.int IntKind.i32)),.any,.any,.any,.any,.any,.any,.any,.any,.any,.any,.any,.any,.any,.any,.any,.any,.any,.any,.any,.any,.any,.any,.any,.any,.any,.any,.any,.any,.any,.any,.any,.any,.any,.any,.any,.any,.any,.any],[some [.nilp,.hol (.int IntKind.i64),.hol (.int IntKind.i64)],some [.ptr 0 0]]⟩,[(.exit 1,⟨(bJ (be (.one (.onl st T 17)::.any::ai (ai (bJ (be [])))))),[some [.nilp,.hol (.int IntKind.i64),.hol (.int IntKind.i64)],some [.ptr 0 0]]⟩)]⟩
def ff (st cf:Nat)(T:Ty)(d:(eh st cf T).st.den):Tr (ax (eh st cf T).xs):=
 .ite (decide (d.2.1.2.1≠0)) (.ret (.ret ((),((d.1.2.1,()),d.2)))) .no
def DZ (st cf:Nat)(T:Ty){R:Type}(h2:Int)(h3:List T.den)(h4 h5 h6:Int)(next:Int→List T.den→Int→Int→Int→Option R)(out:ax (eh st cf T).xs→Option R):Option R:=bif decide (h4<h2) then bif h6 == 0 then none else out (.ret ((),((h3,()),((h5,(h6,())),((),()))))) else out (.ret ((),((h3,()),((h5,(h6,())),((),())))))
def B4 (st cf:Nat)(T:Ty)(a0 a1:Int):Option (qe st cf T).Res:=bif decide (a1≠0) then bif a1 != 0 then (ff st cf T ((0,([],(0,()))),((a0,(a1,())),((),())))).run fun y=>match y with | .ret ((),((x13,()),(x14,x15,()),(),()))=>(some (Out.ret ((x13,()),((),x14,x15,()),((),()),()))) else (ff st cf T ((0,([],(0,()))),((a0,(a1,())),((),())))).run fun y=>match y with | .ret ((),((x21,()),(x22,x23,()),(),()))=>(some (Out.ret ((x21,()),((),x22,x23,()),((),()),()))) else none
theorem Nn {st cf f:Nat}{T:Ty}
  {cs:List (Nat×Hc)} (hcs:HcsOk prog cs) {fn:Func} (hf:prog.funcs[f]?=some fn) (hname:(fn.name == "runtime.NumGoroutine")=false) (hbody:fn.body.isNone=false)
  (hlp:bo [(10,aP (eh st cf T) (ff st cf T))] (dC ((c6 fn).getD 0 jD).2.1)=some (aP (eh st cf T) (ff st cf T))) (h1:Nat.ble (QX fn ((c6 fn).getD 0 jD)).length 0=true) (h2:Nat.ble (c6 fn).length (0+1)=true)
  (hit:∀(n:Nat) (h2:Int) (h3:List T.den) (h4 h5 h6:Int),gk tt (bz cs) dr (bo [(10,aP (eh st cf T) (ff st cf T))]) 2 fn ((c6 fn).getD 0 jD) (n+1) ((eh st cf T).st.mk' ((h2,(h3,(h4,()))),((h5,(h6,())),((),())))) (bI (eh st cf T).xs)=
   DZ st cf T h2 h3 h4 h5 h6 (fun h2 h3 h4 h5 h6=>gk tt (bz cs) dr (bo [(10,aP (eh st cf T) (ff st cf T))]) 2 fn ((c6 fn).getD 0 jD) n ((eh st cf T).st.mk' ((h2,(h3,(h4,()))),((h5,(h6,())),((),())))) (bI (eh st cf T).xs)) some)
  (hrun:∀(a0 a1:Int),Io.run tt (bz cs) dr (bo [(10,aP (eh st cf T) (ff st cf T))]) (qe st cf T) fn (((),(),()),((),a0,a1,()),((),()),())=B4 st cf T a0 a1):
  HcOk prog f (ah (qe st cf T) (Q3 st cf T)):=by
 refine aj (n:=400) hm (cs:=cs) hcs (lp:=bo [(10,aP (eh st cf T) (ff st cf T))]) (fn:=fn) hf hname hbody (qe st cf T) (.step (h0:=aP (eh st cf T) (ff st cf T)) hlp (aw (n:=400) hm (cs:=cs) hcs (lp:=bo [(10,aP (eh st cf T) (ff st cf T))]) (fn:=fn) (.done h1) (eh st cf T) (ff st cf T) ?_) (.done h2)) (Q3 st cf T) ?_
 ·rintro ⟨⟨(n:Int),(xs:List T.den),(i:Int),⟨⟩⟩,⟨⟨(v:Int),(e:Int),⟨⟩⟩,⟨⟨⟩,⟨⟩⟩⟩⟩ y hw hy
  obtain ⟨hg,hy⟩:=Tr.guard hy
  have hg:e≠0:=of_decide_eq_true hg
  refine ⟨1,(hit 0 n xs i v e).trans ?_⟩
  unfold DZ
  rw[← hy]
  by_cases h:i<n
  ·refine (aa (by simpa using h) _ _).trans ?_
   exact ab (by simpa using hg) _ _
  ·exact ab (by simpa using h) _ _
 ·rintro ⟨⟨⟨⟩,⟨⟩,⟨⟩⟩,⟨⟨⟩,(v:Int),(e:Int),⟨⟩⟩,⟨⟨⟩,⟨⟩⟩,⟨⟩⟩ out hw ho
  obtain ⟨hg,ho⟩:=Tr.guard ho
  have hg:e≠0:=of_decide_eq_true hg
  cases ho
  refine (hrun v e).trans ?_
  unfold B4
  have e1:ff st cf T ((0,([],(0,()))),((v,(e,())),((),())))=.ite true (.ret (.ret ((),((([]:List T.den),()),((v,(e,())),((),())))))) .no:=congrArg (fun c=>Tr.ite c _ _) (decide_eq_true hg)
  refine (aa (by simpa using hg) _ _).trans ?_
  refine (aa (by simpa using hg) _ _).trans ?_
  rw[e1]
  rfl
def TL (args:List V)(A:AS):Bool:=match args with
 |[.one (.int _ v),.one (.lst _ _ xs _)]=>!(decide (0≤v)&&(decide (v≤3)&&decide ((xs.length:Int)≤130048)))
 |_=>false
end
end Go.Proofs.YtomeplopmndbgaaGreat.Sym
