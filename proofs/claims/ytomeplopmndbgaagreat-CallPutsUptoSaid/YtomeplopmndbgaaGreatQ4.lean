/- leatref04: well-formed text. -/
import Derived.Lib.SliceRun
import Derived.Test.YtomeplopmndbgaaGreatQ3

namespace Go.Proofs.YtomeplopmndbgaaGreat.Sym
open Go
set_option linter.unusedSimpArgs false
set_option linter.unusedVariables false
noncomputable section
def bS (b:List Int)(p lo hi:Int):Bool:=decide (p<(b.length:Int))&&(decide (lo≤b.getD p.toNat 0)&&decide (b.getD p.toNat 0≤hi))
abbrev jw:Io:=⟨[dL,dI,dU,dU],[],[],[dB],none⟩
def zb (d:jw.In):Tr jw.Res:=.ite (decide ((0:Int)≤d.1.2.1)) (.ret (.ret ((bS d.1.1 d.1.2.1 d.1.2.2.1 d.1.2.2.2.1,()),()))) .no
abbrev DH:List (Nat×Hc):=[]
def P8:Hd:=bA DH
def Ea:Lp:=bv []
def w8 (a0:List Int)(a1 a2 a3:Int):Option jw.Res:=bif decide (a1<(↑a0.length:Int)) then bif decide (0≤a1)&&decide (a1<(↑a0.length:Int)) then bif decide (a2≤a0.getD a1.toNat 0) then bif decide (0≤a1)&&decide (a1<(↑a0.length:Int)) then some (Out.ret ((decide (a0.getD a1.toNat 0≤a3),()),())) else none else some (Out.ret ((false,()),())) else none else some (Out.ret ((false,()),()))
theorem MA (a0:List Int)(a1 a2 a3:Int):Io.run tt P8 dr Ea jw Tryz.f186 ((a0,a1,a2,a3,()),())=w8 a0 a1 a2 a3:=by kernel_rfl
theorem QH:HcOk prog 186 (ah jw zb):=by
 refine aj (n:=400) hm (cs:=DH) HcsOk.nil (lp:=Ea) (fn:=Tryz.f186) (by kernel_rfl) (by kernel_rfl) (by kernel_rfl) jw (.done (by kernel_rfl)) zb ?_
 rintro ⟨⟨(b:List Int),(p:Int),(lo:Int),(hi:Int),⟨⟩⟩,⟨⟩⟩ out hw ho
 obtain ⟨hg,ho⟩:=Tr.guard ho
 cases ho
 refine (MA b p lo hi).trans ?_
 have hg:(0:Int)≤p:=by simpa using hg
 unfold w8
 show _=some (Out.ret ((bS b p lo hi,()),()))
 unfold bS
 generalize b.getD p.toNat 0=c
 by_cases h1:p<(b.length:Int)
 ·by_cases h2:lo≤c
  ·simp[hg,h1,h2]
  ·simp[hg,h1,h2]
 ·simp[h1]
def lS (c:Int):Int:=if c=240 then 144 else if c=224 then 160 else 128
def lQ (c:Int):Int:=if c=244 then 143 else if c=237 then 159 else 191
def fy (b:List Int)(p:Int):Int:=
 if p<0∨(b.length:Int)≤p then 0
 else if b.getD p.toNat 0<128 then 1
 else if b.getD p.toNat 0<194∨244<b.getD p.toNat 0∨bS b (p+1) (lS (b.getD p.toNat 0)) (lQ (b.getD p.toNat 0))=false then 0
 else if b.getD p.toNat 0<224 then 2
 else if bS b (p+2) 128 191=false then 0
 else if b.getD p.toNat 0<240 then 3
 else if bS b (p+3) 128 191=false then 0
 else 4
abbrev mz:Io:=⟨[dL,dI],[],[],[dI],none⟩
def Lc (d:mz.In):Tr mz.Res:=.ret (.ret ((fy d.1.1 d.1.2.1,()),()))
abbrev Of:List (Nat×Hc):=[(186,ah jw zb)]
def X3:Hd:=bA Of
def O0:Lp:=bv []
def Di (a0:List Int)(a1:Int):Option mz.Res:=bif decide (a1<0) then some (Out.ret ((0,()),())) else bif decide ((↑a0.length:Int)≤a1) then some (Out.ret ((0,()),())) else bif decide (0≤a1)&&decide (a1<(↑a0.length:Int)) then bif decide (a0.getD a1.toNat 0<128) then some (Out.ret ((1,()),())) else bif a0.getD a1.toNat 0 == 224 then bif a0.getD a1.toNat 0 == 237 then bif a0.getD a1.toNat 0 == 240 then bif a0.getD a1.toNat 0 == 244 then bif decide (a0.getD a1.toNat 0<194) then some (Out.ret ((0,()),())) else bif decide (244<a0.getD a1.toNat 0) then some (Out.ret ((0,()),())) else bif decide (0≤IntKind.i64.wrap (a1+1)) then bif !bS a0 (IntKind.i64.wrap (a1+1)) 144 143 then some (Out.ret ((0,()),())) else bif decide (a0.getD a1.toNat 0<224) then some (Out.ret ((2,()),())) else bif decide (0≤IntKind.i64.wrap (a1+2)) then bif !bS a0 (IntKind.i64.wrap (a1+2)) 128 191 then some (Out.ret ((0,()),())) else bif decide (a0.getD a1.toNat 0<240) then some (Out.ret ((3,()),())) else bif decide (0≤IntKind.i64.wrap (a1+3)) then bif !bS a0 (IntKind.i64.wrap (a1+3)) 128 191 then some (Out.ret ((0,()),())) else some (Out.ret ((4,()),())) else none else none else none else bif decide (a0.getD a1.toNat 0<194) then some (Out.ret ((0,()),())) else bif decide (244<a0.getD a1.toNat 0) then some (Out.ret ((0,()),())) else bif decide (0≤IntKind.i64.wrap (a1+1)) then bif !bS a0 (IntKind.i64.wrap (a1+1)) 144 159 then some (Out.ret ((0,()),())) else bif decide (a0.getD a1.toNat 0<224) then some (Out.ret ((2,()),())) else bif decide (0≤IntKind.i64.wrap (a1+2)) then bif !bS a0 (IntKind.i64.wrap (a1+2)) 128 191 then some (Out.ret ((0,()),())) else bif decide (a0.getD a1.toNat 0<240) then some (Out.ret ((3,()),())) else bif decide (0≤IntKind.i64.wrap (a1+3)) then bif !bS a0 (IntKind.i64.wrap (a1+3)) 128 191 then some (Out.ret ((0,()),())) else some (Out.ret ((4,()),())) else none else none else none else bif a0.getD a1.toNat 0 == 244 then bif decide (a0.getD a1.toNat 0<194) then some (Out.ret ((0,()),())) else bif decide (244<a0.getD a1.toNat 0) then some (Out.ret ((0,()),())) else bif decide (0≤IntKind.i64.wrap (a1+1)) then bif !bS a0 (IntKind.i64.wrap (a1+1)) 160 143 then some (Out.ret ((0,()),())) else bif decide (a0.getD a1.toNat 0<224) then some (Out.ret ((2,()),())) else bif decide (0≤IntKind.i64.wrap (a1+2)) then bif !bS a0 (IntKind.i64.wrap (a1+2)) 128 191 then some (Out.ret ((0,()),())) else bif decide (a0.getD a1.toNat 0<240) then some (Out.ret ((3,()),())) else bif decide (0≤IntKind.i64.wrap (a1+3)) then bif !bS a0 (IntKind.i64.wrap (a1+3)) 128 191 then some (Out.ret ((0,()),())) else some (Out.ret ((4,()),())) else none else none else none else bif decide (a0.getD a1.toNat 0<194) then some (Out.ret ((0,()),())) else bif decide (244<a0.getD a1.toNat 0) then some (Out.ret ((0,()),())) else bif decide (0≤IntKind.i64.wrap (a1+1)) then bif !bS a0 (IntKind.i64.wrap (a1+1)) 160 159 then some (Out.ret ((0,()),())) else bif decide (a0.getD a1.toNat 0<224) then some (Out.ret ((2,()),())) else bif decide (0≤IntKind.i64.wrap (a1+2)) then bif !bS a0 (IntKind.i64.wrap (a1+2)) 128 191 then some (Out.ret ((0,()),())) else bif decide (a0.getD a1.toNat 0<240) then some (Out.ret ((3,()),())) else bif decide (0≤IntKind.i64.wrap (a1+3)) then bif !bS a0 (IntKind.i64.wrap (a1+3)) 128 191 then some (Out.ret ((0,()),())) else some (Out.ret ((4,()),())) else none else none else none else bif a0.getD a1.toNat 0 == 240 then bif a0.getD a1.toNat 0 == 244 then bif decide (a0.getD a1.toNat 0<194) then some (Out.ret ((0,()),())) else bif decide (244<a0.getD a1.toNat 0) then some (Out.ret ((0,()),())) else bif decide (0≤IntKind.i64.wrap (a1+1)) then bif !bS a0 (IntKind.i64.wrap (a1+1)) 144 143 then some (Out.ret ((0,()),())) else bif decide (a0.getD a1.toNat 0<224) then some (Out.ret ((2,()),())) else bif decide (0≤IntKind.i64.wrap (a1+2)) then bif !bS a0 (IntKind.i64.wrap (a1+2)) 128 191 then some (Out.ret ((0,()),())) else bif decide (a0.getD a1.toNat 0<240) then some (Out.ret ((3,()),())) else bif decide (0≤IntKind.i64.wrap (a1+3)) then bif !bS a0 (IntKind.i64.wrap (a1+3)) 128 191 then some (Out.ret ((0,()),())) else some (Out.ret ((4,()),())) else none else none else none else bif decide (a0.getD a1.toNat 0<194) then some (Out.ret ((0,()),())) else bif decide (244<a0.getD a1.toNat 0) then some (Out.ret ((0,()),())) else bif decide (0≤IntKind.i64.wrap (a1+1)) then bif !bS a0 (IntKind.i64.wrap (a1+1)) 144 191 then some (Out.ret ((0,()),())) else bif decide (a0.getD a1.toNat 0<224) then some (Out.ret ((2,()),())) else bif decide (0≤IntKind.i64.wrap (a1+2)) then bif !bS a0 (IntKind.i64.wrap (a1+2)) 128 191 then some (Out.ret ((0,()),())) else bif decide (a0.getD a1.toNat 0<240) then some (Out.ret ((3,()),())) else bif decide (0≤IntKind.i64.wrap (a1+3)) then bif !bS a0 (IntKind.i64.wrap (a1+3)) 128 191 then some (Out.ret ((0,()),())) else some (Out.ret ((4,()),())) else none else none else none else bif a0.getD a1.toNat 0 == 244 then bif decide (a0.getD a1.toNat 0<194) then some (Out.ret ((0,()),())) else bif decide (244<a0.getD a1.toNat 0) then some (Out.ret ((0,()),())) else bif decide (0≤IntKind.i64.wrap (a1+1)) then bif !bS a0 (IntKind.i64.wrap (a1+1)) 160 143 then some (Out.ret ((0,()),())) else bif decide (a0.getD a1.toNat 0<224) then some (Out.ret ((2,()),())) else bif decide (0≤IntKind.i64.wrap (a1+2)) then bif !bS a0 (IntKind.i64.wrap (a1+2)) 128 191 then some (Out.ret ((0,()),())) else bif decide (a0.getD a1.toNat 0<240) then some (Out.ret ((3,()),())) else bif decide (0≤IntKind.i64.wrap (a1+3)) then bif !bS a0 (IntKind.i64.wrap (a1+3)) 128 191 then some (Out.ret ((0,()),())) else some (Out.ret ((4,()),())) else none else none else none else bif decide (a0.getD a1.toNat 0<194) then some (Out.ret ((0,()),())) else bif decide (244<a0.getD a1.toNat 0) then some (Out.ret ((0,()),())) else bif decide (0≤IntKind.i64.wrap (a1+1)) then bif !bS a0 (IntKind.i64.wrap (a1+1)) 160 191 then some (Out.ret ((0,()),())) else bif decide (a0.getD a1.toNat 0<224) then some (Out.ret ((2,()),())) else bif decide (0≤IntKind.i64.wrap (a1+2)) then bif !bS a0 (IntKind.i64.wrap (a1+2)) 128 191 then some (Out.ret ((0,()),())) else bif decide (a0.getD a1.toNat 0<240) then some (Out.ret ((3,()),())) else bif decide (0≤IntKind.i64.wrap (a1+3)) then bif !bS a0 (IntKind.i64.wrap (a1+3)) 128 191 then some (Out.ret ((0,()),())) else some (Out.ret ((4,()),())) else none else none else none else bif a0.getD a1.toNat 0 == 237 then bif a0.getD a1.toNat 0 == 240 then bif a0.getD a1.toNat 0 == 244 then bif decide (a0.getD a1.toNat 0<194) then some (Out.ret ((0,()),())) else bif decide (244<a0.getD a1.toNat 0) then some (Out.ret ((0,()),())) else bif decide (0≤IntKind.i64.wrap (a1+1)) then bif !bS a0 (IntKind.i64.wrap (a1+1)) 144 143 then some (Out.ret ((0,()),())) else bif decide (a0.getD a1.toNat 0<224) then some (Out.ret ((2,()),())) else bif decide (0≤IntKind.i64.wrap (a1+2)) then bif !bS a0 (IntKind.i64.wrap (a1+2)) 128 191 then some (Out.ret ((0,()),())) else bif decide (a0.getD a1.toNat 0<240) then some (Out.ret ((3,()),())) else bif decide (0≤IntKind.i64.wrap (a1+3)) then bif !bS a0 (IntKind.i64.wrap (a1+3)) 128 191 then some (Out.ret ((0,()),())) else some (Out.ret ((4,()),())) else none else none else none else bif decide (a0.getD a1.toNat 0<194) then some (Out.ret ((0,()),())) else bif decide (244<a0.getD a1.toNat 0) then some (Out.ret ((0,()),())) else bif decide (0≤IntKind.i64.wrap (a1+1)) then bif !bS a0 (IntKind.i64.wrap (a1+1)) 144 159 then some (Out.ret ((0,()),())) else bif decide (a0.getD a1.toNat 0<224) then some (Out.ret ((2,()),())) else bif decide (0≤IntKind.i64.wrap (a1+2)) then bif !bS a0 (IntKind.i64.wrap (a1+2)) 128 191 then some (Out.ret ((0,()),())) else bif decide (a0.getD a1.toNat 0<240) then some (Out.ret ((3,()),())) else bif decide (0≤IntKind.i64.wrap (a1+3)) then bif !bS a0 (IntKind.i64.wrap (a1+3)) 128 191 then some (Out.ret ((0,()),())) else some (Out.ret ((4,()),())) else none else none else none else bif a0.getD a1.toNat 0 == 244 then bif decide (a0.getD a1.toNat 0<194) then some (Out.ret ((0,()),())) else bif decide (244<a0.getD a1.toNat 0) then some (Out.ret ((0,()),())) else bif decide (0≤IntKind.i64.wrap (a1+1)) then bif !bS a0 (IntKind.i64.wrap (a1+1)) 128 143 then some (Out.ret ((0,()),())) else bif decide (a0.getD a1.toNat 0<224) then some (Out.ret ((2,()),())) else bif decide (0≤IntKind.i64.wrap (a1+2)) then bif !bS a0 (IntKind.i64.wrap (a1+2)) 128 191 then some (Out.ret ((0,()),())) else bif decide (a0.getD a1.toNat 0<240) then some (Out.ret ((3,()),())) else bif decide (0≤IntKind.i64.wrap (a1+3)) then bif !bS a0 (IntKind.i64.wrap (a1+3)) 128 191 then some (Out.ret ((0,()),())) else some (Out.ret ((4,()),())) else none else none else none else bif decide (a0.getD a1.toNat 0<194) then some (Out.ret ((0,()),())) else bif decide (244<a0.getD a1.toNat 0) then some (Out.ret ((0,()),())) else bif decide (0≤IntKind.i64.wrap (a1+1)) then bif !bS a0 (IntKind.i64.wrap (a1+1)) 128 159 then some (Out.ret ((0,()),())) else bif decide (a0.getD a1.toNat 0<224) then some (Out.ret ((2,()),())) else bif decide (0≤IntKind.i64.wrap (a1+2)) then bif !bS a0 (IntKind.i64.wrap (a1+2)) 128 191 then some (Out.ret ((0,()),())) else bif decide (a0.getD a1.toNat 0<240) then some (Out.ret ((3,()),())) else bif decide (0≤IntKind.i64.wrap (a1+3)) then bif !bS a0 (IntKind.i64.wrap (a1+3)) 128 191 then some (Out.ret ((0,()),())) else some (Out.ret ((4,()),())) else none else none else none else bif a0.getD a1.toNat 0 == 240 then bif a0.getD a1.toNat 0 == 244 then bif decide (a0.getD a1.toNat 0<194) then some (Out.ret ((0,()),())) else bif decide (244<a0.getD a1.toNat 0) then some (Out.ret ((0,()),())) else bif decide (0≤IntKind.i64.wrap (a1+1)) then bif !bS a0 (IntKind.i64.wrap (a1+1)) 144 143 then some (Out.ret ((0,()),())) else bif decide (a0.getD a1.toNat 0<224) then some (Out.ret ((2,()),())) else bif decide (0≤IntKind.i64.wrap (a1+2)) then bif !bS a0 (IntKind.i64.wrap (a1+2)) 128 191 then some (Out.ret ((0,()),())) else bif decide (a0.getD a1.toNat 0<240) then some (Out.ret ((3,()),())) else bif decide (0≤IntKind.i64.wrap (a1+3)) then bif !bS a0 (IntKind.i64.wrap (a1+3)) 128 191 then some (Out.ret ((0,()),())) else some (Out.ret ((4,()),())) else none else none else none else bif decide (a0.getD a1.toNat 0<194) then some (Out.ret ((0,()),())) else bif decide (244<a0.getD a1.toNat 0) then some (Out.ret ((0,()),())) else bif decide (0≤IntKind.i64.wrap (a1+1)) then bif !bS a0 (IntKind.i64.wrap (a1+1)) 144 191 then some (Out.ret ((0,()),())) else bif decide (a0.getD a1.toNat 0<224) then some (Out.ret ((2,()),())) else bif decide (0≤IntKind.i64.wrap (a1+2)) then bif !bS a0 (IntKind.i64.wrap (a1+2)) 128 191 then some (Out.ret ((0,()),())) else bif decide (a0.getD a1.toNat 0<240) then some (Out.ret ((3,()),())) else bif decide (0≤IntKind.i64.wrap (a1+3)) then bif !bS a0 (IntKind.i64.wrap (a1+3)) 128 191 then some (Out.ret ((0,()),())) else some (Out.ret ((4,()),())) else none else none else none else bif a0.getD a1.toNat 0 == 244 then bif decide (a0.getD a1.toNat 0<194) then some (Out.ret ((0,()),())) else bif decide (244<a0.getD a1.toNat 0) then some (Out.ret ((0,()),())) else bif decide (0≤IntKind.i64.wrap (a1+1)) then bif !bS a0 (IntKind.i64.wrap (a1+1)) 128 143 then some (Out.ret ((0,()),())) else bif decide (a0.getD a1.toNat 0<224) then some (Out.ret ((2,()),())) else bif decide (0≤IntKind.i64.wrap (a1+2)) then bif !bS a0 (IntKind.i64.wrap (a1+2)) 128 191 then some (Out.ret ((0,()),())) else bif decide (a0.getD a1.toNat 0<240) then some (Out.ret ((3,()),())) else bif decide (0≤IntKind.i64.wrap (a1+3)) then bif !bS a0 (IntKind.i64.wrap (a1+3)) 128 191 then some (Out.ret ((0,()),())) else some (Out.ret ((4,()),())) else none else none else none else bif decide (a0.getD a1.toNat 0<194) then some (Out.ret ((0,()),())) else bif decide (244<a0.getD a1.toNat 0) then some (Out.ret ((0,()),())) else bif decide (0≤IntKind.i64.wrap (a1+1)) then bif !bS a0 (IntKind.i64.wrap (a1+1)) 128 191 then some (Out.ret ((0,()),())) else bif decide (a0.getD a1.toNat 0<224) then some (Out.ret ((2,()),())) else bif decide (0≤IntKind.i64.wrap (a1+2)) then bif !bS a0 (IntKind.i64.wrap (a1+2)) 128 191 then some (Out.ret ((0,()),())) else bif decide (a0.getD a1.toNat 0<240) then some (Out.ret ((3,()),())) else bif decide (0≤IntKind.i64.wrap (a1+3)) then bif !bS a0 (IntKind.i64.wrap (a1+3)) 128 191 then some (Out.ret ((0,()),())) else some (Out.ret ((4,()),())) else none else none else none else none
theorem We (a0:List Int)(a1:Int):Io.run tt X3 dr O0 mz Tryz.f87 ((a0,a1,()),())=Di a0 a1:=by kernel_rfl
theorem uP {b:List Int}{p lo hi:Int}(h:bS b p lo hi=true):p<(b.length:Int):=by
 simp only[bS,Bool.and_eq_true,decide_eq_true_eq] at h
 exact h.1
def Lw (b:List Int)(p c lo hi:Int):Option mz.Res:=
 bif decide (c<194) then some (Out.ret ((0,()),())) else bif decide (244<c) then some (Out.ret ((0,()),())) else bif decide (0≤p+1) then bif !bS b (p+1) lo hi then some (Out.ret ((0,()),()))
  else bif decide (c<224) then some (Out.ret ((2,()),())) else bif decide (0≤IntKind.i64.wrap (p+2)) then bif !bS b (IntKind.i64.wrap (p+2)) 128 191 then some (Out.ret ((0,()),()))
  else bif decide (c<240) then some (Out.ret ((3,()),())) else bif decide (0≤IntKind.i64.wrap (p+3)) then bif !bS b (IntKind.i64.wrap (p+3)) 128 191 then some (Out.ret ((0,()),())) else some (Out.ret ((4,()),())) else none else none else none
theorem PQ {b:List Int}{p c lo hi:Int}(hp:0≤p)(hb:(b.length:Int)≤9223372036854775807):Lw b p c lo hi=some (Out.ret ((if c<194∨244<c∨bS b (p+1) lo hi=false then 0 else if c<224 then 2 else if bS b (p+2) 128 191=false then 0 else if c<240 then 3 else if bS b (p+3) 128 191=false then 0 else 4,()),())):=by
 unfold Lw
 by_cases d2:c<194
 ·simp[d2]
 by_cases d3:244<c
 ·simp[d2,d3]
 rw[ab (by simpa using d2),ab (by simpa using d3),aa (by simp;omega)]
 cases a1:bS b (p+1) lo hi with
 |false=>simp
 |true=>
  have h1:=uP a1
  have e2:IntKind.i64.wrap (p+2)=p+2:=by rw[aC] <;> omega
  rw[e2]
  by_cases d4:c<224
  ·simp[d2,d3,d4]
  rw[ab (by rfl),ab (by simpa using d4),aa (by simp;omega)]
  cases a2:bS b (p+2) 128 191 with
  |false=>simp[d2,d3,d4]
  |true=>
   have h2:=uP a2
   have e3:IntKind.i64.wrap (p+3)=p+3:=by rw[aC] <;> omega
   rw[e3]
   by_cases d5:c<240
   ·simp[d2,d3,d4,d5]
   rw[ab (by rfl),ab (by simpa using d5),aa (by simp;omega)]
   cases a3:bS b (p+3) 128 191 <;> simp[d2,d3,d4,d5]
theorem Pl:HcOk prog 87 (ah mz Lc):=by
 refine aj (n:=400) hm (cs:=Of) (.cons QH .nil) (lp:=O0) (fn:=Tryz.f87) (by kernel_rfl) (by kernel_rfl) (by kernel_rfl) mz (.done (by kernel_rfl)) Lc ?_
 rintro ⟨⟨(b:List Int),(p:Int),⟨⟩⟩,⟨⟩⟩ out hw ho
 cases ho
 refine (We b p).trans ?_
 have hb:b.length≤maxLen:=hw.1.1.1
 rw[dG] at hb
 unfold Di
 show _=some (Out.ret ((fy b p,()),()))
 unfold fy
 by_cases h1:p<0
 ·simp[h1]
 by_cases h2:(b.length:Int)≤p
 ·simp[h1,h2]
 have e1:IntKind.i64.wrap (p+1)=p+1:=by rw[aC] <;> omega
 rw[e1]
 have h3:0≤p:=by omega
 have h4:p<(b.length:Int):=by omega
 have h5:(0:Int)≤p+1:=by omega
 have h6:(0:Int)≤p+2:=by omega
 have h7:(0:Int)≤p+3:=by omega
 generalize b.getD p.toNat 0=c
 rw[ab (by simpa using h1),ab (by simpa using h2),aa (by simp;omega),if_neg (by omega)]
 by_cases d1:c<128
 ·rw[aa (by simpa using d1),if_pos d1]
 rw[ab (by simpa using d1),if_neg d1]
 have tail:∀lo hi,lS c=lo→lQ c=hi→Lw b p c lo hi=some (Out.ret ((if c<194∨244<c∨bS b (p+1) (lS c) (lQ c)=false then 0 else if c<224 then 2 else if bS b (p+2) 128 191=false then 0 else if c<240 then 3 else if bS b (p+3) 128 191=false then 0 else 4,()),())):=by
  intro lo hi e1 e2
  rw[e1,e2]
  exact PQ h3 (by omega)
 have no:∀x:Int,c≠x→(c == x)=false:=fun x h=>by simpa using h
 have ye:∀x:Int,c=x→(c == x)=true:=fun x h=>by simpa using h
 by_cases c1:c=224
 ·rw[aa (ye _ c1),ab (no 237 (by omega)),ab (no 240 (by omega)),ab (no 244 (by omega))]
  exact tail 160 191 (by simp[lS,c1]) (by simp[lQ,c1])
 rw[ab (no _ c1)]
 by_cases c2:c=237
 ·rw[aa (ye _ c2),ab (no 240 (by omega)),ab (no 244 (by omega))]
  exact tail 128 159 (by simp[lS,c2]) (by simp[lQ,c2])
 rw[ab (no _ c2)]
 by_cases c3:c=240
 ·rw[aa (ye _ c3),ab (no 244 (by omega))]
  exact tail 144 191 (by simp[lS,c3]) (by simp[lQ,c3])
 rw[ab (no _ c3)]
 by_cases c4:c=244
 ·rw[aa (ye _ c4)]
  exact tail 128 143 (by simp[lS,c4]) (by simp[lQ,c4])
 rw[ab (no _ c4)]
 exact tail 128 191 (by simp[lS,c1,c3]) (by simp[lQ,c2,c4])
def dC (b:List Int):Nat→Int→Int×Bool
 |0,p=>(p,true)
 |n+1,p=>if (b.length:Int)≤p then (p,true) else if fy b p=0 then (p,false) else dC b n (p+fy b p)
def bM (b:List Int):Int×Bool:=dC b (b.length+1) 0
theorem wz {b:List Int}{p:Int}(h0:0≤p)(h:p<(b.length:Int)):0≤fy b p∧p+fy b p≤b.length:=by
 unfold fy
 rw[if_neg (by omega)]
 split
 ·omega
 split
 ·omega
 rename_i h1
 have a1:bS b (p+1) (lS (b.getD p.toNat 0)) (lQ (b.getD p.toNat 0))=true:=by
  cases hx:bS b (p+1) (lS (b.getD p.toNat 0)) (lQ (b.getD p.toNat 0)) with
  |true=>rfl
  |false=>exact absurd (.inr (.inr hx)) h1
 have h2:=uP a1
 split
 ·omega
 split
 ·omega
 rename_i h3
 have h4:=uP (show bS b (p+2) 128 191=true by simpa using h3)
 split
 ·omega
 split
 ·omega
 rename_i h5
 have h6:=uP (show bS b (p+3) 128 191=true by simpa using h5)
 omega
abbrev p6:Io:=⟨[dL],[],[],[dI,dB],none⟩
def NI (d:p6.In):Tr p6.Res:=.ret (.ret (((bM d.1.1).1,(bM d.1.1).2,()),()))
abbrev LH:List (Nat×Hc):=[(87,ah mz Lc)]
def Uf:Hd:=bA LH
abbrev iY:Lo:=⟨⟨(.one (.hol (.sl 5 (Ty.int IntKind.u8)))::.any::bh (.one (.hol (.int IntKind.i64))::.any::dR (bQ (bh [])))),[]⟩,[(.ret,⟨(bh (.one (.hol (.int IntKind.i64))::.one (.hol .bool)::ai [])),[]⟩),(.exit 0,⟨(bQ (.one (.hol (.int IntKind.i64))::.any::dR (bQ (bh [])))),[]⟩)]⟩
def tC (d:iY.st.den):Tr (aD iY.xs):=
 .ite (decide (d.1.2.1=(0:Int))) (.ite (bM d.1.1).2 (.ret (.pan (.ret ((),(((bM d.1.1).1,()),()))))) (.ret (.ret ((),(((bM d.1.1).1,(false,())),()))))) .no
def Gm:Lp:=bv [(3,aN iY tC)]
def Cc {R:Type}(h1:List Int)(h2:Int)(next:List Int→Int→Option R)(out:aD iY.xs→Option R):Option R:=bif decide (h2<(↑h1.length:Int)) then bif fy h1 h2 == 0 then out (.ret ((),((h2,(false,())),()))) else next (h1) (IntKind.i64.wrap (h2+fy h1 h2)) else out (.pan (.ret ((),((h2,()),()))))
def AD (n:Nat)(h1:List Int)(h2:Int):Option (aD iY.xs):=gd tt Uf dr Gm 0 Tryz.f34 (cE Tryz.f34 0) n (iY.st.mk' ((h1,(h2,())),())) (bL iY.xs)
theorem WB (n:Nat)(h1:List Int)(h2:Int):AD (n+1) h1 h2=Cc h1 h2 (AD n) some:=by kernel_rfl
theorem UD (b:List Int)(hb:(b.length:Int)≤9223372036854775807):∀(k:Nat) (p:Int),0≤p→p≤b.length→(b.length:Int)<p+k→
  AD k b p=if (dC b k p).2=true then some (.pan (.ret ((),(((dC b k p).1,()),())))) else some (.ret ((),(((dC b k p).1,(false,())),()))):=by
 intro k
 induction k with
 |zero=>intro p h0 h1 h2;omega
 |succ k ih=>
  intro p h0 h1 h2
  rw[WB]
  unfold Cc
  by_cases h3:(b.length:Int)≤p
  ·have h4:¬ p<(b.length:Int):=by omega
   have hS:dC b (k+1) p=(p,true):=by simp[dC,h3]
   simp[hS,h4]
  ·have h4:p<(b.length:Int):=by omega
   obtain ⟨h5,h6⟩:=wz h0 h4
   rw[aa (by simpa using h4)]
   by_cases h7:fy b p=0
   ·have hS:dC b (k+1) p=(p,false):=by simp[dC,h3,h7]
    simp[hS,h7]
   ·have hS:dC b (k+1) p=dC b k (p+fy b p):=by simp[dC,h3,h7]
    simp only[hS]
    rw[ab (by simpa using h7),aC (by omega) (by omega),ih _ (by omega) h6 (by omega)]
def HT (a0:List Int):Option p6.Res:=(tC ((a0,(0,())),())).run fun y=>match y with | .ret ((),((x8,x9,()),()))=>(some (Out.ret ((x8,x9,()),()))) | .pan (.ret ((),((x10,()),())))=>(some (Out.ret ((x10,true,()),())))
theorem Zf (a0:List Int):Io.run tt Uf dr Gm p6 Tryz.f34 ((a0,()),())=HT a0:=by kernel_rfl
theorem GD:HcOk prog 34 (ah p6 NI):=by
 refine aj (n:=400) hm (cs:=LH) (.cons Pl .nil) (lp:=Gm) (fn:=Tryz.f34) (by kernel_rfl) (by kernel_rfl) (by kernel_rfl) p6
  (.step (h0:=aN iY tC) (by kernel_rfl) (aw (n:=400) hm (cs:=LH) (.cons Pl .nil) (lp:=Gm) (fn:=Tryz.f34) (.done (by kernel_rfl)) iY tC ?_) (.done (by kernel_rfl))) NI ?_
 ·rintro ⟨⟨(b:List Int),(p:Int),⟨⟩⟩,⟨⟩⟩ y hw hy
  obtain ⟨hg,hy⟩:=Tr.guard hy
  have hg:p=0:=by simpa using hg
  subst hg
  have hb:b.length≤maxLen:=hw.1.1.1
  rw[dG] at hb
  refine ⟨b.length+1,(UD b (by omega) (b.length+1) 0 (by omega) (by omega) (by omega)).trans ?_⟩
  rw[← hy]
  simp only[Tr.val_ite,Tr.val_ret]
  rfl
 ·rintro ⟨⟨(b:List Int),⟨⟩⟩,⟨⟩⟩ out hw ho
  cases ho
  refine (Zf b).trans ?_
  unfold HT tC
  show _=some (Out.ret (((bM b).1,(bM b).2,()),()))
  simp only[Tr.run_ite,Tr.run_ret]
  generalize bM b=r
  obtain ⟨r1,r2⟩:=r
  cases r2 <;> simp
abbrev dS:Sh:=.dat .str false false
def pA (s p:List Int):Bool:=decide (s.take p.length=p)
theorem Ek {s:List Int}(hs:byteR s)(k:Nat):((aY s).get! k).toNat=(s.getD k 0).toNat:=by
 by_cases h:k<s.length
 ·have h1:(aY s).get! k=UInt8.ofNat (s[k]).toNat:=by
   have:k<(aY s).data.size:=by simp[aY,h]
   have e:(aY s).get! k=(aY s).data[k]:=getElem!_pos (aY s).data k this
   rw[e]
   simp[aY]
  rw[h1,aH h]
  have:=hs s[k] (List.getElem_mem h)
  rw[UInt8.toNat_ofNat',Nat.mod_eq_of_lt (by omega)]
 ·have h1:(aY s).get! k=0:=by
   have:¬ k<(aY s).data.size:=by simp[aY];omega
   have e:(aY s).get! k=default:=getElem!_neg (aY s).data k this
   rw[e]
   rfl
  rw[h1,List.getD_eq_getElem?_getD,List.getElem?_eq_none (by omega)]
  rfl
def PP (r1 r2 r3:Prop)[Decidable r1][Decidable r2][Decidable r3](x0 x1 x2 x3:Nat):Nat:=
 if x0<128 then 1
 else if x0<194∨244<x0∨¬(r1∧(if x0=240 then 144 else if x0=224 then 160 else 128)≤x1∧x1≤(if x0=244 then 143 else if x0=237 then 159 else 191)) then 0
 else if x0<224 then 2
 else if ¬(r2∧128≤x2∧x2≤191) then 0
 else if x0<240 then 3
 else if ¬(r3∧128≤x3∧x3≤191) then 0 else 4
theorem WJ {b:List Int}(hs:byteR b){n:Nat}(h:n<b.length):fy b n=(PP (n+1<b.length) (n+2<b.length) (n+3<b.length) (b.getD n 0).toNat (b.getD (n+1) 0).toNat (b.getD (n+2) 0).toNat (b.getD (n+3) 0).toNat:Int):=by
 have hr:∀k,0≤b.getD k 0∧b.getD k 0<256:=fun k=>by
  by_cases hk:k<b.length
  ·rw[aH hk];exact hs _ (List.getElem_mem hk)
  ·rw[List.getD_eq_getElem?_getD,List.getElem?_eq_none (by omega)];simp
 unfold fy PP bS lS lQ
 have e1:((n:Int)+1).toNat=n+1:=by omega
 have e2:((n:Int)+2).toNat=n+2:=by omega
 have e3:((n:Int)+3).toNat=n+3:=by omega
 rw[e1,e2,e3,Int.toNat_natCast]
 have h0:=hr n
 have h1:=hr (n+1)
 have h2:=hr (n+2)
 have h3:=hr (n+3)
 generalize b.getD n 0=y0 at *
 generalize b.getD (n+1) 0=y1 at *
 generalize b.getD (n+2) 0=y2 at *
 generalize b.getD (n+3) 0=y3 at *
 obtain ⟨x0,rfl⟩:=cZ h0.1
 obtain ⟨x1,rfl⟩:=cZ h1.1
 obtain ⟨x2,rfl⟩:=cZ h2.1
 obtain ⟨x3,rfl⟩:=cZ h3.1
 generalize b.length=L at *
 rw[if_neg (by omega)]
 simp only[Bool.and_eq_false_iff,decide_eq_false_iff_not,Int.toNat_natCast]
 by_cases a0:x0<128
 ·rw[if_pos (by omega),if_pos a0];rfl
 rw[if_neg (by omega),if_neg a0]
 have hi:(if (x0:Int)=240 then (144:Int) else if (x0:Int)=224 then 160 else 128)=((if x0=240 then 144 else if x0=224 then 160 else 128:Nat):Int):=by
  repeat' split
  all_goals omega
 have hj:(if (x0:Int)=244 then (143:Int) else if (x0:Int)=237 then 159 else 191)=((if x0=244 then 143 else if x0=237 then 159 else 191:Nat):Int):=by
  repeat' split
  all_goals omega
 rw[hi,hj]
 generalize (if x0=240 then 144 else if x0=224 then 160 else 128:Nat)=lo
 generalize (if x0=244 then 143 else if x0=237 then 159 else 191:Nat)=hi
 by_cases a1:x0<194∨244<x0∨¬(n+1<L∧lo≤x1∧x1≤hi)
 ·rw[if_pos a1,if_pos (by omega)];rfl
 rw[if_neg a1,if_neg (by omega)]
 by_cases a2:x0<224
 ·rw[if_pos a2,if_pos (by omega)];rfl
 rw[if_neg a2,if_neg (by omega)]
 by_cases a3:¬(n+2<L∧128≤x2∧x2≤191)
 ·rw[if_pos a3,if_pos (by omega)];rfl
 rw[if_neg a3,if_neg (by omega)]
 by_cases a4:x0<240
 ·rw[if_pos a4,if_pos (by omega)];rfl
 rw[if_neg a4,if_neg (by omega)]
 by_cases a5:¬(n+3<L∧128≤x3∧x3≤191)
 ·rw[if_pos a5,if_pos (by omega)];rfl
 rw[if_neg a5,if_neg (by omega)];rfl
def Pv (r1 r2 r3:Prop)[Decidable r1][Decidable r2][Decidable r3](x0 x1 x2 x3:Nat):Nat×Nat:=
 if x0<128 then (x0,1)
 else if x0 / 32=6∧(r1∧x1 / 64=2) then (if 128≤(x0 % 32)*64+x1 % 64 then ((x0 % 32)*64+x1 % 64,2) else (65533,1))
 else if (x0 / 16=14∧(r1∧x1 / 64=2))∧(r2∧x2 / 64=2) then
  (if 2048≤(x0 % 16)*4096+(x1 % 64)*64+x2 % 64∧((x0 % 16)*4096+(x1 % 64)*64+x2 % 64<55296∨57344≤(x0 % 16)*4096+(x1 % 64)*64+x2 % 64) then ((x0 % 16)*4096+(x1 % 64)*64+x2 % 64,3) else (65533,1))
 else if ((x0 / 8=30∧(r1∧x1 / 64=2))∧(r2∧x2 / 64=2))∧(r3∧x3 / 64=2) then
  (if 65536≤(x0 % 8)*262144+(x1 % 64)*4096+(x2 % 64)*64+x3 % 64∧(x0 % 8)*262144+(x1 % 64)*4096+(x2 % 64)*64+x3 % 64≤1114111 then ((x0 % 8)*262144+(x1 % 64)*4096+(x2 % 64)*64+x3 % 64,4) else (65533,1))
 else (65533,1)
theorem Xi {c:Nat}(h:c<65536):Utf8.valid (c:Int)=true↔(c<55296∨57344≤c):=by
 simp only[Utf8.valid,Bool.or_eq_true,Bool.and_eq_true,decide_eq_true_eq];omega
theorem Xj {c:Nat}(h:65536≤c):Utf8.valid (c:Int)=true↔c≤1114111:=by
 simp only[Utf8.valid,Bool.or_eq_true,Bool.and_eq_true,decide_eq_true_eq];omega
theorem TO {b:List Int}(hs:byteR b)(n:Nat):Utf8.decode (aY b) n=Pv (n+1<b.length) (n+2<b.length) (n+3<b.length) (b.getD n 0).toNat (b.getD (n+1) 0).toNat (b.getD (n+2) 0).toNat (b.getD (n+3) 0).toNat:=by
 unfold Utf8.decode Pv Utf8.runeError
 simp only[Ek hs,df,Nat.add_zero]
 generalize (b.getD n 0).toNat=x0
 generalize (b.getD (n+1) 0).toNat=x1
 generalize (b.getD (n+2) 0).toNat=x2
 generalize (b.getD (n+3) 0).toNat=x3
 simp only[Bool.and_eq_true,decide_eq_true_eq,beq_iff_eq,ge_iff_le]
 congr 1
 congr 1
 congr 1
 ·congr 1
  apply propext
  constructor
  ·rintro ⟨h1,h2⟩;exact ⟨h1,(Xi (by omega)).1 h2⟩
  ·rintro ⟨h1,h2⟩;exact ⟨h1,(Xi (by omega)).2 h2⟩
 ·congr 1
  congr 1
  apply propext
  constructor
  ·rintro ⟨h1,h2⟩;exact ⟨h1,(Xj h1).1 h2⟩
  ·rintro ⟨h1,h2⟩;exact ⟨h1,(Xj h1).2 h2⟩
theorem ru2 {x0 x1:Nat}(h0:x0<256)(h1:x1<256):(x0 / 32=6∧x1 / 64=2)∧128≤(x0 % 32)*64+x1 % 64↔194≤x0∧x0<224∧128≤x1∧x1≤191:=by omega
theorem ru3 {x0 x1 x2:Nat}(h0:x0<256)(h1:x1<256)(h2:x2<256):((x0 / 16=14∧x1 / 64=2)∧x2 / 64=2)∧(2048≤(x0 % 16)*4096+(x1 % 64)*64+x2 % 64∧((x0 % 16)*4096+(x1 % 64)*64+x2 % 64<55296∨57344≤(x0 % 16)*4096+(x1 % 64)*64+x2 % 64)) ↔
  224≤x0∧x0<240∧((if x0=224 then 160 else 128)≤x1∧x1≤(if x0=237 then 159 else 191))∧128≤x2∧x2≤191:=by
 constructor
 ·rintro ⟨⟨⟨h3,h4⟩,h5⟩,h6⟩
  refine ⟨by omega,by omega,⟨?_,?_⟩,by omega,by omega⟩
  ·split <;> omega
  ·split <;> omega
 ·rintro ⟨h3,h4,⟨h5,h6⟩,h7,h8⟩
  split at h5 <;> split at h6 <;> omega
theorem ru4 {x0 x1 x2 x3:Nat}(h0:x0<256)(h1:x1<256)(h2:x2<256)(h3:x3<256):(((x0 / 8=30∧x1 / 64=2)∧x2 / 64=2)∧x3 / 64=2)∧(65536≤(x0 % 8)*262144+(x1 % 64)*4096+(x2 % 64)*64+x3 % 64∧(x0 % 8)*262144+(x1 % 64)*4096+(x2 % 64)*64+x3 % 64≤1114111) ↔
  240≤x0∧x0≤244∧((if x0=240 then 144 else 128)≤x1∧x1≤(if x0=244 then 143 else 191))∧(128≤x2∧x2≤191)∧(128≤x3∧x3≤191):=by
 constructor
 ·rintro ⟨⟨⟨⟨h3,h4⟩,h5⟩,h6⟩,h7⟩
  refine ⟨by omega,by omega,⟨?_,?_⟩,⟨by omega,by omega⟩,by omega,by omega⟩
  ·split <;> omega
  ·split <;> omega
 ·rintro ⟨h3,h4,⟨h5,h6⟩,⟨h7,h8⟩,h9,h10⟩
  split at h5 <;> split at h6 <;> omega
theorem ace (r1 r2 r3:Prop)[Decidable r1][Decidable r2][Decidable r3](x0 x1 x2 x3:Nat)(h0:x0<256)(h1:x1<256)(h2:x2<256)(h3:x3<256):
  (PP r1 r2 r3 x0 x1 x2 x3=0∧Pv r1 r2 r3 x0 x1 x2 x3=(65533,1)∧¬(r1∧r2∧x0=239∧x1=191∧x2=189)) ∨
  (0<PP r1 r2 r3 x0 x1 x2 x3∧(Pv r1 r2 r3 x0 x1 x2 x3).2=PP r1 r2 r3 x0 x1 x2 x3∧((Pv r1 r2 r3 x0 x1 x2 x3).1=65533→(r1∧r2∧x0=239∧x1=191∧x2=189))):=by
 by_cases a0:x0<128
 ·right
  unfold PP Pv
  rw[if_pos a0,if_pos a0]
  exact ⟨by omega,rfl,fun h=>by simp only at h;omega⟩
 by_cases c2:r1∧194≤x0∧x0<224∧128≤x1∧x1≤191
 ·right
  obtain ⟨⟨g1,g2⟩,g3⟩:=(ru2 h0 h1).2 c2.2
  have e1:PP r1 r2 r3 x0 x1 x2 x3=2:=by
   unfold PP
   rw[if_neg a0,if_neg,if_pos (by omega)]
   rintro (h | h | h)
   ·omega
   ·omega
   ·refine h ⟨c2.1,?_,?_⟩
    ·rw[if_neg (by omega),if_neg (by omega)];omega
    ·rw[if_neg (by omega),if_neg (by omega)];omega
  have e2:Pv r1 r2 r3 x0 x1 x2 x3=((x0 % 32)*64+x1 % 64,2):=by
   unfold Pv
   rw[if_neg a0,if_pos ⟨g1,c2.1,g2⟩,if_pos g3]
  rw[e1,e2]
  exact ⟨by omega,rfl,fun h=>by simp only at h;omega⟩
 by_cases c3:r1∧r2∧(224≤x0∧x0<240∧((if x0=224 then 160 else 128)≤x1∧x1≤(if x0=237 then 159 else 191))∧128≤x2∧x2≤191)
 ·right
  obtain ⟨k1,k2,k⟩:=c3
  obtain ⟨⟨⟨g1,g2⟩,g3⟩,g4⟩:=(ru3 h0 h1 h2).2 k
  have e1:PP r1 r2 r3 x0 x1 x2 x3=3:=by
   unfold PP
   rw[if_neg a0,if_neg,if_neg (by omega),if_neg (fun h=>h ⟨k2,k.2.2.2⟩),if_pos (by omega)]
   rintro (h | h | h)
   ·omega
   ·omega
   ·refine h ⟨k1,?_,?_⟩
    ·rw[if_neg (by omega)];exact k.2.2.1.1
    ·rw[if_neg (by omega)];exact k.2.2.1.2
  have e2:Pv r1 r2 r3 x0 x1 x2 x3=((x0 % 16)*4096+(x1 % 64)*64+x2 % 64,3):=by
   unfold Pv
   rw[if_neg a0,if_neg (by omega),if_pos ⟨⟨g1,k1,g2⟩,k2,g3⟩,if_pos g4]
  rw[e1,e2]
  refine ⟨by omega,rfl,fun h=>?_⟩
  simp only at h
  exact ⟨k1,k2,by omega⟩
 by_cases c4:r1∧r2∧r3∧(240≤x0∧x0≤244∧((if x0=240 then 144 else 128)≤x1∧x1≤(if x0=244 then 143 else 191))∧(128≤x2∧x2≤191)∧(128≤x3∧x3≤191))
 ·right
  obtain ⟨k1,k2,k3,k⟩:=c4
  obtain ⟨⟨⟨⟨g1,g2⟩,g3⟩,g4⟩,g5⟩:=(ru4 h0 h1 h2 h3).2 k
  have e1:PP r1 r2 r3 x0 x1 x2 x3=4:=by
   unfold PP
   rw[if_neg a0,if_neg,if_neg (by omega),if_neg (fun h=>h ⟨k2,k.2.2.2.1⟩),if_neg (by omega),if_neg (fun h=>h ⟨k3,k.2.2.2.2⟩)]
   rintro (h | h | h)
   ·omega
   ·omega
   ·refine h ⟨k1,?_,?_⟩
    ·have:=k.2.2.1.1
     split at this
     ·rename_i e;rw[if_pos e];exact this
     ·rename_i e;rw[if_neg e,if_neg (by omega)];exact this
    ·have:=k.2.2.1.2
     split at this
     ·rename_i e;rw[if_pos e];exact this
     ·rename_i e;rw[if_neg e,if_neg (by omega)];exact this
  have e2:Pv r1 r2 r3 x0 x1 x2 x3=((x0 % 8)*262144+(x1 % 64)*4096+(x2 % 64)*64+x3 % 64,4):=by
   unfold Pv
   rw[if_neg a0,if_neg (by omega),if_neg (by omega),if_pos ⟨⟨⟨g1,k1,g2⟩,k2,g3⟩,k3,g4⟩,if_pos g5]
  rw[e1,e2]
  exact ⟨by omega,rfl,fun h=>by simp only at h;omega⟩
 ·left
  have e2:Pv r1 r2 r3 x0 x1 x2 x3=(65533,1):=by
   unfold Pv
   rw[if_neg a0]
   split
   ·rename_i g
    rw[if_neg fun g'=>c2 ⟨g.2.1,(ru2 h0 h1).1 ⟨⟨g.1,g.2.2⟩,g'⟩⟩]
   split
   ·rename_i g
    rw[if_neg fun g'=>c3 ⟨g.1.2.1,g.2.1,(ru3 h0 h1 h2).1 ⟨⟨⟨g.1.1,g.1.2.2⟩,g.2.2⟩,g'⟩⟩]
   split
   ·rename_i g
    rw[if_neg fun g'=>c4 ⟨g.1.1.2.1,g.1.2.1,g.2.1,(ru4 h0 h1 h2 h3).1 ⟨⟨⟨⟨g.1.1.1,g.1.1.2.2⟩,g.1.2.2⟩,g.2.2⟩,g'⟩⟩]
   rfl
  have e3:¬(r1∧r2∧x0=239∧x1=191∧x2=189):=by
   rintro ⟨k1,k2,rfl,rfl,rfl⟩
   exact c3 ⟨k1,k2,by simp⟩
  refine ⟨?_,e2,e3⟩
  unfold PP
  rw[if_neg a0]
  generalize hlo:(if x0=240 then 144 else if x0=224 then 160 else 128:Nat)=lo
  generalize hhi:(if x0=244 then 143 else if x0=237 then 159 else 191:Nat)=hi
  by_cases g:x0<194∨244<x0∨¬(r1∧lo≤x1∧x1≤hi)
  ·rw[if_pos g]
  rw[if_neg g]
  simp only[not_or,Decidable.not_not] at g
  obtain ⟨g1,g2,g3,g4,g5⟩:=g
  by_cases g6:x0<224
  ·rw[if_neg (by omega),if_neg (by omega)] at hlo hhi
   exact absurd ⟨g3,by omega,by omega,by omega,by omega⟩ c2
  rw[if_neg g6]
  by_cases g7:¬(r2∧128≤x2∧x2≤191)
  ·rw[if_pos g7]
  rw[if_neg g7]
  simp only[Decidable.not_not] at g7
  by_cases g8:x0<240
  ·rw[if_neg (by omega)] at hlo hhi
   subst hlo hhi
   exact absurd ⟨g3,g7.1,by omega,by omega,⟨g4,g5⟩,g7.2⟩ c3
  rw[if_neg g8]
  by_cases g9:¬(r3∧128≤x3∧x3≤191)
  ·rw[if_pos g9]
  exfalso
  simp only[Decidable.not_not] at g9
  refine c4 ⟨g3,g7.1,g9.1,by omega,by omega,⟨?_,?_⟩,g7.2,g9.2⟩
  ·by_cases e:x0=240
   ·rw[if_pos e] at hlo ⊢;omega
   ·rw[if_neg e] at hlo ⊢;rw[if_neg (by omega)] at hlo;omega
  ·by_cases e:x0=244
   ·rw[if_pos e] at hhi ⊢;omega
   ·rw[if_neg e] at hhi ⊢;rw[if_neg (by omega)] at hhi;omega
theorem Pq {b:List Int}{n:Nat}(hs:byteR b):pA (b.drop n) [239,191,189]=true↔(n+1<b.length∧n+2<b.length∧(b.getD n 0).toNat=239∧(b.getD (n+1) 0).toNat=191∧(b.getD (n+2) 0).toNat=189):=by
 unfold pA
 rw[decide_eq_true_eq]
 show (b.drop n).take 3=_↔_
 constructor
 ·intro h
  have hl:=congrArg List.length h
  simp only[List.length_take,List.length_drop,List.length_cons,List.length_nil] at hl
  have h3:n+2<b.length:=by omega
  rw[List.drop_eq_getElem_cons (by omega),List.drop_eq_getElem_cons (by omega),List.drop_eq_getElem_cons (by omega)] at h
  simp only[List.take_succ_cons,List.take_zero,List.cons.injEq,and_true] at h
  obtain ⟨k1,k2,k3⟩:=h
  have k3:b[n+2]=189:=k3
  rw[aH (by omega),aH (by omega),aH h3,k1,k2,k3]
  exact ⟨by omega,by omega,rfl,rfl,rfl⟩
 ·rintro ⟨h1,h2,h3,h4,h5⟩
  rw[aH (by omega)] at h3 h4 h5
  rw[List.drop_eq_getElem_cons (by omega),List.drop_eq_getElem_cons (by omega),List.drop_eq_getElem_cons (by omega)]
  simp only[List.take_succ_cons,List.take_zero,List.cons.injEq,and_true]
  refine ⟨by omega,by omega,?_⟩
  show b[n+2]=189
  omega
theorem Q5 {b:List Int}(hs:byteR b){n:Nat}(h:n<b.length):
  (fy b n=0∧(iq b n).1=65533∧pA (b.drop n) [239,191,189]=false) ∨
  (0<fy b n∧(iq b n).2=fy b n∧((iq b n).1=65533→pA (b.drop n) [239,191,189]=true)):=by
 rw[pd,WJ hs h,TO hs n]
 have hx:∀k,(b.getD k 0).toNat<256:=fun k=>by rw[← Ek hs];exact UInt8.toNat_lt _
 have:=ace (n+1<b.length) (n+2<b.length) (n+3<b.length) _ _ _ _ (hx n) (hx (n+1)) (hx (n+2)) (hx (n+3))
 rw[Pq hs,← Bool.not_eq_true,Pq hs]
 rcases this with ⟨h1,h2,h3⟩ | ⟨h1,h2,h3⟩
 ·left
  exact ⟨by rw[h1];rfl,by rw[h2];rfl,h3⟩
 ·right
  exact ⟨by omega,by simp only;rw[h2],fun h=>h3 (by simp only at h;omega)⟩
abbrev oH:Io:=⟨[dS,dS],[],[],[dB],none⟩
def La (d:oH.In):Tr oH.Res:=.ret (.ret ((pA d.1.1 d.1.2.1,()),()))
abbrev Od:List (Nat×Hc):=[]
def X1:Hd:=bA Od
def OY:Lp:=bv []
def Dg (a0 a1:List Int):Option oH.Res:=bif decide ((↑a1.length:Int)≤(↑a0.length:Int)) then bif decide (0≤0)&&(decide (0≤(↑a1.length:Int))&&decide ((↑a1.length:Int)≤(↑a0.length:Int))) then some (Out.ret ((decide (List.drop (Int.toNat 0) (List.take (↑a1.length:Int).toNat a0)=a1),()),())) else none else some (Out.ret ((false,()),()))
theorem Wc (a0 a1:List Int):Io.run tt X1 dr OY oH Tryz.f212 ((a0,a1,()),())=Dg a0 a1:=by kernel_rfl
theorem YB:HcOk prog 212 (ah oH La):=by
 refine aj (n:=400) hm (cs:=Od) .nil (lp:=OY) (fn:=Tryz.f212) (by kernel_rfl) (by kernel_rfl) (by kernel_rfl) oH (.done (by kernel_rfl)) La ?_
 rintro ⟨⟨(s:List Int),(p:List Int),⟨⟩⟩,⟨⟩⟩ out hw ho
 cases ho
 refine (Wc s p).trans ?_
 show _=some (Out.ret ((pA s p,()),()))
 unfold Dg
 by_cases h:p.length≤s.length
 ·rw[aa (by simpa using h),aa (by simp;omega)]
  rfl
 ·rw[ab (by simpa using h)]
  have:pA s p=false:=by
   unfold pA
   rw[decide_eq_false_iff_not]
   intro e
   have:=congrArg List.length e
   simp only[List.length_take] at this
   omega
  rw[this]
abbrev sH:Io:=⟨[dS,dS],[],[],[dB],none⟩
def SH (d:sH.In):Tr sH.Res:=.ret (.ret ((pA d.1.1 d.1.2.1,()),()))
abbrev TB:List (Nat×Hc):=[(212,ah oH La)]
def aa3:Hd:=bA TB
def UW:Lp:=bv []
def SY (a0 a1:List Int):Option sH.Res:=some (Out.ret ((pA a0 a1,()),()))
theorem Zc (a0 a1:List Int):Io.run tt aa3 dr UW sH Tryz.f193 ((a0,a1,()),())=SY a0 a1:=by kernel_rfl
theorem Vu:HcOk prog 193 (ah sH SH):=by
 refine aj (n:=400) hm (cs:=TB) (.cons YB .nil) (lp:=UW) (fn:=Tryz.f193) (by kernel_rfl) (by kernel_rfl) (by kernel_rfl) sH (.done (by kernel_rfl)) SH ?_
 rintro ⟨⟨(s:List Int),(p:List Int),⟨⟩⟩,⟨⟩⟩ out hw ho
 cases ho
 exact Zc s p
theorem BR (b:List Int):∀(n:Nat) (p:Int),0≤p→p≤b.length→(b.length:Int)<p+n→(dC b n p).2=true→(dC b n p).1=b.length
 |0,p,h0,h1,h2,h=>by omega
 |n+1,p,h0,h1,h2,h=>by
  unfold dC at h ⊢
  split
  ·rename_i h3;simp only;omega
  ·rename_i h3
   rw[if_neg h3] at h
   split
   ·rename_i h4;rw[if_pos h4] at h;cases h
   ·rename_i h4
    rw[if_neg h4] at h
    have h5:=wz (b:=b) h0 (show p<(b.length:Int) by omega)
    exact BR b n _ (by omega) (by omega) (by omega) h
theorem Sb (b:List Int)(h:(bM b).2=true):(bM b).1=b.length:=BR b (b.length+1) 0 (by omega) (by omega) (by omega) h
abbrev m4:Io:=⟨[dL],[],[],[dI,dB],none⟩
def CP (d:m4.In):Tr m4.Res:=.ret (.ret (((bM d.1.1).1,(bM d.1.1).2,()),()))
abbrev LG:List (Nat×Hc):=[(193,ah sH SH)]
def Ud:Hd:=bA LG
abbrev iX:Lo:=⟨⟨(.one (.hol (.sl 5 (Ty.int IntKind.u8)))::.any::bh (.one (.hol .str)::.any::bQ (.one (.ptr 10 0)::ai []))),[none,none,none,none,none,none,none,none,none,none,some [.itr]]⟩,[(.ret,⟨(bh (.one (.hol (.int IntKind.i64))::.one (.hol .bool)::.any::ai (bQ (bh [])))),[]⟩),(.exit 0,⟨(.one (.hol (.sl 5 (Ty.int IntKind.u8)))::ai (dR (bh []))),[]⟩)]⟩
def tB (d:iX.st.den):Tr (aD iX.xs):=
 .ite (decide (d.2.1.1.2=(0:Int))&&decide (d.2.1.1.1=d.1.2.1)) (.ite (bM d.1.2.1).2 (.ret (.pan (.ret ((),((d.1.1,()),()))))) (.ret (.ret ((),(((bM d.1.2.1).1,(false,())),()))))) .no
def Gl:Lp:=bv [(4,aN iX tB)]
def Cb {R:Type}(h1 h2:List Int)(h3:List Int×Int)(next:List Int→List Int→List Int×Int→Option R)(out:aD iX.xs→Option R):Option R:=bif decide (h3.2<(↑h3.1.length:Int)) then bif (iq h3.1 h3.2).1 == 65533 then bif decide (0≤h3.2)&&(decide (h3.2≤(↑h2.length:Int))&&decide ((↑h2.length:Int)≤(↑h2.length:Int))) then bif !pA (List.drop h3.2.toNat (List.take (↑h2.length:Int).toNat h2)) (List.map (fun (c:UInt8)=>(↑c.toNat:Int)) [UInt8.ofBitVec (BitVec.ofFin (Fin.mk (239 % 2 ^ 8) (Nat.mod_lt 239 (BitVec.ofNat._proof_1 8)))),UInt8.ofBitVec (BitVec.ofFin (Fin.mk (191 % 2 ^ 8) (Nat.mod_lt 191 (BitVec.ofNat._proof_1 8)))),UInt8.ofBitVec (BitVec.ofFin (Fin.mk (189 % 2 ^ 8) (Nat.mod_lt 189 (BitVec.ofNat._proof_1 8))))]) then out (.ret ((),((h3.2,(false,())),()))) else next (h1) (h2) ((h3.1,h3.2+(iq h3.1 h3.2).2)) else none else next (h1) (h2) ((h3.1,h3.2+(iq h3.1 h3.2).2)) else out (.pan (.ret ((),((h1,()),()))))
def p8 (n:Nat)(h1 h2:List Int)(h3:List Int×Int):Option (aD iX.xs):=gd tt Ud dr Gl 0 Tryz.f92 (cE Tryz.f92 0) n (iX.st.mk' ((h1,(h2,())),((h3,()),()))) (bL iX.xs)
theorem WA (n:Nat)(h1 h2:List Int)(h3:List Int×Int):p8 (n+1) h1 h2 h3=Cb h1 h2 h3 (p8 n) some:=by kernel_rfl
theorem UC (b s:List Int)(hs:byteR s)(hb:(s.length:Int)≤9223372036854775807):∀(k:Nat) (p:Int),0≤p→p≤s.length→(s.length:Int)<p+k→
  p8 k b s (s,p)=if (dC s k p).2=true then some (.pan (.ret ((),((b,()),())))) else some (.ret ((),(((dC s k p).1,(false,())),()))):=by
 intro k
 induction k with
 |zero=>intro p h0 h1 h2;omega
 |succ k ih=>
  intro p h0 h1 h2
  rw[WA]
  unfold Cb
  change (bif decide (p<(s.length:Int)) then bif (iq s p).1 == 65533 then bif decide (0≤p)&&(decide (p≤(s.length:Int))&&decide ((s.length:Int)≤(s.length:Int))) then bif !pA (List.drop p.toNat (List.take (s.length:Int).toNat s)) [239,191,189] then some (.ret ((),((p,(false,())),()))) else p8 k b s (s,p+(iq s p).2) else none else p8 k b s (s,p+(iq s p).2) else some (.pan (.ret ((),((b,()),())))))=_
  by_cases h3:(s.length:Int)≤p
  ·have h4:¬ p<(s.length:Int):=by omega
   have hS:dC s (k+1) p=(p,true):=by simp[dC,h3]
   simp[hS,h4]
  ·have h4:p<(s.length:Int):=by omega
   obtain ⟨n,rfl⟩:=cZ h0
   have h5:=Q5 hs (show n<s.length by omega)
   have h6:=wz h0 h4
   rw[aa (by simpa using h4),Int.toNat_natCast,Int.toNat_natCast,List.take_length]
   rcases h5 with ⟨g1,g2,g3⟩ | ⟨g1,g2,g3⟩
   ·have hS:dC s (k+1) n=(↑n,false):=by simp[dC,h3,g1]
    rw[hS,g3,aa (by simpa using g2),aa (by simp;omega)]
    rfl
   ·have hS:dC s (k+1) n=dC s k (n+fy s n):=by
     simp only[dC]
     rw[if_neg h3,if_neg (by omega)]
    rw[hS,g2]
    have hn:=ih (n+fy s n) (by omega) (by omega) (by omega)
    by_cases g4:(iq s n).1=65533
    ·rw[aa (by simpa using g4),aa (by simp;omega),g3 g4]
     exact hn
    ·rw[ab (by simpa using g4)]
     exact hn
def HR (a0:List Int):Option m4.Res:=(tB ((a0,(a0,())),(((a0,0),()),()))).run fun y=>match y with | .ret ((),((x13,x14,()),()))=>(some (Out.ret ((x13,x14,()),()))) | .pan (.ret ((),((x15,()),())))=>(some (Out.ret (((↑x15.length:Int),true,()),())))
theorem Zd (a0:List Int):Io.run tt Ud dr Gl m4 Tryz.f92 ((a0,()),())=HR a0:=by kernel_rfl
theorem GC:HcOk prog 92 (ah m4 CP):=by
 refine aj (n:=400) hm (cs:=LG) (.cons Vu .nil) (lp:=Gl) (fn:=Tryz.f92) (by kernel_rfl) (by kernel_rfl) (by kernel_rfl) m4
  (.step (h0:=aN iX tB) (by kernel_rfl) (aw (n:=400) hm (cs:=LG) (.cons Vu .nil) (lp:=Gl) (fn:=Tryz.f92) (.done (by kernel_rfl)) iX tB ?_) (.done (by kernel_rfl))) CP ?_
 ·rintro ⟨⟨(b:List Int),(s:List Int),⟨⟩⟩,⟨⟨⟨(s':List Int),(p:Int)⟩,⟨⟩⟩,⟨⟩⟩⟩ y hw hy
  obtain ⟨hg,hy⟩:=Tr.guard hy
  simp only[Bool.and_eq_true,decide_eq_true_eq] at hg
  have hg1:p=0:=hg.1
  have hg2:s'=s:=hg.2
  subst hg1 hg2
  have hs:byteR s'∧s'.length≤maxLen:=hw.1.2.1
  have hb:=hs.2
  rw[dG] at hb
  refine ⟨s'.length+1,(UC b s' hs.1 (by omega) (s'.length+1) 0 (by omega) (by omega) (by omega)).trans ?_⟩
  rw[← hy]
  simp only[Tr.val_ite,Tr.val_ret]
  rfl
 ·rintro ⟨⟨(b:List Int),⟨⟩⟩,⟨⟩⟩ out hw ho
  cases ho
  refine (Zd b).trans ?_
  unfold HR tB
  show _=some (Out.ret (((bM b).1,(bM b).2,()),()))
  simp only[Tr.run_ite,Tr.run_ret]
  have he:(bM b).2=true→(bM b).1=b.length:=Sb b
  generalize bM b=r at *
  obtain ⟨r1,r2⟩:=r
  cases r2 with
  |true=>
   have he:r1=b.length:=he rfl
   simp[he]
  |false=>simp
abbrev clC:Code:=od Tryz.f118
abbrev clO:Array Oper:=Bm (Cx (Cx (J4 clC)))
abbrev clX:Code:=aci (J4 (Cx (J4 clC)))
abbrev clY:Code:=J4 (J4 clC)
abbrev gR:Io:=⟨[dL],[],[],[dO],none⟩
def tA (d:gR.In):Tr gR.Res:=.ite (decide (d.1.1.length≤4294967296)) (.ret (.ret ((d.1.1,()),()))) .no
abbrev XC:Hd:=bA []
abbrev PR:Lp:=bv []
def clA (b:List Int)(v3 v4:V):AS:=⟨[.one (.lst 5 (.int .u8) b 0),.any,.one (.lst 5 (.int .u8) [] 5),v3,v4,.any,.any,.any],[],[]⟩
def clK (ex:Ex)(A:AS):Option gR.Res:=match ex with
 |.ret=>gR.fin tt Tryz.f118 .ret A
 |_=>none
abbrev H5:Nat:=AW Tryz.f118
theorem cl0 (b:List Int):ev tt XC dr PR 0 H5 (Cx clC) H5 [] (gR.start 8 ((b,()),())) (fun ex A=>match ex with | .normal=>some A | _=>none)=some (clA b .any .any):=by kernel_rfl
theorem clx (b:List Int):ev tt XC dr PR 0 H5 clX H5 [] (clA b (.one (.lst 5 (.int .u8) b 0)) (.one (.bool true))) clK=some (.ret (([],()),())):=by kernel_rfl
theorem cly (b:List Int):ev tt XC dr PR 0 H5 clY H5 [] (clA b (.one (.lst 5 (.int .u8) b 0)) (.one (.bool false))) clK=bif decide (([]:List Int).length+b.length≤4294967296) then some (.ret ((b,()),())) else none:=by kernel_rfl
theorem A7:HcOk prog 118 (ah gR tA):=by
 have htt:=ig Tryz.prog 400
 refine vZ (P:=prog) htt (fn:=Tryz.f118) (by kernel_rfl) (by kernel_rfl) gR tA ?_ (by kernel_rfl)
 rintro ⟨⟨(b:List Int),⟨⟩⟩,⟨⟩⟩ out hwf hout F G cst w vals R Rl hkb hend
 obtain ⟨hg,hout⟩:=Tr.guard hout
 have hg:b.length≤4294967296:=by simpa using hg
 cases hout
 have hc:(Tryz.f118).body=some (.seq (Cx clC) (.seq (.seq (.region 1 clO false) (.cond (.tmp 4) clX .skip)) clY)):=by kernel_rfl
 have hdr:=nD (ig Tryz.prog 400)
 have hhd:tO prog XC:=Al HcsOk.nil
 refine calls_of_wp (P:=prog) (fn:=Tryz.f118) (by kernel_rfl) hc ?_
 refine wp_seq (nu htt hm hhd hdr hkb (lp:=PR) _ (Gt (c:=(Cx clC)) (by kernel_rfl)) (cl0 b) Rl ?_)
 intro ex A1 G1 a1 w1 R1 hd1 h1
 cases ex with
 |normal=>
  simp only[Option.some.injEq] at h1
  subst h1
  show (Code.seq (.seq (.region 1 clO false) (.cond (.tmp 4) clX .skip)) clY).wp prog _ a1 w1
  refine wp_seq (wp_seq (wp_region ?_))
  have hr:List.range clO.size=[0,1]:=by kernel_rfl
  rw[hr]
  obtain ⟨p0,f0,ho0⟩:∃pos after,clO[0]?=some { dst:=some 3,op:=.move (.tmp 0),type:=39,pos:=pos,after:=after,guard:=none }:=⟨_,_,rfl⟩
  obtain ⟨p1,f1,ho1⟩:∃pos after,clO[1]?=some { dst:=some 4,op:=.binOp .eql 39 (.tmp 3) (.const (.slice none 0 0)) 39,type:=4,pos:=pos,after:=after,guard:=none }:=⟨_,_,rfl⟩
  have hu:Program.underlying prog 39=some (.slice 5):=by kernel_rfl
  simp only[wpOps,ho0,ho1]
  rw[if_pos (by rfl)]
  refine .inl ?_
  obtain ⟨u0,hu0,hv0⟩:=qX (P:=prog) htt (fun x=>R1.opd x) R1.ob { dst:=some 3,op:=.move (.tmp 0),type:=39,pos:=p0,after:=f0,guard:=none } (id:=7) (chk:=true) (v:=.one (.lst 5 (.int .u8) b 0)) (by kernel_rfl) rfl
  unfold Oper.wp
  rw[hu0,Oper.upon_value]
  have R2:=R1.puts hv0 (some 3)
  have hd2:(a1.put (some 3) u0).defers=[]:=(Act.put_defers' _ _ _).trans hd1
  generalize a1.put (some 3) u0=a2 at R2 hd2 ⊢
  rw[if_pos (by rfl)]
  refine .inl ?_
  obtain ⟨Aa,cap,he,hc1,hc2,hrow,_⟩:Rc G1 w1 (.lst 5 (.int .u8) b 0) (a2.eval (.tmp 3)):=R2.opd (.tmp 3)
  have hrun:(execOp a2.eval { dst:=some 4,op:=.binOp .eql 39 (.tmp 3) (.const (.slice none 0 0)) 39,type:=4,pos:=p1,after:=f1,guard:=none }).run prog w1=.ok (.value (.bool Aa.isNone)) w1:=by
   have h1:=Go.Lib.run_eql_slice_nil (P:=prog) w1 39 5 Aa b.length cap 0 0 hu
   have h2:a2.eval (.const (.slice none 0 0))=.slice none 0 0:=rfl
   simp only[execOp,Sem.run_bind,he,h2]
   simp[eqGuard,h1]
  rw[hrun,Oper.upon_value]
  have R3:=R2.puts (v:=.one (.bool Aa.isNone)) (u:=.bool Aa.isNone) rfl (some 4)
  have hd3:(a2.put (some 4) (.bool Aa.isNone)).defers=[]:=(Act.put_defers' _ _ _).trans hd2
  generalize a2.put (some 4) (.bool Aa.isNone)=a3 at R3 hd3 ⊢
  have hb4:a3.eval (.tmp 4)=.bool Aa.isNone:=R3.opd (.tmp 4)
  refine wp_cond hb4 ?_
  cases Aa with
  |none=>
   have hb:b=[]:=Classical.byContradiction fun hne=>by
    obtain ⟨_,_,e,_⟩:=hrow hne
    cases e
   subst hb
   refine nu htt hm hhd hdr hkb (lp:=PR) (l:=H5) (x:=[]) clX (Gt (c:=clX) (by kernel_rfl)) (clx []) R3 ?_
   intro ex A' G' a' w' R' hd' hk
   cases ex with
   |ret=>exact ⟨hd'.trans hd3,hend .ret A' G' a' w' R' hk⟩
   |normal=>cases hk
   |exit i=>cases hk
   |panic v=>cases hk
  |some ad=>
   refine wp_skip ?_
   refine nu htt hm hhd hdr hkb (lp:=PR) (l:=H5) (x:=[]) clY (Gt (c:=clY) (by kernel_rfl)) ((cly b).trans (aa (by simpa using hg) _ _)) R3 ?_
   intro ex A' G' a' w' R' hd' hk
   cases ex with
   |ret=>exact ⟨hd'.trans hd3,hend .ret A' G' a' w' R' hk⟩
   |normal=>cases hk
   |exit i=>cases hk
   |panic v=>cases hk
 |exit i=>cases h1
 |ret=>cases h1
 |panic v=>cases h1
abbrev Yo:List Sh:=[dO,dI]
abbrev K1:Sh:=.dat (.int .i16) false false
abbrev PW:Sh:=.dat (.int .i32) false false
abbrev acm:Sh:=.dat (.int .u64) false false
def aB (v:Int):Nat→List Int
 |0=>[]
 |n+1=>(v / 256 ^ n) % 256::aB v n
theorem bN (v:Int):∀n,(aB v n).length=n
 |0=>rfl
 |n+1=>by rw[aB,List.length_cons,bN v n]
def ax (b:List Int)(most v:Int)(n:Nat):Int×List Int:=if most - b.length<n then (10,b) else (0,b++aB v n)
def bf (b:List Int)(most:Int):Bool:=decide (b.length≤4294960000)&&(decide (0≤most)&&decide (most≤(1048576:Int)))
abbrev mE:Io:=⟨[.ptr 0 0],[Yo],[],[dI],none⟩
def Fp (d:mE.In):Tr mE.Res:=.ret (.ret ((IntKind.i64.wrap (d.2.1.2.1 - d.2.1.1.length),()),((d.2.1.1,(d.2.1.2.1,())),())))
abbrev Oq:List (Nat×Hc):=[]
def Yd:Hd:=bA Oq
def Pa:Lp:=bv []
def PL (a0:List Int)(a1:Int):Option mE.Res:=some (Out.ret ((IntKind.i64.wrap (a1 - (↑a0.length:Int)),()),(a0,a1,()),()))
theorem Wt (a0:List Int)(a1:Int):Io.run tt Yd dr Pa mE Tryz.f117 (((),()),(a0,a1,()),())=PL a0 a1:=by kernel_rfl
theorem uH:HcOk prog 117 (ah mE Fp):=by
 refine aj (n:=400) hm (cs:=Oq) HcsOk.nil (lp:=Pa) (fn:=Tryz.f117) (by kernel_rfl) (by kernel_rfl) (by kernel_rfl) mE (.done (by kernel_rfl)) Fp ?_
 rintro ⟨⟨⟨⟩,⟨⟩⟩,⟨⟨(b:List Int),(m:Int),⟨⟩⟩,⟨⟩⟩⟩ out hw ho
 rw[← ho]
 exact Wt b m
abbrev fM:Io:=⟨[.ptr 0 0,acm,dI],[Yo],[],[dI],none⟩
def nq (d:fM.In):Tr fM.Res:=
 .ite (bf d.2.1.1 d.2.1.2.1&&(decide ((0:Int)≤d.1.2.2.1)&&decide (d.1.2.2.1≤(8:Int)))) (.ret (.ret (((ax d.2.1.1 d.2.1.2.1 d.1.2.1 d.1.2.2.1.toNat).1,()),(((ax d.2.1.1 d.2.1.2.1 d.1.2.1 d.1.2.2.1.toNat).2,(d.2.1.2.1,())),())))) .no
abbrev vM:List (Nat×Hc):=[(117,ah mE Fp)]
def DU:Hd:=bA vM
abbrev d0:Lo:=⟨⟨(.one (.ptr 0 0)::.one (.hol (.int IntKind.u64))::.any::bQ (.one (.hol (.int IntKind.i64))::ai (dR []))),[some [.onl 5 (Ty.int IntKind.u8) 2,.hol (.int IntKind.i64)]]⟩,[(.exit 0,⟨(ai (ai ([]))),[some [.onl 5 (Ty.int IntKind.u8) 2,.hol (.int IntKind.i64)]]⟩)]⟩
def lb (d:d0.st.den):Tr (aD d0.xs):=
 .ite (decide (-1≤d.1.2.1)&&(decide (d.1.2.1≤7)&&decide (d.2.1.1.length≤4294960000))) (.ret (.ret ((),((),((d.2.1.1++aB d.1.1 (d.1.2.1+1).toNat,(d.2.1.2.1,())),()))))) .no
def rq:Lp:=bv [(5,aN d0 lb)]
def r9 {R:Type}(h4 h5:Int)(h6:List Int)(h7:Int)(next:Int→Int→List Int→Int→Option R)(out:aD d0.xs→Option R):Option R:=bif decide (0≤h5) then bif decide (0≤IntKind.i64.wrap (8*h5)) then bif !(0 == 1+29 || false)&&true&&decide (h6.length+[IntKind.u8.wrap (Ez IntKind.u64 h4 (IntKind.i64.wrap (8*h5)))].length≤4294967296) then next (h4) (IntKind.i64.wrap (h5 - 1)) (h6++[IntKind.u8.wrap (Ez IntKind.u64 h4 (IntKind.i64.wrap (8*h5)))]) (h7) else none else none else out (.ret ((),((),((h6,(h7,())),()))))
def qb (n:Nat)(h4 h5:Int)(h6:List Int)(h7:Int):Option (aD d0.xs):=gd tt DU dr rq 1 Tryz.f116 (cE Tryz.f116 0) n (d0.st.mk' ((h4,(h5,())),((h6,(h7,())),()))) (bL d0.xs)
theorem J9 (n:Nat)(h4 h5:Int)(h6:List Int)(h7:Int):qb (n+1) h4 h5 h6 h7=r9 h4 h5 h6 h7 (qb n) some:=by kernel_rfl
theorem Ww {v:Int}(h0:0≤v)(h1:v≤18446744073709551615){i:Nat}(hi:i≤7):IntKind.u8.wrap (Ez .u64 v (IntKind.i64.wrap (8*(i:Int))))=(v / 256 ^ i) % 256:=by
 rw[aC (n:=8*(i:Int)) (by omega) (by omega)]
 unfold Ez
 have e:min (8*(i:Int)).toNat (IntKind.u64).bits=8*i:=by
  show min (8*(i:Int)).toNat 64=8*i
  omega
 rw[e]
 have e2:(2:Int) ^ (8*i)=256 ^ i:=by rw[Int.pow_mul];rfl
 have hp:(0:Int)<256 ^ i:=Int.pow_pos (by decide)
 rw[e2,Int.fdiv_eq_ediv_of_nonneg _ (Int.le_of_lt hp)]
 have h3:0≤v / 256 ^ i:=Int.ediv_nonneg h0 (Int.le_of_lt hp)
 have h4:v / 256 ^ i≤v:=Int.ediv_le_self _ h0
 rw[dd (k:=.u64) (by simp[ey,IntKind.min,IntKind.max,IntKind.signed,IntKind.bits];omega)]
 simp[IntKind.wrap,IntKind.signed,IntKind.bits]
theorem I5 {v:Int}(h0:0≤v)(h1:v≤18446744073709551615)(most:Int):∀(k m:Nat) (b:List Int),m<k→m≤8→b.length+m≤4294967296→
  qb k v ((m:Int) - 1) b most=some (.ret ((),((),((b++aB v m,(most,())),())))):=by
 intro k
 induction k with
 |zero=>intro m b h;omega
 |succ k ih=>
  intro m b h2 h3 h4
  rw[J9]
  unfold r9
  cases m with
  |zero=>simp[aB]
  |succ m=>
   have e:((m+1:Nat):Int) - 1=(m:Int):=by omega
   rw[e,aa (by simp),aC (n:=(m:Int) - 1) (by omega) (by omega),Ww h0 h1 (by omega),aC (n:=8*(m:Int)) (by omega) (by omega),aa (by simp;omega),aa (by simp;omega),ih m _ (by omega) (by omega) (by simp;omega)]
   simp[aB]
def xe (a0 a1:Int)(a2:List Int)(a3:Int):Option fM.Res:=bif decide (IntKind.i64.wrap (a3 - (↑a2.length:Int))<a1) then some (Out.ret ((10,()),(a2,a3,()),())) else (lb ((a0,(IntKind.i64.wrap (a1 - 1),())),((a2,(a3,())),()))).run fun y=>match y with | .ret ((),((),(x14,x15,()),()))=>(some (Out.ret ((0,()),(x14,x15,()),())))
theorem MG (a0 a1:Int)(a2:List Int)(a3:Int):Io.run tt DU dr rq fM Tryz.f116 (((),a0,a1,()),(a2,a3,()),())=xe a0 a1 a2 a3:=by kernel_rfl
theorem rA:HcOk prog 116 (ah fM nq):=by
 refine aj (n:=400) hm (cs:=vM) (.cons uH .nil) (lp:=rq) (fn:=Tryz.f116) (by kernel_rfl) (by kernel_rfl) (by kernel_rfl) fM (.step (h0:=aN d0 lb) (by kernel_rfl) (aw (n:=400) hm (cs:=vM) (.cons uH .nil) (lp:=rq) (fn:=Tryz.f116) (.done (by kernel_rfl)) d0 lb ?_) (.done (by kernel_rfl))) nq ?_
 ·rintro ⟨⟨(v:Int),(i:Int),⟨⟩⟩,⟨⟨(b:List Int),(m:Int),⟨⟩⟩,⟨⟩⟩⟩ y hw hy
  obtain ⟨hg,hy⟩:=Tr.guard hy
  simp only[Bool.and_eq_true,decide_eq_true_eq] at hg
  have hv:ey .u64 v:=hw.1.1
  simp[ey,IntKind.min,IntKind.max,IntKind.signed,IntKind.bits] at hv
  have g1:(-1:Int)≤i:=hg.1
  have g2:i≤(7:Int):=hg.2.1
  have g3:b.length≤4294960000:=hg.2.2
  obtain ⟨n,hn⟩:∃n:Nat,i=(n:Int) - 1:=⟨(i+1).toNat,by omega⟩
  subst hn
  refine ⟨10,(I5 hv.1 (by omega) m 10 n b (by omega) (by omega) (by omega)).trans ?_⟩
  rw[← hy,show ((n:Int) - 1+1).toNat=n by omega];rfl
 ·rintro ⟨⟨⟨⟩,(v:Int),(n:Int),⟨⟩⟩,⟨⟨(b:List Int),(m:Int),⟨⟩⟩,⟨⟩⟩⟩ out hw ho
  obtain ⟨hg,ho⟩:=Tr.guard ho
  simp only[bf,Bool.and_eq_true,decide_eq_true_eq] at hg
  obtain ⟨⟨h1,h2,h3⟩,h4,h5⟩:=hg
  have h4:(0:Int)≤n:=h4
  have h5:n≤(8:Int):=h5
  cases ho
  refine (MG v n b m).trans ?_
  unfold xe lb
  simp only
  rw[aC (n:=m - (b.length:Int)) (by omega) (by omega),aC (n:=n - 1) (by omega) (by omega),show n - 1+1=n by omega]
  unfold ax
  by_cases hl:m - (b.length:Int)<n
  ·rw[aa (by simpa using hl),if_pos (by omega)]
  ·rw[ab (by simpa using hl),if_neg (by omega)]
   have:(decide (-1≤n - 1)&&(decide (n - 1≤7)&&decide (b.length≤4294960000)))=true:=by simp;omega
   rw[this]
   rfl
theorem uL (v:Int){n:Nat}(h:n≤8):aB (IntKind.u64.wrap v) n=aB v n:=by
 have e:IntKind.u64.wrap v=v % 18446744073709551616:=by simp[IntKind.wrap,IntKind.signed,IntKind.bits]
 rw[e]
 have key:∀k:Nat,k<8→(v % 18446744073709551616 / 256 ^ k) % 256=(v / 256 ^ k) % 256:=by
  intro k hk
  match k,hk with
  |0,_=>omega
  |1,_=>omega
  |2,_=>omega
  |3,_=>omega
  |4,_=>omega
  |5,_=>omega
  |6,_=>omega
  |7,_=>omega
 induction n with
 |zero=>rfl
 |succ n ih=>rw[aB,aB,key n (by omega),ih (by omega)]
abbrev p7:Io:=⟨[.ptr 0 0,K1],[Yo],[],[dI],none⟩
def NK (d:p7.In):Tr p7.Res:=
 .ite (bf d.2.1.1 d.2.1.2.1) (.ret (.ret (((ax d.2.1.1 d.2.1.2.1 d.1.2.1 2).1,()),(((ax d.2.1.1 d.2.1.2.1 d.1.2.1 2).2,(d.2.1.2.1,())),())))) .no
abbrev TJ:List (Nat×Hc):=[(116,ah fM nq)]
def aa9:Hd:=bA TJ
def U2:Lp:=bv []
def HZ (a0:Int)(a1:List Int)(a2:Int):Option p7.Res:=bif bf a1 a2&&(decide (0≤2)&&decide (2≤8)) then some (Out.ret (((ax a1 a2 (IntKind.u64.wrap a0) (Int.toNat 2)).1,()),((ax a1 a2 (IntKind.u64.wrap a0) (Int.toNat 2)).2,a2,()),())) else none
theorem Zl (a0:Int)(a1:List Int)(a2:Int):Io.run tt aa9 dr U2 p7 Tryz.f47 (((),a0,()),(a1,a2,()),())=HZ a0 a1 a2:=by kernel_rfl
theorem VH:HcOk prog 47 (ah p7 NK):=by
 refine aj (n:=400) hm (cs:=TJ) (.cons rA .nil) (lp:=U2) (fn:=Tryz.f47) (by kernel_rfl) (by kernel_rfl) (by kernel_rfl) p7 (.done (by kernel_rfl)) NK ?_
 rintro ⟨⟨⟨⟩,(v:Int),⟨⟩⟩,⟨⟨(b:List Int),(m:Int),⟨⟩⟩,⟨⟩⟩⟩ out hw ho
 obtain ⟨hg,ho⟩:=Tr.guard ho
 have hg:bf b m=true:=hg
 cases ho
 refine (Zl v b m).trans ?_
 unfold HZ
 have e:ax b m (IntKind.u64.wrap v) 2=ax b m v 2:=by unfold ax;rw[uL v (by decide)]
 simp[hg,e]
abbrev oL:Io:=⟨[.ptr 0 0,PW],[Yo],[],[dI],none⟩
def Ht (d:oL.In):Tr oL.Res:=
 .ite (bf d.2.1.1 d.2.1.2.1) (.ret (.ret (((ax d.2.1.1 d.2.1.2.1 d.1.2.1 4).1,()),(((ax d.2.1.1 d.2.1.2.1 d.1.2.1 4).2,(d.2.1.2.1,())),())))) .no
abbrev TK:List (Nat×Hc):=[(116,ah fM nq)]
def aba:Hd:=bA TK
def U3:Lp:=bv []
def H0 (a0:Int)(a1:List Int)(a2:Int):Option oL.Res:=bif bf a1 a2&&(decide (0≤4)&&decide (4≤8)) then some (Out.ret (((ax a1 a2 (IntKind.u64.wrap a0) (Int.toNat 4)).1,()),((ax a1 a2 (IntKind.u64.wrap a0) (Int.toNat 4)).2,a2,()),())) else none
theorem Zm (a0:Int)(a1:List Int)(a2:Int):Io.run tt aba dr U3 oL Tryz.f48 (((),a0,()),(a1,a2,()),())=H0 a0 a1 a2:=by kernel_rfl
theorem Mg:HcOk prog 48 (ah oL Ht):=by
 refine aj (n:=400) hm (cs:=TK) (.cons rA .nil) (lp:=U3) (fn:=Tryz.f48) (by kernel_rfl) (by kernel_rfl) (by kernel_rfl) oL (.done (by kernel_rfl)) Ht ?_
 rintro ⟨⟨⟨⟩,(v:Int),⟨⟩⟩,⟨⟨(b:List Int),(m:Int),⟨⟩⟩,⟨⟩⟩⟩ out hw ho
 obtain ⟨hg,ho⟩:=Tr.guard ho
 have hg:bf b m=true:=hg
 cases ho
 refine (Zm v b m).trans ?_
 unfold H0
 have e:ax b m (IntKind.u64.wrap v) 4=ax b m v 4:=by unfold ax;rw[uL v (by decide)]
 simp[hg,e]
abbrev sL:Io:=⟨[.ptr 0 0,.dat (.int .i64) false false],[Yo],[],[dI],none⟩
def SN (d:sL.In):Tr sL.Res:=
 .ite (bf d.2.1.1 d.2.1.2.1) (.ret (.ret (((ax d.2.1.1 d.2.1.2.1 d.1.2.1 8).1,()),(((ax d.2.1.1 d.2.1.2.1 d.1.2.1 8).2,(d.2.1.2.1,())),())))) .no
abbrev TL:List (Nat×Hc):=[(116,ah fM nq)]
def abb:Hd:=bA TL
def U4:Lp:=bv []
def H1 (a0:Int)(a1:List Int)(a2:Int):Option sL.Res:=bif bf a1 a2&&(decide (0≤8)&&decide (8≤8)) then some (Out.ret (((ax a1 a2 (IntKind.u64.wrap a0) (Int.toNat 8)).1,()),((ax a1 a2 (IntKind.u64.wrap a0) (Int.toNat 8)).2,a2,()),())) else none
theorem Zn (a0:Int)(a1:List Int)(a2:Int):Io.run tt abb dr U4 sL Tryz.f197 (((),a0,()),(a1,a2,()),())=H1 a0 a1 a2:=by kernel_rfl
theorem abm:HcOk prog 197 (ah sL SN):=by
 refine aj (n:=400) hm (cs:=TL) (.cons rA .nil) (lp:=U4) (fn:=Tryz.f197) (by kernel_rfl) (by kernel_rfl) (by kernel_rfl) sL (.done (by kernel_rfl)) SN ?_
 rintro ⟨⟨⟨⟩,(v:Int),⟨⟩⟩,⟨⟨(b:List Int),(m:Int),⟨⟩⟩,⟨⟩⟩⟩ out hw ho
 obtain ⟨hg,ho⟩:=Tr.guard ho
 have hg:bf b m=true:=hg
 cases ho
 refine (Zn v b m).trans ?_
 unfold H1
 have e:ax b m (IntKind.u64.wrap v) 8=ax b m v 8:=by unfold ax;rw[uL v (by decide)]
 simp[hg,e]
abbrev oM:Io:=⟨[dI],[],[Yo],[.ptr 0 0],none⟩
def Hu (d:oM.In):Tr oM.Res:=.ret (.ret (((),()),((([]:List Int),(an (am d.1.1 0) 1048576,())),())))
abbrev TM:List (Nat×Hc):=[]
def abc:Hd:=bA TM
def U5:Lp:=bv []
def S3 (a0:Int):Option oM.Res:=some (Out.ret (((),()),([],an (am a0 0) 1048576,()),()))
theorem Zo (a0:Int):Io.run tt abc dr U5 oM Tryz.f46 ((a0,()),())=S3 a0:=by kernel_rfl
theorem Mh:HcOk prog 46 (ah oM Hu):=by
 refine aj (n:=400) hm (cs:=TM) HcsOk.nil (lp:=U5) (fn:=Tryz.f46) (by kernel_rfl) (by kernel_rfl) (by kernel_rfl) oM (.done (by kernel_rfl)) Hu ?_
 rintro ⟨⟨(m:Int),⟨⟩⟩,⟨⟩⟩ out hw ho
 rw[← ho]
 exact Zo m
abbrev iS:Io:=⟨[.ptr 0 0],[Yo],[],[dO],none⟩
def tI (d:iS.In):Tr iS.Res:=.ite (decide (d.2.1.1.length≤4294967296)) (.ret (.ret ((d.2.1.1,()),((d.2.1.1,(d.2.1.2.1,())),())))) .no
abbrev IC:List (Nat×Hc):=[(118,ah gR tA)]
def Us:Hd:=bA IC
def JB:Lp:=bv []
def Lu (a0:List Int)(a1:Int):Option iS.Res:=bif decide (a0.length≤4294967296) then some (Out.ret ((a0,()),(a0,a1,()),())) else none
theorem Rz (a0:List Int)(a1:Int):Io.run tt Us dr JB iS Tryz.f50 (((),()),(a0,a1,()),())=Lu a0 a1:=by kernel_rfl
theorem A9:HcOk prog 50 (ah iS tI):=by
 refine aj (n:=400) hm (cs:=IC) (.cons A7 .nil) (lp:=JB) (fn:=Tryz.f50) (by kernel_rfl) (by kernel_rfl) (by kernel_rfl) iS (.done (by kernel_rfl)) tI ?_
 rintro ⟨⟨⟨⟩,⟨⟩⟩,⟨⟨(b:List Int),(m:Int),⟨⟩⟩,⟨⟩⟩⟩ out hw ho
 obtain ⟨hg,ho⟩:=Tr.guard ho
 cases ho
 exact (Rz b m).trans (aa hg _ _)
def aS:List (List Int)→Nat
 |[]=>0
 |p::ps=>p.length+aS ps
def lR:List (List Int)→List Int
 |[]=>[]
 |p::ps=>p++lR ps
def bm (b:List Int)(most:Int)(ps:List (List Int)):Int×List Int:=if most - b.length<aS ps then (10,b) else (0,b++lR ps)
abbrev m5:Io:=⟨[.ptr 0 0,.dat (.sl 39 bs) false false],[Yo],[],[dI],none⟩
def CQ (d:m5.In):Tr m5.Res:=
 .ite (bf d.2.1.1 d.2.1.2.1&&decide (aS d.1.2.1≤4294960000)) (.ret (.ret (((bm d.2.1.1 d.2.1.2.1 d.1.2.1).1,()),(((bm d.2.1.1 d.2.1.2.1 d.1.2.1).2,(d.2.1.2.1,())),())))) .no
abbrev FI:List (Nat×Hc):=[(117,ah mE Fp)]
def LS:Hd:=bA FI
abbrev i3:Lo:=⟨⟨(.one (.ptr 0 0)::.one (.hol (.sl 39 (Ty.sl 5 (Ty.int IntKind.u8))))::.any::bh (.one (.hol (.int IntKind.i64))::bQ (.one (.hol (.sl 39 (Ty.sl 5 (Ty.int IntKind.u8))))::.one (.hol (.int IntKind.i64))::.one (.hol (.int IntKind.i64))::ai (dR (bQ []))))),[some [.onl 5 (Ty.int IntKind.u8) 2,.hol (.int IntKind.i64)]]⟩,[(.exit 0,⟨(.one (.ptr 0 0)::.one (.hol (.sl 39 (Ty.sl 5 (Ty.int IntKind.u8))))::.any::bh (.one (.hol (.int IntKind.i64))::.any::ai (ai (bh [])))),[some [.onl 5 (Ty.int IntKind.u8) 2,.hol (.int IntKind.i64)]]⟩)]⟩
abbrev gA:Lo:=⟨⟨(.one (.ptr 0 0)::ai (dR (.one (.hol (.sl 39 (Ty.sl 5 (Ty.int IntKind.u8))))::.one (.hol (.int IntKind.i64))::.one (.hol (.int IntKind.i64))::.any::dR (bQ [])))),[some [.onl 5 (Ty.int IntKind.u8) 2,.hol (.int IntKind.i64)]]⟩,[(.exit 2,⟨(.any::ai (ai (dR []))),[some [.onl 5 (Ty.int IntKind.u8) 2,.hol (.int IntKind.i64)]]⟩)]⟩
def tJ (d:i3.st.den):Tr (aD i3.xs):=
 .ite (decide (d.1.2.1=0)&&(decide (d.1.2.2.2.2.1=0)&&(decide (d.1.2.2.2.1=(d.1.2.2.1.length:Int))&&decide (aS d.1.2.2.1≤4294960000)))) (.ret (.ret ((),((d.1.1,((aS d.1.2.2.1:Int),())),(d.2.1,()))))) .no
def pT (d:gA.st.den):Tr (aD gA.xs):=
 .ite (decide (d.1.2.2.1=0)&&(decide (d.1.2.1=(d.1.1.length:Int))&&decide (d.2.1.1.length+aS d.1.1≤4294967296))) (.ret (.ret ((),((),((d.2.1.1++lR d.1.1,(d.2.1.2.1,())),()))))) .no
def wk:Lp:=bv [(4,aN i3 tJ),(11,aN gA pT)]
def Ce {R:Type}(h3:List bs.den)(h4:Int)(h5:List bs.den)(h6 h7:Int)(h8:List Int)(h9:Int)(next:List bs.den→Int→List bs.den→Int→Int→List Int→Int→Option R)(out:aD i3.xs→Option R):Option R:=bif decide (h7<h6) then bif decide (0≤h7)&&decide (h7<(↑h5.length:Int)) then next (h3) (IntKind.i64.wrap (h4+(↑(List.length (h5.getD h7.toNat [])):Int))) (h5) (h6) (IntKind.i64.wrap (h7+1)) (h8) (h9) else none else out (.ret ((),((h3,(h4,())),((h8,(h9,())),()))))
def AE (n:Nat)(h3:List bs.den)(h4:Int)(h5:List bs.den)(h6 h7:Int)(h8:List Int)(h9:Int):Option (aD i3.xs):=gd tt LS dr wk 1 Tryz.f49 (cE Tryz.f49 0) n (i3.st.mk' ((h3,(h4,(h5,(h6,(h7,()))))),((h8,(h9,())),()))) (bL i3.xs)
theorem WD (n:Nat)(h3:List bs.den)(h4:Int)(h5:List bs.den)(h6 h7:Int)(h8:List Int)(h9:Int):AE (n+1) h3 h4 h5 h6 h7 h8 h9=Ce h3 h4 h5 h6 h7 h8 h9 (AE n) some:=by kernel_rfl
def xU {R:Type}(h25:List (Ty.sl 5 (Ty.int IntKind.u8)).den)(h26 h27:Int)(h28:List Int)(h29:Int)(next:List (Ty.sl 5 (Ty.int IntKind.u8)).den→Int→Int→List Int→Int→Option R)(out:aD gA.xs→Option R):Option R:=bif decide (h27<h26) then bif decide (0≤h27)&&decide (h27<(↑h25.length:Int)) then bif decide (h28.length+List.length (h25.getD h27.toNat [])≤4294967296) then next (h25) (h26) (IntKind.i64.wrap (h27+1)) (h28++h25.getD h27.toNat []) (h29) else none else none else out (.ret ((),((),((h28,(h29,())),()))))
def wg (n:Nat)(h25:List (Ty.sl 5 (Ty.int IntKind.u8)).den)(h26 h27:Int)(h28:List Int)(h29:Int):Option (aD gA.xs):=gd tt LS dr wk 1 Tryz.f49 (cE Tryz.f49 1) n (gA.st.mk' ((h25,(h26,(h27,()))),((h28,(h29,())),()))) (bL gA.xs)
theorem RO (n:Nat)(h25:List (Ty.sl 5 (Ty.int IntKind.u8)).den)(h26 h27:Int)(h28:List Int)(h29:Int):wg (n+1) h25 h26 h27 h28 h29=xU h25 h26 h27 h28 h29 (wg n) some:=by kernel_rfl
theorem r6 {ps:List (List Int)}{i:Nat}(h:i<ps.length):aS (ps.drop i)=ps[i].length+aS (ps.drop (i+1)):=by rw[List.drop_eq_getElem_cons h];rfl
theorem Kw {ps:List (List Int)}{i:Nat}(h:i<ps.length):lR (ps.drop i)=ps[i]++lR (ps.drop (i+1)):=by rw[List.drop_eq_getElem_cons h];rfl
theorem L5 (ps0 ps:List (List Int))(b:List Int)(m:Int)(hl:ps.length≤maxLen):∀(k i s:Nat),ps.length<i+k→i≤ps.length→s+aS (ps.drop i)≤4294960000→
  AE k ps0 s ps (ps.length:Int) i b m=some (.ret ((),((ps0,(((s+aS (ps.drop i):Nat):Int),())),((b,(m,())),())))):=by
 intro k
 induction k with
 |zero=>intro i s h;omega
 |succ k ih=>
  intro i s h1 h2 h3
  rw[WD]
  unfold Ce
  by_cases hi:i<ps.length
  ·rw[r6 hi] at h3 ⊢
   have e:List.getD ps (i:Int).toNat []=ps[i]:=by simp only[Int.toNat_natCast,aH hi]
   rw[aa (by simpa using hi),aa (by simpa using hi),e,bp hi hl,aC (n:=(s:Int)+(List.length (α:=Int) ps[i]:Int)) (by omega) (by omega)]
   have e2:(s:Int)+(List.length (α:=Int) ps[i]:Int)=((s+ps[i].length:Nat):Int):=by omega
   rw[e2,ih (i+1) (s+ps[i].length) (by omega) (by omega) (by omega),Nat.add_assoc]
  ·rw[ab (by simp;omega),List.drop_of_length_le (by omega)]
   rfl
theorem I4 (ps:List (List Int))(m:Int)(hl:ps.length≤maxLen):∀(k i:Nat) (b:List Int),ps.length<i+k→i≤ps.length→b.length+aS (ps.drop i)≤4294967296→
  wg k ps (ps.length:Int) i b m=some (.ret ((),((),((b++lR (ps.drop i),(m,())),())))):=by
 intro k
 induction k with
 |zero=>intro i b h;omega
 |succ k ih=>
  intro i b h1 h2 h3
  rw[RO]
  unfold xU
  by_cases hi:i<ps.length
  ·rw[r6 hi] at h3
   rw[Kw hi]
   have e:List.getD ps (i:Int).toNat []=ps[i]:=by simp only[Int.toNat_natCast,aH hi]
   rw[aa (by simpa using hi),aa (by simpa using hi),e,bp hi hl,aa (by simp;omega),ih (i+1) _ (by omega) (by omega) (by simp;omega),List.append_assoc]
  ·rw[ab (by simp;omega),List.drop_of_length_le (by omega)]
   simp[lR]
def H2 (a0:List bs.den)(a1:List Int)(a2:Int):Option m5.Res:=(tJ ((a0,(0,(a0,((↑a0.length:Int),(0,()))))),((a1,(a2,())),()))).run fun y=>match y with | .ret ((),((x21,x22,()),(x23,x24,()),()))=>(bif decide (IntKind.i64.wrap (x24 - (↑x23.length:Int))<x22) then some (Out.ret ((10,()),(x23,x24,()),())) else (pT ((x21,((↑x21.length:Int),(0,()))),((x23,(x24,())),()))).run fun y=>match y with | .ret ((),((),(x37,x38,()),()))=>(some (Out.ret ((0,()),(x37,x38,()),()))))
theorem Zp (a0:List bs.den)(a1:List Int)(a2:Int):Io.run tt LS dr wk m5 Tryz.f49 (((),a0,()),(a1,a2,()),())=H2 a0 a1 a2:=by kernel_rfl
theorem GH:HcOk prog 49 (ah m5 CQ):=by
 refine aj (n:=400) hm (cs:=FI) (.cons uH .nil) (lp:=wk) (fn:=Tryz.f49) (by kernel_rfl) (by kernel_rfl) (by kernel_rfl) m5 (.step (h0:=aN i3 tJ) (by kernel_rfl) (aw (n:=400) hm (cs:=FI) (.cons uH .nil) (lp:=wk) (fn:=Tryz.f49) (.done (by kernel_rfl)) i3 tJ ?_) (.step (h0:=aN gA pT) (by kernel_rfl) (aw (n:=400) hm (cs:=FI) (.cons uH .nil) (lp:=wk) (fn:=Tryz.f49) (.done (by kernel_rfl)) gA pT ?_) (.done (by kernel_rfl)))) CQ ?_
 ·rintro ⟨⟨ps0,s,ps,n,i,⟨⟩⟩,⟨⟨b,m,⟨⟩⟩,⟨⟩⟩⟩ y hw hy
  obtain ⟨hg,hy⟩:=Tr.guard hy
  simp only[Bool.and_eq_true,decide_eq_true_eq] at hg
  obtain ⟨rfl,rfl,rfl,h4⟩:=hg
  refine ⟨ps.length+1,(L5 ps0 ps b m hw.1.2.2.1.1 _ 0 0 (by omega) (by omega) (by simpa using h4)).trans ?_⟩
  rw[← hy,Nat.zero_add];rfl
 ·rintro ⟨⟨ps,n,i,⟨⟩⟩,⟨⟨b,m,⟨⟩⟩,⟨⟩⟩⟩ y hw hy
  obtain ⟨hg,hy⟩:=Tr.guard hy
  simp only[Bool.and_eq_true,decide_eq_true_eq] at hg
  obtain ⟨rfl,rfl,h4⟩:=hg
  refine ⟨ps.length+1,(I4 ps m hw.1.1.1 _ 0 b (by omega) (by omega) (by simpa using h4)).trans ?_⟩
  rw[← hy];rfl
 ·rintro ⟨⟨⟨⟩,(ps:List (List Int)),⟨⟩⟩,⟨⟨(b:List Int),(m:Int),⟨⟩⟩,⟨⟩⟩⟩ out hw ho
  obtain ⟨hg,ho⟩:=Tr.guard ho
  simp only[bf,Bool.and_eq_true,decide_eq_true_eq] at hg
  obtain ⟨⟨h1,h2,h3⟩,h4⟩:=hg
  have h4:aS ps≤4294960000:=h4
  cases ho
  refine (Zp ps b m).trans ?_
  unfold H2
  have c1:(decide ((0:Int)=0)&&(decide ((0:Int)=0)&&(decide ((ps.length:Int)=(ps.length:Int))&&decide (aS ps≤4294960000))))=true:=by simp;omega
  have e1:tJ ((ps,(0,(ps,((ps.length:Int),(0,()))))),((b,(m,())),()))=.ite true (.ret (.ret ((),((ps,((aS ps:Int),())),((b,(m,())),()))))) .no:=congrArg (fun c=>Tr.ite c _ _) c1
  rw[e1]
  simp only[Tr.run,cond_true]
  rw[aC (n:=m - (b.length:Int)) (by omega) (by omega)]
  unfold bm
  by_cases hl:m - (b.length:Int)<(aS ps:Int)
  ·rw[aa (by simpa using hl),if_pos hl]
  ·rw[ab (by simpa using hl),if_neg hl]
   have c2:(decide ((0:Int)=0)&&(decide ((ps.length:Int)=(ps.length:Int))&&decide (b.length+aS ps≤4294967296)))=true:=by simp;omega
   have e2:pT ((ps,((ps.length:Int),(0,()))),((b,(m,())),()))=.ite true (.ret (.ret ((),((),((b++lR ps,(m,())),()))))) .no:=congrArg (fun c=>Tr.ite c _ _) c2
   rw[e2]
   rfl
abbrev Su:List Sh:=[dL,dI]
abbrev LJ:Sh:=.dat (.int .i64) false false
def gV (l:List Int):Int:=l.foldl (fun v c=>v*256+c) 0
def aq (b:List Int)(p:Int)(n:Nat):Int×(Int×Int):=if (b.length:Int) - p<n then (0,(p,1)) else (gV ((b.drop p.toNat).take n),(p+n,0))
def bo (b:List Int)(p:Int):Bool:=decide (b.length≤4294960000)&&(decide (0≤p)&&decide (p≤(b.length:Int)))
def kq (b:List Int)(p n:Int):Int×Int:=if n<0 then (p,3) else if (b.length:Int) - p<n then (p,1) else (p+n,0)
def aR (b:List Int)(p n:Int):List Int×(Int×Int):=if n<0 then ([],(p,3)) else if (b.length:Int) - p<n then ([],(p,1)) else ((b.drop p.toNat).take n.toNat,(p+n,0))
def Kq (b:List Int)(p:Int):Int:=if p<(b.length:Int) then 2 else 0
abbrev gS:Io:=⟨[.ptr 0 0],[Su],[],[dI],none⟩
def qI (d:gS.In):Tr gS.Res:=.ret (.ret ((IntKind.i64.wrap ((d.2.1.1.length:Int) - d.2.1.2.1),()),((d.2.1.1,(d.2.1.2.1,())),())))
abbrev It:List (Nat×Hc):=[]
def Uj:Hd:=bA It
def Js:Lp:=bv []
def Lr (a0:List Int)(a1:Int):Option gS.Res:=some (Out.ret ((IntKind.i64.wrap ((↑a0.length:Int) - a1),()),(a0,a1,()),()))
theorem Ri (a0:List Int)(a1:Int):Io.run tt Uj dr Js gS Tryz.f64 (((),()),(a0,a1,()),())=Lr a0 a1:=by kernel_rfl
theorem qe:HcOk prog 64 (ah gS qI):=by
 refine aj (n:=400) hm (cs:=It) HcsOk.nil (lp:=Js) (fn:=Tryz.f64) (by kernel_rfl) (by kernel_rfl) (by kernel_rfl) gS (.done (by kernel_rfl)) qI ?_
 rintro ⟨⟨⟨⟩,⟨⟩⟩,⟨⟨(b:List Int),(p:Int),⟨⟩⟩,⟨⟩⟩⟩ out hw ho
 rw[← ho]
 exact Ri b p
abbrev eB:Io:=⟨[.ptr 0 0,dI],[Su],[],[acm,dI],none⟩
def kR (d:eB.In):Tr eB.Res:=
 .ite (bo d.2.1.1 d.2.1.2.1&&(decide ((0:Int)≤d.1.2.1)&&decide (d.1.2.1≤(8:Int)))) (.ret (.ret (((aq d.2.1.1 d.2.1.2.1 d.1.2.1.toNat).1,((aq d.2.1.1 d.2.1.2.1 d.1.2.1.toNat).2.2,())),((d.2.1.1,((aq d.2.1.1 d.2.1.2.1 d.1.2.1.toNat).2.1,())),())))) .no
abbrev sr:List (Nat×Hc):=[(64,ah gS qI)]
def An:Hd:=bA sr
abbrev dv:Lo:=⟨⟨(.one (.ptr 0 0)::.one (.hol (.int IntKind.i64))::bQ (.one (.hol (.int IntKind.u64))::ai (bQ (.one (.hol (.sl 5 (Ty.int IntKind.u8)))::.one (.hol (.int IntKind.i64))::.one (.hol (.int IntKind.i64))::ai (bh []))))),[some [.hol (.sl 5 (Ty.int IntKind.u8)),.hol (.int IntKind.i64)]]⟩,[(.exit 0,⟨(.one (.ptr 0 0)::.one (.hol (.int IntKind.i64))::bQ (.one (.hol (.int IntKind.u64))::.any::ai (ai (dR [])))),[some [.hol (.sl 5 (Ty.int IntKind.u8)),.hol (.int IntKind.i64)]]⟩)]⟩
def j1 (d:dv.st.den):Tr (aD dv.xs):=
 .ite (decide (d.1.2.1=0)&&(decide (d.1.2.2.2.2.1=0)&&(decide (d.1.2.2.2.1=(d.1.2.2.1.length:Int))&&decide (d.1.2.2.1.length≤8)))) (.ret (.ret ((),((d.1.1,(gV d.1.2.2.1,())),(d.2.1,()))))) .no
def oV:Lp:=bv [(6,aN dv j1)]
def qA {R:Type}(h3 h4:Int)(h5:List Int)(h6 h7:Int)(h8:List Int)(h9:Int)(next:Int→Int→List Int→Int→Int→List Int→Int→Option R)(out:aD dv.xs→Option R):Option R:=bif decide (h7<h6) then bif decide (0≤h7)&&decide (h7<(↑h5.length:Int)) then next (h3) (ZB IntKind.u64 (Pz IntKind.u64 h4 8) (IntKind.u64.wrap (h5.getD h7.toNat 0))) (h5) (h6) (IntKind.i64.wrap (h7+1)) (h8) (h9) else none else out (.ret ((),((h3,(h4,())),((h8,(h9,())),()))))
def oS (n:Nat)(h3 h4:Int)(h5:List Int)(h6 h7:Int)(h8:List Int)(h9:Int):Option (aD dv.xs):=gd tt An dr oV 1 Tryz.f166 (cE Tryz.f166 0) n (dv.st.mk' ((h3,(h4,(h5,(h6,(h7,()))))),((h8,(h9,())),()))) (bL dv.xs)
theorem GS (n:Nat)(h3 h4:Int)(h5:List Int)(h6 h7:Int)(h8:List Int)(h9:Int):oS (n+1) h3 h4 h5 h6 h7 h8 h9=qA h3 h4 h5 h6 h7 h8 h9 (oS n) some:=by kernel_rfl
theorem YO {v c:Int}(h0:0≤v)(h1:v<72057594037927936)(h2:0≤c)(h3:c≤255):ZB .u64 (Pz .u64 v 8) (IntKind.u64.wrap c)=v*256+c:=by
 have e1:Pz .u64 v 8=v*256:=by
  show IntKind.wrap .u64 (v*2 ^ 8)=_
  rw[show v*2 ^ 8=v*256 by omega]
  exact dd (k:=.u64) (by simp[ey,IntKind.min,IntKind.max,IntKind.signed,IntKind.bits];omega)
 have e0:IntKind.u64.wrap c=c:=dd (k:=.u64) (by simp[ey,IntKind.min,IntKind.max,IntKind.signed,IntKind.bits];omega)
 rw[e1,e0]
 obtain ⟨v,rfl⟩:=cZ h0
 obtain ⟨c,rfl⟩:=cZ h2
 have e4:=Nat.two_pow_add_eq_or_of_lt (show c<2 ^ 8 by omega) v
 show IntKind.wrap .u64 ((BitVec.ofInt 64 ((v:Int)*256) ||| BitVec.ofInt 64 (c:Int)).toNat:Int)=_
 have e2:(BitVec.ofInt 64 (c:Int)).toNat=c:=by rw[BitVec.toNat_ofInt];omega
 have e3:(BitVec.ofInt 64 ((v:Int)*256)).toNat=2 ^ 8*v:=by rw[BitVec.toNat_ofInt];omega
 rw[BitVec.toNat_or,e2,e3,← e4]
 refine (dd (k:=.u64) ?_).trans ?_
 ·simp[ey,IntKind.min,IntKind.max,IntKind.signed,IntKind.bits];omega
 ·omega
theorem GY (l:List Int)(c:Int):gV (l++[c])=gV l*256+c:=by simp[gV]
theorem Aj:∀(l:List Int) (v:Int),(∀c∈l,0≤c∧c≤255)→0≤v→0≤l.foldl (fun v c=>v*256+c) v∧l.foldl (fun v c=>v*256+c) v<(v+1)*256 ^ l.length
 |[],v,_,h0=>⟨h0,by simp;omega⟩
 |c::l,v,h,h0=>by
  obtain ⟨h3,h4⟩:=h c (by simp)
  obtain ⟨h1,h2⟩:=Aj l (v*256+c) (fun d hd=>h d (by simp[hd])) (by omega)
  refine ⟨h1,Int.lt_of_lt_of_le h2 ?_⟩
  rw[List.length_cons,Int.pow_succ,Int.mul_comm (256 ^ l.length) 256,← Int.mul_assoc]
  exact Int.mul_le_mul_of_nonneg_right (by omega) (Int.le_of_lt (Int.pow_pos (by decide)))
theorem Km (l:List Int)(h:∀c∈l,0≤c∧c≤255):0≤gV l∧gV l<256 ^ l.length:=by
 have:=Aj l 0 h (Int.le_refl _)
 simpa [gV] using this
theorem Gd (n:Int)(l b:List Int)(p:Int)(hl:l.length≤8)(hr:∀c∈l,0≤c∧c≤255):∀(k i:Nat),l.length<i+k→i≤l.length→
  oS k n (gV (l.take i)) l (l.length:Int) i b p=some (.ret ((),((n,(gV l,())),((b,(p,())),())))):=by
 intro k
 induction k with
 |zero=>intro i h;omega
 |succ k ih=>
  intro i h1 h2
  rw[GS]
  unfold qA
  by_cases hi:i<l.length
  ·have hc:=hr l[i] (List.getElem_mem hi)
   have hb:=Km (l.take i) fun c hc=>hr c (List.mem_of_mem_take hc)
   have hlt:(256:Int) ^ (l.take i).length≤72057594037927936:=by
    rw[List.length_take,show min i l.length=i by omega]
    have hi7:i≤7:=by omega
    match i,hi7 with
    |0,_=>decide
    |1,_=>decide
    |2,_=>decide
    |3,_=>decide
    |4,_=>decide
    |5,_=>decide
    |6,_=>decide
    |7,_=>decide
   have e1:List.getD l (i:Int).toNat 0=l[i]:=by simp only[Int.toNat_natCast,aH hi]
   rw[aa (by simpa using hi),aa (by simpa using hi),e1,YO hb.1 (by omega) hc.1 hc.2,← GY,← List.take_succ_eq_append_getElem hi,bp hi (by rw[dG];omega),ih (i+1) (by omega) (by omega)]
  ·rw[ab (by simp;omega),List.take_of_length_le (by omega)]
def tX (a0:Int)(a1:List Int)(a2:Int):Option eB.Res:=bif decide (IntKind.i64.wrap ((↑a1.length:Int) - a2)<a0) then some (Out.ret ((0,1,()),(a1,a2,()),())) else bif decide (0≤a2)&&(decide (a2≤IntKind.i64.wrap (a2+a0))&&decide (IntKind.i64.wrap (a2+a0)≤(↑a1.length:Int))) then (j1 ((a0,(0,(List.drop a2.toNat (List.take (IntKind.i64.wrap (a2+a0)).toNat a1),((↑(List.drop a2.toNat (List.take (IntKind.i64.wrap (a2+a0)).toNat a1)).length:Int),(0,()))))),((a1,(a2,())),()))).run fun y=>match y with | .ret ((),((x21,x22,()),(x23,x24,()),()))=>(some (Out.ret ((x22,0,()),(x23,IntKind.i64.wrap (x24+x21),()),()))) else none
theorem JZ (a0:Int)(a1:List Int)(a2:Int):Io.run tt An dr oV eB Tryz.f166 (((),a0,()),(a1,a2,()),())=tX a0 a1 a2:=by kernel_rfl
theorem S4 {b:List Int}(h:Ty.wf bs b):∀c∈b,0≤c∧c≤255:=fun c hc=>by
 have:=h.2 c hc
 simpa [Ty.wf,ey,IntKind.min,IntKind.max,IntKind.signed,IntKind.bits] using this
theorem oZ:HcOk prog 166 (ah eB kR):=by
 refine aj (n:=400) hm (cs:=sr) (.cons qe .nil) (lp:=oV) (fn:=Tryz.f166) (by kernel_rfl) (by kernel_rfl) (by kernel_rfl) eB (.step (h0:=aN dv j1) (by kernel_rfl) (aw (n:=400) hm (cs:=sr) (.cons qe .nil) (lp:=oV) (fn:=Tryz.f166) (.done (by kernel_rfl)) dv j1 ?_) (.done (by kernel_rfl))) kR ?_
 ·rintro ⟨⟨(n:Int),(v:Int),(l:List Int),(m:Int),(i:Int),⟨⟩⟩,⟨⟨(b:List Int),(p:Int),⟨⟩⟩,⟨⟩⟩⟩ y hw hy
  obtain ⟨hg,hy⟩:=Tr.guard hy
  simp only[Bool.and_eq_true,decide_eq_true_eq] at hg
  obtain ⟨rfl,rfl,rfl,h4⟩:=hg
  refine ⟨l.length+1,(Gd n l b p h4 (S4 hw.1.2.2.1) _ 0 (by omega) (by omega)).trans ?_⟩
  rw[← hy];rfl
 ·rintro ⟨⟨⟨⟩,(n:Int),⟨⟩⟩,⟨⟨(b:List Int),(p:Int),⟨⟩⟩,⟨⟩⟩⟩ out hw ho
  obtain ⟨hg,ho⟩:=Tr.guard ho
  simp only[bo,Bool.and_eq_true,decide_eq_true_eq] at hg
  obtain ⟨⟨h1,h2,h3⟩,h4,h5⟩:=hg
  have h1:b.length≤4294960000:=h1
  have h2:(0:Int)≤p:=h2
  have h3:p≤(b.length:Int):=h3
  have h4:(0:Int)≤n:=h4
  have h5:n≤(8:Int):=h5
  cases ho
  refine (JZ n b p).trans ?_
  show _=some (Out.ret (((aq b p n.toNat).1,((aq b p n.toNat).2.2,())),((b,((aq b p n.toNat).2.1,())),())))
  unfold tX
  rw[aC (n:=(b.length:Int) - p) (by omega) (by omega),aC (n:=p+n) (by omega) (by omega)]
  unfold aq
  by_cases hl:(b.length:Int) - p<n
  ·rw[aa (by simpa using hl),if_pos (by omega)]
  ·have e0:List.drop p.toNat (List.take (p+n).toNat b)=(b.drop p.toNat).take n.toNat:=by rw[List.drop_take,show (p+n).toNat - p.toNat=n.toNat by omega]
   rw[ab (by simpa using hl),if_neg (by omega),aa (by simp;omega),e0]
   have hl8:((b.drop p.toNat).take n.toNat).length≤8:=by simp;omega
   have e1:j1 ((n,(0,((b.drop p.toNat).take n.toNat,((((b.drop p.toNat).take n.toNat).length:Int),(0,()))))),((b,(p,())),()))=.ite true (.ret (.ret ((),((n,(gV ((b.drop p.toNat).take n.toNat),())),((b,(p,())),()))))) .no:=
    congrArg (fun c=>Tr.ite c _ _) (show (decide ((0:Int)=0)&&(decide ((0:Int)=0)&&(decide ((((b.drop p.toNat).take n.toNat).length:Int)=(((b.drop p.toNat).take n.toNat).length:Int))&&decide (((b.drop p.toNat).take n.toNat).length≤8))))=true by simp;omega)
   rw[e1]
   simp only[Tr.run,cond_true]
   rw[aC (n:=p+n) (by omega) (by omega),show ((n.toNat:Nat):Int)=n by omega]
abbrev kD:Io:=⟨[.ptr 0 0],[Su],[],[K1,dI],none⟩
def y9 (d:kD.In):Tr kD.Res:=
 .ite (bo d.2.1.1 d.2.1.2.1) (.ret (.ret ((IntKind.i16.wrap (aq d.2.1.1 d.2.1.2.1 2).1,((aq d.2.1.1 d.2.1.2.1 2).2.2,())),((d.2.1.1,((aq d.2.1.1 d.2.1.2.1 2).2.1,())),())))) .no
abbrev Oh:List (Nat×Hc):=[(166,ah eB kR)]
def X5:Hd:=bA Oh
def O2:Lp:=bv []
def Dl (a0:List Int)(a1:Int):Option kD.Res:=bif bo a0 a1&&(decide (0≤2)&&decide (2≤8)) then some (Out.ret ((IntKind.i16.wrap (aq a0 a1 (Int.toNat 2)).1,(aq a0 a1 (Int.toNat 2)).2.2,()),(a0,(aq a0 a1 (Int.toNat 2)).2.1,()),())) else none
theorem Wi (a0:List Int)(a1:Int):Io.run tt X5 dr O2 kD Tryz.f136 (((),()),(a0,a1,()),())=Dl a0 a1:=by kernel_rfl
theorem GE:HcOk prog 136 (ah kD y9):=by
 refine aj (n:=400) hm (cs:=Oh) (.cons oZ .nil) (lp:=O2) (fn:=Tryz.f136) (by kernel_rfl) (by kernel_rfl) (by kernel_rfl) kD (.done (by kernel_rfl)) y9 ?_
 rintro ⟨⟨⟨⟩,⟨⟩⟩,⟨⟨(b:List Int),(p:Int),⟨⟩⟩,⟨⟩⟩⟩ out hw ho
 obtain ⟨hg,ho⟩:=Tr.guard ho
 have hg:bo b p=true:=hg
 cases ho
 refine (Wi b p).trans ?_
 unfold Dl
 rw[aa (by simp[hg])]
 rfl
abbrev kE:Io:=⟨[.ptr 0 0],[Su],[],[PW,dI],none⟩
def za (d:kE.In):Tr kE.Res:=
 .ite (bo d.2.1.1 d.2.1.2.1) (.ret (.ret ((IntKind.i32.wrap (aq d.2.1.1 d.2.1.2.1 4).1,((aq d.2.1.1 d.2.1.2.1 4).2.2,())),((d.2.1.1,((aq d.2.1.1 d.2.1.2.1 4).2.1,())),())))) .no
abbrev Oi:List (Nat×Hc):=[(166,ah eB kR)]
def X6:Hd:=bA Oi
def O3:Lp:=bv []
def Dm (a0:List Int)(a1:Int):Option kE.Res:=bif bo a0 a1&&(decide (0≤4)&&decide (4≤8)) then some (Out.ret ((IntKind.i32.wrap (aq a0 a1 (Int.toNat 4)).1,(aq a0 a1 (Int.toNat 4)).2.2,()),(a0,(aq a0 a1 (Int.toNat 4)).2.1,()),())) else none
theorem Wj (a0:List Int)(a1:Int):Io.run tt X6 dr O3 kE Tryz.f74 (((),()),(a0,a1,()),())=Dm a0 a1:=by kernel_rfl
theorem GF:HcOk prog 74 (ah kE za):=by
 refine aj (n:=400) hm (cs:=Oi) (.cons oZ .nil) (lp:=O3) (fn:=Tryz.f74) (by kernel_rfl) (by kernel_rfl) (by kernel_rfl) kE (.done (by kernel_rfl)) za ?_
 rintro ⟨⟨⟨⟩,⟨⟩⟩,⟨⟨(b:List Int),(p:Int),⟨⟩⟩,⟨⟩⟩⟩ out hw ho
 obtain ⟨hg,ho⟩:=Tr.guard ho
 have hg:bo b p=true:=hg
 cases ho
 refine (Wj b p).trans ?_
 unfold Dm
 rw[aa (by simp[hg])]
 rfl
abbrev oK:Io:=⟨[.ptr 0 0],[Su],[],[LJ,dI],none⟩
def Lf (d:oK.In):Tr oK.Res:=
 .ite (bo d.2.1.1 d.2.1.2.1) (.ret (.ret ((IntKind.i64.wrap (aq d.2.1.1 d.2.1.2.1 8).1,((aq d.2.1.1 d.2.1.2.1 8).2.2,())),((d.2.1.1,((aq d.2.1.1 d.2.1.2.1 8).2.1,())),())))) .no
abbrev Oj:List (Nat×Hc):=[(166,ah eB kR)]
def X7:Hd:=bA Oj
def O4:Lp:=bv []
def Dn (a0:List Int)(a1:Int):Option oK.Res:=bif bo a0 a1&&(decide (0≤8)&&decide (8≤8)) then some (Out.ret ((IntKind.i64.wrap (aq a0 a1 (Int.toNat 8)).1,(aq a0 a1 (Int.toNat 8)).2.2,()),(a0,(aq a0 a1 (Int.toNat 8)).2.1,()),())) else none
theorem Wk (a0:List Int)(a1:Int):Io.run tt X7 dr O4 oK Tryz.f207 (((),()),(a0,a1,()),())=Dn a0 a1:=by kernel_rfl
theorem YF:HcOk prog 207 (ah oK Lf):=by
 refine aj (n:=400) hm (cs:=Oj) (.cons oZ .nil) (lp:=O4) (fn:=Tryz.f207) (by kernel_rfl) (by kernel_rfl) (by kernel_rfl) oK (.done (by kernel_rfl)) Lf ?_
 rintro ⟨⟨⟨⟩,⟨⟩⟩,⟨⟨(b:List Int),(p:Int),⟨⟩⟩,⟨⟩⟩⟩ out hw ho
 obtain ⟨hg,ho⟩:=Tr.guard ho
 have hg:bo b p=true:=hg
 cases ho
 refine (Wk b p).trans ?_
 unfold Dn
 rw[aa (by simp[hg])]
 rfl
abbrev lC:Io:=⟨[.ptr 0 0,dI],[Su],[],[dI],none⟩
def Ff (d:lC.In):Tr lC.Res:=
 .ite (bo d.2.1.1 d.2.1.2.1) (.ret (.ret (((kq d.2.1.1 d.2.1.2.1 d.1.2.1).2,()),((d.2.1.1,((kq d.2.1.1 d.2.1.2.1 d.1.2.1).1,())),())))) .no
abbrev Iu:List (Nat×Hc):=[(64,ah gS qI)]
def Uk:Hd:=bA Iu
def Jt:Lp:=bv []
def zI (a0:Int)(a1:List Int)(a2:Int):Option lC.Res:=bif decide (a0<0) then some (Out.ret ((3,()),(a1,a2,()),())) else bif decide (IntKind.i64.wrap ((↑a1.length:Int) - a2)<a0) then some (Out.ret ((1,()),(a1,a2,()),())) else some (Out.ret ((0,()),(a1,IntKind.i64.wrap (a2+a0),()),()))
theorem Rj (a0:Int)(a1:List Int)(a2:Int):Io.run tt Uk dr Jt lC Tryz.f138 (((),a0,()),(a1,a2,()),())=zI a0 a1 a2:=by kernel_rfl
theorem Vy:HcOk prog 138 (ah lC Ff):=by
 refine aj (n:=400) hm (cs:=Iu) (.cons qe .nil) (lp:=Jt) (fn:=Tryz.f138) (by kernel_rfl) (by kernel_rfl) (by kernel_rfl) lC (.done (by kernel_rfl)) Ff ?_
 rintro ⟨⟨⟨⟩,(n:Int),⟨⟩⟩,⟨⟨(b:List Int),(p:Int),⟨⟩⟩,⟨⟩⟩⟩ out hw ho
 obtain ⟨hg,ho⟩:=Tr.guard ho
 simp only[bo,Bool.and_eq_true,decide_eq_true_eq] at hg
 obtain ⟨h1,h2,h3⟩:=hg
 have h1:b.length≤4294960000:=h1
 have h2:(0:Int)≤p:=h2
 have h3:p≤(b.length:Int):=h3
 cases ho
 refine (Rj n b p).trans ?_
 unfold zI kq
 rw[aC (n:=(b.length:Int) - p) (by omega) (by omega)]
 by_cases h4:n<0
 ·rw[aa (by simpa using h4),if_pos h4]
 ·rw[ab (by simpa using h4),if_neg h4]
  by_cases h5:(b.length:Int) - p<n
  ·rw[aa (by simpa using h5),if_pos h5]
  ·rw[ab (by simpa using h5),if_neg h5,aC (n:=p+n) (by omega) (by omega)]
abbrev gT:Io:=⟨[.ptr 0 0,dI],[Su],[],[dO,dI],none⟩
def qJ (d:gT.In):Tr gT.Res:=
 .ite (bo d.2.1.1 d.2.1.2.1) (.ret (.ret (((aR d.2.1.1 d.2.1.2.1 d.1.2.1).1,((aR d.2.1.1 d.2.1.2.1 d.1.2.1).2.2,())),((d.2.1.1,((aR d.2.1.1 d.2.1.2.1 d.1.2.1).2.1,())),())))) .no
abbrev Iv:List (Nat×Hc):=[(138,ah lC Ff),(118,ah gR tA)]
def Ul:Hd:=bA Iv
def Ju:Lp:=bv []
def zJ (a0:Int)(a1:List Int)(a2:Int):Option gT.Res:=bif bo a1 a2 then bif (kq a1 a2 a0).2 != 0 then some (Out.ret (([],(kq a1 a2 a0).2,()),(a1,(kq a1 a2 a0).1,()),())) else bif decide (0≤a2)&&(decide (a2≤(kq a1 a2 a0).1)&&decide ((kq a1 a2 a0).1≤(↑a1.length:Int))) then bif decide ((List.drop a2.toNat (List.take (kq a1 a2 a0).1.toNat a1)).length≤4294967296) then some (Out.ret ((List.drop a2.toNat (List.take (kq a1 a2 a0).1.toNat a1),0,()),(a1,(kq a1 a2 a0).1,()),())) else none else none else none
theorem Rk (a0:Int)(a1:List Int)(a2:Int):Io.run tt Ul dr Ju gT Tryz.f63 (((),a0,()),(a1,a2,()),())=zJ a0 a1 a2:=by kernel_rfl
theorem uD:HcOk prog 63 (ah gT qJ):=by
 refine aj (n:=400) hm (cs:=Iv) (.cons Vy (.cons A7 .nil)) (lp:=Ju) (fn:=Tryz.f63) (by kernel_rfl) (by kernel_rfl) (by kernel_rfl) gT (.done (by kernel_rfl)) qJ ?_
 rintro ⟨⟨⟨⟩,(n:Int),⟨⟩⟩,⟨⟨(b:List Int),(p:Int),⟨⟩⟩,⟨⟩⟩⟩ out hw ho
 obtain ⟨hg,ho⟩:=Tr.guard ho
 have hg0:bo b p=true:=hg
 simp only[bo,Bool.and_eq_true,decide_eq_true_eq] at hg
 obtain ⟨h1,h2,h3⟩:=hg
 have h1:b.length≤4294960000:=h1
 have h2:(0:Int)≤p:=h2
 have h3:p≤(b.length:Int):=h3
 cases ho
 refine (Rk n b p).trans ?_
 unfold zJ aR kq
 rw[aa hg0]
 by_cases h4:n<0
 ·simp[h4]
 ·by_cases h5:(b.length:Int) - p<n
  ·simp[h4,h5]
  ·have e0:List.drop p.toNat (List.take (p+n).toNat b)=(b.drop p.toNat).take n.toNat:=by rw[List.drop_take,show (p+n).toNat - p.toNat=n.toNat by omega]
   simp only[h4,h5,if_false,e0,bne_self_eq_false,cond_false]
   rw[aa (by simp;omega),aa (by simp;omega)]
abbrev mA:Io:=⟨[.ptr 0 0],[Su],[],[dI],none⟩
def Fe (d:mA.In):Tr mA.Res:=.ret (.ret ((Kq d.2.1.1 d.2.1.2.1,()),(d.2.1,())))
abbrev Og:List (Nat×Hc):=[]
def X4:Hd:=bA Og
def O1:Lp:=bv []
def Dk (a0:List Int)(a1:Int):Option mA.Res:=bif decide (a1<(↑a0.length:Int)) then some (Out.ret ((2,()),(a0,a1,()),())) else some (Out.ret ((0,()),(a0,a1,()),()))
theorem Wh (a0:List Int)(a1:Int):Io.run tt X4 dr O1 mA Tryz.f203 (((),()),(a0,a1,()),())=Dk a0 a1:=by kernel_rfl
theorem Pm:HcOk prog 203 (ah mA Fe):=by
 refine aj (n:=400) hm (cs:=Og) HcsOk.nil (lp:=O1) (fn:=Tryz.f203) (by kernel_rfl) (by kernel_rfl) (by kernel_rfl) mA (.done (by kernel_rfl)) Fe ?_
 rintro ⟨⟨⟨⟩,⟨⟩⟩,⟨⟨(b:List Int),(p:Int),⟨⟩⟩,⟨⟩⟩⟩ out hw ho
 cases ho
 refine (Wh b p).trans ?_
 unfold Dk Kq
 by_cases h:p<(b.length:Int)
 ·rw[aa (by simpa using h),if_pos h]
 ·rw[ab (by simpa using h),if_neg h]
abbrev jU:Io:=⟨[dL],[],[Su],[.ptr 0 0],none⟩
def vD (d:jU.In):Tr jU.Res:=.ite (decide (d.1.1.length≤4294967296)) (.ret (.ret (((),()),((d.1.1,(0,())),())))) .no
abbrev Ok:List (Nat×Hc):=[(118,ah gR tA)]
def X8:Hd:=bA Ok
def O5:Lp:=bv []
def PH (a0:List Int):Option jU.Res:=bif decide (a0.length≤4294967296) then some (Out.ret (((),()),(a0,0,()),())) else none
theorem Wl (a0:List Int):Io.run tt X8 dr O5 jU Tryz.f61 ((a0,()),())=PH a0:=by kernel_rfl
theorem yH:HcOk prog 61 (ah jU vD):=by
 refine aj (n:=400) hm (cs:=Ok) (.cons A7 .nil) (lp:=O5) (fn:=Tryz.f61) (by kernel_rfl) (by kernel_rfl) (by kernel_rfl) jU (.done (by kernel_rfl)) vD ?_
 rintro ⟨⟨(b:List Int),⟨⟩⟩,⟨⟩⟩ out hw ho
 obtain ⟨hg,ho⟩:=Tr.guard ho
 cases ho
 exact (Wl b).trans (aa hg _ _)
def fP (v n:Int):Bool:=if 8≤n then true else if -(2 ^ (8*n - 1).toNat)≤v∧v<2 ^ (8*n - 1).toNat then true else false
abbrev oC:Io:=⟨[LJ,dI],[],[],[dB],none⟩
def K9 (d:oC.In):Tr oC.Res:=.ite (decide ((1:Int)≤d.1.2.1)) (.ret (.ret ((fP d.1.1 d.1.2.1,()),()))) .no
abbrev FD:List (Nat×Hc):=[]
def Ox:Hd:=bA FD
abbrev gm:Lo:=⟨⟨(.one (.hol (.int IntKind.i64))::.one (.hol (.int IntKind.i64))::.any::bh (.one (.hol (.int IntKind.i64))::.one (.hol (.int IntKind.i64))::ai (bQ []))),[]⟩,[(.exit 0,⟨(.one (.hol (.int IntKind.i64))::bQ (.one (.hol (.int IntKind.i64))::.any::ai (bQ []))),[]⟩)]⟩
def pH (d:gm.st.den):Tr (aD gm.xs):=
 .ite (decide (d.1.2.2.1=1)&&(decide (d.1.2.2.2.1=0)&&(decide ((1:Int)≤d.1.2.1)&&decide (d.1.2.1≤(7:Int))))) (.ret (.ret ((),((d.1.1,((2:Int) ^ (8*d.1.2.1 - 1).toNat,())),())))) .no
def yB:Lp:=bv [(6,aN gm pH)]
def xJ {R:Type}(h2 h3 h4 h5:Int)(next:Int→Int→Int→Int→Option R)(out:aD gm.xs→Option R):Option R:=bif decide (h5<IntKind.i64.wrap (IntKind.i64.wrap (8*h3) - 1)) then next (h2) (h3) (IntKind.i64.wrap (h4*2)) (IntKind.i64.wrap (h5+1)) else out (.ret ((),((h2,(h4,())),())))
def v8 (n:Nat)(h2 h3 h4 h5:Int):Option (aD gm.xs):=gd tt Ox dr yB 0 Tryz.f218 (cE Tryz.f218 0) n (gm.st.mk' ((h2,(h3,(h4,(h5,())))),())) (bL gm.xs)
theorem RE (n:Nat)(h2 h3 h4 h5:Int):v8 (n+1) h2 h3 h4 h5=xJ h2 h3 h4 h5 (v8 n) some:=by kernel_rfl
theorem tk {m:Nat}(h:m≤56):(1:Int)≤2 ^ m∧(2:Int) ^ m≤72057594037927936:=by
 constructor
 ·have:(0:Int)<2 ^ m:=Int.pow_pos (by decide)
  omega
 ·have:=Nat.pow_le_pow_right (show 0<2 by decide) h
  have e:((2 ^ m:Nat):Int)=(2:Int) ^ m:=by simp
  have e2:(2:Nat) ^ 56=72057594037927936:=by decide
  omega
theorem Qm (v:Int){n:Int}(h0:1≤n)(h1:n≤7):∀(k j:Nat),(8*n - 1).toNat<j+k→j≤(8*n - 1).toNat→
  v8 k v n ((2:Int) ^ j) j=some (.ret ((),((v,((2:Int) ^ (8*n - 1).toNat,())),()))):=by
 intro k
 induction k with
 |zero=>intro j h;omega
 |succ k ih=>
  intro j h2 h3
  rw[RE]
  unfold xJ
  rw[aC (n:=8*n) (by omega) (by omega),aC (n:=8*n - 1) (by omega) (by omega)]
  by_cases hj:(j:Int)<8*n - 1
  ·refine (aa (by simpa using hj) _ _).trans ?_
   have hp:=tk (m:=j+1) (by omega)
   have hp0:=tk (m:=j) (by omega)
   have e:(2:Int) ^ j*2=2 ^ (j+1):=(Int.pow_succ 2 j).symm
   rw[e,aC (n:=(2:Int) ^ (j+1)) (by omega) (by omega),aC (n:=(j:Int)+1) (by omega) (by omega)]
   exact ih (j+1) (by omega) (by omega)
  ·refine (ab (by simpa using hj) _ _).trans ?_
   have e:j=(8*n - 1).toNat:=by omega
   rw[← e]
def Dd (a0 a1:Int):Option oC.Res:=bif decide (8≤a1) then some (Out.ret ((true,()),())) else (pH ((a0,(a1,(1,(0,())))),())).run fun y=>match y with | .ret ((),((x12,x13,()),()))=>(bif decide (IntKind.i64.wrap (0 - x13)≤x12) then some (Out.ret ((decide (x12<x13),()),())) else some (Out.ret ((false,()),())))
theorem V9 (a0 a1:Int):Io.run tt Ox dr yB oC Tryz.f218 ((a0,a1,()),())=Dd a0 a1:=by kernel_rfl
theorem Pk:HcOk prog 218 (ah oC K9):=by
 refine aj (n:=400) hm (cs:=FD) HcsOk.nil (lp:=yB) (fn:=Tryz.f218) (by kernel_rfl) (by kernel_rfl) (by kernel_rfl) oC (.step (h0:=aN gm pH) (by kernel_rfl) (aw (n:=400) hm (cs:=FD) HcsOk.nil (lp:=yB) (fn:=Tryz.f218) (.done (by kernel_rfl)) gm pH ?_) (.done (by kernel_rfl))) K9 ?_
 ·rintro ⟨⟨(v:Int),(n:Int),(a:Int),(i:Int),⟨⟩⟩,⟨⟩⟩ y hw hy
  obtain ⟨hg,hy⟩:=Tr.guard hy
  simp only[Bool.and_eq_true,decide_eq_true_eq] at hg
  obtain ⟨h1,h2,h3,h4⟩:=hg
  have h1:a=1:=h1
  have h2:i=0:=h2
  have h3:(1:Int)≤n:=h3
  have h4:n≤(7:Int):=h4
  subst h1
  subst h2
  refine ⟨(8*n - 1).toNat+1,(Qm v h3 h4 ((8*n - 1).toNat+1) 0 (by omega) (by omega)).trans ?_⟩
  rw[← hy];rfl
 ·rintro ⟨⟨(v:Int),(n:Int),⟨⟩⟩,⟨⟩⟩ out hw ho
  obtain ⟨hg,ho⟩:=Tr.guard ho
  have hg:(1:Int)≤n:=of_decide_eq_true hg
  cases ho
  refine (V9 v n).trans ?_
  unfold Dd
  show _=some (Out.ret ((fP v n,()),()))
  unfold fP
  by_cases h8:8≤n
  ·rw[if_pos h8]
   exact aa (by simpa using h8) _ _
  ·rw[if_neg h8]
   refine (ab (by simpa using h8) _ _).trans ?_
   have c1:(decide ((1:Int)=1)&&(decide ((0:Int)=0)&&(decide ((1:Int)≤n)&&decide (n≤(7:Int)))))=true:=by simp;omega
   have e1:pH ((v,(n,(1,(0,())))),())=.ite true (.ret (.ret ((),((v,((2:Int) ^ (8*n - 1).toNat,())),())))) .no:=congrArg (fun c=>Tr.ite c _ _) c1
   rw[e1]
   have hp:=tk (m:=(8*n - 1).toNat) (by omega)
   show (bif decide (IntKind.i64.wrap (0 - (2:Int) ^ (8*n - 1).toNat)≤v) then some (Out.ret ((decide (v<(2:Int) ^ (8*n - 1).toNat),()),())) else some (Out.ret ((false,()),())))=_
   generalize (2:Int) ^ (8*n - 1).toNat=m at hp ⊢
   rw[aC (n:=0 - m) (by omega) (by omega)]
   by_cases h1:0 - m≤v
   ·refine (aa (by simpa using h1) _ _).trans ?_
    by_cases h2:v<m
    ·rw[if_pos ⟨by omega,h2⟩,decide_eq_true h2]
    ·rw[if_neg (by omega),decide_eq_false h2]
   ·refine (ab (by simpa using h1) _ _).trans ?_
    rw[if_neg (by omega)]
abbrev iB:Io:=⟨[LJ,dI],[],[],[dO],none⟩
def tz (d:iB.In):Tr iB.Res:=.ite (decide ((0:Int)≤d.1.2.1)&&decide (d.1.2.1≤(8:Int))) (.ret (.ret ((aB d.1.1 d.1.2.1.toNat,()),()))) .no
abbrev qQ:List (Nat×Hc):=[]
def vS:Hd:=bA qQ
abbrev dX:Lo:=⟨⟨(.one (.hol (.int IntKind.i64))::.one (.hol (.int IntKind.i64))::.any::bh (.one (.onl 5 (Ty.int IntKind.u8) 11)::.one (.hol (.int IntKind.i64))::.any::ai (ai (bQ (bh []))))),[]⟩,[(.exit 0,⟨(.any::.one (.hol (.int IntKind.i64))::.any::bh (.one (.onl 5 (Ty.int IntKind.u8) 11)::ai (ai (dR [])))),[]⟩)]⟩
abbrev dp:Lo:=⟨⟨(.any::bQ (.one (.onl 5 (Ty.int IntKind.u8) 11)::bh (.one (.onl 5 (Ty.int IntKind.u8) 17)::.one (.hol (.int IntKind.i64))::ai (ai (bQ []))))),[]⟩,[(.exit 2,⟨(dR (.one (.onl 5 (Ty.int IntKind.u8) 17)::.any::ai (ai (bQ [])))),[]⟩)]⟩
def iJ (v:Int):Nat→List Int
 |0=>[]
 |n+1=>v % 256::iJ (v / 256) n
def k9 (d:dX.st.den):Tr (aD dX.xs):=
 .ite (decide (d.1.2.2.1.length=0)&&(decide (d.1.2.2.2.1=0)&&(decide ((0:Int)≤d.1.2.1)&&decide (d.1.2.1≤(8:Int))))) (.ret (.ret ((),((d.1.2.1,(iJ d.1.1 d.1.2.1.toNat,())),())))) .no
def iy (d:dp.st.den):Tr (aD dp.xs):=
 .ite (decide (d.1.2.1.length=0)&&(decide (d.1.2.2.1=(d.1.1.length:Int) - 1)&&decide (d.1.1.length≤8))) (.ret (.ret ((),((d.1.1.reverse,()),())))) .no
def kS:Lp:=bv [(4,aN dX k9),(13,aN dp iy)]
def r7 {R:Type}(h2 h3:Int)(h4:List Int)(h5:Int)(next:Int→Int→List Int→Int→Option R)(out:aD dX.xs→Option R):Option R:=bif decide (h5<h3) then bif decide (IntKind.i64.wrap (h2.tmod 256)<0) then bif decide (h4.length+[IntKind.u8.wrap (IntKind.i64.wrap (IntKind.i64.wrap (h2.tmod 256)+256))].length≤4294967296) then next (IntKind.i64.wrap ((IntKind.i64.wrap (h2 - IntKind.i64.wrap (IntKind.i64.wrap (h2.tmod 256)+256))).tdiv 256)) (h3) (h4++[IntKind.u8.wrap (IntKind.i64.wrap (IntKind.i64.wrap (h2.tmod 256)+256))]) (IntKind.i64.wrap (h5+1)) else none else bif decide (h4.length+[IntKind.u8.wrap (IntKind.i64.wrap (h2.tmod 256))].length≤4294967296) then next (IntKind.i64.wrap ((IntKind.i64.wrap (h2 - IntKind.i64.wrap (h2.tmod 256))).tdiv 256)) (h3) (h4++[IntKind.u8.wrap (IntKind.i64.wrap (h2.tmod 256))]) (IntKind.i64.wrap (h5+1)) else none else out (.ret ((),((h3,(h4,())),())))
def mF (n:Nat)(h2 h3:Int)(h4:List Int)(h5:Int):Option (aD dX.xs):=gd tt vS dr kS 0 Tryz.f39 (cE Tryz.f39 0) n (dX.st.mk' ((h2,(h3,(h4,(h5,())))),())) (bL dX.xs)
theorem J7 (n:Nat)(h2 h3:Int)(h4:List Int)(h5:Int):mF (n+1) h2 h3 h4 h5=r7 h2 h3 h4 h5 (mF n) some:=by kernel_rfl
def l6 {R:Type}(h18 h19:List Int)(h20:Int)(next:List Int→List Int→Int→Option R)(out:aD dp.xs→Option R):Option R:=bif decide (0≤h20) then bif decide (0≤h20)&&decide (h20<(↑h18.length:Int)) then bif decide (h19.length+[h18.getD h20.toNat 0].length≤4294967296) then next (h18) (h19++[h18.getD h20.toNat 0]) (IntKind.i64.wrap (h20 - 1)) else none else none else out (.ret ((),((h19,()),())))
def oR (n:Nat)(h18 h19:List Int)(h20:Int):Option (aD dp.xs):=gd tt vS dr kS 0 Tryz.f39 (cE Tryz.f39 1) n (dp.st.mk' ((h18,(h19,(h20,()))),())) (bL dp.xs)
theorem uJ (n:Nat)(h18 h19:List Int)(h20:Int):oR (n+1) h18 h19 h20=l6 h18 h19 h20 (oR n) some:=by kernel_rfl
theorem Xg (v:Int):(v.tmod 256<0→v.tmod 256+256=v % 256)∧(¬ v.tmod 256<0→v.tmod 256=v % 256):=by
 by_cases h:0≤v
 ·rw[Int.tmod_eq_emod_of_nonneg h];omega
 ·obtain ⟨u,rfl⟩:∃u,v = -u:=⟨-v,by omega⟩
  rw[Int.neg_tmod,Int.tmod_eq_emod_of_nonneg (by omega)];omega
theorem Xd (v:Int):(v - v % 256).tdiv 256=v / 256:=by
 have e:v - v % 256=v / 256*256:=by omega
 rw[e,Int.mul_tdiv_cancel _ (by decide)]
theorem ZO {n:Int}(h0:0≤n)(h1:n<256):IntKind.u8.wrap n=n:=dd (by simp[ey,IntKind.min,IntKind.max,IntKind.signed,IntKind.bits];omega)
theorem Cl {m:Nat}(hm:m≤8):∀(k j:Nat) (v:Int) (acc:List Int),m<j+k→j≤m→acc.length=j→-9223372036854775808≤v→v≤9223372036854775807→
  mF k v (m:Int) acc j=some (.ret ((),(((m:Int),(acc++iJ v (m - j),())),()))):=by
 intro k
 induction k with
 |zero=>intro j v acc h;omega
 |succ k ih=>
  intro j v acc h1 h2 h3 h4 h5
  rw[J7]
  unfold r7
  by_cases hj:j<m
  ·refine (aa (decide_eq_true (show (j:Int)<(m:Int) by omega)) _ _).trans ?_
   have ht:=Xg v
   have hd:∀x:Int,x=v % 256→mF k (IntKind.i64.wrap ((IntKind.i64.wrap (v - x)).tdiv 256)) (m:Int) (acc++[IntKind.u8.wrap x]) (IntKind.i64.wrap ((j:Int)+1))=some (.ret ((),(((m:Int),(acc++iJ v (m - j),())),()))):=by
    rintro x rfl
    rw[aC (n:=v - v % 256) (by omega) (by omega),Xd,aC (n:=v / 256) (by omega) (by omega),aC (n:=(j:Int)+1) (by omega) (by omega),ZO (n:=v % 256) (by omega) (by omega)]
    refine (ih (j+1) (v / 256) (acc++[v % 256]) (by omega) (by omega) (by simp[h3]) (by omega) (by omega)).trans ?_
    obtain ⟨q,hq⟩:∃q,m - j=q+1:=⟨m - j - 1,by omega⟩
    rw[hq,show m - (j+1)=q by omega,iJ]
    simp
   have hr : -256≤v.tmod 256∧v.tmod 256<256:=by
    by_cases h:v.tmod 256<0
    ·have:=ht.1 h;omega
    ·have:=ht.2 h;omega
   rw[aC (n:=v.tmod 256) (by omega) (by omega),aC (n:=v.tmod 256+256) (by omega) (by omega)]
   by_cases hn:v.tmod 256<0
   ·refine (aa (by simpa using hn) _ _).trans ?_
    refine (aa (decide_eq_true (show acc.length+1≤4294967296 by omega)) _ _).trans ?_
    exact hd _ (ht.1 hn)
   ·refine (ab (by simpa using hn) _ _).trans ?_
    refine (aa (decide_eq_true (show acc.length+1≤4294967296 by omega)) _ _).trans ?_
    exact hd _ (ht.2 hn)
  ·refine (ab (decide_eq_false (show ¬(j:Int)<(m:Int) by omega)) _ _).trans ?_
   rw[show m - j=0 by omega,iJ]
   simp
theorem AG {low:List Int}(hl:low.length≤8):∀(j:Nat) (acc:List Int),j≤low.length→acc.length+j≤8→
  oR (j+1) low acc ((j:Int) - 1)=some (.ret ((),((acc++(low.take j).reverse,()),()))):=by
 intro j
 induction j with
 |zero=>
  intro acc h1 h2
  rw[uJ]
  unfold l6
  refine (ab (by decide) _ _).trans ?_
  simp
 |succ j ih=>
  intro acc h1 h2
  rw[uJ]
  unfold l6
  rw[show ((j+1:Nat):Int) - 1=(j:Int) by omega]
  have hg:List.getD low j (0:Int)=low[j]'(by omega):=aH (by omega)
  refine (aa (by simp) _ _).trans ?_
  refine (aa (by simp;omega) _ _).trans ?_
  simp only[Int.toNat_natCast,hg]
  refine (aa (decide_eq_true (show acc.length+1≤4294967296 by omega)) _ _).trans ?_
  rw[aC (n:=(j:Int) - 1) (by omega) (by omega)]
  refine (ih (acc++[low[j]'(by omega)]) (by omega) (by simp;omega)).trans ?_
  rw[List.take_succ_eq_append_getElem (by omega),List.reverse_append,List.reverse_singleton,List.append_assoc]
theorem R7 (v:Int):∀n,(iJ v n).length=n:=by
 intro n
 induction n generalizing v with
 |zero=>rfl
 |succ n ih=>rw[iJ,List.length_cons,ih]
theorem BI:∀(n:Nat) (v:Int),iJ v (n+1)=iJ v n++[(v / 256 ^ n) % 256]
 |0,v=>by simp[iJ]
 |n+1,v=>by
  rw[iJ,BI n (v / 256),iJ]
  have e:v / 256 / 256 ^ n=v / 256 ^ (n+1):=by
   rw[Int.pow_succ,Int.mul_comm,Int.ediv_ediv_of_nonneg (by decide)]
  rw[e];rfl
theorem Ey (v:Int):∀n,(iJ v n).reverse=aB v n
 |0=>rfl
 |n+1=>by rw[BI,List.reverse_append,Ey v n];rfl
def wZ (a0 a1:Int):Option iB.Res:=(k9 ((a0,(a1,([],(0,())))),())).run fun y=>match y with | .ret ((),((x16,x17,()),()))=>((iy ((x17,([],(IntKind.i64.wrap (x16 - 1),()))),())).run fun y=>match y with | .ret ((),((x25,()),()))=>(some (Out.ret ((x25,()),()))))
theorem Mu (a0 a1:Int):Io.run tt vS dr kS iB Tryz.f39 ((a0,a1,()),())=wZ a0 a1:=by kernel_rfl
theorem ry:HcOk prog 39 (ah iB tz):=by
 refine aj (n:=400) hm (cs:=qQ) HcsOk.nil (lp:=kS) (fn:=Tryz.f39) (by kernel_rfl) (by kernel_rfl) (by kernel_rfl) iB (.step (h0:=aN dX k9) (by kernel_rfl) (aw (n:=400) hm (cs:=qQ) HcsOk.nil (lp:=kS) (fn:=Tryz.f39) (.done (by kernel_rfl)) dX k9 ?_) (.step (h0:=aN dp iy) (by kernel_rfl) (aw (n:=400) hm (cs:=qQ) HcsOk.nil (lp:=kS) (fn:=Tryz.f39) (.done (by kernel_rfl)) dp iy ?_) (.done (by kernel_rfl)))) tz ?_
 ·rintro ⟨⟨(v:Int),(m:Int),(acc:List Int),(i:Int),⟨⟩⟩,⟨⟩⟩ y hw hy
  obtain ⟨hg,hy⟩:=Tr.guard hy
  simp only[Bool.and_eq_true,decide_eq_true_eq] at hg
  obtain ⟨h1,h2,h3,h4⟩:=hg
  have h1:acc=[]:=List.eq_nil_of_length_eq_zero h1
  have h2:i=0:=h2
  have h3:(0:Int)≤m:=h3
  have h4:m≤(8:Int):=h4
  subst h1
  subst h2
  obtain ⟨m,rfl⟩:=cZ h3
  have hv:ey .i64 v:=hw.1.1
  simp only[ey,IntKind.min,IntKind.max,IntKind.signed,IntKind.bits] at hv
  simp at hv
  refine ⟨m+1,(Cl (m:=m) (by omega) (m+1) 0 v [] (by omega) (by omega) rfl (by omega) (by omega)).trans ?_⟩
  rw[← hy];rfl
 ·rintro ⟨⟨(low:List Int),(acc:List Int),(i:Int),⟨⟩⟩,⟨⟩⟩ y hw hy
  obtain ⟨hg,hy⟩:=Tr.guard hy
  simp only[Bool.and_eq_true,decide_eq_true_eq] at hg
  obtain ⟨h1,h2,h3⟩:=hg
  have h1:acc=[]:=List.eq_nil_of_length_eq_zero h1
  have h2:i=(low.length:Int) - 1:=h2
  have h3:low.length≤8:=h3
  subst h1
  subst h2
  refine ⟨low.length+1,(AG h3 low.length [] (by omega) (by simpa using h3)).trans ?_⟩
  rw[← hy,List.take_length];rfl
 ·rintro ⟨⟨(v:Int),(m:Int),⟨⟩⟩,⟨⟩⟩ out hw ho
  obtain ⟨hg,ho⟩:=Tr.guard ho
  simp only[Bool.and_eq_true,decide_eq_true_eq] at hg
  obtain ⟨h5,h6⟩:=hg
  have h5:(0:Int)≤m:=h5
  have h6:m≤(8:Int):=h6
  cases ho
  refine (Mu v m).trans ?_
  unfold wZ
  have c1:(decide (([]:List Int).length=0)&&(decide ((0:Int)=0)&&(decide ((0:Int)≤m)&&decide (m≤(8:Int)))))=true:=by simp;omega
  have e1:k9 ((v,(m,([],(0,())))),())=.ite true (.ret (.ret ((),((m,(iJ v m.toNat,())),())))) .no:=congrArg (fun c=>Tr.ite c _ _) c1
  rw[e1]
  show (iy ((iJ v m.toNat,([],(IntKind.i64.wrap (m - 1),()))),())).run _=_
  rw[aC (n:=m - 1) (by omega) (by omega)]
  have c2:(decide (([]:List Int).length=0)&&(decide (m - 1=((iJ v m.toNat).length:Int) - 1)&&decide ((iJ v m.toNat).length≤8)))=true:=by
   rw[R7];simp;omega
  have e2:iy ((iJ v m.toNat,([],(m - 1,()))),())=.ite true (.ret (.ret ((),(((iJ v m.toNat).reverse,()),())))) .no:=congrArg (fun c=>Tr.ite c _ _) c2
  rw[e2,Ey]
  rfl
def acN (l:List Int):Int:=match l with
 |[]=>0
 |c::l=>l.foldl (fun v c=>v*256+c) (if 128≤c then c - 256 else c)
abbrev xt:Lo:=⟨⟨(.one (.hol (.sl 5 (Ty.int IntKind.u8)))::.one (.hol (.int IntKind.i64))::.one (.hol (.int IntKind.i64))::.any::bQ (.one (.hol (.int IntKind.i64))::.one (.hol (.int IntKind.i64))::ai (ai (dR (bh []))))),[]⟩,[(.exit 0,⟨(dR (.one (.hol (.int IntKind.i64))::.any::ai (ai (dR (bh []))))),[]⟩)]⟩
def aay (d:xt.st.den):Tr (aD xt.xs):=
 .ite (decide (d.1.2.2.2.1=0)&&(decide (d.1.2.2.2.2.1=0)&&((decide ((0:Int)≤d.1.2.1)&&decide (d.1.2.1+d.1.2.2.1≤(d.1.1.length:Int)))&&(decide ((0:Int)≤d.1.2.2.1)&&decide (d.1.2.2.1≤(8:Int)))))) (.ret (.ret ((),((acN ((d.1.1.drop d.1.2.1.toNat).take d.1.2.2.1.toNat),()),())))) .no
abbrev yb:Ty:=.prod (.int .i64) (.prod (.int .i64) (.prod .bool (.prod bs .unit)))
abbrev ao:Ty:=.tree yb 91
abbrev cQ:Sh:=.dat ao true false
abbrev Xc:Ty:=.sl 91 ao
abbrev Nd:Type:=Tre yb.den
abbrev jz:Io:=⟨[dI,LJ],[],[],[cQ],none⟩
def tD (d:jz.In):Tr jz.Res:=.ret (.ret ((.mk (d.1.1,(d.1.2.1,(false,(([]:List Int),())))) [],()),()))
abbrev TF:List (Nat×Hc):=[]
def aa6:Hd:=bA TF
def UZ:Lp:=bv []
def SZ (a0 a1:Int):Option jz.Res:=some (Out.ret ((Tre.mk (a0,a1,false,[],()) [],()),()))
theorem Zh (a0 a1:Int):Io.run tt aa6 dr UZ jz Tryz.f181 ((a0,a1,()),())=SZ a0 a1:=by kernel_rfl
theorem eM:HcOk prog 181 (ah jz tD):=by
 refine aj (n:=400) hm (cs:=TF) HcsOk.nil (lp:=UZ) (fn:=Tryz.f181) (by kernel_rfl) (by kernel_rfl) (by kernel_rfl) jz (.done (by kernel_rfl)) tD ?_
 rintro ⟨⟨(k:Int),(n:Int),⟨⟩⟩,⟨⟩⟩ out hw ho
 cases ho
 exact Zh k n
abbrev kl:Io:=⟨[.dat Xc false false],[],[],[cQ],none⟩
def wS (d:kl.In):Tr kl.Res:=.ret (.ret ((.mk (10,(0,(false,(([]:List Int),())))) d.1.1,()),()))
abbrev TG:List (Nat×Hc):=[]
def aa7:Hd:=bA TG
def U0:Lp:=bv []
def S2 (a0:List ao.den):Option kl.Res:=some (Out.ret ((Tre.mk (10,0,false,[],()) a0,()),()))
theorem Zi (a0:List ao.den):Io.run tt aa7 dr U0 kl Tryz.f180 ((a0,()),())=S2 a0:=by kernel_rfl
theorem fO:HcOk prog 180 (ah kl wS):=by
 refine aj (n:=400) hm (cs:=TG) HcsOk.nil (lp:=U0) (fn:=Tryz.f180) (by kernel_rfl) (by kernel_rfl) (by kernel_rfl) kl (.done (by kernel_rfl)) wS ?_
 rintro ⟨⟨l,⟨⟩⟩,⟨⟩⟩ out hw ho
 cases ho
 exact Zi l
abbrev up:Io:=⟨[cQ,dI],[],[],[cQ],none⟩
def aZ (n:Nd)(i:Int):Nd:=if 0≤i∧i<(n.kids.length:Int) then n.kids.getD i.toNat (.mk (0,(0,(false,([],())))) []) else .mk (0,(0,(false,([],())))) []
def SK (d:up.In):Tr up.Res:=.ret (.ret ((aZ d.1.1 d.1.2.1,()),()))
abbrev Z3:List (Nat×Hc):=[]
def acy:Hd:=bA Z3
def aag:Lp:=bv []
def NT (a0:Tre yb.den)(a1:Int):Option up.Res:=bif decide (a1<0) then some (Out.ret ((Tre.mk (0,0,false,[],()) [],()),())) else bif decide ((↑a0.2.length:Int)≤a1) then some (Out.ret ((Tre.mk (0,0,false,[],()) [],()),())) else bif decide (0≤a1)&&decide (a1<(↑a0.2.length:Int)) then some (Out.ret ((Tre.mk (a0.2.getD a1.toNat (Tre.mk (0,0,false,[],()) [])).1 (a0.2.getD a1.toNat (Tre.mk (0,0,false,[],()) [])).2,()),())) else none
theorem abw (a0:Tre yb.den)(a1:Int):Io.run tt acy dr aag up Tryz.f164 ((a0,a1,()),())=NT a0 a1:=by kernel_rfl
theorem uF:HcOk prog 164 (ah up SK):=by
 refine aj (n:=400) hm (cs:=Z3) HcsOk.nil (lp:=aag) (fn:=Tryz.f164) (by kernel_rfl) (by kernel_rfl) (by kernel_rfl) up (.done (by kernel_rfl)) SK ?_
 rintro ⟨⟨(n:Nd),(i:Int),⟨⟩⟩,⟨⟩⟩ out hw ho
 cases ho
 refine (abw n i).trans ?_
 unfold NT
 show _=some (Out.ret ((aZ n i,()),()))
 unfold aZ
 by_cases h1:i<0
 ·rw[if_neg (by omega)]
  exact aa (by simpa using h1) _ _
 ·refine (ab (by simpa using h1) _ _).trans ?_
  by_cases h2:(n.kids.length:Int)≤i
  ·rw[if_neg (by omega)]
   exact aa (by simpa using h2) _ _
  ·rw[if_pos (by omega)]
   refine (ab (by simpa using h2) _ _).trans ?_
   refine (aa (by simp;omega) _ _).trans ?_
   cases n.kids.getD i.toNat (.mk (0,(0,(false,([],())))) [])
   rfl
abbrev rP:List (List Sh):=[[.ptr 1 0,dI,dI,dB],[dO,dI]]
abbrev bc:Type:=Int×(Bool×List Int)
abbrev EnO:Type:=k8 rP
abbrev fR (d:EnO):bc:=(d.1.2.2.1,(d.1.2.2.2.1,d.2.1.1))
abbrev ca (v:Int)(s:bc):EnO:=(((),(v,(s.1,(s.2.1,())))),((s.2.2,(130048,())),()))
abbrev fQ (d:EnO):Bool:=decide (d.2.1.2.1=130048)&&decide (d.2.1.1.length≤130048)
def bt (e:Int)(s:bc):bc:=if s.1=0 then (e,s.2) else s
def ac (v:Int)(n:Nat)(s:bc):bc:=if 130048 - (s.2.2.length:Int)<n then (s.1,(true,s.2.2)) else (s.1,(s.2.1,s.2.2++aB v n))
def jM (p:List Int)(s:bc):bc:=if 130048 - (s.2.2.length:Int)<p.length then (s.1,(true,s.2.2)) else (s.1,(s.2.1,s.2.2++p))
def bH (t:List Int)(s:bc):bc:=if (bM t).2=false then bt 6 s else if 255<(t.length:Int) then bt 4 s else jM t (ac t.length 2 s)
def ar (v:Int)(z:Bool)(lo hi:Int)(s:bc):bc:=if z=false∧(v<lo∨hi<v) then bt 7 s else s
abbrev gP:Ty:=.prod .bool (.prod .str .unit)
abbrev Ac:Sh:=.dat gP true false
abbrev pm:Ty:=.prod .bool (.prod bs .unit)
abbrev LK:Sh:=.dat pm true false
theorem bx {v e:Int}{f:Bool}{b:List Int}{m:Int}(h:fQ (((),(v,(e,(f,())))),((b,(m,())),()))=true):m=130048∧b.length≤130048:=by
 simpa [fQ] using h
theorem ZL {b:List Int}(x:Int)(n:Nat)(h:b.length≤130048):(ax b 130048 x n).2.length≤130048:=by
 unfold ax
 split
 ·exact h
 ·simp only[List.length_append,bN];omega
theorem Sf (x:Int)(n:Nat)(v e:Int)(f:Bool)(b:List Int):
  ca v (ac x n (e,f,b))=(((),(v,(e,((f || decide ((ax b 130048 x n).1≠0)),())))),(((ax b 130048 x n).2,(130048,())),())):=by
 unfold ac ax ca
 by_cases h:130048 - (b.length:Int)<n
 ·simp[h]
 ·simp[h]
theorem KM {b:List Int}(h:b.length≤130048):bf b 130048=true:=by
 simp[bf];omega
theorem aE {s:bc}(x:Int)(n:Nat)(h:s.2.2.length≤130048):(ac x n s).2.2.length≤130048:=by
 unfold ac
 split
 ·exact h
 ·simp only[List.length_append,bN];omega
theorem R9 {b:List Int}(p:List Int)(h:b.length≤130048):(bm b 130048 [p]).2.length≤130048:=by
 unfold bm
 split
 ·exact h
 ·simp only[aS,lR,List.length_append,List.length_nil] at *;omega
theorem M6 (p:List Int)(v e:Int)(f:Bool)(b:List Int):
  ca v (jM p (e,f,b))=(((),(v,(e,((f || decide ((bm b 130048 [p]).1≠0)),())))),(((bm b 130048 [p]).2,(130048,())),())):=by
 unfold jM bm ca
 by_cases h:130048 - (b.length:Int)<p.length
 ·simp[h,aS]
 ·simp[h,aS,lR]
abbrev cK:Io:=⟨[.ptr 0 0,dI],rP,[],[],none⟩
def gN (d:cK.In):Tr cK.Res:=.ite (fQ d.2) (.ret (.ret ((),ca d.2.1.2.1 (bt d.1.2.1 (fR d.2))))) .no
abbrev Oa:List (Nat×Hc):=[]
def XZ:Hd:=bA Oa
def OU:Lp:=bv []
def Da (a0 a1 a2:Int)(a3:Bool)(a4:List Int)(a5:Int):Option cK.Res:=bif a2 == 0 then some (Out.ret ((),((),a1,a0,a3,()),(a4,a5,()),())) else some (Out.ret ((),((),a1,a2,a3,()),(a4,a5,()),()))
theorem V6 (a0 a1 a2:Int)(a3:Bool)(a4:List Int)(a5:Int):Io.run tt XZ dr OU cK Tryz.f194 (((),a0,()),((),a1,a2,a3,()),(a4,a5,()),())=Da a0 a1 a2 a3 a4 a5:=by kernel_rfl
theorem fq:HcOk prog 194 (ah cK gN):=by
 refine aj (n:=400) hm (cs:=Oa) HcsOk.nil (lp:=OU) (fn:=Tryz.f194) (by kernel_rfl) (by kernel_rfl) (by kernel_rfl) cK (.done (by kernel_rfl)) gN ?_
 rintro ⟨⟨⟨⟩,(x:Int),⟨⟩⟩,⟨⟨⟨⟩,(v:Int),(e:Int),(f:Bool),⟨⟩⟩,⟨(b:List Int),(m:Int),⟨⟩⟩,⟨⟩⟩⟩ out hw ho
 obtain ⟨hg,ho⟩:=Tr.guard ho
 obtain ⟨rfl,hb⟩:=bx hg
 cases ho
 refine (V6 x v e f b 130048).trans ?_
 unfold Da bt fR ca
 by_cases h:e=0
 ·rw[aa (by simpa using h),if_pos h]
 ·rw[ab (by simpa using h),if_neg h]
abbrev fI:Io:=⟨[.ptr 0 0,dI],rP,[],[],none⟩
def ma (d:fI.In):Tr fI.Res:=.ite (fQ d.2) (.ret (.ret ((),ca d.2.1.2.1 (d.2.1.2.2.1,(d.2.1.2.2.2.1 || decide (d.1.2.1≠0),d.2.2.1.1))))) .no
abbrev Ij:List (Nat×Hc):=[]
def T9:Hd:=bA Ij
def Jk:Lp:=bv []
def zy (a0 a1 a2:Int)(a3:Bool)(a4:List Int)(a5:Int):Option fI.Res:=bif a3 then some (Out.ret ((),((),a1,a2,true,()),(a4,a5,()),())) else some (Out.ret ((),((),a1,a2,a0 != 0,()),(a4,a5,()),()))
theorem Q6 (a0 a1 a2:Int)(a3:Bool)(a4:List Int)(a5:Int):Io.run tt T9 dr Jk fI Tryz.f195 (((),a0,()),((),a1,a2,a3,()),(a4,a5,()),())=zy a0 a1 a2 a3 a4 a5:=by kernel_rfl
theorem nB:HcOk prog 195 (ah fI ma):=by
 refine aj (n:=400) hm (cs:=Ij) HcsOk.nil (lp:=Jk) (fn:=Tryz.f195) (by kernel_rfl) (by kernel_rfl) (by kernel_rfl) fI (.done (by kernel_rfl)) ma ?_
 rintro ⟨⟨⟨⟩,(x:Int),⟨⟩⟩,⟨⟨⟨⟩,(v:Int),(e:Int),(f:Bool),⟨⟩⟩,⟨(b:List Int),(m:Int),⟨⟩⟩,⟨⟩⟩⟩ out hw ho
 obtain ⟨hg,ho⟩:=Tr.guard ho
 obtain ⟨rfl,hb⟩:=bx hg
 cases ho
 refine (Q6 x v e f b 130048).trans ?_
 unfold zy
 cases f
 ·show some _=_
  have:(x != 0)=decide (x≠0):=by rw[Bool.eq_iff_iff];simp
  rw[this];rfl
 ·rfl
abbrev fY:Io:=⟨[.ptr 0 0,dB,dI,dI],rP,[],[],none⟩
def nN (d:fY.In):Tr fY.Res:=.ite (fQ d.2) (.ret (.ret ((),ca d.2.1.2.1 (ar d.2.1.2.1 d.1.2.1 d.1.2.2.1 d.1.2.2.2.1 (fR d.2))))) .no
abbrev Ii:List (Nat×Hc):=[(194,ah cK gN)]
def T8:Hd:=bA Ii
def Jj:Lp:=bv []
def zx (a0:Bool)(a1 a2 a3 a4:Int)(a5:Bool)(a6:List Int)(a7:Int):Option fY.Res:=bif !a0 then bif decide (a3<a1) then bif decide (a7=130048)&&decide (a6.length≤130048) then some (Out.ret ((),((),a3,(bt 7 (a4,a5,a6)).1,(bt 7 (a4,a5,a6)).2.1,()),((bt 7 (a4,a5,a6)).2.2,130048,()),())) else none else bif decide (a2<a3) then bif decide (a7=130048)&&decide (a6.length≤130048) then some (Out.ret ((),((),a3,(bt 7 (a4,a5,a6)).1,(bt 7 (a4,a5,a6)).2.1,()),((bt 7 (a4,a5,a6)).2.2,130048,()),())) else none else some (Out.ret ((),((),a3,a4,a5,()),(a6,a7,()),())) else some (Out.ret ((),((),a3,a4,a5,()),(a6,a7,()),()))
theorem Q4 (a0:Bool)(a1 a2 a3 a4:Int)(a5:Bool)(a6:List Int)(a7:Int):Io.run tt T8 dr Jj fY Tryz.f94 (((),a0,a1,a2,()),((),a3,a4,a5,()),(a6,a7,()),())=zx a0 a1 a2 a3 a4 a5 a6 a7:=by kernel_rfl
theorem f6:HcOk prog 94 (ah fY nN):=by
 refine aj (n:=400) hm (cs:=Ii) (.cons fq .nil) (lp:=Jj) (fn:=Tryz.f94) (by kernel_rfl) (by kernel_rfl) (by kernel_rfl) fY (.done (by kernel_rfl)) nN ?_
 rintro ⟨⟨⟨⟩,(z:Bool),(lo:Int),(hi:Int),⟨⟩⟩,⟨⟨⟨⟩,(v:Int),(e:Int),(f:Bool),⟨⟩⟩,⟨(b:List Int),(m:Int),⟨⟩⟩,⟨⟩⟩⟩ out hw ho
 obtain ⟨hg,ho⟩:=Tr.guard ho
 obtain ⟨rfl,hb⟩:=bx hg
 cases ho
 refine (Q4 z lo hi v e f b 130048).trans ?_
 unfold zx
 have g:(decide ((130048:Int)=130048)&&decide (b.length≤130048))=true:=by simpa using hb
 show _=some (Out.ret ((),ca v (ar v z lo hi (e,f,b))))
 unfold ar
 cases z
 ·by_cases h1:v<lo
  ·rw[aa (by rfl),aa (by simpa using h1),aa g,if_pos ⟨rfl,.inl h1⟩]
  ·rw[aa (by rfl),ab (by simpa using h1)]
   by_cases h2:hi<v
   ·rw[aa (by simpa using h2),aa g,if_pos ⟨rfl,.inr h2⟩]
   ·rw[ab (by simpa using h2),if_neg (by simp;omega)]
 ·rw[ab (by rfl),if_neg (by simp)]
abbrev jp:Io:=⟨[.ptr 0 0,dI,dI],rP,[],[dB],none⟩
def tw (d:jp.In):Tr jp.Res:=.ite (fQ d.2) (.ret (.ret ((decide (d.1.2.1≤d.2.1.2.1)&&decide (d.2.1.2.1≤d.1.2.2.1),()),ca d.2.1.2.1 (fR d.2)))) .no
abbrev Tt:List (Nat×Hc):=[]
def aaX:Hd:=bA Tt
def UQ:Lp:=bv []
def HO (a0 a1 a2 a3:Int)(a4:Bool)(a5:List Int)(a6:Int):Option jp.Res:=bif decide (a0≤a2) then some (Out.ret ((decide (a2≤a1),()),((),a2,a3,a4,()),(a5,a6,()),())) else some (Out.ret ((false,()),((),a2,a3,a4,()),(a5,a6,()),()))
theorem Y6 (a0 a1 a2 a3:Int)(a4:Bool)(a5:List Int)(a6:Int):Io.run tt aaX dr UQ jp Tryz.f95 (((),a0,a1,()),((),a2,a3,a4,()),(a5,a6,()),())=HO a0 a1 a2 a3 a4 a5 a6:=by kernel_rfl
theorem jJ:HcOk prog 95 (ah jp tw):=by
 refine aj (n:=400) hm (cs:=Tt) HcsOk.nil (lp:=UQ) (fn:=Tryz.f95) (by kernel_rfl) (by kernel_rfl) (by kernel_rfl) jp (.done (by kernel_rfl)) tw ?_
 rintro ⟨⟨⟨⟩,(lo:Int),(hi:Int),⟨⟩⟩,⟨⟨⟨⟩,(v:Int),(e:Int),(f:Bool),⟨⟩⟩,⟨(b:List Int),(m:Int),⟨⟩⟩,⟨⟩⟩⟩ out hw ho
 obtain ⟨hg,ho⟩:=Tr.guard ho
 obtain ⟨rfl,hb⟩:=bx hg
 cases ho
 refine (Y6 lo hi v e f b 130048).trans ?_
 unfold HO
 show _=some (Out.ret ((decide (lo≤v)&&decide (v≤hi),()),ca v (e,f,b)))
 by_cases h:lo≤v
 ·rw[aa (by simpa using h),decide_eq_true h];rfl
 ·rw[ab (by simpa using h),decide_eq_false h];rfl
theorem FP (n:Nat)(x:Int){a1 a2:Int}{a3:Bool}{a4:List Int}(h:a4.length≤130048):
  (bif bf a4 130048 then bif decide ((130048:Int)=130048)&&decide ((ax a4 130048 x n).2.length≤130048) then some (Out.ret ((),((),a1,a2,a3 || decide ((ax a4 130048 x n).1≠0),()),((ax a4 130048 x n).2,130048,()),())) else none else (none:Option cK.Res))
   = some (Out.ret ((),ca a1 (ac x n (a2,a3,a4)))):=by
 rw[aa (KM h),aa (by simpa using ZL x n h),Sf]
theorem TQ (p:List Int){a1 a2:Int}{a3:Bool}{a4:List Int}(h:a4.length≤130048)(hp:p.length≤4294960000):
  (bif bf a4 130048&&decide (aS [p]≤4294960000) then bif decide ((130048:Int)=130048)&&decide ((bm a4 130048 [p]).2.length≤130048) then some (Out.ret ((),((),a1,a2,a3 || decide ((bm a4 130048 [p]).1≠0),()),((bm a4 130048 [p]).2,130048,()),())) else none else (none:Option cK.Res))
   = some (Out.ret ((),ca a1 (jM p (a2,a3,a4)))):=by
 rw[aa (by rw[KM h,Bool.true_and];exact decide_eq_true (show p.length+0≤4294960000 by omega)),aa (by simpa using R9 p h),M6]
abbrev m1:Io:=⟨[.ptr 0 0,K1],rP,[],[],none⟩
def CJ (d:m1.In):Tr m1.Res:=.ite (fQ d.2) (.ret (.ret ((),ca d.2.1.2.1 (ac d.1.2.1 2 (fR d.2))))) .no
abbrev Tu:List (Nat×Hc):=[(47,ah p7 NK),(195,ah fI ma)]
def aaY:Hd:=bA Tu
def UR:Lp:=bv []
def SU (a0 a1 a2:Int)(a3:Bool)(a4:List Int)(a5:Int):Option m1.Res:=bif bf a4 a5 then bif decide (a5=130048)&&decide ((ax a4 a5 a0 2).2.length≤130048) then some (Out.ret ((),((),a1,a2,a3 || decide ((ax a4 a5 a0 2).1≠0),()),((ax a4 a5 a0 2).2,130048,()),())) else none else none
theorem Y7 (a0 a1 a2:Int)(a3:Bool)(a4:List Int)(a5:Int):Io.run tt aaY dr UR m1 Tryz.f97 (((),a0,()),((),a1,a2,a3,()),(a4,a5,()),())=SU a0 a1 a2 a3 a4 a5:=by kernel_rfl
theorem GB:HcOk prog 97 (ah m1 CJ):=by
 refine aj (n:=400) hm (cs:=Tu) (.cons VH (.cons nB .nil)) (lp:=UR) (fn:=Tryz.f97) (by kernel_rfl) (by kernel_rfl) (by kernel_rfl) m1 (.done (by kernel_rfl)) CJ ?_
 rintro ⟨⟨⟨⟩,(x:Int),⟨⟩⟩,⟨⟨⟨⟩,(v:Int),(e:Int),(f:Bool),⟨⟩⟩,⟨(b:List Int),(m:Int),⟨⟩⟩,⟨⟩⟩⟩ out hw ho
 obtain ⟨hg,ho⟩:=Tr.guard ho
 obtain ⟨rfl,hb⟩:=bx hg
 cases ho
 refine (Y7 x v e f b 130048).trans ?_
 exact FP 2 x hb
abbrev dn:Io:=⟨[.ptr 0 0,PW],rP,[],[],none⟩
def iw (d:dn.In):Tr dn.Res:=.ite (fQ d.2) (.ret (.ret ((),ca d.2.1.2.1 (ac d.1.2.1 4 (fR d.2))))) .no
abbrev Tv:List (Nat×Hc):=[(48,ah oL Ht),(195,ah fI ma)]
def aaZ:Hd:=bA Tv
def US:Lp:=bv []
def SW (a0 a1 a2:Int)(a3:Bool)(a4:List Int)(a5:Int):Option dn.Res:=bif bf a4 a5 then bif decide (a5=130048)&&decide ((ax a4 a5 a0 4).2.length≤130048) then some (Out.ret ((),((),a1,a2,a3 || decide ((ax a4 a5 a0 4).1≠0),()),((ax a4 a5 a0 4).2,130048,()),())) else none else none
theorem Y8 (a0 a1 a2:Int)(a3:Bool)(a4:List Int)(a5:Int):Io.run tt aaZ dr US dn Tryz.f98 (((),a0,()),((),a1,a2,a3,()),(a4,a5,()),())=SW a0 a1 a2 a3 a4 a5:=by kernel_rfl
theorem dg:HcOk prog 98 (ah dn iw):=by
 refine aj (n:=400) hm (cs:=Tv) (.cons Mg (.cons nB .nil)) (lp:=US) (fn:=Tryz.f98) (by kernel_rfl) (by kernel_rfl) (by kernel_rfl) dn (.done (by kernel_rfl)) iw ?_
 rintro ⟨⟨⟨⟩,(x:Int),⟨⟩⟩,⟨⟨⟨⟩,(v:Int),(e:Int),(f:Bool),⟨⟩⟩,⟨(b:List Int),(m:Int),⟨⟩⟩,⟨⟩⟩⟩ out hw ho
 obtain ⟨hg,ho⟩:=Tr.guard ho
 obtain ⟨rfl,hb⟩:=bx hg
 cases ho
 refine (Y8 x v e f b 130048).trans ?_
 exact FP 4 x hb
abbrev m2:Io:=⟨[.ptr 0 0,LJ],rP,[],[],none⟩
def CK (d:m2.In):Tr m2.Res:=.ite (fQ d.2) (.ret (.ret ((),ca d.2.1.2.1 (ac d.1.2.1 8 (fR d.2))))) .no
abbrev Tw:List (Nat×Hc):=[(197,ah sL SN),(195,ah fI ma)]
def aa0:Hd:=bA Tw
def UT:Lp:=bv []
def SX (a0 a1 a2:Int)(a3:Bool)(a4:List Int)(a5:Int):Option m2.Res:=bif bf a4 a5 then bif decide (a5=130048)&&decide ((ax a4 a5 a0 8).2.length≤130048) then some (Out.ret ((),((),a1,a2,a3 || decide ((ax a4 a5 a0 8).1≠0),()),((ax a4 a5 a0 8).2,130048,()),())) else none else none
theorem Y9 (a0 a1 a2:Int)(a3:Bool)(a4:List Int)(a5:Int):Io.run tt aa0 dr UT m2 Tryz.f111 (((),a0,()),((),a1,a2,a3,()),(a4,a5,()),())=SX a0 a1 a2 a3 a4 a5:=by kernel_rfl
theorem A5:HcOk prog 111 (ah m2 CK):=by
 refine aj (n:=400) hm (cs:=Tw) (.cons abm (.cons nB .nil)) (lp:=UT) (fn:=Tryz.f111) (by kernel_rfl) (by kernel_rfl) (by kernel_rfl) m2 (.done (by kernel_rfl)) CK ?_
 rintro ⟨⟨⟨⟩,(x:Int),⟨⟩⟩,⟨⟨⟨⟩,(v:Int),(e:Int),(f:Bool),⟨⟩⟩,⟨(b:List Int),(m:Int),⟨⟩⟩,⟨⟩⟩⟩ out hw ho
 obtain ⟨hg,ho⟩:=Tr.guard ho
 obtain ⟨rfl,hb⟩:=bx hg
 cases ho
 refine (Y9 x v e f b 130048).trans ?_
 exact FP 8 x hb
abbrev lu:Io:=⟨[.ptr 0 0,.dat .str false false],rP,[],[],none⟩
def yY (d:lu.In):Tr lu.Res:=.ite (fQ d.2) (.ret (.ret ((),ca d.2.1.2.1 (bH d.1.2.1 (fR d.2))))) .no
abbrev TA:List (Nat×Hc):=[(92,ah m4 CP),(194,ah cK gN),(97,ah m1 CJ),(49,ah m5 CQ),(195,ah fI ma)]
def aa2:Hd:=bA TA
def UV:Lp:=bv []
def HQ (a0:List Int)(a1 a2:Int)(a3:Bool)(a4:List Int)(a5:Int):Option lu.Res:=bif !(bM a0).2 then bif decide (a5=130048)&&decide (a4.length≤130048) then some (Out.ret ((),((),a1,(bt 6 (a2,a3,a4)).1,(bt 6 (a2,a3,a4)).2.1,()),((bt 6 (a2,a3,a4)).2.2,130048,()),())) else none else bif decide (255<(↑a0.length:Int)) then bif decide (a5=130048)&&decide (a4.length≤130048) then some (Out.ret ((),((),a1,(bt 4 (a2,a3,a4)).1,(bt 4 (a2,a3,a4)).2.1,()),((bt 4 (a2,a3,a4)).2.2,130048,()),())) else none else bif decide (a5=130048)&&decide (a4.length≤130048) then bif bf (ac (IntKind.i16.wrap (↑a0.length:Int)) 2 (a2,a3,a4)).2.2 130048&&decide (aS [a0]≤4294960000) then bif decide (130048=130048)&&decide ((bm (ac (IntKind.i16.wrap (↑a0.length:Int)) 2 (a2,a3,a4)).2.2 130048 [a0]).2.length≤130048) then some (Out.ret ((),((),a1,(ac (IntKind.i16.wrap (↑a0.length:Int)) 2 (a2,a3,a4)).1,(ac (IntKind.i16.wrap (↑a0.length:Int)) 2 (a2,a3,a4)).2.1 || decide ((bm (ac (IntKind.i16.wrap (↑a0.length:Int)) 2 (a2,a3,a4)).2.2 130048 [a0]).1≠0),()),((bm (ac (IntKind.i16.wrap (↑a0.length:Int)) 2 (a2,a3,a4)).2.2 130048 [a0]).2,130048,()),())) else none else none else none
theorem Zb (a0:List Int)(a1 a2:Int)(a3:Bool)(a4:List Int)(a5:Int):Io.run tt aa2 dr UV lu Tryz.f101 (((),a0,()),((),a1,a2,a3,()),(a4,a5,()),())=HQ a0 a1 a2 a3 a4 a5:=by kernel_rfl
theorem A6:HcOk prog 101 (ah lu yY):=by
 refine aj (n:=400) hm (cs:=TA) (.cons GC (.cons fq (.cons GB (.cons GH (.cons nB .nil))))) (lp:=UV) (fn:=Tryz.f101) (by kernel_rfl) (by kernel_rfl) (by kernel_rfl) lu (.done (by kernel_rfl)) yY ?_
 rintro ⟨⟨⟨⟩,(t:List Int),⟨⟩⟩,⟨⟨⟨⟩,(v:Int),(e:Int),(f:Bool),⟨⟩⟩,⟨(b:List Int),(m:Int),⟨⟩⟩,⟨⟩⟩⟩ out hw ho
 obtain ⟨hg,ho⟩:=Tr.guard ho
 obtain ⟨rfl,hb⟩:=bx hg
 cases ho
 refine (Zb t v e f b 130048).trans ?_
 unfold HQ
 have g:∀c:List Int,c.length≤130048→(decide ((130048:Int)=130048)&&decide (c.length≤130048))=true:=fun c h=>by simpa using h
 show _=some (Out.ret ((),ca v (bH t (e,f,b))))
 unfold bH
 cases hu:(bM t).2
 ·rw[aa (by rfl),aa (g b hb),if_pos rfl]
 ·rw[ab (by rfl),if_neg (by simp)]
  by_cases h1:(255:Int)<(t.length:Int)
  ·rw[aa (by simpa using h1),aa (g b hb),if_pos h1]
  ·rw[ab (by simpa using h1),if_neg h1,aa (g b hb),show IntKind.i16.wrap (t.length:Int)=t.length from dd (by simp[ey,IntKind.min,IntKind.max,IntKind.signed,IntKind.bits];omega)]
   exact TQ t (aE (s:=(e,f,b)) _ 2 hb) (by omega)
abbrev oz:Io:=⟨[.ptr 0 0,Ac],rP,[],[],none⟩
def db (n:Bool×(List Int×Unit))(s:bc):bc:=if n.1=true∧n.2.1≠[] then bt 70 s else if n.1=true then ac (-1) 2 s else bH n.2.1 s
def K8 (d:oz.In):Tr oz.Res:=.ite (fQ d.2) (.ret (.ret ((),ca d.2.1.2.1 (db d.1.2.1 (fR d.2))))) .no
abbrev Ob:List (Nat×Hc):=[(194,ah cK gN),(97,ah m1 CJ),(101,ah lu yY)]
def X0:Hd:=bA Ob
def OV:Lp:=bv []
def Db (a0:Bool)(a1:List Int)(a2 a3:Int)(a4:Bool)(a5:List Int)(a6:Int):Option oz.Res:=bif a0 then bif !decide (a1=List.map (fun (c:UInt8)=>(↑c.toNat:Int)) []) then bif decide (a6=130048)&&decide (a5.length≤130048) then some (Out.ret ((),((),a2,(bt 70 (a3,a4,a5)).1,(bt 70 (a3,a4,a5)).2.1,()),((bt 70 (a3,a4,a5)).2.2,130048,()),())) else none else bif a0 then bif decide (a6=130048)&&decide (a5.length≤130048) then some (Out.ret ((),((),a2,(ac (-1) 2 (a3,a4,a5)).1,(ac (-1) 2 (a3,a4,a5)).2.1,()),((ac (-1) 2 (a3,a4,a5)).2.2,130048,()),())) else none else bif decide (a6=130048)&&decide (a5.length≤130048) then some (Out.ret ((),((),a2,(bH a1 (a3,a4,a5)).1,(bH a1 (a3,a4,a5)).2.1,()),((bH a1 (a3,a4,a5)).2.2,130048,()),())) else none else bif a0 then bif decide (a6=130048)&&decide (a5.length≤130048) then some (Out.ret ((),((),a2,(ac (-1) 2 (a3,a4,a5)).1,(ac (-1) 2 (a3,a4,a5)).2.1,()),((ac (-1) 2 (a3,a4,a5)).2.2,130048,()),())) else none else bif decide (a6=130048)&&decide (a5.length≤130048) then some (Out.ret ((),((),a2,(bH a1 (a3,a4,a5)).1,(bH a1 (a3,a4,a5)).2.1,()),((bH a1 (a3,a4,a5)).2.2,130048,()),())) else none
theorem V7 (a0:Bool)(a1:List Int)(a2 a3:Int)(a4:Bool)(a5:List Int)(a6:Int):Io.run tt X0 dr OV oz Tryz.f96 (((),(a0,a1,()),()),((),a2,a3,a4,()),(a5,a6,()),())=Db a0 a1 a2 a3 a4 a5 a6:=by kernel_rfl
theorem Yx:HcOk prog 96 (ah oz K8):=by
 refine aj (n:=400) hm (cs:=Ob) (.cons fq (.cons GB (.cons A6 .nil))) (lp:=OV) (fn:=Tryz.f96) (by kernel_rfl) (by kernel_rfl) (by kernel_rfl) oz (.done (by kernel_rfl)) K8 ?_
 rintro ⟨⟨⟨⟩,⟨(z:Bool),(t:List Int),⟨⟩⟩,⟨⟩⟩,⟨⟨⟨⟩,(v:Int),(e:Int),(f:Bool),⟨⟩⟩,⟨(b:List Int),(m:Int),⟨⟩⟩,⟨⟩⟩⟩ out hw ho
 obtain ⟨hg,ho⟩:=Tr.guard ho
 obtain ⟨rfl,hb⟩:=bx hg
 cases ho
 refine (V7 z t v e f b 130048).trans ?_
 unfold Db
 have g:(decide ((130048:Int)=130048)&&decide (b.length≤130048))=true:=by simpa using hb
 show _=some (Out.ret ((),ca v (db (z,(t,())) (e,f,b))))
 unfold db
 rw[g]
 simp only[List.map_nil,cond_true]
 cases z
 ·rw[ab (by rfl),ab (by rfl),if_neg (by simp),if_neg (by simp)]
 ·by_cases h:t=[]
  ·rw[aa (by rfl),ab (by simpa using h),aa (by rfl),if_neg (by simp[h]),if_pos rfl]
  ·rw[aa (by rfl),aa (by simpa using h),if_pos ⟨rfl,h⟩]
abbrev oy:Io:=⟨[.ptr 0 0,LK],rP,[],[],none⟩
def eG (n:Bool×(List Int×Unit))(s:bc):bc:=if n.1=true∧0<n.2.1.length then bt 70 s else if n.1=true then ac (-1) 4 s else jM n.2.1 (ac (IntKind.i32.wrap n.2.1.length) 4 s)
def K7 (d:oy.In):Tr oy.Res:=.ite (fQ d.2&&decide (d.1.2.1.2.1.length≤2147483647)) (.ret (.ret ((),ca d.2.1.2.1 (eG d.1.2.1 (fR d.2))))) .no
abbrev N8:List (Nat×Hc):=[(194,ah cK gN),(98,ah dn iw),(49,ah m5 CQ),(195,ah fI ma)]
def XX:Hd:=bA N8
def OS:Lp:=bv []
def C8 (a0:Bool)(a1:List Int)(a2 a3:Int)(a4:Bool)(a5:List Int)(a6:Int):Option oy.Res:=bif a0 then bif decide (0<(↑a1.length:Int)) then bif decide (a6=130048)&&decide (a5.length≤130048) then some (Out.ret ((),((),a2,(bt 70 (a3,a4,a5)).1,(bt 70 (a3,a4,a5)).2.1,()),((bt 70 (a3,a4,a5)).2.2,130048,()),())) else none else bif a0 then bif decide (a6=130048)&&decide (a5.length≤130048) then some (Out.ret ((),((),a2,(ac (-1) 4 (a3,a4,a5)).1,(ac (-1) 4 (a3,a4,a5)).2.1,()),((ac (-1) 4 (a3,a4,a5)).2.2,130048,()),())) else none else bif decide (a6=130048)&&decide (a5.length≤130048) then bif bf (ac (IntKind.i32.wrap (↑a1.length:Int)) 4 (a3,a4,a5)).2.2 130048&&decide (aS [a1]≤4294960000) then bif decide (130048=130048)&&decide ((bm (ac (IntKind.i32.wrap (↑a1.length:Int)) 4 (a3,a4,a5)).2.2 130048 [a1]).2.length≤130048) then some (Out.ret ((),((),a2,(ac (IntKind.i32.wrap (↑a1.length:Int)) 4 (a3,a4,a5)).1,(ac (IntKind.i32.wrap (↑a1.length:Int)) 4 (a3,a4,a5)).2.1 || decide ((bm (ac (IntKind.i32.wrap (↑a1.length:Int)) 4 (a3,a4,a5)).2.2 130048 [a1]).1≠0),()),((bm (ac (IntKind.i32.wrap (↑a1.length:Int)) 4 (a3,a4,a5)).2.2 130048 [a1]).2,130048,()),())) else none else none else none else bif a0 then bif decide (a6=130048)&&decide (a5.length≤130048) then some (Out.ret ((),((),a2,(ac (-1) 4 (a3,a4,a5)).1,(ac (-1) 4 (a3,a4,a5)).2.1,()),((ac (-1) 4 (a3,a4,a5)).2.2,130048,()),())) else none else bif decide (a6=130048)&&decide (a5.length≤130048) then bif bf (ac (IntKind.i32.wrap (↑a1.length:Int)) 4 (a3,a4,a5)).2.2 130048&&decide (aS [a1]≤4294960000) then bif decide (130048=130048)&&decide ((bm (ac (IntKind.i32.wrap (↑a1.length:Int)) 4 (a3,a4,a5)).2.2 130048 [a1]).2.length≤130048) then some (Out.ret ((),((),a2,(ac (IntKind.i32.wrap (↑a1.length:Int)) 4 (a3,a4,a5)).1,(ac (IntKind.i32.wrap (↑a1.length:Int)) 4 (a3,a4,a5)).2.1 || decide ((bm (ac (IntKind.i32.wrap (↑a1.length:Int)) 4 (a3,a4,a5)).2.2 130048 [a1]).1≠0),()),((bm (ac (IntKind.i32.wrap (↑a1.length:Int)) 4 (a3,a4,a5)).2.2 130048 [a1]).2,130048,()),())) else none else none else none
theorem V4 (a0:Bool)(a1:List Int)(a2 a3:Int)(a4:Bool)(a5:List Int)(a6:Int):Io.run tt XX dr OS oy Tryz.f104 (((),(a0,a1,()),()),((),a2,a3,a4,()),(a5,a6,()),())=C8 a0 a1 a2 a3 a4 a5 a6:=by kernel_rfl
theorem Yw:HcOk prog 104 (ah oy K7):=by
 refine aj (n:=400) hm (cs:=N8) (.cons fq (.cons dg (.cons GH (.cons nB .nil)))) (lp:=OS) (fn:=Tryz.f104) (by kernel_rfl) (by kernel_rfl) (by kernel_rfl) oy (.done (by kernel_rfl)) K7 ?_
 rintro ⟨⟨⟨⟩,⟨(z:Bool),(t:List Int),⟨⟩⟩,⟨⟩⟩,⟨⟨⟨⟩,(v:Int),(e:Int),(f:Bool),⟨⟩⟩,⟨(b:List Int),(m:Int),⟨⟩⟩,⟨⟩⟩⟩ out hw ho
 obtain ⟨hg,ho⟩:=Tr.guard ho
 obtain ⟨hg,ht⟩:=Bool.and_eq_true_iff.1 hg
 have ht:t.length≤2147483647:=of_decide_eq_true ht
 obtain ⟨rfl,hb⟩:=bx hg
 cases ho
 refine (V4 z t v e f b 130048).trans ?_
 unfold C8
 have g:(decide ((130048:Int)=130048)&&decide (b.length≤130048))=true:=by simpa using hb
 show _=some (Out.ret ((),ca v (eG (z,(t,())) (e,f,b))))
 unfold eG
 rw[g]
 simp only[cond_true]
 cases z
 ·simp only[cond_false,Bool.false_eq_true,false_and,if_false]
  exact TQ t (aE (s:=(e,f,b)) _ 4 hb) (by omega)
 ·by_cases h:0<t.length
  ·rw[aa (by rfl),aa (by simpa using h),if_pos ⟨rfl,h⟩]
  ·rw[aa (by rfl),ab (by simpa using h),if_neg (fun c=>h c.2),if_pos rfl]
   rfl
abbrev m3:Io:=⟨[dI],[],rP,[.ptr 0 0],none⟩
def aX (v:Int):Int:=if v<0∨3<v then 8 else 0
def CL (d:m3.In):Tr m3.Res:=.ret (.ret (((),()),ca d.1.1 (aX d.1.1,(false,([]:List Int)))))
abbrev Tx:List (Nat×Hc):=[(46,ah oM Hu),(194,ah cK gN)]
def aa1:Hd:=bA Tx
def UU:Lp:=bv []
def HP (a0:Int):Option m3.Res:=bif decide (a0<0) then some (Out.ret (((),()),((),a0,8,false,()),([],130048,()),())) else bif decide (3<a0) then some (Out.ret (((),()),((),a0,8,false,()),([],130048,()),())) else some (Out.ret (((),()),((),a0,0,false,()),([],an (am 130048 0) 1048576,()),()))
theorem Za (a0:Int):Io.run tt aa1 dr UU m3 Tryz.f93 ((a0,()),())=HP a0:=by kernel_rfl
theorem m7:HcOk prog 93 (ah m3 CL):=by
 refine aj (n:=400) hm (cs:=Tx) (.cons Mh (.cons fq .nil)) (lp:=UU) (fn:=Tryz.f93) (by kernel_rfl) (by kernel_rfl) (by kernel_rfl) m3 (.done (by kernel_rfl)) CL ?_
 rintro ⟨⟨(v:Int),⟨⟩⟩,⟨⟩⟩ out hw ho
 cases ho
 refine (Za v).trans ?_
 unfold HP
 have e:an (am 130048 0) 1048576=130048:=by decide
 show _=some (Out.ret (((),()),ca v (if v<0∨3<v then 8 else 0,(false,([]:List Int)))))
 by_cases h1:v<0
 ·rw[aa (by simpa using h1),if_pos (.inl h1)]
 ·rw[ab (by simpa using h1)]
  by_cases h2:3<v
  ·rw[aa (by simpa using h2),if_pos (.inr h2)]
  ·rw[ab (by simpa using h2),if_neg (by omega),e]
abbrev jT:Io:=⟨[.ptr 0 0],rP,[],[dO,dI],none⟩
def bz (s:bc):Int:=if s.1=0 then (if s.2.1=true then 4 else 0) else s.1
def bP (s:bc):List Int:=if bz s=0 then s.2.2 else []
def vz (d:jT.In):Tr jT.Res:=.ite (fQ d.2) (.ret (.ret ((bP (fR d.2),(bz (fR d.2),())),ca d.2.1.2.1 (bz (fR d.2),(d.2.1.2.2.2.1,d.2.2.1.1))))) .no
abbrev N9:List (Nat×Hc):=[(50,ah iS tI)]
def XY:Hd:=bA N9
def OT:Lp:=bv []
def C9 (a0 a1:Int)(a2:Bool)(a3:List Int)(a4:Int):Option jT.Res:=bif a1 == 0 then bif a2 then some (Out.ret (([],4,()),((),a0,4,a2,()),(a3,a4,()),())) else bif a1 != 0 then some (Out.ret (([],a1,()),((),a0,a1,a2,()),(a3,a4,()),())) else bif decide (a3.length≤4294967296) then some (Out.ret ((a3,0,()),((),a0,a1,a2,()),(a3,a4,()),())) else none else bif a1 != 0 then some (Out.ret (([],a1,()),((),a0,a1,a2,()),(a3,a4,()),())) else bif decide (a3.length≤4294967296) then some (Out.ret ((a3,0,()),((),a0,a1,a2,()),(a3,a4,()),())) else none
theorem V5 (a0 a1:Int)(a2:Bool)(a3:List Int)(a4:Int):Io.run tt XY dr OT jT Tryz.f105 (((),()),((),a0,a1,a2,()),(a3,a4,()),())=C9 a0 a1 a2 a3 a4:=by kernel_rfl
theorem jV:HcOk prog 105 (ah jT vz):=by
 refine aj (n:=400) hm (cs:=N9) (.cons A9 .nil) (lp:=OT) (fn:=Tryz.f105) (by kernel_rfl) (by kernel_rfl) (by kernel_rfl) jT (.done (by kernel_rfl)) vz ?_
 rintro ⟨⟨⟨⟩,⟨⟩⟩,⟨⟨⟨⟩,(v:Int),(e:Int),(f:Bool),⟨⟩⟩,⟨(b:List Int),(m:Int),⟨⟩⟩,⟨⟩⟩⟩ out hw ho
 obtain ⟨hg,ho⟩:=Tr.guard ho
 obtain ⟨rfl,hb⟩:=bx hg
 cases ho
 refine (V5 v e f b 130048).trans ?_
 unfold C9
 unfold bP
 show _=some (Out.ret (((if bz (e,f,b)=0 then b else []:List Int),(bz (e,f,b),())),ca v (bz (e,f,b),(f,b))))
 have g:decide (b.length≤4294967296)=true:=by simp;omega
 unfold bz
 rw[g]
 simp only[cond_true]
 by_cases h:e=0
 ·subst h
  cases f
  ·rw[aa (by rfl),ab (by rfl),ab (by rfl)];rfl
  ·rw[aa (by rfl),aa (by rfl)];rfl
 ·rw[ab (by simpa using h),aa (by simpa using h),if_neg h,if_neg h]
abbrev pC:List (List Sh):=[[.ptr 1 0,dI,dI],[dL,dI]]
abbrev xz:List (List Sh):=[[.nil,dI,dI]]
abbrev acC:List (List Sh):=[[.ptr 1 0,dI,dI],[dL,dI],[.ptr 0 0],[dI]]
abbrev acD:List (List Sh):=[[.ptr 2 0],[dI],[.ptr 3 0,dI,dI],[dL,dI]]
abbrev aQ:Type:=Int×Int
abbrev eT (d:k8 pC):aQ:=(d.1.2.2.1,d.2.1.2.1)
abbrev dm (v:Int)(b:List Int)(s:aQ):k8 pC:=(((),(v,(s.1,()))),((b,(s.2,())),()))
def av (b:List Int)(p:Int):Bool:=decide (b.length≤130048)&&(decide (0≤p)&&decide (p≤(b.length:Int)))
abbrev pU (d:k8 pC):Bool:=av d.2.1.1 d.2.1.2.1
def ae (k:IntKind)(n:Nat)(b:List Int)(s:aQ):Int×aQ:=if s.1=0 then (k.wrap (aq b s.2 n).1,((aq b s.2 n).2.2,(aq b s.2 n).2.1)) else (0,s)
def bU (b:List Int)(n:Int)(s:aQ):List Int×aQ:=if s.1=0 then (if n<0 then ([],(5,s.2)) else ((aR b s.2 n).1,((aR b s.2 n).2.2,(aR b s.2 n).2.1))) else ([],s)
def jW (n:Int)(s:aQ):aQ:=if 255<n then (4,s.2) else s
def en (b:List Int)(n:Int)(s:aQ):List Int×aQ:=if (bM (bU b n (jW n s)).1).2=true then bU b n (jW n s) else ([],(6,(bU b n (jW n s)).2.2))
theorem qs {b:List Int}{p:Int}(h:av b p=true):bo b p=true:=by
 simp only[av,bo,Bool.and_eq_true,decide_eq_true_eq] at h ⊢
 exact ⟨by omega,h.2⟩
theorem ZC {b:List Int}{p:Int}(n:Nat)(h:av b p=true):av b (aq b p n).2.1=true:=by
 unfold aq
 split
 ·exact h
 ·simp only[av,Bool.and_eq_true,decide_eq_true_eq] at h ⊢
  exact ⟨h.1,by omega,by omega⟩
theorem Nb {b:List Int}{p:Int}(n:Int)(h:av b p=true):av b (aR b p n).2.1=true:=by
 unfold aR
 split
 ·exact h
 ·split
  ·exact h
  ·simp only[av,Bool.and_eq_true,decide_eq_true_eq] at h ⊢
   exact ⟨h.1,by omega,by omega⟩
theorem bJ {b:List Int}{s:aQ}(k:IntKind)(n:Nat)(h:av b s.2=true):av b (ae k n b s).2.2=true:=by
 unfold ae
 split
 ·exact ZC n h
 ·exact h
theorem WP (b:List Int)(n:Nat)(s:aQ):IntKind.i64.wrap (ae .i16 n b s).1=(ae .i16 n b s).1:=by
 unfold ae
 split
 ·have h:=eJ .i16 (aq b s.2 n).1
  simp only[ey,IntKind.min,IntKind.max,IntKind.signed,IntKind.bits] at h
  exact aC (by simp at h;omega) (by simp at h;omega)
 ·rfl
theorem BE {b:List Int}{s:aQ}(n:Int)(h:av b s.2=true):av b (bU b n s).2.2=true:=by
 unfold bU
 split
 ·split
  ·exact h
  ·exact Nb n h
 ·exact h
theorem BC {b:List Int}{s:aQ}(n:Int)(h:av b s.2=true):av b (jW n s).2=true:=by
 unfold jW
 split <;> exact h
theorem M0 {b:List Int}{s:aQ}(n:Int)(h:av b s.2=true):av b (en b n s).2.2=true:=by
 unfold en
 split
 ·exact BE n (BC n h)
 ·exact BE n (BC n h)
abbrev sE:Io:=⟨[.ptr 0 0,.fnc 136 true [1]],pC,[],[K1],none⟩
def SA (d:sE.In):Tr sE.Res:=.ite (pU d.2) (.ret (.ret ((IntKind.i16.wrap (aq d.2.2.1.1 d.2.2.1.2.1 2).1,()),dm d.2.1.2.1 d.2.2.1.1 ((aq d.2.2.1.1 d.2.2.1.2.1 2).2.2,(aq d.2.2.1.1 d.2.2.1.2.1 2).2.1)))) .no
abbrev Tm:List (Nat×Hc):=[(136,ah kD y9)]
def aaS:Hd:=bA Tm
def UL:Lp:=bv []
def HJ (a0 a1:Int)(a2:List Int)(a3:Int):Option sE.Res:=bif bo a2 a3 then some (Out.ret ((IntKind.i16.wrap (aq a2 a3 2).1,()),((),a0,(aq a2 a3 2).2.2,()),(a2,(aq a2 a3 2).2.1,()),())) else none
theorem Y1 (a0 a1:Int)(a2:List Int)(a3:Int):Io.run tt aaS dr UL sE Tryz.f200 (((),(),()),((),a0,a1,()),(a2,a3,()),())=HJ a0 a1 a2 a3:=by kernel_rfl
theorem abg:HcOk prog 200 (ah sE SA):=by
 refine aj (n:=400) hm (cs:=Tm) (.cons GE .nil) (lp:=UL) (fn:=Tryz.f200) (by kernel_rfl) (by kernel_rfl) (by kernel_rfl) sE (.done (by kernel_rfl)) SA ?_
 rintro ⟨⟨⟨⟩,⟨⟩,⟨⟩⟩,⟨⟨⟩,(v:Int),(e:Int),⟨⟩⟩,⟨(b:List Int),(p:Int),⟨⟩⟩,⟨⟩⟩ out hw ho
 obtain ⟨hg,ho⟩:=Tr.guard ho
 have hg:av b p=true:=hg
 cases ho
 refine (Y1 v e b p).trans ?_
 unfold HJ
 exact aa (qs hg) _ _
abbrev sF:Io:=⟨[.ptr 0 0,.fnc 74 true [1]],pC,[],[PW],none⟩
def SB (d:sF.In):Tr sF.Res:=.ite (pU d.2) (.ret (.ret ((IntKind.i32.wrap (aq d.2.2.1.1 d.2.2.1.2.1 4).1,()),dm d.2.1.2.1 d.2.2.1.1 ((aq d.2.2.1.1 d.2.2.1.2.1 4).2.2,(aq d.2.2.1.1 d.2.2.1.2.1 4).2.1)))) .no
abbrev Tn:List (Nat×Hc):=[(74,ah kE za)]
def aaT:Hd:=bA Tn
def UM:Lp:=bv []
def HK (a0 a1:Int)(a2:List Int)(a3:Int):Option sF.Res:=bif bo a2 a3 then some (Out.ret ((IntKind.i32.wrap (aq a2 a3 4).1,()),((),a0,(aq a2 a3 4).2.2,()),(a2,(aq a2 a3 4).2.1,()),())) else none
theorem Y2 (a0 a1:Int)(a2:List Int)(a3:Int):Io.run tt aaT dr UM sF Tryz.f201 (((),(),()),((),a0,a1,()),(a2,a3,()),())=HK a0 a1 a2 a3:=by kernel_rfl
theorem abh:HcOk prog 201 (ah sF SB):=by
 refine aj (n:=400) hm (cs:=Tn) (.cons GF .nil) (lp:=UM) (fn:=Tryz.f201) (by kernel_rfl) (by kernel_rfl) (by kernel_rfl) sF (.done (by kernel_rfl)) SB ?_
 rintro ⟨⟨⟨⟩,⟨⟩,⟨⟩⟩,⟨⟨⟩,(v:Int),(e:Int),⟨⟩⟩,⟨(b:List Int),(p:Int),⟨⟩⟩,⟨⟩⟩ out hw ho
 obtain ⟨hg,ho⟩:=Tr.guard ho
 have hg:av b p=true:=hg
 cases ho
 refine (Y2 v e b p).trans ?_
 unfold HK
 exact aa (qs hg) _ _
abbrev sG:Io:=⟨[.ptr 0 0,.fnc 207 true [1]],pC,[],[LJ],none⟩
def SD (d:sG.In):Tr sG.Res:=.ite (pU d.2) (.ret (.ret ((IntKind.i64.wrap (aq d.2.2.1.1 d.2.2.1.2.1 8).1,()),dm d.2.1.2.1 d.2.2.1.1 ((aq d.2.2.1.1 d.2.2.1.2.1 8).2.2,(aq d.2.2.1.1 d.2.2.1.2.1 8).2.1)))) .no
abbrev To:List (Nat×Hc):=[(207,ah oK Lf)]
def aaU:Hd:=bA To
def UN:Lp:=bv []
def HL (a0 a1:Int)(a2:List Int)(a3:Int):Option sG.Res:=bif bo a2 a3 then some (Out.ret ((IntKind.i64.wrap (aq a2 a3 8).1,()),((),a0,(aq a2 a3 8).2.2,()),(a2,(aq a2 a3 8).2.1,()),())) else none
theorem Y3 (a0 a1:Int)(a2:List Int)(a3:Int):Io.run tt aaU dr UN sG Tryz.f206 (((),(),()),((),a0,a1,()),(a2,a3,()),())=HL a0 a1 a2 a3:=by kernel_rfl
theorem abi:HcOk prog 206 (ah sG SD):=by
 refine aj (n:=400) hm (cs:=To) (.cons YF .nil) (lp:=UN) (fn:=Tryz.f206) (by kernel_rfl) (by kernel_rfl) (by kernel_rfl) sG (.done (by kernel_rfl)) SD ?_
 rintro ⟨⟨⟨⟩,⟨⟩,⟨⟩⟩,⟨⟨⟩,(v:Int),(e:Int),⟨⟩⟩,⟨(b:List Int),(p:Int),⟨⟩⟩,⟨⟩⟩ out hw ho
 obtain ⟨hg,ho⟩:=Tr.guard ho
 have hg:av b p=true:=hg
 cases ho
 refine (Y3 v e b p).trans ?_
 unfold HL
 exact aa (qs hg) _ _
abbrev Av:Io:=⟨[.ptr 0 0,.ptr 1 0],acD,[],[dO,dI],none⟩
def aaw (d:Av.In):Tr Av.Res:=.ite (av d.2.2.2.2.1.1 d.2.2.2.2.1.2.1) (.ret (.ret (((aR d.2.2.2.2.1.1 d.2.2.2.2.1.2.1 d.2.2.1.1).1,((aR d.2.2.2.2.1.1 d.2.2.2.2.1.2.1 d.2.2.1.1).2.2,())),(((),()),(d.2.2.1,(d.2.2.2.1,((d.2.2.2.2.1.1,((aR d.2.2.2.2.1.1 d.2.2.2.2.1.2.1 d.2.2.1.1).2.1,())),()))))))) .no
abbrev Z1:List (Nat×Hc):=[(63,ah gT qJ)]
def acw:Hd:=bA Z1
def aae:Lp:=bv []
def NR (a0 a1 a2:Int)(a3:List Int)(a4:Int):Option Av.Res:=bif bo a3 a4 then some (Out.ret (((aR a3 a4 a0).1,(aR a3 a4 a0).2.2,()),((),()),(a0,()),((),a1,a2,()),(a3,(aR a3 a4 a0).2.1,()),())) else none
theorem abt (a0 a1 a2:Int)(a3:List Int)(a4:Int):Io.run tt acw dr aae Av Tryz.f214 (((),(),()),((),()),(a0,()),((),a1,a2,()),(a3,a4,()),())=NR a0 a1 a2 a3 a4:=by kernel_rfl
theorem acI:HcOk prog 214 (ah Av aaw):=by
 refine aj (n:=400) hm (cs:=Z1) (.cons uD .nil) (lp:=aae) (fn:=Tryz.f214) (by kernel_rfl) (by kernel_rfl) (by kernel_rfl) Av (.done (by kernel_rfl)) aaw ?_
 rintro ⟨⟨⟨⟩,⟨⟩,⟨⟩⟩,⟨⟨⟩,⟨⟩⟩,⟨(n:Int),⟨⟩⟩,⟨⟨⟩,(v:Int),(e:Int),⟨⟩⟩,⟨(b:List Int),(p:Int),⟨⟩⟩,⟨⟩⟩ out hw ho
 obtain ⟨hg,ho⟩:=Tr.guard ho
 have hg:av b p=true:=hg
 cases ho
 refine (abt n v e b p).trans ?_
 unfold NR
 exact aa (qs hg) _ _
abbrev As:Io:=⟨[.ptr 0 0,.fnc 214 false [2,3]],acC,[],[dO],none⟩
def aau (d:As.In):Tr As.Res:=.ite (av d.2.2.1.1 d.2.2.1.2.1) (.ret (.ret (((aR d.2.2.1.1 d.2.2.1.2.1 d.2.2.2.2.1.1).1,()),(((),(d.2.1.2.1,((aR d.2.2.1.1 d.2.2.1.2.1 d.2.2.2.2.1.1).2.2,()))),((d.2.2.1.1,((aR d.2.2.1.1 d.2.2.1.2.1 d.2.2.2.2.1.1).2.1,())),(((),()),(d.2.2.2.2.1,()))))))) .no
abbrev Z0:List (Nat×Hc):=[(214,ah Av aaw)]
def acv:Hd:=bA Z0
def aad:Lp:=bv []
def NP (a0 a1:Int)(a2:List Int)(a3 a4:Int):Option As.Res:=bif av a2 a3 then some (Out.ret (((aR a2 a3 a4).1,()),((),a0,(aR a2 a3 a4).2.2,()),(a2,(aR a2 a3 a4).2.1,()),((),()),(a4,()),())) else none
theorem abr (a0 a1:Int)(a2:List Int)(a3 a4:Int):Io.run tt acv dr aad As Tryz.f213 (((),(),()),((),a0,a1,()),(a2,a3,()),((),()),(a4,()),())=NP a0 a1 a2 a3 a4:=by kernel_rfl
theorem acG:HcOk prog 213 (ah As aau):=by
 refine aj (n:=400) hm (cs:=Z0) (.cons acI .nil) (lp:=aad) (fn:=Tryz.f213) (by kernel_rfl) (by kernel_rfl) (by kernel_rfl) As (.done (by kernel_rfl)) aau ?_
 rintro ⟨⟨⟨⟩,⟨⟩,⟨⟩⟩,⟨⟨⟩,(v:Int),(e:Int),⟨⟩⟩,⟨(b:List Int),(p:Int),⟨⟩⟩,⟨⟨⟩,⟨⟩⟩,⟨(n:Int),⟨⟩⟩,⟨⟩⟩ out hw ho
 obtain ⟨hg,ho⟩:=Tr.guard ho
 have hg:av b p=true:=hg
 cases ho
 refine (abr v e b p n).trans ?_
 unfold NP
 exact aa hg _ _
abbrev p3:Io:=⟨[.ptr 0 0],pC,[],[K1],none⟩
def NB (d:p3.In):Tr p3.Res:=.ite (pU d.2) (.ret (.ret (((ae .i16 2 d.2.2.1.1 (eT d.2)).1,()),dm d.2.1.2.1 d.2.2.1.1 (ae .i16 2 d.2.2.1.1 (eT d.2)).2))) .no
abbrev Ti:List (Nat×Hc):=[(200,ah sE SA)]
def aaO:Hd:=bA Ti
def UH:Lp:=bv []
def HF (a0 a1:Int)(a2:List Int)(a3:Int):Option p3.Res:=bif a1 != 0 then some (Out.ret ((0,()),((),a0,a1,()),(a2,a3,()),())) else bif av a2 a3 then some (Out.ret ((IntKind.i16.wrap (aq a2 a3 2).1,()),((),a0,(aq a2 a3 2).2.2,()),(a2,(aq a2 a3 2).2.1,()),())) else none
theorem YX (a0 a1:Int)(a2:List Int)(a3:Int):Io.run tt aaO dr UH p3 Tryz.f142 (((),()),((),a0,a1,()),(a2,a3,()),())=HF a0 a1 a2 a3:=by kernel_rfl
theorem Vi:HcOk prog 142 (ah p3 NB):=by
 refine aj (n:=400) hm (cs:=Ti) (.cons abg .nil) (lp:=UH) (fn:=Tryz.f142) (by kernel_rfl) (by kernel_rfl) (by kernel_rfl) p3 (.done (by kernel_rfl)) NB ?_
 rintro ⟨⟨⟨⟩,⟨⟩⟩,⟨⟨⟩,(v:Int),(e:Int),⟨⟩⟩,⟨(b:List Int),(p:Int),⟨⟩⟩,⟨⟩⟩ out hw ho
 obtain ⟨hg,ho⟩:=Tr.guard ho
 have hg:av b p=true:=hg
 cases ho
 refine (YX v e b p).trans ?_
 unfold HF
 show _=some (Out.ret (((ae .i16 2 b (e,p)).1,()),dm v b (ae .i16 2 b (e,p)).2))
 unfold ae
 by_cases h:e=0
 ·rw[if_pos h]
  refine (ab (by simpa using h) _ _).trans ?_
  exact aa hg _ _
 ·rw[if_neg h]
  exact aa (by simpa using h) _ _
abbrev fX:Io:=⟨[.ptr 0 0],pC,[],[PW],none⟩
def nh (d:fX.In):Tr fX.Res:=.ite (pU d.2) (.ret (.ret (((ae .i32 4 d.2.2.1.1 (eT d.2)).1,()),dm d.2.1.2.1 d.2.2.1.1 (ae .i32 4 d.2.2.1.1 (eT d.2)).2))) .no
abbrev Tj:List (Nat×Hc):=[(201,ah sF SB)]
def aaP:Hd:=bA Tj
def UI:Lp:=bv []
def HG (a0 a1:Int)(a2:List Int)(a3:Int):Option fX.Res:=bif a1 != 0 then some (Out.ret ((0,()),((),a0,a1,()),(a2,a3,()),())) else bif av a2 a3 then some (Out.ret ((IntKind.i32.wrap (aq a2 a3 4).1,()),((),a0,(aq a2 a3 4).2.2,()),(a2,(aq a2 a3 4).2.1,()),())) else none
theorem YY (a0 a1:Int)(a2:List Int)(a3:Int):Io.run tt aaP dr UI fX Tryz.f143 (((),()),((),a0,a1,()),(a2,a3,()),())=HG a0 a1 a2 a3:=by kernel_rfl
theorem km:HcOk prog 143 (ah fX nh):=by
 refine aj (n:=400) hm (cs:=Tj) (.cons abh .nil) (lp:=UI) (fn:=Tryz.f143) (by kernel_rfl) (by kernel_rfl) (by kernel_rfl) fX (.done (by kernel_rfl)) nh ?_
 rintro ⟨⟨⟨⟩,⟨⟩⟩,⟨⟨⟩,(v:Int),(e:Int),⟨⟩⟩,⟨(b:List Int),(p:Int),⟨⟩⟩,⟨⟩⟩ out hw ho
 obtain ⟨hg,ho⟩:=Tr.guard ho
 have hg:av b p=true:=hg
 cases ho
 refine (YY v e b p).trans ?_
 unfold HG
 show _=some (Out.ret (((ae .i32 4 b (e,p)).1,()),dm v b (ae .i32 4 b (e,p)).2))
 unfold ae
 by_cases h:e=0
 ·rw[if_pos h]
  refine (ab (by simpa using h) _ _).trans ?_
  exact aa hg _ _
 ·rw[if_neg h]
  exact aa (by simpa using h) _ _
abbrev oq:Io:=⟨[.ptr 0 0],pC,[],[LJ],none⟩
def Ho (d:oq.In):Tr oq.Res:=.ite (pU d.2) (.ret (.ret (((ae .i64 8 d.2.2.1.1 (eT d.2)).1,()),dm d.2.1.2.1 d.2.2.1.1 (ae .i64 8 d.2.2.1.1 (eT d.2)).2))) .no
abbrev Tk:List (Nat×Hc):=[(206,ah sG SD)]
def aaQ:Hd:=bA Tk
def UJ:Lp:=bv []
def HH (a0 a1:Int)(a2:List Int)(a3:Int):Option oq.Res:=bif a1 != 0 then some (Out.ret ((0,()),((),a0,a1,()),(a2,a3,()),())) else bif av a2 a3 then some (Out.ret ((IntKind.i64.wrap (aq a2 a3 8).1,()),((),a0,(aq a2 a3 8).2.2,()),(a2,(aq a2 a3 8).2.1,()),())) else none
theorem YZ (a0 a1:Int)(a2:List Int)(a3:Int):Io.run tt aaQ dr UJ oq Tryz.f156 (((),()),((),a0,a1,()),(a2,a3,()),())=HH a0 a1 a2 a3:=by kernel_rfl
theorem Gy:HcOk prog 156 (ah oq Ho):=by
 refine aj (n:=400) hm (cs:=Tk) (.cons abi .nil) (lp:=UJ) (fn:=Tryz.f156) (by kernel_rfl) (by kernel_rfl) (by kernel_rfl) oq (.done (by kernel_rfl)) Ho ?_
 rintro ⟨⟨⟨⟩,⟨⟩⟩,⟨⟨⟩,(v:Int),(e:Int),⟨⟩⟩,⟨(b:List Int),(p:Int),⟨⟩⟩,⟨⟩⟩ out hw ho
 obtain ⟨hg,ho⟩:=Tr.guard ho
 have hg:av b p=true:=hg
 cases ho
 refine (YZ v e b p).trans ?_
 unfold HH
 show _=some (Out.ret (((ae .i64 8 b (e,p)).1,()),dm v b (ae .i64 8 b (e,p)).2))
 unfold ae
 by_cases h:e=0
 ·rw[if_pos h]
  refine (ab (by simpa using h) _ _).trans ?_
  exact aa hg _ _
 ·rw[if_neg h]
  exact aa (by simpa using h) _ _
abbrev mv:Io:=⟨[.ptr 0 0,dI],pC,[],[dO],none⟩
def E2 (d:mv.In):Tr mv.Res:=.ite (pU d.2) (.ret (.ret (((bU d.2.2.1.1 d.1.2.1 (eT d.2)).1,()),dm d.2.1.2.1 d.2.2.1.1 (bU d.2.2.1.1 d.1.2.1 (eT d.2)).2))) .no
abbrev N6:List (Nat×Hc):=[(213,ah As aau)]
def XV:Hd:=bA N6
def OQ:Lp:=bv []
def C6 (a0 a1 a2:Int)(a3:List Int)(a4:Int):Option mv.Res:=bif a2 == 0 then bif decide (a0<0) then some (Out.ret (([],()),((),a1,5,()),(a3,a4,()),())) else bif a2 != 0 then some (Out.ret (([],()),((),a1,a2,()),(a3,a4,()),())) else bif av a3 a4 then some (Out.ret (((aR a3 a4 a0).1,()),((),a1,(aR a3 a4 a0).2.2,()),(a3,(aR a3 a4 a0).2.1,()),())) else none else bif a2 != 0 then some (Out.ret (([],()),((),a1,a2,()),(a3,a4,()),())) else bif av a3 a4 then some (Out.ret (((aR a3 a4 a0).1,()),((),a1,(aR a3 a4 a0).2.2,()),(a3,(aR a3 a4 a0).2.1,()),())) else none
theorem V2 (a0 a1 a2:Int)(a3:List Int)(a4:Int):Io.run tt XV dr OQ mv Tryz.f202 (((),a0,()),((),a1,a2,()),(a3,a4,()),())=C6 a0 a1 a2 a3 a4:=by kernel_rfl
theorem Pj:HcOk prog 202 (ah mv E2):=by
 refine aj (n:=400) hm (cs:=N6) (.cons acG .nil) (lp:=OQ) (fn:=Tryz.f202) (by kernel_rfl) (by kernel_rfl) (by kernel_rfl) mv (.done (by kernel_rfl)) E2 ?_
 rintro ⟨⟨⟨⟩,(n:Int),⟨⟩⟩,⟨⟨⟩,(v:Int),(e:Int),⟨⟩⟩,⟨(b:List Int),(p:Int),⟨⟩⟩,⟨⟩⟩ out hw ho
 obtain ⟨hg,ho⟩:=Tr.guard ho
 have hg:av b p=true:=hg
 cases ho
 refine (V2 n v e b p).trans ?_
 unfold C6
 show _=some (Out.ret (((bU b n (e,p)).1,()),dm v b (bU b n (e,p)).2))
 unfold bU
 by_cases h:e=0
 ·rw[if_pos h]
  refine (aa (by simpa using h) _ _).trans ?_
  by_cases h2:n<0
  ·rw[if_pos h2]
   exact aa (by simpa using h2) _ _
  ·rw[if_neg h2]
   refine (ab (by simpa using h2) _ _).trans ?_
   refine (ab (by simpa using h) _ _).trans ?_
   exact aa hg _ _
 ·rw[if_neg h]
  refine (ab (by simpa using h) _ _).trans ?_
  exact aa (by simpa using h) _ _
abbrev om:Io:=⟨[.ptr 0 0],xz,[],[K1],none⟩
def K5 (d:om.In):Tr om.Res:=.ite (decide (d.2.1.2.2.1≠0)) (.ret (.ret ((0,()),d.2))) .no
abbrev N3:List (Nat×Hc):=[]
def XS:Hd:=bA N3
def OM:Lp:=bv []
def C3 (a0 a1:Int):Option om.Res:=bif a1 != 0 then some (Out.ret ((0,()),((),a0,a1,()),())) else none
theorem VZ (a0 a1:Int):Io.run tt XS dr OM om Tryz.f142 (((),()),((),a0,a1,()),())=C3 a0 a1:=by kernel_rfl
theorem Yu:HcOk prog 142 (ah om K5):=by
 refine aj (n:=400) hm (cs:=N3) HcsOk.nil (lp:=OM) (fn:=Tryz.f142) (by kernel_rfl) (by kernel_rfl) (by kernel_rfl) om (.done (by kernel_rfl)) K5 ?_
 rintro ⟨⟨⟨⟩,⟨⟩⟩,⟨⟨⟩,(v:Int),(e:Int),⟨⟩⟩,⟨⟩⟩ out hw ho
 obtain ⟨hg,ho⟩:=Tr.guard ho
 have hg:e≠0:=of_decide_eq_true hg
 cases ho
 refine (VZ v e).trans ?_
 unfold C3
 exact aa (by simpa using hg) _ _
abbrev jS:Io:=⟨[.ptr 0 0],xz,[],[PW],none⟩
def vv (d:jS.In):Tr jS.Res:=.ite (decide (d.2.1.2.2.1≠0)) (.ret (.ret ((0,()),d.2))) .no
abbrev N4:List (Nat×Hc):=[]
def XT:Hd:=bA N4
def ON:Lp:=bv []
def C4 (a0 a1:Int):Option jS.Res:=bif a1 != 0 then some (Out.ret ((0,()),((),a0,a1,()),())) else none
theorem V0 (a0 a1:Int):Io.run tt XT dr ON jS Tryz.f143 (((),()),((),a0,a1,()),())=C4 a0 a1:=by kernel_rfl
theorem yG:HcOk prog 143 (ah jS vv):=by
 refine aj (n:=400) hm (cs:=N4) HcsOk.nil (lp:=ON) (fn:=Tryz.f143) (by kernel_rfl) (by kernel_rfl) (by kernel_rfl) jS (.done (by kernel_rfl)) vv ?_
 rintro ⟨⟨⟨⟩,⟨⟩⟩,⟨⟨⟩,(v:Int),(e:Int),⟨⟩⟩,⟨⟩⟩ out hw ho
 obtain ⟨hg,ho⟩:=Tr.guard ho
 have hg:e≠0:=of_decide_eq_true hg
 cases ho
 refine (V0 v e).trans ?_
 unfold C4
 exact aa (by simpa using hg) _ _
abbrev j7:Io:=⟨[.ptr 0 0,dI],xz,[],[dO],none⟩
def yg (d:j7.In):Tr j7.Res:=.ite (decide (d.2.1.2.2.1≠0)) (.ret (.ret ((([]:List Int),()),d.2))) .no
abbrev Ic:List (Nat×Hc):=[]
def T4:Hd:=bA Ic
def Jf:Lp:=bv []
def zt (a0 a1 a2:Int):Option j7.Res:=bif a2 == 0 then bif decide (a0<0) then some (Out.ret (([],()),((),a1,5,()),())) else bif a2 != 0 then some (Out.ret (([],()),((),a1,a2,()),())) else none else bif a2 != 0 then some (Out.ret (([],()),((),a1,a2,()),())) else none
theorem Q0 (a0 a1 a2:Int):Io.run tt T4 dr Jf j7 Tryz.f202 (((),a0,()),((),a1,a2,()),())=zt a0 a1 a2:=by kernel_rfl
theorem JH:HcOk prog 202 (ah j7 yg):=by
 refine aj (n:=400) hm (cs:=Ic) HcsOk.nil (lp:=Jf) (fn:=Tryz.f202) (by kernel_rfl) (by kernel_rfl) (by kernel_rfl) j7 (.done (by kernel_rfl)) yg ?_
 rintro ⟨⟨⟨⟩,(n:Int),⟨⟩⟩,⟨⟨⟩,(v:Int),(e:Int),⟨⟩⟩,⟨⟩⟩ out hw ho
 obtain ⟨hg,ho⟩:=Tr.guard ho
 have hg:e≠0:=of_decide_eq_true hg
 cases ho
 refine (Q0 n v e).trans ?_
 unfold zt
 refine (ab (by simpa using hg) _ _).trans ?_
 exact aa (by simpa using hg) _ _
abbrev ou:Io:=⟨[.ptr 0 0,dI],pC,[],[.dat .str false false],none⟩
def K6 (d:ou.In):Tr ou.Res:=.ite (pU d.2) (.ret (.ret (((en d.2.2.1.1 d.1.2.1 (eT d.2)).1,()),dm d.2.1.2.1 d.2.2.1.1 (en d.2.2.1.1 d.1.2.1 (eT d.2)).2))) .no
abbrev N7:List (Nat×Hc):=[(202,o3 lc (ah j7 yg) (ah mv E2)),(92,ah m4 CP)]
def XW:Hd:=bA N7
def OR:Lp:=bv []
def C7 (a0 a1 a2:Int)(a3:List Int)(a4:Int):Option ou.Res:=bif decide (255<a0) then bif av a3 a4 then some (Out.ret (([],()),((),a1,4,()),(a3,a4,()),())) else none else bif av a3 a4 then bif !(bM (bU a3 a0 (a2,a4)).1).2 then some (Out.ret ((List.map (fun (c:UInt8)=>(↑c.toNat:Int)) [],()),((),a1,6,()),(a3,(bU a3 a0 (a2,a4)).2.2,()),())) else some (Out.ret (((bU a3 a0 (a2,a4)).1,()),((),a1,(bU a3 a0 (a2,a4)).2.1,()),(a3,(bU a3 a0 (a2,a4)).2.2,()),())) else none
theorem V3 (a0 a1 a2:Int)(a3:List Int)(a4:Int):Io.run tt XW dr OR ou Tryz.f199 (((),a0,()),((),a1,a2,()),(a3,a4,()),())=C7 a0 a1 a2 a3 a4:=by kernel_rfl
theorem Yv:HcOk prog 199 (ah ou K6):=by
 refine aj (n:=400) hm (cs:=N7) (.cons (cS JH Pj) (.cons GC .nil)) (lp:=OR) (fn:=Tryz.f199) (by kernel_rfl) (by kernel_rfl) (by kernel_rfl) ou (.done (by kernel_rfl)) K6 ?_
 rintro ⟨⟨⟨⟩,(n:Int),⟨⟩⟩,⟨⟨⟩,(v:Int),(e:Int),⟨⟩⟩,⟨(b:List Int),(p:Int),⟨⟩⟩,⟨⟩⟩ out hw ho
 obtain ⟨hg,ho⟩:=Tr.guard ho
 have hg:av b p=true:=hg
 cases ho
 refine (V3 n v e b p).trans ?_
 unfold C7
 show _=some (Out.ret (((en b n (e,p)).1,()),dm v b (en b n (e,p)).2))
 unfold en jW
 by_cases h:255<n
 ·rw[if_pos h]
  refine (aa (by simpa using h) _ _).trans ?_
  refine (aa hg _ _).trans ?_
  have e1:bU b n (4,p)=([],(4,p)):=rfl
  rw[e1,if_pos (by rfl)]
 ·rw[if_neg h]
  refine (ab (by simpa using h) _ _).trans ?_
  refine (aa hg _ _).trans ?_
  cases hu:(bM (bU b n (e,p)).1).2
  ·rw[if_neg (by simp)]
   rfl
  ·rw[if_pos rfl]
   rfl
abbrev lm:Io:=⟨[.ptr 0 0,dI],xz,[],[.dat .str false false],none⟩
def E3 (d:lm.In):Tr lm.Res:=.ite (decide (d.2.1.2.2.1≠0)&&decide (d.1.2.1≤255)) (.ret (.ret ((([]:List Int),()),d.2))) .no
abbrev Id:List (Nat×Hc):=[(202,o3 lc (ah j7 yg) (ah mv E2)),(92,ah m4 CP)]
def T5:Hd:=bA Id
def Jg:Lp:=bv []
def zu (a0 a1 a2:Int):Option lm.Res:=bif decide (255<a0) then some (Out.ret (([],()),((),a1,4,()),())) else bif decide (a2≠0) then some (Out.ret (([],()),((),a1,a2,()),())) else none
theorem Q1 (a0 a1 a2:Int):Io.run tt T5 dr Jg lm Tryz.f199 (((),a0,()),((),a1,a2,()),())=zu a0 a1 a2:=by kernel_rfl
theorem Vl:HcOk prog 199 (ah lm E3):=by
 refine aj (n:=400) hm (cs:=Id) (.cons (cS JH Pj) (.cons GC .nil)) (lp:=Jg) (fn:=Tryz.f199) (by kernel_rfl) (by kernel_rfl) (by kernel_rfl) lm (.done (by kernel_rfl)) E3 ?_
 rintro ⟨⟨⟨⟩,(n:Int),⟨⟩⟩,⟨⟨⟩,(v:Int),(e:Int),⟨⟩⟩,⟨⟩⟩ out hw ho
 obtain ⟨hg,ho⟩:=Tr.guard ho
 obtain ⟨hg,h2⟩:=Bool.and_eq_true_iff.1 hg
 have hg:e≠0:=of_decide_eq_true hg
 have h2:n≤255:=of_decide_eq_true h2
 cases ho
 refine (Q1 n v e).trans ?_
 unfold zu
 refine (ab (by simp;omega) _ _).trans ?_
 exact aa (by simpa using hg) _ _
def ct (b:List Int)(s:aQ):List Int×aQ:=en b (ae .i16 2 b s).1 (ae .i16 2 b s).2
abbrev p5:Io:=⟨[.ptr 0 0],pC,[],[.dat .str false false],none⟩
def ND (d:p5.In):Tr p5.Res:=.ite (pU d.2) (.ret (.ret (((ct d.2.2.1.1 (eT d.2)).1,()),dm d.2.1.2.1 d.2.2.1.1 (ct d.2.2.1.1 (eT d.2)).2))) .no
abbrev Ts:List (Nat×Hc):=[(142,o3 lc (ah om K5) (ah p3 NB)),(199,o3 lc (ah lm E3) (ah ou K6))]
def aaW:Hd:=bA Ts
def UP:Lp:=bv []
def HN (a0 a1:Int)(a2:List Int)(a3:Int):Option p5.Res:=bif av a2 a3 then bif av a2 (ae IntKind.i16 2 a2 (a1,a3)).2.2 then some (Out.ret (((en a2 (IntKind.i64.wrap (ae IntKind.i16 2 a2 (a1,a3)).1) (ae IntKind.i16 2 a2 (a1,a3)).2).1,()),((),a0,(en a2 (IntKind.i64.wrap (ae IntKind.i16 2 a2 (a1,a3)).1) (ae IntKind.i16 2 a2 (a1,a3)).2).2.1,()),(a2,(en a2 (IntKind.i64.wrap (ae IntKind.i16 2 a2 (a1,a3)).1) (ae IntKind.i16 2 a2 (a1,a3)).2).2.2,()),())) else none else none
theorem Y5 (a0 a1:Int)(a2:List Int)(a3:Int):Io.run tt aaW dr UP p5 Tryz.f146 (((),()),((),a0,a1,()),(a2,a3,()),())=HN a0 a1 a2 a3:=by kernel_rfl
theorem Vk:HcOk prog 146 (ah p5 ND):=by
 refine aj (n:=400) hm (cs:=Ts) (.cons (cS Yu Vi) (.cons (cS Vl Yv) .nil)) (lp:=UP) (fn:=Tryz.f146) (by kernel_rfl) (by kernel_rfl) (by kernel_rfl) p5 (.done (by kernel_rfl)) ND ?_
 rintro ⟨⟨⟨⟩,⟨⟩⟩,⟨⟨⟩,(v:Int),(e:Int),⟨⟩⟩,⟨(b:List Int),(p:Int),⟨⟩⟩,⟨⟩⟩ out hw ho
 obtain ⟨hg,ho⟩:=Tr.guard ho
 have hg:av b p=true:=hg
 cases ho
 refine (Y5 v e b p).trans ?_
 unfold HN
 show _=some (Out.ret (((ct b (e,p)).1,()),dm v b (ct b (e,p)).2))
 rw[WP]
 refine (aa hg _ _).trans ?_
 exact aa (bJ .i16 2 (s:=(e,p)) hg) _ _
def yN (b:List Int)(s:aQ):pm.den×aQ:=if (ae .i32 4 b s).1 = -1 then ((true,(([]:List Int),())),(ae .i32 4 b s).2) else ((false,((bU b (ae .i32 4 b s).1 (ae .i32 4 b s).2).1,())),(bU b (ae .i32 4 b s).1 (ae .i32 4 b s).2).2)
def bi (v lo hi e:Int):Bool:=if e=0∧lo≤v∧v≤hi then true else false
abbrev m0:Io:=⟨[.ptr 0 0,dI,dI],pC,[],[dB],none⟩
def CG (d:m0.In):Tr m0.Res:=.ret (.ret ((bi d.2.1.2.1 d.1.2.1 d.1.2.2.1 d.2.1.2.2.1,()),d.2))
abbrev Th:List (Nat×Hc):=[]
def aaN:Hd:=bA Th
def UG:Lp:=bv []
def HE (a0 a1 a2 a3:Int)(a4:List Int)(a5:Int):Option m0.Res:=bif a3 == 0 then bif decide (a0≤a2) then some (Out.ret ((decide (a2≤a1),()),((),a2,a3,()),(a4,a5,()),())) else some (Out.ret ((false,()),((),a2,a3,()),(a4,a5,()),())) else some (Out.ret ((false,()),((),a2,a3,()),(a4,a5,()),()))
theorem YW (a0 a1 a2 a3:Int)(a4:List Int)(a5:Int):Io.run tt aaN dr UG m0 Tryz.f140 (((),a0,a1,()),((),a2,a3,()),(a4,a5,()),())=HE a0 a1 a2 a3 a4 a5:=by kernel_rfl
theorem Gx:HcOk prog 140 (ah m0 CG):=by
 refine aj (n:=400) hm (cs:=Th) HcsOk.nil (lp:=UG) (fn:=Tryz.f140) (by kernel_rfl) (by kernel_rfl) (by kernel_rfl) m0 (.done (by kernel_rfl)) CG ?_
 rintro ⟨⟨⟨⟩,(lo:Int),(hi:Int),⟨⟩⟩,⟨⟨⟩,(v:Int),(e:Int),⟨⟩⟩,⟨(b:List Int),(p:Int),⟨⟩⟩,⟨⟩⟩ out hw ho
 cases ho
 refine (YW lo hi v e b p).trans ?_
 unfold HE
 show _=some (Out.ret ((bi v lo hi e,()),dm v b (e,p)))
 have hs:bi v lo hi e=((e == 0)&&(decide (lo≤v)&&decide (v≤hi))):=by
  unfold bi
  by_cases h:e=0∧lo≤v∧v≤hi
  ·rw[if_pos h];simp[h]
  ·rw[if_neg h]
   rw[eq_comm,Bool.eq_false_iff]
   intro h'
   simp only[Bool.and_eq_true,beq_iff_eq,decide_eq_true_eq] at h'
   exact h h'
 rw[hs]
 cases e == 0
 ·rfl
 ·cases decide (lo≤v) <;> rfl
abbrev mr:Io:=⟨[.ptr 0 0,dI,dI],xz,[],[dB],none⟩
def E1 (d:mr.In):Tr mr.Res:=.ite (decide (d.2.1.2.2.1≠0)) (.ret (.ret ((false,()),d.2))) .no
abbrev N2:List (Nat×Hc):=[]
def XR:Hd:=bA N2
def OL:Lp:=bv []
def C2 (a0 a1 a2 a3:Int):Option mr.Res:=bif a3 == 0 then bif decide (a0≤a2) then some (Out.ret ((decide (a2≤a1),()),((),a2,a3,()),())) else some (Out.ret ((false,()),((),a2,a3,()),())) else some (Out.ret ((false,()),((),a2,a3,()),()))
theorem VY (a0 a1 a2 a3:Int):Io.run tt XR dr OL mr Tryz.f140 (((),a0,a1,()),((),a2,a3,()),())=C2 a0 a1 a2 a3:=by kernel_rfl
theorem Ph:HcOk prog 140 (ah mr E1):=by
 refine aj (n:=400) hm (cs:=N2) HcsOk.nil (lp:=OL) (fn:=Tryz.f140) (by kernel_rfl) (by kernel_rfl) (by kernel_rfl) mr (.done (by kernel_rfl)) E1 ?_
 rintro ⟨⟨⟨⟩,(lo:Int),(hi:Int),⟨⟩⟩,⟨⟨⟩,(v:Int),(e:Int),⟨⟩⟩,⟨⟩⟩ out hw ho
 obtain ⟨hg,ho⟩:=Tr.guard ho
 have hg:e≠0:=of_decide_eq_true hg
 cases ho
 refine (VY lo hi v e).trans ?_
 unfold C2
 exact ab (by simpa using hg) _ _
def b7 (b:List Int)(s:aQ):Int:=if s.1=0 then Kq b s.2 else s.1
abbrev p2:Io:=⟨[.ptr 0 0],pC,[],[dI],none⟩
def NA (d:p2.In):Tr p2.Res:=.ret (.ret ((b7 d.2.2.1.1 (eT d.2),()),(((),(d.2.1.2.1,(b7 d.2.2.1.1 (eT d.2),()))),d.2.2)))
abbrev Tg:List (Nat×Hc):=[(203,ah mA Fe)]
def aaM:Hd:=bA Tg
def UF:Lp:=bv []
def HD (a0 a1:Int)(a2:List Int)(a3:Int):Option p2.Res:=bif a1 == 0 then some (Out.ret ((Kq a2 a3,()),((),a0,Kq a2 a3,()),(a2,a3,()),())) else some (Out.ret ((a1,()),((),a0,a1,()),(a2,a3,()),()))
theorem YV (a0 a1:Int)(a2:List Int)(a3:Int):Io.run tt aaM dr UF p2 Tryz.f150 (((),()),((),a0,a1,()),(a2,a3,()),())=HD a0 a1 a2 a3:=by kernel_rfl
theorem Vh:HcOk prog 150 (ah p2 NA):=by
 refine aj (n:=400) hm (cs:=Tg) (.cons Pm .nil) (lp:=UF) (fn:=Tryz.f150) (by kernel_rfl) (by kernel_rfl) (by kernel_rfl) p2 (.done (by kernel_rfl)) NA ?_
 rintro ⟨⟨⟨⟩,⟨⟩⟩,⟨⟨⟩,(v:Int),(e:Int),⟨⟩⟩,⟨(b:List Int),(p:Int),⟨⟩⟩,⟨⟩⟩ out hw ho
 cases ho
 refine (YV v e b p).trans ?_
 unfold HD
 show _=some (Out.ret ((b7 b (e,p),()),dm v b (b7 b (e,p),p)))
 unfold b7
 by_cases h:e=0
 ·rw[if_pos h]
  exact aa (by simpa using h) _ _
 ·rw[if_neg h]
  exact ab (by simpa using h) _ _
abbrev mq:Io:=⟨[.ptr 0 0],xz,[],[dI],none⟩
def E0 (d:mq.In):Tr mq.Res:=.ite (decide (d.2.1.2.2.1≠0)) (.ret (.ret ((d.2.1.2.2.1,()),d.2))) .no
abbrev N1:List (Nat×Hc):=[(203,ah mA Fe)]
def XQ:Hd:=bA N1
def OK:Lp:=bv []
def C1 (a0 a1:Int):Option mq.Res:=bif a1 == 0 then none else some (Out.ret ((a1,()),((),a0,a1,()),()))
theorem VX (a0 a1:Int):Io.run tt XQ dr OK mq Tryz.f150 (((),()),((),a0,a1,()),())=C1 a0 a1:=by kernel_rfl
theorem Pg:HcOk prog 150 (ah mq E0):=by
 refine aj (n:=400) hm (cs:=N1) (.cons Pm .nil) (lp:=OK) (fn:=Tryz.f150) (by kernel_rfl) (by kernel_rfl) (by kernel_rfl) mq (.done (by kernel_rfl)) E0 ?_
 rintro ⟨⟨⟨⟩,⟨⟩⟩,⟨⟨⟩,(v:Int),(e:Int),⟨⟩⟩,⟨⟩⟩ out hw ho
 obtain ⟨hg,ho⟩:=Tr.guard ho
 have hg:e≠0:=of_decide_eq_true hg
 cases ho
 refine (VX v e).trans ?_
 unfold C1
 exact ab (by simpa using hg) _ _
abbrev p4:Io:=⟨[dI,dL],[],pC,[.ptr 0 0],none⟩
def NC (d:p4.In):Tr p4.Res:=.ite (decide (0≤d.1.1)&&(decide (d.1.1≤3)&&decide ((d.1.2.1.length:Int)≤130048))) (.ret (.ret (((),()),dm d.1.1 d.1.2.1 (0,0)))) .no
abbrev Tp:List (Nat×Hc):=[(61,ah jU vD)]
def aaV:Hd:=bA Tp
def UO:Lp:=bv []
def HM (a0:Int)(a1:List Int):Option p4.Res:=bif decide (a0<0) then none else bif decide (3<a0) then none else bif decide (130048<(↑a1.length:Int)) then none else bif decide (a1.length≤4294967296) then some (Out.ret (((),()),((),a0,0,()),(a1,0,()),())) else none
theorem Y4 (a0:Int)(a1:List Int):Io.run tt aaV dr UO p4 Tryz.f139 ((a0,a1,()),())=HM a0 a1:=by kernel_rfl
theorem Vj:HcOk prog 139 (ah p4 NC):=by
 refine aj (n:=400) hm (cs:=Tp) (.cons yH .nil) (lp:=UO) (fn:=Tryz.f139) (by kernel_rfl) (by kernel_rfl) (by kernel_rfl) p4 (.done (by kernel_rfl)) NC ?_
 rintro ⟨⟨(v:Int),(b:List Int),⟨⟩⟩,⟨⟩⟩ out hw ho
 obtain ⟨hg,ho⟩:=Tr.guard ho
 simp only[Bool.and_eq_true,decide_eq_true_eq] at hg
 obtain ⟨h1,h2,h3⟩:=hg
 have h1:(0:Int)≤v:=h1
 have h2:v≤(3:Int):=h2
 have h3:(b.length:Int)≤130048:=h3
 cases ho
 refine (Y4 v b).trans ?_
 unfold HM
 refine (ab (by simp;omega) _ _).trans ?_
 refine (ab (by simp;omega) _ _).trans ?_
 refine (ab (by simp;omega) _ _).trans ?_
 exact aa (by simp;omega) _ _
def eD (v:Int):Int:=if v<0∨3<v then 8 else 4
abbrev mt:Io:=⟨[dI,dL],[],xz,[.ptr 0 0],none⟩
def vw (d:mt.In):Tr mt.Res:=.ite (decide (0≤d.1.1)&&(decide (d.1.1≤3)&&decide ((d.1.2.1.length:Int)≤130048))) .no (.ret (.ret (((),()),(((),(d.1.1,(eD d.1.1,()))),()))))
abbrev N5:List (Nat×Hc):=[(61,ah jU vD)]
def XU:Hd:=bA N5
def OO:Lp:=bv []
def C5 (a0:Int)(a1:List Int):Option mt.Res:=bif decide (a0<0) then some (Out.ret (((),()),((),a0,8,()),())) else bif decide (3<a0) then some (Out.ret (((),()),((),a0,8,()),())) else bif decide (130048<(↑a1.length:Int)) then some (Out.ret (((),()),((),a0,4,()),())) else bif decide (a1.length≤4294967296) then none else none
theorem V1 (a0:Int)(a1:List Int):Io.run tt XU dr OO mt Tryz.f139 ((a0,a1,()),())=C5 a0 a1:=by kernel_rfl
theorem Pi:HcOk prog 139 (ah mt vw):=by
 refine aj (n:=400) hm (cs:=N5) (.cons yH .nil) (lp:=OO) (fn:=Tryz.f139) (by kernel_rfl) (by kernel_rfl) (by kernel_rfl) mt (.done (by kernel_rfl)) vw ?_
 rintro ⟨⟨(v:Int),(b:List Int),⟨⟩⟩,⟨⟩⟩ out hw ho
 have hg:(decide (0≤v)&&(decide (v≤3)&&decide ((b.length:Int)≤130048)))=false:=by
  cases hc:(decide (0≤v)&&(decide (v≤3)&&decide ((b.length:Int)≤130048)))
  ·rfl
  ·have e1:vw ((v,(b,())),())=.ite true .no (.ret (.ret (((),()),(((),(v,(eD v,()))),())))):=congrArg (fun c=>Tr.ite c _ _) hc
   rw[e1] at ho
   cases ho
 have e1:vw ((v,(b,())),())=.ite false .no (.ret (.ret (((),()),(((),(v,(eD v,()))),())))):=congrArg (fun c=>Tr.ite c _ _) hg
 rw[e1] at ho
 cases ho
 refine (V1 v b).trans ?_
 unfold C5 eD
 simp only[Bool.and_eq_false_iff,decide_eq_false_iff_not] at hg
 by_cases h1:v<0
 ·rw[if_pos (.inl h1)]
  exact aa (by simpa using h1) _ _
 ·refine (ab (by simpa using h1) _ _).trans ?_
  by_cases h2:3<v
  ·rw[if_pos (.inr h2)]
   exact aa (by simpa using h2) _ _
  ·rw[if_neg (by omega)]
   refine (ab (by simpa using h2) _ _).trans ?_
   exact aa (by simp;omega) _ _
abbrev uB:List (List Sh):=[[.ptr 1 0],[.ptr 2 0,dI,dI,dB],[dO,dI]]
abbrev pr:List (List Sh):=[[.ptr 1 0,dI,dI,dB],[dO,dI],[.ptr 0 0]]
abbrev iN (v:Int)(s:bc):k8 uB:=(((),()),ca v s)
abbrev gZ (v:Int)(s:bc):k8 pr:=(((),(v,(s.1,(s.2.1,())))),((s.2.2,(130048,())),(((),()),())))
abbrev mX (d:k8 pr):bc:=(d.1.2.2.1,(d.1.2.2.2.1,d.2.1.1))
abbrev mW (d:k8 pr):Bool:=decide (d.2.1.2.1=130048)&&decide (d.2.1.1.length≤130048)
def br {α:Type}(one:α→bc→bc)(xs:List α)(s:bc):bc:=if 16<(xs.length:Int) then bt 9 s else xs.foldl (fun s x=>one x s) (ac xs.length 4 s)
abbrev bZ:Ty:=.prod (.int .i32) (.prod pm .unit)
def jZ (p:bZ.den)(s:bc):bc:=eG p.2.1 (ac p.1 4 s)
def GK (p:bZ.den):Bool:=decide (p.2.1.2.1.length≤2147483647)
abbrev qW (v:Int)(s:bc):(Int×(Int×(Bool×Unit)))×((List Int×(Int×Unit))×(Unit×Unit)):=((v,(s.1,(s.2.1,()))),((s.2.2,(130048,())),((),())))
theorem wE {s:bc}(p:List Int)(h:s.2.2.length≤130048):(jM p s).2.2.length≤130048:=by
 unfold jM
 split
 ·exact h
 ·simp only[List.length_append];omega
theorem kY {s:bc}(e:Int)(h:s.2.2.length≤130048):(bt e s).2.2.length≤130048:=by
 unfold bt;split <;> exact h
theorem MX {s:bc}(n:Bool×(List Int×Unit))(h:s.2.2.length≤130048):(eG n s).2.2.length≤130048:=by
 unfold eG
 split
 ·exact kY _ h
 ·split
  ·exact aE _ _ h
  ·exact wE _ (aE _ _ h)
theorem gH {s:bc}(t:List Int)(h:s.2.2.length≤130048):(bH t s).2.2.length≤130048:=by
 unfold bH
 split
 ·exact kY _ h
 ·split
  ·exact kY _ h
  ·exact wE _ (aE _ _ h)
theorem BN {s:bc}(p:bZ.den)(h:s.2.2.length≤130048):(jZ p s).2.2.length≤130048:=MX _ (aE _ _ h)
theorem j5 {α:Type}{one:α→bc→bc}(h1:∀x s,s.2.2.length≤130048→(one x s).2.2.length≤130048):∀(xs:List α) (s:bc),s.2.2.length≤130048→(xs.foldl (fun s x=>one x s) s).2.2.length≤130048
 |[],_,h=>h
 |x::xs,s,h=>j5 h1 xs (one x s) (h1 x s h)
theorem cg {α:Type}{one:α→bc→bc}(h1:∀x s,s.2.2.length≤130048→(one x s).2.2.length≤130048)(xs:List α){s:bc}(h:s.2.2.length≤130048):(br one xs s).2.2.length≤130048:=by
 unfold br
 split
 ·exact kY _ h
 ·exact j5 h1 xs _ (aE _ _ h)
def rG (xs:List bZ.den):Bool:=xs.all GK
abbrev oI:Io:=⟨[.dat bZ true false,.ptr 0 0],uB,[],[],none⟩
def Lb (d:oI.In):Tr oI.Res:=.ite (fQ d.2.2&&GK d.1.1) (.ret (.ret ((),iN d.2.2.1.2.1 (jZ d.1.1 (fR d.2.2))))) .no
abbrev Oe:List (Nat×Hc):=[(98,ah dn iw),(104,ah oy K7)]
def X2:Hd:=bA Oe
def OZ:Lp:=bv []
def Dh (a0:Int)(a1:Bool)(a2:List Int)(a3 a4:Int)(a5:Bool)(a6:List Int)(a7:Int):Option oI.Res:=bif decide (a7=130048)&&decide (a6.length≤130048) then bif decide (130048=130048)&&decide ((ac a0 4 (a4,a5,a6)).2.2.length≤130048)&&decide (a2.length≤2147483647) then some (Out.ret ((),((),()),((),a3,(eG (a1,a2,()) (ac a0 4 (a4,a5,a6))).1,(eG (a1,a2,()) (ac a0 4 (a4,a5,a6))).2.1,()),((eG (a1,a2,()) (ac a0 4 (a4,a5,a6))).2.2,130048,()),())) else none else none
theorem Wd (a0:Int)(a1:Bool)(a2:List Int)(a3 a4:Int)(a5:Bool)(a6:List Int)(a7:Int):Io.run tt X2 dr OZ oI Tryz.f103 (((a0,(a1,a2,()),()),(),()),((),()),((),a3,a4,a5,()),(a6,a7,()),())=Dh a0 a1 a2 a3 a4 a5 a6 a7:=by kernel_rfl
theorem YC:HcOk prog 103 (ah oI Lb):=by
 refine aj (n:=400) hm (cs:=Oe) (.cons dg (.cons Yw .nil)) (lp:=OZ) (fn:=Tryz.f103) (by kernel_rfl) (by kernel_rfl) (by kernel_rfl) oI (.done (by kernel_rfl)) Lb ?_
 rintro ⟨⟨⟨(x:Int),⟨(z:Bool),(t:List Int),⟨⟩⟩,⟨⟩⟩,⟨⟩,⟨⟩⟩,⟨⟨⟩,⟨⟩⟩,⟨⟨⟩,(v:Int),(e:Int),(f:Bool),⟨⟩⟩,⟨(b:List Int),(m:Int),⟨⟩⟩,⟨⟩⟩ out hw ho
 obtain ⟨hg,ho⟩:=Tr.guard ho
 obtain ⟨hg,h5⟩:=Bool.and_eq_true_iff.1 hg
 obtain ⟨rfl,hb⟩:=bx (v:=v) (e:=e) (f:=f) hg
 have h5:decide (t.length≤2147483647)=true:=h5
 cases ho
 refine (Wd x z t v e f b 130048).trans ?_
 unfold Dh
 refine (aa (by simpa using hb) _ _).trans ?_
 refine (aa (by rw[h5];simpa using aE (s:=(e,f,b)) x 4 hb) _ _).trans ?_
 rfl
abbrev hC (st cf:Nat)(T:Ty):Io:=⟨[.ptr 0 0,.dat (.sl st T) false false,.fnc cf false [2]],pr,[],[],none⟩
def Ny (st cf:Nat)(T:Ty)(gx:T.den→Bool)(sps:Int→List T.den→bc→bc)(d:(hC st cf T).In):Tr (hC st cf T).Res:=.ite (mW d.2&&d.1.2.1.all gx) (.ret (.ret ((),gZ d.2.1.2.1 (sps d.2.1.2.1 d.1.2.1 (mX d.2))))) .no
abbrev bd (st cf:Nat)(T:Ty):Lo:=⟨⟨[.any,.any,.one (.fnp cf false [2]),.any,.any,.any,.any,.any,.any,.any,.any,.any,.any,.any,.any,.any,.any,.any,.one (.hol (.sl st T)),.one (.hol (.int IntKind.i64)),.one (.hol (.int IntKind.i64)),.any,.any,.any,.any,.any,.any,.any],[some [.ptr 1 0,.hol (.int IntKind.i64),.hol (.int IntKind.i64),.hol .bool],some [.onl 5 (Ty.int IntKind.u8) 514,.hol (.int IntKind.i64)],some [.ptr 0 0]]⟩,[(.exit 0,⟨(ai (dR (bQ []))),[some [.ptr 1 0,.hol (.int IntKind.i64),.hol (.int IntKind.i64),.hol .bool],some [.onl 5 (Ty.int IntKind.u8) 514,.hol (.int IntKind.i64)],some [.ptr 0 0]]⟩)]⟩
def fG (st cf:Nat)(T:Ty)(gx:T.den→Bool)(one:Int→T.den→bc→bc)(d:(bd st cf T).st.den):Tr (aD (bd st cf T).xs):=
 .ite (decide (d.1.2.2.1=0)&&(decide (d.1.2.1=(d.1.1.length:Int))&&(decide (d.2.2.1.2.1=130048)&&(decide (d.2.2.1.1.length≤130048)&&d.1.1.all gx)))) (.ret (.ret ((),((),qW d.2.1.1 (d.1.1.foldl (fun s x=>one d.2.1.1 x s) (d.2.1.2.1,(d.2.1.2.2.1,d.2.2.1.1))))))) .no
def tg (st cf:Nat)(T:Ty)(gx:T.den→Bool)(one:Int→T.den→bc→bc){R:Type}(h6:List T.den)(h7 h8 h9 h10:Int)(h11:Bool)(h12:List Int)(h13:Int)(next:List T.den→Int→Int→Int→Int→Bool→List Int→Int→Option R)(out:aD (bd st cf T).xs→Option R):Option R:=bif decide (h8<h7) then bif decide (0≤h8)&&decide (h8<(h6.length:Int)) then bif decide (h13=130048)&&decide (h12.length≤130048)&&gx (h6.getD h8.toNat T.zero) then next (h6) (h7) (IntKind.i64.wrap (h8+1)) (h9) ((one h9 (h6.getD h8.toNat T.zero) (h10,h11,h12)).1) ((one h9 (h6.getD h8.toNat T.zero) (h10,h11,h12)).2.1) ((one h9 (h6.getD h8.toNat T.zero) (h10,h11,h12)).2.2) (130048) else none else none else out (.ret ((),((),((h9,(h10,(h11,()))),((h12,(h13,())),((),()))))))
theorem LX {st cf:Nat}{T:Ty}{gx:T.den→Bool}{one:Int→T.den→bc→bc}(hle:∀v x s,s.2.2.length≤130048→(one v x s).2.2.length≤130048)
  (it:Nat→List T.den→Int→Int→Int→Int→Bool→List Int→Int→Option (aD (bd st cf T).xs)) (hit:∀n h6 h7 h8 h9 h10 h11 h12 h13,it (n+1) h6 h7 h8 h9 h10 h11 h12 h13=tg st cf T gx one h6 h7 h8 h9 h10 h11 h12 h13 (it n) some)
  {xs:List T.den} (v:Int) (hl:xs.length≤maxLen) (hok:∀x∈xs,gx x=true):∀(k i:Nat) (s:bc),xs.length<i+k→i≤xs.length→s.2.2.length≤130048→
  it k xs (xs.length:Int) i v s.1 s.2.1 s.2.2 130048=some (.ret ((),((),qW v ((xs.drop i).foldl (fun s x=>one v x s) s)))):=by
 intro k
 induction k with
 |zero=>intro i s h;omega
 |succ k ih=>
  intro i s h1 h2 h3
  rw[hit]
  unfold tg
  by_cases hi:i<xs.length
  ·refine (aa (decide_eq_true (show (i:Int)<(xs.length:Int) by omega)) _ _).trans ?_
   refine (aa (by simpa using hi) _ _).trans ?_
   simp only[Int.toNat_natCast,aH hi,bp hi hl]
   have g:(decide ((130048:Int)=130048)&&decide (s.2.2.length≤130048)&&gx xs[i])=true:=by
    rw[hok _ (List.getElem_mem hi)];simpa using h3
   refine (aa g _ _).trans ?_
   rw[List.drop_eq_getElem_cons hi]
   exact ih (i+1) (one v xs[i] s) (by omega) (by omega) (hle v _ s h3)
  ·refine (ab (by simp;omega) _ _).trans ?_
   rw[List.drop_of_length_le (by omega)]
   rfl
def zm (st cf:Nat)(T:Ty)(gx:T.den→Bool)(one:Int→T.den→bc→bc)(a0:List T.den)(a1 a2:Int)(a3:Bool)(a4:List Int)(a5:Int):Option (hC st cf T).Res:=bif decide (16<(a0.length:Int)) then bif decide (a5=130048)&&decide (a4.length≤130048) then some (Out.ret ((),((),a1,(bt 9 (a2,a3,a4)).1,(bt 9 (a2,a3,a4)).2.1,()),((bt 9 (a2,a3,a4)).2.2,130048,()),((),()),())) else none else bif decide (a5=130048)&&decide (a4.length≤130048) then (fG st cf T gx one ((a0,((a0.length:Int),(0,()))),((a1,((ac (IntKind.i32.wrap (a0.length:Int)) 4 (a2,a3,a4)).1,((ac (IntKind.i32.wrap (a0.length:Int)) 4 (a2,a3,a4)).2.1,()))),(((ac (IntKind.i32.wrap (a0.length:Int)) 4 (a2,a3,a4)).2.2,(130048,())),((),()))))).run fun y=>match y with | .ret ((),((),(x27,x28,x29,()),(x30,x31,()),(),()))=>(some (Out.ret ((),((),x27,x28,x29,()),(x30,x31,()),((),()),()))) else none
theorem IR {st cf f:Nat}{T:Ty}{gx:T.den→Bool}{sps:Int→List T.den→bc→bc}{one:Int→T.den→bc→bc}(hs:∀v xs s,sps v xs s=br (one v) xs s)(hle:∀v x s,s.2.2.length≤130048→(one v x s).2.2.length≤130048)
  {cs:List (Nat×Hc)} (hcs:HcsOk prog cs) {fn:Func} (hf:prog.funcs[f]?=some fn) (hname:(fn.name == "runtime.NumGoroutine")=false) (hbody:fn.body.isNone=false)
  (hlp:bv [(5,aN (bd st cf T) (fG st cf T gx one))] (dP ((dT fn).getD 0 kd).2.1)=some (aN (bd st cf T) (fG st cf T gx one))) (h1:Nat.ble (Ss fn ((dT fn).getD 0 kd)).length 0=true) (h2:Nat.ble (dT fn).length (0+1)=true)
  (hit:∀(n:Nat) (h6:List T.den) (h7 h8 h9 h10:Int) (h11:Bool) (h12:List Int) (h13:Int),gd tt (bA cs) dr (bv [(5,aN (bd st cf T) (fG st cf T gx one))]) 3 fn ((dT fn).getD 0 kd) (n+1) ((bd st cf T).st.mk' ((h6,(h7,(h8,()))),((h9,(h10,(h11,()))),((h12,(h13,())),((),()))))) (bL (bd st cf T).xs)=
   tg st cf T gx one h6 h7 h8 h9 h10 h11 h12 h13 (fun h6 h7 h8 h9 h10 h11 h12 h13=>gd tt (bA cs) dr (bv [(5,aN (bd st cf T) (fG st cf T gx one))]) 3 fn ((dT fn).getD 0 kd) n ((bd st cf T).st.mk' ((h6,(h7,(h8,()))),((h9,(h10,(h11,()))),((h12,(h13,())),((),()))))) (bL (bd st cf T).xs)) some)
  (hrun:∀(a0:List T.den) (a1 a2:Int) (a3:Bool) (a4:List Int) (a5:Int),Io.run tt (bA cs) dr (bv [(5,aN (bd st cf T) (fG st cf T gx one))]) (hC st cf T) fn (((),a0,(),()),((),a1,a2,a3,()),(a4,a5,()),((),()),())=zm st cf T gx one a0 a1 a2 a3 a4 a5):
  HcOk prog f (ah (hC st cf T) (Ny st cf T gx sps)):=by
 refine aj (n:=400) hm (cs:=cs) hcs (lp:=bv [(5,aN (bd st cf T) (fG st cf T gx one))]) (fn:=fn) hf hname hbody (hC st cf T) (.step (h0:=aN (bd st cf T) (fG st cf T gx one)) hlp (aw (n:=400) hm (cs:=cs) hcs (lp:=bv [(5,aN (bd st cf T) (fG st cf T gx one))]) (fn:=fn) (.done h1) (bd st cf T) (fG st cf T gx one) ?_) (.done h2)) (Ny st cf T gx sps) ?_
 ·rintro ⟨⟨(xs:List T.den),(n:Int),(i:Int),⟨⟩⟩,⟨⟨(v:Int),(e:Int),(f:Bool),⟨⟩⟩,⟨(b:List Int),(m:Int),⟨⟩⟩,⟨⟨⟩,⟨⟩⟩⟩⟩ y hw hy
  obtain ⟨hg,hy⟩:=Tr.guard hy
  simp only[Bool.and_eq_true,decide_eq_true_eq] at hg
  obtain ⟨rfl,rfl,rfl,h4,h5⟩:=hg
  have h5:∀x∈xs,gx x=true:=List.all_eq_true.1 h5
  have h4:b.length≤130048:=h4
  have hl:xs.length≤maxLen:=hw.1.1.1
  refine ⟨xs.length+1,(LX (st:=st) (cf:=cf) (gx:=gx) hle (fun n h6 h7 h8 h9 h10 h11 h12 h13=>gd tt (bA cs) dr (bv [(5,aN (bd st cf T) (fG st cf T gx one))]) 3 fn ((dT fn).getD 0 kd) n ((bd st cf T).st.mk' ((h6,(h7,(h8,()))),((h9,(h10,(h11,()))),((h12,(h13,())),((),()))))) (bL (bd st cf T).xs)) hit v hl h5 (xs.length+1) 0 (e,(f,b)) (by omega) (by omega) h4).trans ?_⟩
  rw[← hy];rfl
 ·rintro ⟨⟨⟨⟩,(xs:List T.den),⟨⟩,⟨⟩⟩,⟨⟨⟩,(v:Int),(e:Int),(f:Bool),⟨⟩⟩,⟨(b:List Int),(m:Int),⟨⟩⟩,⟨⟨⟩,⟨⟩⟩,⟨⟩⟩ out hw ho
  obtain ⟨hg,ho⟩:=Tr.guard ho
  obtain ⟨hg,h5⟩:=Bool.and_eq_true_iff.1 hg
  have h5:xs.all gx=true:=h5
  obtain ⟨rfl,hb⟩:=bx (v:=v) (e:=e) (f:=f) hg
  cases ho
  refine (hrun xs v e f b 130048).trans ?_
  unfold zm
  have g:(decide ((130048:Int)=130048)&&decide (b.length≤130048))=true:=by simpa using hb
  show _=some (Out.ret ((),gZ v (sps v xs (e,f,b))))
  rw[hs]
  unfold br
  by_cases h:16<(xs.length:Int)
  ·rw[if_pos h]
   refine (aa (decide_eq_true h) _ _).trans ?_
   exact aa g _ _
  ·rw[if_neg h]
   refine (ab (decide_eq_false h) _ _).trans ?_
   refine (aa g _ _).trans ?_
   have hw32:IntKind.i32.wrap (xs.length:Int)=xs.length:=dd (by simp[ey,IntKind.min,IntKind.max,IntKind.signed,IntKind.bits];omega)
   rw[hw32]
   have c1:(decide ((0:Int)=0)&&(decide ((xs.length:Int)=(xs.length:Int))&&(decide ((130048:Int)=130048)&&(decide ((ac xs.length 4 (e,f,b)).2.2.length≤130048)&&xs.all gx))))=true:=by
    rw[h5];simpa using aE (s:=(e,f,b)) _ 4 hb
   have e1:fG st cf T gx one ((xs,((xs.length:Int),(0,()))),((v,((ac xs.length 4 (e,f,b)).1,((ac xs.length 4 (e,f,b)).2.1,()))),(((ac xs.length 4 (e,f,b)).2.2,(130048,())),((),()))))=
     .ite true (.ret (.ret ((),((),qW v (xs.foldl (fun s x=>one v x s) (ac xs.length 4 (e,f,b))))))) .no:=congrArg (fun c=>Tr.ite c _ _) c1
   rw[e1]
   rfl
abbrev uo:Io:=⟨[.ptr 0 0,.dat (.sl 178 bZ) false false,.fnc 103 false [2]],pr,[],[],none⟩
def NH (d:uo.In):Tr uo.Res:=.ite (mW d.2&&rG d.1.2.1) (.ret (.ret ((),gZ d.2.1.2.1 (br jZ d.1.2.1 (mX d.2))))) .no
abbrev TC:List (Nat×Hc):=[(194,ah cK gN),(98,ah dn iw),(103,ah oI Lb)]
theorem Vv:HcOk prog 102 (ah uo NH):=
 IR (gx:=GK) (one:=fun _=>jZ) (sps:=fun _=>br jZ) (fun _ _ _=>rfl) (fun v _ _ h3=>BN _ h3) (cs:=TC) (.cons fq (.cons dg (.cons YC .nil))) (fn:=Tryz.f102) (by kernel_rfl) (by kernel_rfl) (by kernel_rfl) (by kernel_rfl) (by kernel_rfl) (by kernel_rfl) (by intros;kernel_rfl) (by intros;kernel_rfl)
abbrev ap:Ty:=.prod .str (.prod (.sl 178 bZ) .unit)
def ew (t:ap.den)(s:bc):bc:=br jZ t.2.1 (bH t.1 s)
def vr (t:ap.den):Bool:=rG t.2.1
def cB (xs:List ap.den):Bool:=xs.all vr
abbrev lz:Io:=⟨[.dat ap true false,.ptr 0 0],uB,[],[],none⟩
def E9 (d:lz.In):Tr lz.Res:=.ite (fQ d.2.2&&vr d.1.1) (.ret (.ret ((),iN d.2.2.1.2.1 (ew d.1.1 (fR d.2.2))))) .no
abbrev Ip:List (Nat×Hc):=[(101,ah lu yY),(102,ah uo NH)]
def Ue:Hd:=bA Ip
def Jo:Lp:=bv []
def zD (a0:List Int)(a1:List bZ.den)(a2 a3:Int)(a4:Bool)(a5:List Int)(a6:Int):Option lz.Res:=bif decide (a6=130048)&&decide (a5.length≤130048) then bif decide (130048=130048)&&decide ((bH a0 (a3,a4,a5)).2.2.length≤130048)&&rG a1 then some (Out.ret ((),((),()),((),a2,(br jZ a1 (bH a0 (a3,a4,a5))).1,(br jZ a1 (bH a0 (a3,a4,a5))).2.1,()),((br jZ a1 (bH a0 (a3,a4,a5))).2.2,130048,()),())) else none else none
theorem Ra (a0:List Int)(a1:List bZ.den)(a2 a3:Int)(a4:Bool)(a5:List Int)(a6:Int):Io.run tt Ue dr Jo lz Tryz.f100 (((a0,a1,()),(),()),((),()),((),a2,a3,a4,()),(a5,a6,()),())=zD a0 a1 a2 a3 a4 a5 a6:=by kernel_rfl
theorem Vw:HcOk prog 100 (ah lz E9):=by
 refine aj (n:=400) hm (cs:=Ip) (.cons A6 (.cons Vv .nil)) (lp:=Jo) (fn:=Tryz.f100) (by kernel_rfl) (by kernel_rfl) (by kernel_rfl) lz (.done (by kernel_rfl)) E9 ?_
 rintro ⟨⟨⟨(t:List Int),(ps:List bZ.den),⟨⟩⟩,⟨⟩,⟨⟩⟩,⟨⟨⟩,⟨⟩⟩,⟨⟨⟩,(v:Int),(e:Int),(f:Bool),⟨⟩⟩,⟨(b:List Int),(m:Int),⟨⟩⟩,⟨⟩⟩ out hw ho
 obtain ⟨hg,ho⟩:=Tr.guard ho
 obtain ⟨hg,h5⟩:=Bool.and_eq_true_iff.1 hg
 obtain ⟨rfl,hb⟩:=bx (v:=v) (e:=e) (f:=f) hg
 have h5:rG ps=true:=h5
 cases ho
 refine (Ra t ps v e f b 130048).trans ?_
 unfold zD
 refine (aa (by simpa using hb) _ _).trans ?_
 refine (aa (by rw[h5];simpa using gH (s:=(e,f,b)) t hb) _ _).trans ?_
 rfl
theorem qt {s:bc}(t:ap.den)(h:s.2.2.length≤130048):(ew t s).2.2.length≤130048:=cg (fun x s=>BN x) _ (gH _ h)
theorem bV {s:bc}(v:Int)(z:Bool)(lo hi:Int)(h:s.2.2.length≤130048):(ar v z lo hi s).2.2.length≤130048:=by
 unfold ar
 split
 ·exact kY _ h
 ·exact h
theorem M4 {s:bc}(n:Bool×(List Int×Unit))(h:s.2.2.length≤130048):(db n s).2.2.length≤130048:=by
 unfold db
 split
 ·exact kY _ h
 ·split
  ·exact aE _ _ h
  ·exact gH _ h
abbrev q8:Io:=⟨[.ptr 0 0,.dat (.sl 172 ap) false false,.fnc 100 false [2]],pr,[],[],none⟩
def Hs (d:q8.In):Tr q8.Res:=.ite (mW d.2&&cB d.1.2.1) (.ret (.ret ((),gZ d.2.1.2.1 (br ew d.1.2.1 (mX d.2))))) .no
abbrev PV:List (Nat×Hc):=[(194,ah cK gN),(98,ah dn iw),(100,ah lz E9)]
theorem QF:HcOk prog 99 (ah q8 Hs):=
 IR (gx:=vr) (one:=fun _=>ew) (sps:=fun _=>br ew) (fun _ _ _=>rfl) (fun v _ _ h3=>qt _ h3) (cs:=PV) (.cons fq (.cons dg (.cons Vw .nil))) (fn:=Tryz.f99) (by kernel_rfl) (by kernel_rfl) (by kernel_rfl) (by kernel_rfl) (by kernel_rfl) (by kernel_rfl) (by intros;kernel_rfl) (by intros;kernel_rfl)
abbrev kr:Ty:=.prod gP (.prod (.int .i16) (.prod (.int .i32) (.prod (.sl 172 ap) .unit)))
def pe (v:Int)(n:gP.den)(s:bc):bc:=if v=3 then db n s else s
def pb (v:Int)(m:kr.den):bc:=
 br ew m.2.2.2.1 (ac m.2.2.1 4 (ac m.2.1 2 (pe v m.1 (ar v (m.1.1 == false&&decide (m.1.2.1=[])) 3 3 (aX v,(false,([]:List Int)))))))
abbrev sI:Io:=⟨[dI,.dat kr true false],[],[],[dO,dI],none⟩
def ZT (d:sI.In):Tr sI.Res:=.ite (cB d.1.2.1.2.2.2.1) (.ret (.ret ((bP (pb d.1.1 d.1.2.1),(bz (pb d.1.1 d.1.2.1),())),()))) .no
abbrev TD:List (Nat×Hc):=[(93,ah m3 CL),(94,ah fY nN),(95,ah jp tw),(96,ah oz K8),(97,ah m1 CJ),(98,ah dn iw),(99,ah q8 Hs),(105,ah jT vz)]
def aa4:Hd:=bA TD
def UX:Lp:=bv []
def HS (a0:Int)(a1:Bool)(a2:List Int)(a3 a4:Int)(a5:List ap.den):Option sI.Res:=bif decide (130048=130048)&&decide ((ar a0 (a1 == false&&(decide (a2=List.map (fun (c:UInt8)=>(↑c.toNat:Int)) [])&&true)) 3 3 (aX a0,false,[])).2.2.length≤130048) then bif decide (3≤a0)&&decide (a0≤3) then bif decide (130048=130048)&&decide ((ar a0 (a1 == false&&(decide (a2=List.map (fun (c:UInt8)=>(↑c.toNat:Int)) [])&&true)) 3 3 (aX a0,false,[])).2.2.length≤130048) then bif decide (130048=130048)&&decide ((db (a1,a2,()) (ar a0 (a1 == false&&(decide (a2=List.map (fun (c:UInt8)=>(↑c.toNat:Int)) [])&&true)) 3 3 (aX a0,false,[]))).2.2.length≤130048) then bif decide (130048=130048)&&decide ((ac a3 2 (db (a1,a2,()) (ar a0 (a1 == false&&(decide (a2=List.map (fun (c:UInt8)=>(↑c.toNat:Int)) [])&&true)) 3 3 (aX a0,false,[])))).2.2.length≤130048) then bif decide (130048=130048)&&decide ((ac a4 4 (ac a3 2 (db (a1,a2,()) (ar a0 (a1 == false&&(decide (a2=List.map (fun (c:UInt8)=>(↑c.toNat:Int)) [])&&true)) 3 3 (aX a0,false,[]))))).2.2.length≤130048)&&cB a5 then bif decide (130048=130048)&&decide ((br ew a5 (ac a4 4 (ac a3 2 (db (a1,a2,()) (ar a0 (a1 == false&&(decide (a2=List.map (fun (c:UInt8)=>(↑c.toNat:Int)) [])&&true)) 3 3 (aX a0,false,[])))))).2.2.length≤130048) then some (Out.ret ((bP (br ew a5 (ac a4 4 (ac a3 2 (db (a1,a2,()) (ar a0 (a1 == false&&(decide (a2=List.map (fun (c:UInt8)=>(↑c.toNat:Int)) [])&&true)) 3 3 (aX a0,false,[])))))),bz (br ew a5 (ac a4 4 (ac a3 2 (db (a1,a2,()) (ar a0 (a1 == false&&(decide (a2=List.map (fun (c:UInt8)=>(↑c.toNat:Int)) [])&&true)) 3 3 (aX a0,false,[])))))),()),())) else none else none else none else none else none else bif decide (130048=130048)&&decide ((ar a0 (a1 == false&&(decide (a2=List.map (fun (c:UInt8)=>(↑c.toNat:Int)) [])&&true)) 3 3 (aX a0,false,[])).2.2.length≤130048) then bif decide (130048=130048)&&decide ((ac a3 2 (ar a0 (a1 == false&&(decide (a2=List.map (fun (c:UInt8)=>(↑c.toNat:Int)) [])&&true)) 3 3 (aX a0,false,[]))).2.2.length≤130048) then bif decide (130048=130048)&&decide ((ac a4 4 (ac a3 2 (ar a0 (a1 == false&&(decide (a2=List.map (fun (c:UInt8)=>(↑c.toNat:Int)) [])&&true)) 3 3 (aX a0,false,[])))).2.2.length≤130048)&&cB a5 then bif decide (130048=130048)&&decide ((br ew a5 (ac a4 4 (ac a3 2 (ar a0 (a1 == false&&(decide (a2=List.map (fun (c:UInt8)=>(↑c.toNat:Int)) [])&&true)) 3 3 (aX a0,false,[]))))).2.2.length≤130048) then some (Out.ret ((bP (br ew a5 (ac a4 4 (ac a3 2 (ar a0 (a1 == false&&(decide (a2=List.map (fun (c:UInt8)=>(↑c.toNat:Int)) [])&&true)) 3 3 (aX a0,false,[]))))),bz (br ew a5 (ac a4 4 (ac a3 2 (ar a0 (a1 == false&&(decide (a2=List.map (fun (c:UInt8)=>(↑c.toNat:Int)) [])&&true)) 3 3 (aX a0,false,[]))))),()),())) else none else none else none else none else none
theorem Ze (a0:Int)(a1:Bool)(a2:List Int)(a3 a4:Int)(a5:List ap.den):Io.run tt aa4 dr UX sI Tryz.f43 ((a0,((a1,a2,()),a3,a4,a5,()),()),())=HS a0 a1 a2 a3 a4 a5:=by kernel_rfl
theorem abj:HcOk prog 43 (ah sI ZT):=by
 refine aj (n:=400) hm (cs:=TD) (.cons m7 (.cons f6 (.cons jJ (.cons Yx (.cons GB (.cons dg (.cons QF (.cons jV .nil)))))))) (lp:=UX) (fn:=Tryz.f43) (by kernel_rfl) (by kernel_rfl) (by kernel_rfl) sI (.done (by kernel_rfl)) ZT ?_
 rintro ⟨⟨(v:Int),⟨⟨(z:Bool),(t:List Int),⟨⟩⟩,(a:Int),(w:Int),(ts:List ap.den),⟨⟩⟩,⟨⟩⟩,⟨⟩⟩ out hw ho
 obtain ⟨h5,ho⟩:=Tr.guard ho
 have h5:cB ts=true:=h5
 cases ho
 refine (Ze v z t a w ts).trans ?_
 unfold HS
 have hg:∀s:bc,s.2.2.length≤130048→(decide ((130048:Int)=130048)&&decide (s.2.2.length≤130048))=true:=fun s h=>by simpa using h
 have l0:∀z,(ar v z 3 3 (aX v,(false,([]:List Int)))).2.2.length≤130048:=fun z=>bV _ _ _ _ (by simp)
 refine (aa (hg _ (l0 _)) _ _).trans ?_
 by_cases hv:v=3
 ·refine (aa (by simp;omega) _ _).trans ?_
  refine (aa (hg _ (l0 _)) _ _).trans ?_
  have l1:=M4 (z,(t,())) (l0 (z == false&&(decide (t=List.map (fun (c:UInt8)=>(c.toNat:Int)) [])&&true)))
  refine (aa (hg _ l1) _ _).trans ?_
  refine (aa (hg _ (aE _ _ l1)) _ _).trans ?_
  have l2:=aE w 4 (aE a 2 l1)
  refine (aa (by rw[h5,Bool.and_true];exact hg _ l2) _ _).trans ?_
  refine (aa (hg _ (cg (fun x s=>qt x) _ l2)) _ _).trans ?_
  simp only[pb,pe,if_pos hv,List.map_nil,Bool.and_true]
 ·refine (ab (by simp;omega) _ _).trans ?_
  have l1:=l0 (z == false&&(decide (t=List.map (fun (c:UInt8)=>(c.toNat:Int)) [])&&true))
  refine (aa (hg _ l1) _ _).trans ?_
  refine (aa (hg _ (aE _ _ l1)) _ _).trans ?_
  have l2:=aE w 4 (aE a 2 l1)
  refine (aa (by rw[h5,Bool.and_true];exact hg _ l2) _ _).trans ?_
  refine (aa (hg _ (cg (fun x s=>qt x) _ l2)) _ _).trans ?_
  simp only[pb,pe,if_neg hv,List.map_nil,Bool.and_true]
end
end Go.Proofs.YtomeplopmndbgaaGreat.Sym
