/- batch: head, Decode, Rebase. -/
import Derived.Test.YtcbcbjdobbgddaaGreatDoorTie
import Derived.Test.YtcbcbjdobbgddaaGreatDoorCards
import Derived.ProofKit
import Derived.LaidMore
import Derived.OpenShut
import Derived.Stop.Joined
import Derived.Test.YtcbcbjdobbgddaaGreatDoorQ5

set_option linter.unusedVariables false
set_option linter.unusedSimpArgs false
namespace Go.Proofs.YtcbcbjdobbgddaaGreatDoor.Sym
open Go
open Go.IntKind (i8 i16 i32 i64 u8 u16 u32 u64)
noncomputable section
def Bf (a0:LI):Option (Out ((tL×Int×Unit)×Unit) Empty):=bif aK (aH (a0.take 61) 0 8) then oR (((0,0,0,false,0,0,0,0,0,0,()),80,()),()) else bif aH (a0.take 61) (0+8+4+4+1+4) 2 != 0&&!aH (a0.take 61) (0+8+4+4+1+4) 2 == 1 then oR (((0,0,0,false,0,0,0,0,0,0,()),83,()),()) else bif aL (aH (a0.take 61) (0+8+4+4+1+4+2+4+8+8) 8) (aH (a0.take 61) (0+8+4+4+1+4+2+4+8+8+8) 2) (aH (a0.take 61) (0+8+4+4+1+4+2+4+8+8+8+2) 4) then oR (((0,0,0,false,0,0,0,0,0,0,()),84,()),()) else bif decide (aH (a0.take 61) (0+8+4+4+1+4+2+4+8+8+8+2+4) 4<1) then oR (((0,0,0,false,0,0,0,0,0,0,()),85,()),()) else bif decide (256<aH (a0.take 61) (0+8+4+4+1+4+2+4+8+8+8+2+4) 4) then oR (((0,0,0,false,0,0,0,0,0,0,()),9,()),()) else bif aH (a0.take 61) (0+8+4+4+1+4+2) 4 != i32.wrap (aH (a0.take 61) (0+8+4+4+1+4+2+4+8+8+8+2+4) 4 - 1) then oR (((0,0,0,false,0,0,0,0,0,0,()),72,()),()) else bif (aA a0 0).2 != 0 then oR (((0,0,0,false,0,0,0,0,0,0,()),(aA a0 0).2,()),()) else oR (((aH (a0.take 61) 0 8,(aA a0 0).1,aH (a0.take 61) (0+8+4) 4,aH (a0.take 61) (0+8+4+4+1+4) 2 == 1,i64.wrap (aH (a0.take 61) (0+8+4+4+1+4+2+4+8+8+8+2+4) 4),aH (a0.take 61) (0+8+4+4+1+4+2+4) 8,aH (a0.take 61) (0+8+4+4+1+4+2+4+8) 8,aH (a0.take 61) (0+8+4+4+1+4+2+4+8+8) 8,aH (a0.take 61) (0+8+4+4+1+4+2+4+8+8+8) 2,aH (a0.take 61) (0+8+4+4+1+4+2+4+8+8+8+2) 4,()),0,()),())
theorem MQ {b:LI}{p:Nat}(h:p<b.length):(b.drop p).take 1=[b.getD p 0]:=by
 rw[zE h,List.take_succ_cons,List.take_zero,aF h]
theorem OI {b:LI}{p:Nat}(h:p+1<b.length):(b.drop p).take 2=[b.getD p 0,b.getD (p+1) 0]:=by
 rw[zE (show p<b.length by omega),List.take_succ_cons,MQ h,aF (show p<b.length by omega)]
theorem OC {b:LI}{p:Nat}(h:p<b.length):ap b p 1=if 128≤b.getD p 0 then b.getD p 0 - 256 else b.getD p 0:=by
 unfold ap;rw[MQ h];rfl
theorem OD {b:LI}{p:Nat}(h:p+1<b.length):ap b p 2=(if 128≤b.getD p 0 then b.getD p 0 - 256 else b.getD p 0)*256+b.getD (p+1) 0:=by
 unfold ap;rw[OI h];rfl
theorem Mw:∀{l:LI},(∀c∈l,0≤c∧c≤255)→l.length=4→u32.wrap (bY l)=bz l
 |[a,b,c,d],h,_=>by
  have ha:=h a (by simp)
  have hb:=h b (by simp)
  have hc:=h c (by simp)
  have hd:=h d (by simp)
  simp only[bz,bY,List.foldl_cons,List.foldl_nil]
  simp[IntKind.wrap,IntKind.signed,IntKind.bits] <;> (try split) <;> omega
theorem CN:∀{l:LI},(∀c∈l,0≤c∧c≤255)→l.length=4→∀{x:Int},0≤x→x<4294967296→(l=ay x 4↔bz l=x)
 |[a,b,c,d],h,_,x,h0,h1=>by
  have ha:=h a (by simp)
  have hb:=h b (by simp)
  have hc:=h c (by simp)
  have hd:=h d (by simp)
  simp only[bz,ay,List.foldl_cons,List.foldl_nil,List.cons.injEq,and_true]
  constructor
  ·rintro ⟨rfl,rfl,rfl,rfl⟩
   omega
  ·intro h
   omega
theorem Ap (c:Int){b:LI}(hc:0≤c∧c<4294967296)(hb:∀x∈b,0≤x∧x≤255):0≤cC c b∧cC c b<4294967296:=by
 unfold cC
 have h1:=Nat.xor_lt_two_pow (n:=32) (show c.toNat<2 ^ 32 by omega) (show 4294967295<2 ^ 32 by decide)
 have h2:=Nat.xor_lt_two_pow (n:=32) (qB hb h1) (show 4294967295<2 ^ 32 by decide)
 omega
theorem lV {b:LI}{p:Int}(h:(aA b p).2=0):61≤(aA b p).1∧(aA b p).1≤36000∧p+(aA b p).1≤(b.length:Int)∧0≤p:=by
 unfold aA at h ⊢
 split
 ·rename_i h1;rw[if_pos h1] at h;cases h
 rename_i h1;rw[if_neg h1] at h
 split
 ·rename_i h2;rw[if_pos h2] at h;cases h
 rename_i h2;rw[if_neg h2] at h
 split
 ·rename_i h3;rw[if_pos h3] at h;cases h
 rename_i h3;rw[if_neg h3] at h
 split
 ·rename_i h4;rw[if_pos h4] at h;cases h
 rename_i h4;rw[if_neg h4] at h
 split
 ·rename_i h5;rw[if_pos h5] at h;cases h
 simp only
 omega
theorem ER {b:LI}(hb:∀c∈b,0≤c∧c≤255)(hl:61≤b.length)(h0:(aA b 0).2=0)(h1:¬(aA b 0).1<(b.length:Int)):
  Bf b=some (.ret ((if aK (ap b 0 8)=true then (bc,(80,())) else if b.getD 21 0≠0∨1<b.getD 22 0 then (bc,(83,())) else if aL (ap b 43 8) (ap b 51 2) (ap b 53 4)=true then (bc,(84,())) else if ap b 57 4<1 then (bc,(85,())) else if 256<ap b 57 4 then (bc,(9,())) else if ap b 23 4≠ap b 57 4 - 1 then (bc,(72,())) else (hM b,(0,()))),())):=by
 have hz:∀p n:Nat,p+n≤61→aH (b.take 61) (p:Int) n=ap b p n:=by
  intro p n h
  rw[jq]
  unfold ap
  rw[List.drop_take,List.take_take,Nat.min_eq_left (by omega)]
 have z0:aH (b.take 61) 0 8=ap b 0 8:=hz 0 8 (by decide)
 have z12:aH (b.take 61) (0+8+4) 4=ap b 12 4:=hz 12 4 (by decide)
 have z21:aH (b.take 61) (0+8+4+4+1+4) 2=ap b 21 2:=hz 21 2 (by decide)
 have z23:aH (b.take 61) (0+8+4+4+1+4+2) 4=ap b 23 4:=hz 23 4 (by decide)
 have z27:aH (b.take 61) (0+8+4+4+1+4+2+4) 8=ap b 27 8:=hz 27 8 (by decide)
 have z35:aH (b.take 61) (0+8+4+4+1+4+2+4+8) 8=ap b 35 8:=hz 35 8 (by decide)
 have z43:aH (b.take 61) (0+8+4+4+1+4+2+4+8+8) 8=ap b 43 8:=hz 43 8 (by decide)
 have z51:aH (b.take 61) (0+8+4+4+1+4+2+4+8+8+8) 2=ap b 51 2:=hz 51 2 (by decide)
 have z53:aH (b.take 61) (0+8+4+4+1+4+2+4+8+8+8+2) 4=ap b 53 4:=hz 53 4 (by decide)
 have z57:aH (b.take 61) (0+8+4+4+1+4+2+4+8+8+8+2+4) 4=ap b 57 4:=hz 57 4 (by decide)
 have a21:=OD (b:=b) (p:=21) (by omega)
 have hat:∀i,0≤b.getD i 0∧b.getD i 0≤255:=fun i=>by
  rw[List.getD_eq_getElem?_getD]
  cases e:b[i]? with
  |none=>exact ⟨by decide,by decide⟩
  |some x=>exact hb x (List.mem_of_getElem? e)
 have g21:=hat 21
 have g22:=hat 22
 have hm:=lV h0
 have hsz:(aA b 0).1=(b.length:Int):=by omega
 unfold Bf
 rw[z0,z12,z21,z23,z27,z35,z43,z51,z53,z57,h0,hsz]
 have hI:hM b=(ap b 0 8,(b.length:Int),ap b 12 4,decide (b.getD 22 0=1),ap b 57 4,ap b 27 8,ap b 35 8,ap b 43 8,ap b 51 2,ap b 53 4,()):=rfl
 rw[hI,a21]
 generalize b.getD 21 0=x at *
 generalize b.getD (21+1) 0=y at *
 generalize ap b 0 8=base at *
 generalize ap b 57 4=cnt at *
 generalize ap b 23 4=mst at *
 cases c1:aK base with
 |true=>exact (aa rfl _ _)
 |false=>
 refine (ac rfl _ _).trans ?_
 rw[if_neg (show ¬ false=true by decide)]
 by_cases c2:x≠0∨1<y
 ·refine (aa ?_ _ _).trans ?_
  ·simp only[zA,Bool.not_eq_true',bne_iff_ne,beq_eq_false_iff_ne]
   split <;> omega
  ·rw[if_pos c2]
   rfl
 refine (ac ?_ _ _).trans ?_
 ·by_cases hy:y=0
  ·rw[show (if 128≤x then x - 256 else x)*256+y=0 by rw[if_neg (by omega)];omega]
   rfl
  ·rw[show (if 128≤x then x - 256 else x)*256+y=1 by rw[if_neg (by omega)];omega]
   rfl
 rw[if_neg c2]
 have hx:x=0:=by omega
 have hxy:((if 128≤x then x - 256 else x)*256+y == 1)=decide (y=1):=by
  subst hx
  rw[if_neg (by decide),show (0:Int)*256+y=y by omega]
  by_cases h:y=1 <;> simp[h]
 rw[hxy]
 cases c3:aL (ap b 43 8) (ap b 51 2) (ap b 53 4) with
 |true=>exact (aa rfl _ _)
 |false=>
 refine (ac rfl _ _).trans ?_
 rw[if_neg (show ¬ false=true by decide)]
 by_cases c4:cnt<1
 ·refine bT (decide_eq_true c4) ?_
  rw[if_pos c4]
  rfl
 refine bF (decide_eq_false c4) ?_
 rw[if_neg c4]
 by_cases c5:256<cnt
 ·refine bT (decide_eq_true c5) ?_
  rw[if_pos c5]
  rfl
 refine bF (decide_eq_false c5) ?_
 rw[if_neg c5,bD (k:=.i32) (n:=cnt - 1) (by simp[bi,IntKind.min,IntKind.max,IntKind.signed,IntKind.bits];omega),af (n:=cnt) (by omega) (by omega)]
 by_cases c6:mst=cnt - 1
 ·refine bF (by simpa using c6) ?_
  rw[if_neg (aC c6)]
  exact ac rfl _ _
 ·refine bT (by simpa using c6) ?_
  rw[if_pos c6]
  rfl
abbrev iq:Io:=⟨[dL,dB],[],[],[Hq,dI],none⟩
def AM (d:iq.In):Tr iq.Res:=.ite (decide (d.1.1.length≤4294960000)) (.ret (.ret (((ai d.1.1 d.1.2.1).1,(ai d.1.1 d.1.2.1).2,()),()))) .no
abbrev CT:List (Nat×Hc):=[(24,ah jE AN),(59,ah iA vL),(65,ah ww MB),(66,ah qJ Gr),(60,ah wv MA),(67,ah DL N9),(68,ah wu Mz),(54,ah iv vC),(64,ah f7 q7),(69,ah f9 vz)]
def KN:Hd:=br CT
def DR:Lp:=bA []
def tS (a0:LI)(a1:Bool):Option iq.Res:=bif decide ((↑a0.length:Int)<61) then oR (((0,0,0,false,0,0,0,0,0,0,()),1,()),()) else bif decide (a0.length≤4294960000) then bif (aA a0 0).2 != 0 then oR (((0,0,0,false,0,0,0,0,0,0,()),(aA a0 0).2,()),()) else bif decide ((aA a0 0).1<(↑a0.length:Int)) then oR (((0,0,0,false,0,0,0,0,0,0,()),2,()),()) else bif decide (0≤0)&&(decide (0≤61)&&decide (61≤(↑a0.length:Int))) then bif decide ((List.drop (Int.toNat 0) (List.take (Int.toNat 61) a0)).length≤4294967296) then bif il (List.drop (Int.toNat 0) (List.take (Int.toNat 61) a0)) 0 8 then bif il (List.drop (Int.toNat 0) (List.take (Int.toNat 61) a0)) (0+8) 4&&decide (0≤4) then bif il (List.drop (Int.toNat 0) (List.take (Int.toNat 61) a0)) (0+8+4) 4 then bif il (List.drop (Int.toNat 0) (List.take (Int.toNat 61) a0)) (0+8+4+4) 1 then bif il (List.drop (Int.toNat 0) (List.take (Int.toNat 61) a0)) (0+8+4+4+1) 4 then bif il (List.drop (Int.toNat 0) (List.take (Int.toNat 61) a0)) (0+8+4+4+1+4) 2 then bif il (List.drop (Int.toNat 0) (List.take (Int.toNat 61) a0)) (0+8+4+4+1+4+2) 4 then bif il (List.drop (Int.toNat 0) (List.take (Int.toNat 61) a0)) (0+8+4+4+1+4+2+4) 8 then bif il (List.drop (Int.toNat 0) (List.take (Int.toNat 61) a0)) (0+8+4+4+1+4+2+4+8) 8 then bif il (List.drop (Int.toNat 0) (List.take (Int.toNat 61) a0)) (0+8+4+4+1+4+2+4+8+8) 8 then bif il (List.drop (Int.toNat 0) (List.take (Int.toNat 61) a0)) (0+8+4+4+1+4+2+4+8+8+8) 2 then bif il (List.drop (Int.toNat 0) (List.take (Int.toNat 61) a0)) (0+8+4+4+1+4+2+4+8+8+8+2) 4 then bif il (List.drop (Int.toNat 0) (List.take (Int.toNat 61) a0)) (0+8+4+4+1+4+2+4+8+8+8+2+4) 4 then bif aH (List.drop (Int.toNat 0) (List.take (Int.toNat 61) a0)) (0+8+4+4) 1 != 2 then oR (((0,0,0,false,0,0,0,0,0,0,()),81,()),()) else bif a1 then bif decide (0≤21)&&(decide (21≤(↑a0.length:Int))&&decide ((↑a0.length:Int)≤(↑a0.length:Int))) then bif u32.wrap (aH (List.drop (Int.toNat 0) (List.take (Int.toNat 61) a0)) (0+8+4+4+1) 4) != pw [List.drop (Int.toNat 21) (List.take (↑a0.length:Int).toNat a0)] 0 then oR (((0,0,0,false,0,0,0,0,0,0,()),82,()),()) else bif aK (aH (List.drop (Int.toNat 0) (List.take (Int.toNat 61) a0)) 0 8) then oR (((0,0,0,false,0,0,0,0,0,0,()),80,()),()) else bif aH (List.drop (Int.toNat 0) (List.take (Int.toNat 61) a0)) (0+8+4+4+1+4) 2 != 0&&!aH (List.drop (Int.toNat 0) (List.take (Int.toNat 61) a0)) (0+8+4+4+1+4) 2 == 1 then oR (((0,0,0,false,0,0,0,0,0,0,()),83,()),()) else bif aL (aH (List.drop (Int.toNat 0) (List.take (Int.toNat 61) a0)) (0+8+4+4+1+4+2+4+8+8) 8) (aH (List.drop (Int.toNat 0) (List.take (Int.toNat 61) a0)) (0+8+4+4+1+4+2+4+8+8+8) 2) (aH (List.drop (Int.toNat 0) (List.take (Int.toNat 61) a0)) (0+8+4+4+1+4+2+4+8+8+8+2) 4) then oR (((0,0,0,false,0,0,0,0,0,0,()),84,()),()) else bif decide (aH (List.drop (Int.toNat 0) (List.take (Int.toNat 61) a0)) (0+8+4+4+1+4+2+4+8+8+8+2+4) 4<1) then oR (((0,0,0,false,0,0,0,0,0,0,()),85,()),()) else bif decide (256<aH (List.drop (Int.toNat 0) (List.take (Int.toNat 61) a0)) (0+8+4+4+1+4+2+4+8+8+8+2+4) 4) then oR (((0,0,0,false,0,0,0,0,0,0,()),9,()),()) else bif aH (List.drop (Int.toNat 0) (List.take (Int.toNat 61) a0)) (0+8+4+4+1+4+2) 4 != i32.wrap (aH (List.drop (Int.toNat 0) (List.take (Int.toNat 61) a0)) (0+8+4+4+1+4+2+4+8+8+8+2+4) 4 - 1) then oR (((0,0,0,false,0,0,0,0,0,0,()),72,()),()) else bif (aA a0 0).2 != 0 then oR (((0,0,0,false,0,0,0,0,0,0,()),(aA a0 0).2,()),()) else oR (((aH (List.drop (Int.toNat 0) (List.take (Int.toNat 61) a0)) 0 8,(aA a0 0).1,aH (List.drop (Int.toNat 0) (List.take (Int.toNat 61) a0)) (0+8+4) 4,aH (List.drop (Int.toNat 0) (List.take (Int.toNat 61) a0)) (0+8+4+4+1+4) 2 == 1,i64.wrap (aH (List.drop (Int.toNat 0) (List.take (Int.toNat 61) a0)) (0+8+4+4+1+4+2+4+8+8+8+2+4) 4),aH (List.drop (Int.toNat 0) (List.take (Int.toNat 61) a0)) (0+8+4+4+1+4+2+4) 8,aH (List.drop (Int.toNat 0) (List.take (Int.toNat 61) a0)) (0+8+4+4+1+4+2+4+8) 8,aH (List.drop (Int.toNat 0) (List.take (Int.toNat 61) a0)) (0+8+4+4+1+4+2+4+8+8) 8,aH (List.drop (Int.toNat 0) (List.take (Int.toNat 61) a0)) (0+8+4+4+1+4+2+4+8+8+8) 2,aH (List.drop (Int.toNat 0) (List.take (Int.toNat 61) a0)) (0+8+4+4+1+4+2+4+8+8+8+2) 4,()),0,()),()) else none else bif aK (aH (List.drop (Int.toNat 0) (List.take (Int.toNat 61) a0)) 0 8) then oR (((0,0,0,false,0,0,0,0,0,0,()),80,()),()) else bif aH (List.drop (Int.toNat 0) (List.take (Int.toNat 61) a0)) (0+8+4+4+1+4) 2 != 0&&!aH (List.drop (Int.toNat 0) (List.take (Int.toNat 61) a0)) (0+8+4+4+1+4) 2 == 1 then oR (((0,0,0,false,0,0,0,0,0,0,()),83,()),()) else bif aL (aH (List.drop (Int.toNat 0) (List.take (Int.toNat 61) a0)) (0+8+4+4+1+4+2+4+8+8) 8) (aH (List.drop (Int.toNat 0) (List.take (Int.toNat 61) a0)) (0+8+4+4+1+4+2+4+8+8+8) 2) (aH (List.drop (Int.toNat 0) (List.take (Int.toNat 61) a0)) (0+8+4+4+1+4+2+4+8+8+8+2) 4) then oR (((0,0,0,false,0,0,0,0,0,0,()),84,()),()) else bif decide (aH (List.drop (Int.toNat 0) (List.take (Int.toNat 61) a0)) (0+8+4+4+1+4+2+4+8+8+8+2+4) 4<1) then oR (((0,0,0,false,0,0,0,0,0,0,()),85,()),()) else bif decide (256<aH (List.drop (Int.toNat 0) (List.take (Int.toNat 61) a0)) (0+8+4+4+1+4+2+4+8+8+8+2+4) 4) then oR (((0,0,0,false,0,0,0,0,0,0,()),9,()),()) else bif aH (List.drop (Int.toNat 0) (List.take (Int.toNat 61) a0)) (0+8+4+4+1+4+2) 4 != i32.wrap (aH (List.drop (Int.toNat 0) (List.take (Int.toNat 61) a0)) (0+8+4+4+1+4+2+4+8+8+8+2+4) 4 - 1) then oR (((0,0,0,false,0,0,0,0,0,0,()),72,()),()) else bif (aA a0 0).2 != 0 then oR (((0,0,0,false,0,0,0,0,0,0,()),(aA a0 0).2,()),()) else oR (((aH (List.drop (Int.toNat 0) (List.take (Int.toNat 61) a0)) 0 8,(aA a0 0).1,aH (List.drop (Int.toNat 0) (List.take (Int.toNat 61) a0)) (0+8+4) 4,aH (List.drop (Int.toNat 0) (List.take (Int.toNat 61) a0)) (0+8+4+4+1+4) 2 == 1,i64.wrap (aH (List.drop (Int.toNat 0) (List.take (Int.toNat 61) a0)) (0+8+4+4+1+4+2+4+8+8+8+2+4) 4),aH (List.drop (Int.toNat 0) (List.take (Int.toNat 61) a0)) (0+8+4+4+1+4+2+4) 8,aH (List.drop (Int.toNat 0) (List.take (Int.toNat 61) a0)) (0+8+4+4+1+4+2+4+8) 8,aH (List.drop (Int.toNat 0) (List.take (Int.toNat 61) a0)) (0+8+4+4+1+4+2+4+8+8) 8,aH (List.drop (Int.toNat 0) (List.take (Int.toNat 61) a0)) (0+8+4+4+1+4+2+4+8+8+8) 2,aH (List.drop (Int.toNat 0) (List.take (Int.toNat 61) a0)) (0+8+4+4+1+4+2+4+8+8+8+2) 4,()),0,()),()) else none else none else none else none else none else none else none else none else none else none else none else none else none else none else none else none
theorem I8 (a0:LI)(a1:Bool):Io.run tt KN Pp DR iq Tryz.f34 ((a0,a1,()),())=tS a0 a1:=by kernel_rfl
theorem Ln:HcOk prog 34 (ah iq AM):=by
 refine E3 (n:=400) hm (cs:=CT) (.cons Lq (.cons Eu (.cons Nq (.cons Lt (.cons Np (.cons Ow (.cons No (.cons Ep (.cons wX (.cons En .nil)))))))))) (lp:=DR) (fn:=Tryz.f34) (by kernel_rfl) (by kernel_rfl) (by kernel_rfl) iq (.done (by kernel_rfl)) AM ?_
 rintro ⟨⟨(b:LI),(sm:Bool),⟨⟩⟩,⟨⟩⟩ out hw ho
 obtain ⟨hg,ho⟩:=Tr.guard ho
 have hg2:b.length≤4294960000:=of_decide_eq_true hg
 clear hg
 cases ho
 have hb:∀c∈b,0≤c∧c≤255:=dj hw.1.1
 refine (I8 b sm).trans ?_
 show _=oR (((ai b sm).1,(ai b sm).2,()),())
 have eE:aJ b sm=if (b.length:Int)<61 then 1 else if (aA b 0).2≠0 then (aA b 0).2 else if (aA b 0).1<(b.length:Int) then 2 else if b.getD 16 0≠2 then 81 else if sm=true∧gg b=false then 82
   else if aK (ap b 0 8)=true then 80 else if b.getD 21 0≠0∨1<b.getD 22 0 then 83 else if aL (ap b 43 8) (ap b 51 2) (ap b 53 4)=true then 84 else if ap b 57 4<1 then 85 else if 256<ap b 57 4 then 9 else if ap b 23 4≠ap b 57 4 - 1 then 72 else 0:=rfl
 have fin:∀e:Int,e≠0→aJ b sm=e→some (Out.ret ((bc,(e,())),()):iq.Res)=oR (((ai b sm).1,(ai b sm).2,()),()):=by
  intro e he h
  have:ai b sm=(bc,e):=by unfold ai;rw[h,if_pos he]
  rw[this]
 unfold tS
 by_cases h1:(b.length:Int)<61
 ·refine bT (decide_eq_true h1) ?_
  exact fin 1 (by decide) (by rw[eE,if_pos h1])
 refine bF (decide_eq_false h1) ?_
 rw[if_neg h1] at eE
 refine bT (decide_eq_true hg2) ?_
 by_cases h2:(aA b 0).2=0
 rotate_left
 ·refine bT (by simpa using h2) ?_
  exact fin _ h2 (by rw[eE,if_pos h2])
 refine bF (by simpa using h2) ?_
 rw[if_neg (aC h2)] at eE
 by_cases h3:(aA b 0).1<(b.length:Int)
 ·refine bT (decide_eq_true h3) ?_
  exact fin 2 (by decide) (by rw[eE,if_pos h3])
 refine bF (decide_eq_false h3) ?_
 rw[if_neg h3] at eE
 have hH:(List.drop (Int.toNat 0) (List.take (Int.toNat 61) b))=b.take 61:=rfl
 have hHl:(b.take 61).length=61:=by simp;omega
 rw[hH]
 refine bT (by simp only[zA,zB];omega) ?_
 refine bT (by rw[hHl];decide) ?_
 have rm:∀p n:Int,0≤p→p+n≤61→il (b.take 61) p n=true:=by
  intro p n g1 g2
  unfold il
  simp only[hHl,zA,zB]
  omega
 refine (aa (rm 0 8 (by decide) (by decide)) _ _).trans ?_
 refine bT (by rw[rm (0+8) 4 (by decide) (by decide)];rfl) ?_
 refine (aa (rm (0+8+4) 4 (by decide) (by decide)) _ _).trans ?_
 refine (aa (rm (0+8+4+4) 1 (by decide) (by decide)) _ _).trans ?_
 refine (aa (rm (0+8+4+4+1) 4 (by decide) (by decide)) _ _).trans ?_
 refine (aa (rm (0+8+4+4+1+4) 2 (by decide) (by decide)) _ _).trans ?_
 refine (aa (rm (0+8+4+4+1+4+2) 4 (by decide) (by decide)) _ _).trans ?_
 refine (aa (rm (0+8+4+4+1+4+2+4) 8 (by decide) (by decide)) _ _).trans ?_
 refine (aa (rm (0+8+4+4+1+4+2+4+8) 8 (by decide) (by decide)) _ _).trans ?_
 refine (aa (rm (0+8+4+4+1+4+2+4+8+8) 8 (by decide) (by decide)) _ _).trans ?_
 refine (aa (rm (0+8+4+4+1+4+2+4+8+8+8) 2 (by decide) (by decide)) _ _).trans ?_
 refine (aa (rm (0+8+4+4+1+4+2+4+8+8+8+2) 4 (by decide) (by decide)) _ _).trans ?_
 refine (aa (rm (0+8+4+4+1+4+2+4+8+8+8+2+4) 4 (by decide) (by decide)) _ _).trans ?_
 have hz:∀p n:Nat,p+n≤61→aH (b.take 61) (p:Int) n=ap b p n:=by
  intro p n h
  rw[jq]
  unfold ap
  rw[List.drop_take,List.take_take,Nat.min_eq_left (by omega)]
 have z16:aH (b.take 61) (0+8+4+4) 1=ap b 16 1:=hz 16 1 (by decide)
 have z17:aH (b.take 61) (0+8+4+4+1) 4=ap b 17 4:=hz 17 4 (by decide)
 have a16:=OC (b:=b) (p:=16) (by omega)
 have c16:=rN hw.1.1 16
 rw[z16,a16]
 by_cases h4:b.getD 16 0=2
 rotate_left
 ·refine bT (by simp only[bne_iff_ne];have c16:0≤b.getD 16 0∧b.getD 16 0≤255:=c16;split <;> omega) ?_
  exact fin 81 (by decide) (by rw[eE,if_pos h4])
 refine bF (by rw[h4];rfl) ?_
 rw[if_neg (aC h4)] at eE
 have hT:=ER hb (by omega) h2 h3
 have fin2:¬(sm=true∧gg b=false)→Bf b=oR (((ai b sm).1,(ai b sm).2,()),()):=by
  intro hn
  rw[if_neg hn] at eE
  rw[hT]
  have hs:ai b sm=if aJ b sm≠0 then (bc,aJ b sm) else (hM b,0):=rfl
  rw[hs,eE]
  by_cases d1:aK (ap b 0 8)=true
  ·rw[if_pos d1,if_pos d1,if_pos (by decide)]
  rw[if_neg d1,if_neg d1]
  by_cases d2:b.getD 21 0≠0∨1<b.getD 22 0
  ·rw[if_pos d2,if_pos d2,if_pos (by decide)]
  rw[if_neg d2,if_neg d2]
  by_cases d3:aL (ap b 43 8) (ap b 51 2) (ap b 53 4)=true
  ·rw[if_pos d3,if_pos d3,if_pos (by decide)]
  rw[if_neg d3,if_neg d3]
  by_cases d4:ap b 57 4<1
  ·rw[if_pos d4,if_pos d4,if_pos (by decide)]
  rw[if_neg d4,if_neg d4]
  by_cases d5:256<ap b 57 4
  ·rw[if_pos d5,if_pos d5,if_pos (by decide)]
  rw[if_neg d5,if_neg d5]
  by_cases d6:ap b 23 4≠ap b 57 4 - 1
  ·rw[if_pos d6,if_pos d6,if_pos (by decide)]
  rw[if_neg d6,if_neg d6,if_neg (by decide)]
 cases sm with
 |false=>
  refine (ac rfl _ _).trans ?_
  exact fin2 (fun h=>by cases h.1)
 |true=>
  refine (aa rfl _ _).trans ?_
  rw[zG,List.take_length,show Int.toNat 21=21 from rfl]
  refine bT (by simp only[zA,zB];omega) ?_
  rw[z17]
  have hL:=fG (b:=b) (p:=17) (n:=4) (by omega)
  have hLr:=iL hb 17 4
  have hcr:=Ap 0 (by decide) (b:=b.drop 21) (fun c hc=>hb c (List.mem_of_mem_drop hc))
  have hS:gg b=decide (bz ((b.drop 17).take 4)=cC 0 (b.drop 21)):=by
   unfold gg
   by_cases h:(b.drop 17).take 4=ay (cC 0 (b.drop 21)) 4
   ·rw[if_pos h,decide_eq_true ((CN hLr hL hcr.1 hcr.2).1 h)]
   ·rw[if_neg h,decide_eq_false (fun h'=>h ((CN hLr hL hcr.1 hcr.2).2 h'))]
  have hw17:u32.wrap (ap b 17 4)=bz ((b.drop 17).take 4):=Mw hLr hL
  rw[hw17]
  by_cases h5:bz ((b.drop 17).take 4)=cC 0 (b.drop 21)
  ·refine bF (by show (bz ((b.drop 17).take 4) != cC 0 (b.drop 21))=false;simp[h5]) ?_
   exact fin2 (fun h=>by rw[hS,decide_eq_true h5] at h;cases h.2)
  ·refine bT (by show (bz ((b.drop 17).take 4) != cC 0 (b.drop 21))=true;simp[h5]) ?_
   exact fin 82 (by decide) (by rw[eE,if_pos ⟨rfl,by rw[hS,decide_eq_false h5]⟩])
abbrev jD:Io:=⟨[dL],[],[],[yw,dI],none⟩
def Cy (d:jD.In):Tr jD.Res:=.ite (decide (d.1.1.length≤4294960000)) (.ret (.ret (((aO d.1.1).1,(aO d.1.1).2,()),()))) .no
abbrev GX:List (Nat×Hc):=[(34,ah iq AM),(35,ah gI vw),(36,ah mK Gw),(37,ah fk rc),(38,ah ir vy)]
def HE:Hd:=br GX
abbrev da:Lo:=⟨⟨(bt (.one (.ptr 2 0)::.any::.one (.ptr 4 0)::.any::.one (.hol (.sl 5 (Ty.int u8)))::.one (.ptr 7 0)::.one hI::.any::aj (aj (bO (.one hI::.one hI::aj (aj (dC (bO (bt []))))))))),[none,none,some [hI,hJ,hI,hK,hJ,.onl 49 ba 1036],none,some [hI,hI,hJ,hL,hI,hI,hI,hI,hK,hJ],none,none,some [hI,hJ,hI,hK,hJ,.onl 49 ba 3596]]⟩,[(.ret,⟨(bt (.one (.ptr 2 0)::.one hI::aj (aj (aj (aj (aj (dC (bt [])))))))),[none,none,some [hI,hJ,hI,hK,hJ,.onl 49 ba 129]]⟩),(.ret,⟨(bt (.one (.ptr 2 0)::.one hI::aj (aj (aj (aj (aj (dC (bt [])))))))),[none,none,some [hI,hJ,hI,hK,hJ,.onl 49 ba 153]]⟩),(.exit 0,⟨(bt (.one (.ptr 2 0)::.any::.one (.ptr 4 0)::.any::.one (.hol (.sl 5 (Ty.int u8)))::.one (.ptr 7 0)::.one hI::.any::aj (aj (aj (aj (aj (bO []))))))),[none,none,some [hI,hJ,hI,hK,hJ,.onl 49 ba 1036],none,some [hI,hI,hJ,hL,hI,hI,hI,hI,hK,hJ],none,none,some [hI,hJ,hI,hK,hJ,.onl 49 ba 3596]]⟩)]⟩
def N1:fZ:=(0,(0,(0,(0,(0,([],()))))))
def ke (blk:LI)(f:Int):Nat→Nat→Int→List bu→Int×Int×Int×List bu
 |0,_,p,out=>(0,0,p,out)
 |n+1,i,p,out=>
  if (am blk p).2.2≠0 then ((am blk p).2.2,0,0,[])
  else if (bg (am blk p).1 (i:Int) f).2≠0 then (0,(bg (am blk p).1 (i:Int) f).2,0,[])
  else ke blk f n (i+1) (am blk p).2.1 (out++[(bg (am blk p).1 (i:Int) f).1])
def CM (blk:LI)(z:fZ)(info:tL)(b1 b2 b3 b4 b5:Int)(x:Int×Int×Int×List bu):Tr (ao da.xs):=
 .ite (decide (x.1≠0)) (.ret (.ret ((),((x.1,()),(N1,())))))
  (.ite (decide (x.2.1≠0)) (.ret (.pan (.ret ((),((x.2.1,()),(N1,()))))))
   (.ret (.pan (.pan (.ret ((),((blk,(x.2.2.1,())),(z,(info,((b1,(b2,(b3,(b4,(b5,(x.2.2.2,())))))),()))))))))))
def q9 (d:da.st.den):Tr (ao da.xs):=
 .ite (decide (d.1.2.2.2.1=0)&&(decide (d.2.2.2.1.2.2.2.2.2.1.length=0)&&(decide ((0:Int)≤d.1.2.2.1)&&decide (d.1.2.2.1≤(4294960000:Int)))))
  (CM d.1.1 d.2.1 d.2.2.1 d.2.2.2.1.1 d.2.2.2.1.2.1 d.2.2.2.1.2.2.1 d.2.2.2.1.2.2.2.1 d.2.2.2.1.2.2.2.2.1 (ke d.1.1 d.2.2.1.2.2.2.2.2.1 d.1.2.2.1.toNat 0 d.1.2.1 [])) .no
def wK:Lp:=bA [(11,aD da q9)]
def lq {R:Type}(h1:LI)(h2 h3 h4 h5 h6 h7 h8 h9:Int)(h10:List ba.den)(h11 h12 h13:Int)(h14:Bool)(h15 h16 h17 h18 h19 h20 h21 h22 h23 h24 h25:Int)(h26:List ba.den)(next:LI→Int→Int→Int→Int→Int→Int→Int→Int→List ba.den→Int→Int→Int→Bool→Int→Int→Int→Int→Int→Int→Int→Int→Int→Int→Int→List ba.den→Option R)(out:ao da.xs→Option R):Option R:=bif decide (h4<h3) then bif (am h1 h2).2.2 != 0 then out (.ret ((),(((am h1 h2).2.2,()),((0,(0,(0,(0,(0,([],())))))),())))) else bif (bg (am h1 h2).1 h4 h16).2 != 0 then out (.pan (.ret ((),(((bg (am h1 h2).1 h4 h16).2,()),((0,(0,(0,(0,(0,([],())))))),()))))) else bif decide (h26.length+1≤4294967296) then next (h1) ((am h1 h2).2.1) (h3) (i64.wrap (h4+1)) (h5) (h6) (h7) (h8) (h9) (h10) (h11) (h12) (h13) (h14) (h15) (h16) (h17) (h18) (h19) (h20) (h21) (h22) (h23) (h24) (h25) (h26++[(bg (am h1 h2).1 h4 h16).1]) else none else out (.pan (.pan (.ret ((),((h1,(h2,())),((h5,(h6,(h7,(h8,(h9,(h10,())))))),((h11,(h12,(h13,(h14,(h15,(h16,(h17,(h18,(h19,(h20,())))))))))),((h21,(h22,(h23,(h24,(h25,(h26,())))))),()))))))))
def o9 (n:Nat)(h1:LI)(h2 h3 h4 h5 h6 h7 h8 h9:Int)(h10:List ba.den)(h11 h12 h13:Int)(h14:Bool)(h15 h16 h17 h18 h19 h20 h21 h22 h23 h24 h25:Int)(h26:List ba.den):Option (ao da.xs):=ik tt HE dr wK 0 Tryz.f12 (cb Tryz.f12 0) n (da.st.mk' ((h1,(h2,(h3,(h4,())))),((h5,(h6,(h7,(h8,(h9,(h10,())))))),((h11,(h12,(h13,(h14,(h15,(h16,(h17,(h18,(h19,(h20,())))))))))),((h21,(h22,(h23,(h24,(h25,(h26,())))))),()))))) (bG da.xs)
theorem vj (n:Nat)(h1:LI)(h2 h3 h4 h5 h6 h7 h8 h9:Int)(h10:List ba.den)(h11 h12 h13:Int)(h14:Bool)(h15 h16 h17 h18 h19 h20 h21 h22 h23 h24 h25:Int)(h26:List ba.den):o9 (n+1) h1 h2 h3 h4 h5 h6 h7 h8 h9 h10 h11 h12 h13 h14 h15 h16 h17 h18 h19 h20 h21 h22 h23 h24 h25 h26=lq h1 h2 h3 h4 h5 h6 h7 h8 h9 h10 h11 h12 h13 h14 h15 h16 h17 h18 h19 h20 h21 h22 h23 h24 h25 h26 (o9 n) some:=by kernel_rfl
theorem yZ (blk:LI)(z1 z2 z3 z4 z5:Int)(z6:List bu)(i1 i2 i3:Int)(i4:Bool)(i5 i6 i7 i8 i9 i10 b1 b2 b3 b4 b5:Int):∀(n k i:Nat) (p:Int) (out:List bu),n<k→out.length=i→i+n≤4294960000→
  o9 k blk p ((i+n:Nat):Int) i z1 z2 z3 z4 z5 z6 i1 i2 i3 i4 i5 i6 i7 i8 i9 i10 b1 b2 b3 b4 b5 out=(CM blk (z1,z2,z3,z4,z5,z6,()) (i1,i2,i3,i4,i5,i6,i7,i8,i9,i10,()) b1 b2 b3 b4 b5 (ke blk i6 n i p out)).val:=by
 intro n
 induction n with
 |zero=>
  intro k i p out h1 h2 h3
  obtain ⟨k,rfl⟩:∃j,k=j+1:=⟨k - 1,by omega⟩
  rw[vj]
  unfold lq
  refine bF (by simp) ?_
  rfl
 |succ n ih=>
  intro k i p out h1 h2 h3
  obtain ⟨k,rfl⟩:∃j,k=j+1:=⟨k - 1,by omega⟩
  rw[vj]
  unfold lq
  refine bT (decide_eq_true (by omega)) ?_
  have e:ke blk i6 (n+1) i p out=if (am blk p).2.2≠0 then ((am blk p).2.2,0,0,[]) else if (bg (am blk p).1 (i:Int) i6).2≠0 then (0,(bg (am blk p).1 (i:Int) i6).2,0,[]) else ke blk i6 n (i+1) (am blk p).2.1 (out++[(bg (am blk p).1 (i:Int) i6).1]):=rfl
  rw[e]
  by_cases c1:(am blk p).2.2=0
  ·refine bF (by simpa using c1) ?_
   rw[if_neg (aC c1)]
   by_cases c2:(bg (am blk p).1 (i:Int) i6).2=0
   ·refine bF (by simpa using c2) ?_
    rw[if_neg (aC c2)]
    refine bT (decide_eq_true (by omega)) ?_
    rw[af (n:=(i:Int)+1) (by omega) (by omega)]
    have:=ih k (i+1) (am blk p).2.1 (out++[(bg (am blk p).1 (i:Int) i6).1]) (by omega) (by simp;omega) (by omega)
    rw[show i+1+n=i+(n+1) by omega] at this
    exact this
   ·refine bT (by simpa using c2) ?_
    rw[if_pos c2]
    unfold CM
    rw[Tr.val_ite,Tr.val_ite,if_neg (by simp),if_pos (decide_eq_true c2)]
    rfl
  ·refine bT (by simpa using c1) ?_
   rw[if_pos c1]
   unfold CM
   rw[Tr.val_ite,if_pos (decide_eq_true c1)]
   rfl
theorem p7 (blk:LI)(f:Int):∀(n i:Nat) (p:Int) (out:List bu),(aI blk f n i p out).2.2=0→(aI blk f n i p out).1.length=out.length+n
 |0,_,_,_,_=>rfl
 |n+1,i,p,out,h=>by
  unfold aI at h ⊢
  split
  ·rename_i c;rw[if_pos c] at h;exact absurd h c
  rename_i c;rw[if_neg c] at h
  split
  ·rename_i c2;rw[if_pos c2] at h;cases h
  rename_i c2;rw[if_neg c2] at h
  split
  ·rename_i c3;rw[if_pos c3] at h;cases h
  rename_i c3;rw[if_neg c3] at h
  rw[p7 blk f n (i+1) _ _ h]
  simp;omega
theorem EJ (blk:LI)(f:Int):∀(n i:Nat) (p:Int) (out:List bu),
  ((aI blk f n i p out).2.2=0→(ke blk f n i p out)=(0,0,(aI blk f n i p out).2.1,(aI blk f n i p out).1))∧
  ((aI blk f n i p out).2.2≠0→(ke blk f n i p out).1=(aI blk f n i p out).2.2∨(ke blk f n i p out).1=0∧(ke blk f n i p out).2.1=(aI blk f n i p out).2.2)
 |0,i,p,out=>⟨fun _=>rfl,fun h=>absurd rfl h⟩
 |n+1,i,p,out=>by
  have e:aI blk f (n+1) i p out=if (am blk p).2.2≠0 then ([],0,(am blk p).2.2) else if (am blk p).1.2.1≠(i:Int) then ([],0,72) else if i=0∧(am blk p).1.1≠0∨aG (f+(am blk p).1.1)=false then ([],0,86)
    else aI blk f n (i+1) (am blk p).2.1 (out++[(f+(am blk p).1.1,(am blk p).1.2.2.1,(am blk p).1.2.2.2.1,(am blk p).1.2.2.2.2.1,())]):=rfl
  have e2:ke blk f (n+1) i p out=if (am blk p).2.2≠0 then ((am blk p).2.2,0,0,[]) else if (bg (am blk p).1 (i:Int) f).2≠0 then (0,(bg (am blk p).1 (i:Int) f).2,0,[]) else ke blk f n (i+1) (am blk p).2.1 (out++[(bg (am blk p).1 (i:Int) f).1]):=rfl
  have eO:bg (am blk p).1 (i:Int) f=if (am blk p).1.2.1≠(i:Int) then (q3,72) else if (i:Int)=0∧(am blk p).1.1≠0∨aG (f+(am blk p).1.1)=false then (q3,86)
    else ((f+(am blk p).1.1,(am blk p).1.2.2.1,(am blk p).1.2.2.2.1,(am blk p).1.2.2.2.2.1,()),0):=rfl
  rw[e,e2]
  by_cases c1:(am blk p).2.2=0
  rotate_left
  ·rw[if_pos c1,if_pos c1]
   exact ⟨fun h=>absurd h c1,fun _=>.inl rfl⟩
  rw[if_neg (aC c1),if_neg (aC c1)]
  by_cases c2:(am blk p).1.2.1=(i:Int)
  rotate_left
  ·rw[if_pos c2,eO,if_pos c2,if_pos (by decide)]
   exact ⟨(fun h=>by cases h),fun _=>.inr ⟨rfl,rfl⟩⟩
  rw[if_neg (aC c2)]
  by_cases c3:i=0∧(am blk p).1.1≠0∨aG (f+(am blk p).1.1)=false
  ·have c3':(i:Int)=0∧(am blk p).1.1≠0∨aG (f+(am blk p).1.1)=false:=by
    rcases c3 with h | h
    ·exact .inl ⟨by omega,h.2⟩
    ·exact .inr h
   rw[if_pos c3,eO,if_neg (aC c2),if_pos c3',if_pos (by decide)]
   exact ⟨(fun h=>by cases h),fun _=>.inr ⟨rfl,rfl⟩⟩
  ·have c3':¬((i:Int)=0∧(am blk p).1.1≠0∨aG (f+(am blk p).1.1)=false):=by
    rintro (h | h)
    ·exact c3 (.inl ⟨by omega,h.2⟩)
    ·exact c3 (.inr h)
   rw[if_neg c3,eO,if_neg (aC c2),if_neg c3',if_neg (aC rfl)]
   exact EJ blk f n (i+1) _ _
theorem lB {b:LI}{sm:Bool}(h:aJ b sm=0):61≤b.length∧(aA b 0).2=0∧(aA b 0).1=(b.length:Int)∧b.getD 16 0=2∧¬(sm=true∧gg b=false)∧aK (ap b 0 8)=false∧b.getD 21 0=0∧b.getD 22 0≤1∧aL (ap b 43 8) (ap b 51 2) (ap b 53 4)=false∧1≤ap b 57 4∧ap b 57 4≤256∧ap b 23 4=ap b 57 4 - 1:=by
 unfold aJ at h
 split at h
 ·cases h
 split at h
 ·rename_i c;exact absurd h c
 rename_i h1 h2
 split at h
 ·cases h
 rename_i h3
 split at h
 ·cases h
 rename_i h4
 split at h
 ·cases h
 rename_i h5
 split at h
 ·cases h
 rename_i h6
 split at h
 ·cases h
 rename_i h7
 split at h
 ·cases h
 rename_i h8
 split at h
 ·cases h
 rename_i h9
 split at h
 ·cases h
 rename_i h10
 split at h
 ·cases h
 rename_i h11
 have h2:(aA b 0).2=0:=Classical.byContradiction h2
 have hm:=lV h2
 refine ⟨by omega,h2,by omega,Classical.byContradiction h4,h5,by simpa using h6,?_,by omega,by simpa using h8,by omega,by omega,Classical.byContradiction h11⟩
 exact Classical.byContradiction fun h=>h7 (.inl h)
def xE (a0:LI):Option jD.Res:=bif decide (a0.length≤4294960000) then bif (ai a0 true).2 != 0 then oR (((0,0,0,0,0,[],()),(ai a0 true).2,()),()) else bif decide (61≤a0.length)&&decide (a0.length≤4294960000) then bif (aV a0 (ai a0 true).1.2.2.2.1).2 != 0 then oR (((0,0,0,0,0,[],()),(aV a0 (ai a0 true).1.2.2.2.1).2,()),()) else (bif decide ((0:Int)=0)&&(decide (([]:List bu).length=0)&&(decide ((0:Int)≤(ai a0 true).1.2.2.2.2.1)&&decide ((ai a0 true).1.2.2.2.2.1≤(4294960000:Int)))) then (bif decide ((ke (aV a0 (ai a0 true).1.2.2.2.1).1 (ai a0 true).1.2.2.2.2.2.1 ((ai a0 true).1.2.2.2.2.1).toNat 0 0 []).1≠0) then oR (((0,0,0,0,0,[],()),(ke (aV a0 (ai a0 true).1.2.2.2.1).1 (ai a0 true).1.2.2.2.2.2.1 ((ai a0 true).1.2.2.2.2.1).toNat 0 0 []).1,()),()) else bif decide ((ke (aV a0 (ai a0 true).1.2.2.2.1).1 (ai a0 true).1.2.2.2.2.2.1 ((ai a0 true).1.2.2.2.2.1).toNat 0 0 []).2.1≠0) then oR (((0,0,0,0,0,[],()),(ke (aV a0 (ai a0 true).1.2.2.2.1).1 (ai a0 true).1.2.2.2.2.2.1 ((ai a0 true).1.2.2.2.2.1).toNat 0 0 []).2.1,()),()) else bif decide ((ke (aV a0 (ai a0 true).1.2.2.2.1).1 (ai a0 true).1.2.2.2.2.2.1 ((ai a0 true).1.2.2.2.2.1).toNat 0 0 []).2.2.1<(↑(aV a0 (ai a0 true).1.2.2.2.1).1.length:Int)) then oR (((0,0,0,0,0,[],()),2,()),()) else bif decide (1≤(ke (aV a0 (ai a0 true).1.2.2.2.1).1 (ai a0 true).1.2.2.2.2.2.1 ((ai a0 true).1.2.2.2.2.1).toNat 0 0 []).2.2.2.length) then bif fb (ke (aV a0 (ai a0 true).1.2.2.2.1).1 (ai a0 true).1.2.2.2.2.2.1 ((ai a0 true).1.2.2.2.2.1).toNat 0 0 []).2.2.2 != (ai a0 true).1.2.2.2.2.2.2.1 then oR (((0,0,0,0,0,[],()),86,()),()) else oR ((((ai a0 true).1.1,(ai a0 true).1.2.2.1,(ai a0 true).1.2.2.2.2.2.2.2.1,(ai a0 true).1.2.2.2.2.2.2.2.2.1,(ai a0 true).1.2.2.2.2.2.2.2.2.2.1,(ke (aV a0 (ai a0 true).1.2.2.2.1).1 (ai a0 true).1.2.2.2.2.2.1 ((ai a0 true).1.2.2.2.2.1).toNat 0 0 []).2.2.2,()),0,()),()) else none) else none) else none else none
theorem LW (a0:LI):Io.run tt HE dr wK jD Tryz.f12 ((a0,()),())=xE a0:=by kernel_rfl
theorem yK:HcsOk prog GX:=.cons Ln (.cons IB (.cons Ns (.cons Fl (.cons Em .nil))))
theorem IC:HcOk prog 12 (ah jD Cy):=by
 refine bK yK (lp:=wK) (fn:=Tryz.f12) jD (.step (h0:=aD da q9) (by kernel_rfl) (iK yK (lp:=wK) (fn:=Tryz.f12) (.done (by kernel_rfl)) da q9 ?_) (.done (by kernel_rfl))) Cy ?_
 ·rintro ⟨⟨(blk:LI),(p:Int),(n:Int),(i:Int),⟨⟩⟩,⟨⟨(z1:Int),(z2:Int),(z3:Int),(z4:Int),(z5:Int),(z6:List bu),⟨⟩⟩,⟨(i1:Int),(i2:Int),(i3:Int),(i4:Bool),(i5:Int),(i6:Int),(i7:Int),(i8:Int),(i9:Int),(i10:Int),⟨⟩⟩,⟨(b1:Int),(b2:Int),(b3:Int),(b4:Int),(b5:Int),(out:List bu),⟨⟩⟩,⟨⟩⟩⟩ y hw hy
  obtain ⟨hg,hy⟩:=Tr.guard hy
  simp only[zA,zB] at hg
  obtain ⟨h1,h2,h3,h4⟩:=hg
  have h1:i=0:=h1
  have h2:out=[]:=List.length_eq_zero_iff.1 h2
  have h3:0≤n:=h3
  have h4:n≤(4294960000:Int):=h4
  subst h1 h2
  obtain ⟨n,rfl⟩:=aq h3
  have:=yZ blk z1 z2 z3 z4 z5 z6 i1 i2 i3 i4 i5 i6 i7 i8 i9 i10 b1 b2 b3 b4 b5 n (n+1) 0 p [] (by omega) rfl (by omega)
  rw[Nat.zero_add] at this
  exact ⟨n+1,this.trans hy⟩
 ·rintro ⟨⟨(b:LI),⟨⟩⟩,⟨⟩⟩ out hw ho
  obtain ⟨hg,ho⟩:=Tr.guard ho
  have hg2:b.length≤4294960000:=of_decide_eq_true hg
  clear hg
  cases ho
  refine (LW b).trans ?_
  show _=oR (((aO b).1,(aO b).2,()),())
  have eE:fz b=if aJ b true≠0 then ([],aJ b true) else if (aV b (decide (b.getD 22 0=1))).2≠0 then ([],(aV b (decide (b.getD 22 0=1))).2) else cF (aV b (decide (b.getD 22 0=1))).1 (ap b 27 8) (ap b 35 8) (ap b 57 4).toNat:=rfl
  have fin:∀e:Int,e≠0→(fz b).2=e→some (Out.ret ((N1,(e,())),()):jD.Res)=oR (((aO b).1,(aO b).2,()),()):=by
   intro e he h
   have:aO b=(qZ,e):=by unfold aO;rw[h,if_pos he]
   rw[this]
   rfl
  unfold xE
  refine bT (decide_eq_true hg2) ?_
  by_cases h1:aJ b true=0
  rotate_left
  ·have eh:ai b true=(bc,aJ b true):=by unfold ai;rw[if_pos h1]
   rw[eh]
   refine bT (by simpa using h1) ?_
   exact fin _ h1 (by rw[eE,if_pos h1])
  have eh:ai b true=(hM b,0):=by unfold ai;rw[if_neg (aC h1)]
  rw[if_neg (aC h1)] at eE
  obtain ⟨k1,_,_,_,_,_,_,_,_,k2,k3,_⟩:=lB h1
  have hI:hM b=(ap b 0 8,(b.length:Int),ap b 12 4,decide (b.getD 22 0=1),ap b 57 4,ap b 27 8,ap b 35 8,ap b 43 8,ap b 51 2,ap b 53 4,()):=rfl
  rw[eh,hI]
  dsimp only
  refine (ac rfl _ _).trans ?_
  refine bT (by simp only[zA,zB];exact ⟨k1,hg2⟩) ?_
  by_cases h2:(aV b (decide (b.getD 22 0=1))).2=0
  rotate_left
  ·refine bT (by simpa using h2) ?_
   exact fin _ h2 (by rw[eE,if_pos h2])
  refine bF (by simpa using h2) ?_
  rw[if_neg (aC h2)] at eE
  generalize (aV b (decide (b.getD 22 0=1))).1=blk at *
  refine bT (by simp only[zA,zB];exact ⟨trivial,rfl,show (0:Int)≤ap b 57 4 by omega,show ap b 57 4≤(4294960000:Int) by omega⟩) ?_
  have eR:cF blk (ap b 27 8) (ap b 35 8) (ap b 57 4).toNat=if (aI blk (ap b 27 8) (ap b 57 4).toNat 0 0 []).2.2≠0 then ([],(aI blk (ap b 27 8) (ap b 57 4).toNat 0 0 []).2.2)
    else if (aI blk (ap b 27 8) (ap b 57 4).toNat 0 0 []).2.1<(blk.length:Int) then ([],2)
    else if fb (aI blk (ap b 27 8) (ap b 57 4).toNat 0 0 []).1≠ap b 35 8 then ([],86) else ((aI blk (ap b 27 8) (ap b 57 4).toNat 0 0 []).1,0):=rfl
  have hlen:=p7 blk (ap b 27 8) (ap b 57 4).toNat 0 0 []
  obtain ⟨x1,x2⟩:=EJ blk (ap b 27 8) (ap b 57 4).toNat 0 0 []
  rw[eR] at eE
  generalize aI blk (ap b 27 8) (ap b 57 4).toNat 0 0 []=r at *
  obtain ⟨rs,q,e⟩:=r
  simp only at eE hlen x1 x2
  by_cases h3:e=0
  rotate_left
  ·rw[if_pos h3] at eE
   rcases x2 h3 with x | ⟨x,x'⟩
   ·rw[x]
    refine bT (decide_eq_true h3) ?_
    exact fin e h3 (by rw[eE])
   ·rw[x,x']
    refine (ac rfl _ _).trans ?_
    refine bT (decide_eq_true h3) ?_
    exact fin e h3 (by rw[eE])
  rw[if_neg (aC h3)] at eE
  rw[x1 h3]
  have hlen:=hlen h3
  refine (ac rfl _ _).trans ?_
  refine (ac rfl _ _).trans ?_
  by_cases h4:q<(blk.length:Int)
  ·refine bT (decide_eq_true h4) ?_
   exact fin 2 (by decide) (by rw[eE,if_pos h4])
  refine bF (decide_eq_false h4) ?_
  refine bT (decide_eq_true (show 1≤rs.length by rw[hlen];simp;omega)) ?_
  rw[if_neg h4] at eE
  by_cases h5:fb rs=ap b 35 8
  ·refine bF (by simpa using h5) ?_
   rw[if_neg (aC h5)] at eE
   have:aO b=((ap b 0 8,ap b 12 4,ap b 43 8,ap b 51 2,ap b 53 4,rs,()),0):=by unfold aO;rw[eE,if_neg (aC rfl)]
   rw[this]
  ·refine bT (by simpa using h5) ?_
   exact fin 86 (by decide) (by rw[eE,if_pos h5])
end
end Go.Proofs.YtcbcbjdobbgddaaGreatDoor.Sym
namespace Go.Proofs.YtcbcbjdobbgddaaGreatDoor.Sym
open Go
noncomputable section
def kr (b:LI)(m:Int)(n:Nat):Bool:=decide (m=36000)&&Nat.ble (b.length+n) 36000
theorem dd {b:LI}{m:Int}{n:Nat}:kr b m n=true↔m=36000∧b.length+n≤36000:=by
 unfold kr;rw[zA,zB,Nat.ble_eq]
abbrev sb:Io:=m4
def Gu (d:sb.In):Tr sb.Res:=
 .ite (decide (d.1.1=36000)) (.ret (.ret (((),()),((([]:LI),(36000,())),())))) .no
theorem IK:HcOk prog 47 (ah sb Gu):=by
 refine HcOk.weakB NF ?_
 rintro ⟨⟨(m:Int),⟨⟩⟩,⟨⟩⟩ y hw hy
 obtain ⟨hg,hy⟩:=Tr.guard hy
 have hg:m=36000:=of_decide_eq_true hg
 subst hg
 rw[← hy]
 rfl
abbrev sa:Io:=mZ
def Gt (d:sa.In):Tr sa.Res:=
 .ite (kr d.2.1.1 d.2.1.2.1 8) (.ret (.ret ((0,()),((d.2.1.1++ay d.1.2.1 8,(36000,())),())))) .no
theorem IJ:HcOk prog 48 (ah sa Gt):=by
 refine HcOk.weakB NE ?_
 rintro ⟨⟨⟨⟩,(v:Int),⟨⟩⟩,⟨⟨(b:LI),(m:Int),⟨⟩⟩,⟨⟩⟩⟩ y hw hy
 obtain ⟨hg,hy⟩:=Tr.guard hy
 obtain ⟨h1,h2⟩:=(dd (b:=b) (m:=m) (n:=8)).1 hg
 subst h1
 rw[← hy]
 have hk:cI b 36000=true:=by unfold cI;simp only[zA,zB];omega
 have e:ca b 36000 v 8=(0,b++ay v 8):=by unfold ca;rw[if_neg (by omega)]
 show (CI (((),(v,())),((b,(36000,())),()))).val=some (.ret ((0,()),((b++ay v 8,(36000,())),())))
 unfold CI
 rw[Tr.val_ite,if_pos hk,Tr.val_ret]
 show oR (((ca b 36000 v 8).1,()),(((ca b 36000 v 8).2,(36000,())),()))=_
 rw[e]
abbrev r9:Io:=mY
def Gs (d:r9.In):Tr r9.Res:=
 .ite (kr d.2.1.1 d.2.1.2.1 4) (.ret (.ret ((0,()),((d.2.1.1++ay d.1.2.1 4,(36000,())),())))) .no
theorem II:HcOk prog 49 (ah r9 Gs):=by
 refine HcOk.weakB ND ?_
 rintro ⟨⟨⟨⟩,(v:Int),⟨⟩⟩,⟨⟨(b:LI),(m:Int),⟨⟩⟩,⟨⟩⟩⟩ y hw hy
 obtain ⟨hg,hy⟩:=Tr.guard hy
 obtain ⟨h1,h2⟩:=(dd (b:=b) (m:=m) (n:=4)).1 hg
 subst h1
 rw[← hy]
 have hk:cI b 36000=true:=by unfold cI;simp only[zA,zB];omega
 have e:ca b 36000 v 4=(0,b++ay v 4):=by unfold ca;rw[if_neg (by omega)]
 show (CH (((),(v,())),((b,(36000,())),()))).val=some (.ret ((0,()),((b++ay v 4,(36000,())),())))
 unfold CH
 rw[Tr.val_ite,if_pos hk,Tr.val_ret]
 show oR (((ca b 36000 v 4).1,()),(((ca b 36000 v 4).2,(36000,())),()))=_
 rw[e]
abbrev wx:Io:=mX
def MC (d:wx.In):Tr wx.Res:=
 .ite (kr d.2.1.1 d.2.1.2.1 2) (.ret (.ret ((0,()),((d.2.1.1++ay d.1.2.1 2,(36000,())),())))) .no
theorem Nr:HcOk prog 51 (ah wx MC):=by
 refine HcOk.weakB NC ?_
 rintro ⟨⟨⟨⟩,(v:Int),⟨⟩⟩,⟨⟨(b:LI),(m:Int),⟨⟩⟩,⟨⟩⟩⟩ y hw hy
 obtain ⟨hg,hy⟩:=Tr.guard hy
 obtain ⟨h1,h2⟩:=(dd (b:=b) (m:=m) (n:=2)).1 hg
 subst h1
 rw[← hy]
 have hk:cI b 36000=true:=by unfold cI;simp only[zA,zB];omega
 have e:ca b 36000 v 2=(0,b++ay v 2):=by unfold ca;rw[if_neg (by omega)]
 show (CG (((),(v,())),((b,(36000,())),()))).val=some (.ret ((0,()),((b++ay v 2,(36000,())),())))
 unfold CG
 rw[Tr.val_ite,if_pos hk,Tr.val_ret]
 show oR (((ca b 36000 v 2).1,()),(((ca b 36000 v 2).2,(36000,())),()))=_
 rw[e]
abbrev DM:Io:=sd
def Oa (d:DM.In):Tr DM.Res:=
 .ite (kr d.2.1.1 d.2.1.2.1 1) (.ret (.ret ((0,()),((d.2.1.1++ay d.1.2.1 1,(36000,())),())))) .no
theorem Ox:HcOk prog 50 (ah DM Oa):=by
 refine HcOk.weakB Oy ?_
 rintro ⟨⟨⟨⟩,(v:Int),⟨⟩⟩,⟨⟨(b:LI),(m:Int),⟨⟩⟩,⟨⟩⟩⟩ y hw hy
 obtain ⟨hg,hy⟩:=Tr.guard hy
 obtain ⟨h1,h2⟩:=(dd (b:=b) (m:=m) (n:=1)).1 hg
 subst h1
 rw[← hy]
 have hk:cI b 36000=true:=by unfold cI;simp only[zA,zB];omega
 have e:ca b 36000 v 1=(0,b++ay v 1):=by unfold ca;rw[if_neg (by omega)]
 show (Kr (((),(v,())),((b,(36000,())),()))).val=some (.ret ((0,()),((b++ay v 1,(36000,())),())))
 unfold Kr
 rw[Tr.val_ite,if_pos hk,Tr.val_ret]
 show oR (((ca b 36000 v 1).1,()),(((ca b 36000 v 1).2,(36000,())),()))=_
 rw[e]
abbrev sc:Io:=m5
def Gv (d:sc.In):Tr sc.Res:=
 .ite (kr d.2.1.1 d.2.1.2.1 (aW d.1.2.1)) (.ret (.ret ((0,()),((d.2.1.1++cD d.1.2.1,(36000,())),())))) .no
theorem IL:HcOk prog 52 (ah sc Gv):=by
 refine HcOk.weakB NG ?_
 rintro ⟨⟨⟨⟩,(ps:List (LI)),⟨⟩⟩,⟨⟨(b:LI),(m:Int),⟨⟩⟩,⟨⟩⟩⟩ y hw hy
 obtain ⟨hg,hy⟩:=Tr.guard hy
 obtain ⟨h1,h2⟩:=(dd (b:=b) (m:=m) (n:=aW ps)).1 hg
 subst h1
 rw[← hy]
 have hk:(cI b 36000&&decide (aW ps≤4294960000))=true:=by unfold cI;simp only[zA,zB];omega
 have e:s4 b 36000 ps=(0,b++cD ps):=by unfold s4;rw[if_neg (by omega)]
 show (CJ (((),(ps,())),((b,(36000,())),()))).val=some (.ret ((0,()),((b++cD ps,(36000,())),())))
 unfold CJ
 rw[Tr.val_ite,if_pos hk,Tr.val_ret]
 show oR (((s4 b 36000 ps).1,()),(((s4 b 36000 ps).2,(36000,())),()))=_
 rw[e]
abbrev mI:Io:=⟨[dL,jx,Bw],[],[],[dO,dI],none⟩
def Gp (d:mI.In):Tr mI.Res:=.ite (decide (d.1.1.length≤4294960000)) (.ret (.ret (((az d.1.1 d.1.2.1 d.1.2.2.1).1,(az d.1.1 d.1.2.1 d.1.2.2.1).2,()),()))) .no
abbrev GZ:List (Nat×Hc):=[(12,ah jD Cy),(64,ah f7 q7),(47,ah sb Gu),(48,ah sa Gt),(52,ah sc Gv),(49,ah r9 Gs),(55,ah fN qz)]
def MZ:Hd:=br GZ
def Ia:Lp:=bA []
def xF (a0:LI)(a1 a2:Int):Option mI.Res:=bif decide (a0.length≤4294960000) then bif (aO a0).2 != 0 then oR (([],(aO a0).2,()),()) else bif aK a1 then oR (([],80,()),()) else bif kr [] 36000 8 then bif decide (0≤8)&&(decide (8≤12)&&decide (12≤(↑a0.length:Int))) then bif kr ([]++ay a1 8) 36000 (aW [List.drop (Int.toNat 8) (List.take (Int.toNat 12) a0)]) then bif kr ([]++ay a1 8++cD [List.drop (Int.toNat 8) (List.take (Int.toNat 12) a0)]) 36000 4 then bif decide (0≤16)&&(decide (16≤(↑a0.length:Int))&&decide ((↑a0.length:Int)≤(↑a0.length:Int))) then bif kr ([]++ay a1 8++cD [List.drop (Int.toNat 8) (List.take (Int.toNat 12) a0)]++ay a2 4) 36000 (aW [List.drop (Int.toNat 16) (List.take (↑a0.length:Int).toNat a0)]) then bif decide (List.length ([]++ay a1 8++cD [List.drop (Int.toNat 8) (List.take (Int.toNat 12) a0)]++ay a2 4++cD [List.drop (Int.toNat 16) (List.take (↑a0.length:Int).toNat a0)])≤4294967296) then oR (([]++ay a1 8++cD [List.drop (Int.toNat 8) (List.take (Int.toNat 12) a0)]++ay a2 4++cD [List.drop (Int.toNat 16) (List.take (↑a0.length:Int).toNat a0)],0,()),()) else none else none else none else none else none else none else none else none
theorem LX (a0:LI)(a1 a2:Int):Io.run tt MZ dr Ia mI Tryz.f30 ((a0,a1,a2,()),())=xF a0 a1 a2:=by kernel_rfl
theorem Nm:HcOk prog 30 (ah mI Gp):=by
 refine bK (cs:=GZ) (.cons IC (.cons wX (.cons IK (.cons IJ (.cons IL (.cons II (.cons zS .nil))))))) (lp:=Ia) (fn:=Tryz.f30) mI (.done (by kernel_rfl)) Gp ?_
 rintro ⟨⟨(b:LI),(base:Int),(ep:Int),⟨⟩⟩,⟨⟩⟩ out hw ho
 obtain ⟨hg,ho⟩:=Tr.guard ho
 have hg2:b.length≤4294960000:=of_decide_eq_true hg
 clear hg
 cases ho
 refine (LX b base ep).trans ?_
 show _=oR (((az b base ep).1,((az b base ep).2,())),())
 unfold xF
 refine bT (decide_eq_true hg2) ?_
 by_cases h1:(aO b).2=0
 rotate_left
 ·have:az b base ep=([],(aO b).2):=by unfold az;rw[if_pos h1]
  rw[this]
  exact aa (by simpa using h1) _ _
 refine bF (by simpa using h1) ?_
 by_cases h2:aK base=true
 ·have:az b base ep=([],80):=by unfold az;rw[if_neg (aC h1),if_pos h2]
  rw[this]
  exact aa h2 _ _
 refine bF (by simpa using h2) ?_
 have e:az b base ep=(ay base 8++((b.drop 8).take 4++(ay ep 4++b.drop 16)),0):=by unfold az;rw[if_neg (aC h1),if_neg h2]
 rw[e]
 have hL:61≤b.length∧b.length≤36000:=by
  have hE:aJ b true=0:=by
   by_cases h:aJ b true=0
   ·exact h
   exfalso
   have:fz b=([],aJ b true):=by unfold fz;rw[if_pos h]
   unfold aO at h1
   rw[this,if_pos h] at h1
   exact h h1
  obtain ⟨k1,k2,k3,_⟩:=lB hE
  have k4:=lV k2
  omega
 obtain ⟨l1,l2⟩:=hL
 have e1:List.drop (Int.toNat 8) (List.take (Int.toNat 12) b)=(b.drop 8).take 4:=by
  show List.drop 8 (List.take 12 b)=_
  rw[List.drop_take]
 have e2:List.drop (Int.toNat 16) (List.take (b.length:Int).toNat b)=b.drop 16:=by
  show List.drop 16 (List.take (b.length:Int).toNat b)=_
  rw[zG,List.take_length]
 have j1:∀x:LI,aW [x]=x.length:=fun x=>Nat.add_zero _
 have j2:∀x:LI,cD [x]=x:=fun x=>List.append_nil _
 rw[e1,e2,j1,j1,j2,j2]
 have m1:((b.drop 8).take 4).length=4:=fG (b:=b) (p:=8) (n:=4) (by omega)
 have m2:(b.drop 16).length=b.length - 16:=List.length_drop
 have q8:=eZ base 8
 have q4:=eZ ep 4
 refine (aa (dd.2 ⟨rfl,by simp⟩) _ _).trans ?_
 refine bT (by simp only[zA,zB];omega) ?_
 refine (aa (dd.2 ⟨rfl,by simp only[zH,List.length_nil];omega⟩) _ _).trans ?_
 refine (aa (dd.2 ⟨rfl,by simp only[zH,List.length_nil];omega⟩) _ _).trans ?_
 refine bT (by simp only[zA,zB];omega) ?_
 refine (aa (dd.2 ⟨rfl,by simp only[zH,List.length_nil];omega⟩) _ _).trans ?_
 refine bT (by simp only[zH,List.length_nil,zB];omega) ?_
 simp only[List.nil_append,zK]
end
end Go.Proofs.YtcbcbjdobbgddaaGreatDoor.Sym
namespace Go.Proofs.YtcbcbjdobbgddaaGreatDoor.Sym
open Go
open Go.IntKind (i8 i16 i32 i64 u8 u16 u32 u64)
noncomputable section
def eC (a b:bu):Bool:=@ite Bool (a=b) (Classical.propDecidable _) true false
def b8 (a b:List bu):Bool:=@ite Bool (a=b) (Classical.propDecidable _) true false
def eB (a b:fZ):Bool:=@ite Bool (a=b) (Classical.propDecidable _) true false
theorem zO {p:Prop}(h:¬ p):(false=true↔p):=⟨fun h=>(by cases h),fun x=>absurd x h⟩
theorem iY {a b:bu}:eC a b=true↔a=b:=by unfold eC;split <;> simp[*]
theorem bJ {a b:List bu}:b8 a b=true↔a=b:=by unfold b8;split <;> simp[*]
theorem mm {a b:fZ}:eB a b=true↔a=b:=by unfold eB;split <;> simp[*]
abbrev fO:Io:=⟨[MT,MT],[],[],[dB],none⟩
def vS (d:fO.In):Tr fO.Res:=.ret (.ret ((eC d.1.1 d.1.2.1,()),()))
abbrev yt:List (Nat×Hc):=[(117,ah cc im),(118,ah cq jt)]
def HW:Hd:=br yt
def zu:Lp:=bA []
def rK (a0:Int)(a1:Bool)(a2:LI)(a3:Bool)(a4:LI)(a5:List co.den)(a6:Int)(a7:Bool)(a8:LI)(a9:Bool)(a10:LI)(a11:List co.den):Option fO.Res:=bif a0 != a6 then oR ((false,()),()) else bif !decide ((a1,a2,())=(a7,a8,())) then oR ((false,()),()) else bif !decide ((a3,a4,())=(a9,a10,())) then oR ((false,()),()) else oR ((decide (a5=a11),()),())
theorem FP (a0:Int)(a1:Bool)(a2:LI)(a3:Bool)(a4:LI)(a5:List co.den)(a6:Int)(a7:Bool)(a8:LI)(a9:Bool)(a10:LI)(a11:List co.den):Io.run tt HW dr zu fO Tryz.f80 (((a0,(a1,a2,()),(a3,a4,()),a5,()),(a6,(a7,a8,()),(a9,a10,()),a11,()),()),())=rK a0 a1 a2 a3 a4 a5 a6 a7 a8 a9 a10 a11:=by kernel_rfl
theorem IY:HcOk prog 80 (ah fO vS):=by
 refine bK (cs:=yt) (.cons ot (.cons tB .nil)) (lp:=zu) (fn:=Tryz.f80) fO (.done (by kernel_rfl)) vS ?_
 rintro ⟨⟨⟨(a0:Int),⟨(a1:Bool),(a2:LI),⟨⟩⟩,⟨(a3:Bool),(a4:LI),⟨⟩⟩,(a5:List cx),⟨⟩⟩,⟨(b0:Int),⟨(b1:Bool),(b2:LI),⟨⟩⟩,⟨(b3:Bool),(b4:LI),⟨⟩⟩,(b5:List cx),⟨⟩⟩,⟨⟩⟩,⟨⟩⟩ out hw ho
 cases ho
 refine (FP a0 a1 a2 a3 a4 a5 b0 b1 b2 b3 b4 b5).trans ?_
 show _=oR ((eC (a0,(a1,a2,()),(a3,a4,()),a5,()) (b0,(b1,b2,()),(b3,b4,()),b5,()),()),())
 have fin:∀c:Bool,(c=true↔((a0,(a1,a2,()),(a3,a4,()),a5,()):bu)=(b0,(b1,b2,()),(b3,b4,()),b5,()))→some (Out.ret ((c,()),()):fO.Res)=oR ((eC (a0,(a1,a2,()),(a3,a4,()),a5,()) (b0,(b1,b2,()),(b3,b4,()),b5,()),()),()):=by
  intro c hc
  have:c=eC (a0,(a1,a2,()),(a3,a4,()),a5,()) (b0,(b1,b2,()),(b3,b4,()),b5,()):=Bool.eq_iff_iff.2 (hc.trans iY.symm)
  rw[this]
 unfold rK
 by_cases h0:a0=b0
 rotate_left
 ·refine (aa (by simpa using h0) _ _).trans (fin false (zO fun h=>h0 (congrArg Prod.fst h)))
 refine bF (by simpa using h0) ?_
 by_cases h1:(a1,a2,())=(b1,b2,())
 rotate_left
 ·refine (aa (by rw[decide_eq_false h1];rfl) _ _).trans (fin false (zO fun h=>h1 (congrArg (fun x:bu=>x.2.1) h)))
 refine bF (by rw[decide_eq_true h1];rfl) ?_
 by_cases h2:(a3,a4,())=(b3,b4,())
 rotate_left
 ·refine (aa (by rw[decide_eq_false h2];rfl) _ _).trans (fin false (zO fun h=>h2 (congrArg (fun x:bu=>x.2.2.1) h)))
 refine (ac (by rw[decide_eq_true h2];rfl) _ _).trans (fin _ ?_)
 rw[zB]
 constructor
 ·intro h
  rw[h0,h1,h2,h]
 ·intro h
  exact congrArg (fun x:bu=>x.2.2.2.1) h
abbrev fw:Io:=⟨[yx,yx],[],[],[dB],none⟩
def rp (d:fw.In):Tr fw.Res:=.ret (.ret ((b8 d.1.1 d.1.2.1,()),()))
abbrev uI:List (Nat×Hc):=[(80,ah fO vS)]
def uW:Hd:=br uI
abbrev cl:Lo:=⟨⟨(.one (.hol (.sl 49 ba))::.one (.hol (.sl 49 ba))::.any::bt (.one hI::.any::aj (bO []))),[]⟩,[(.ret,⟨(bO (.one hL::aj (bO (bt [])))),[]⟩),(.exit 0,⟨(.any::aj (dC (bt []))),[]⟩)]⟩
def gA (d:cl.st.den):Tr (ao cl.xs):=
 .ite (decide (d.1.2.2.1=(0:Int))&&decide (d.1.1.length=d.1.2.1.length)) (.ite (b8 d.1.1 d.1.2.1) (.ret (.pan (.ret ((),((),()))))) (.ret (.ret ((),((false,()),()))))) .no
def lQ:Lp:=bA [(5,aD cl gA)]
def my {R:Type}(h2 h3:List ba.den)(h4:Int)(next:List ba.den→List ba.den→Int→Option R)(out:ao cl.xs→Option R):Option R:=bif decide (h4<(↑h2.length:Int)) then bif decide (0≤h4)&&decide (h4<(↑h2.length:Int)) then bif decide (0≤h4)&&decide (h4<(↑h3.length:Int)) then bif !eC (h2.getD h4.toNat (0,(false,[],()),(false,[],()),[],())) (h3.getD h4.toNat (0,(false,[],()),(false,[],()),[],())) then out (.ret ((),((false,()),()))) else next (h2) (h3) (i64.wrap (h4+1)) else none else none else out (.pan (.ret ((),((),()))))
def k6 (n:Nat)(h2 h3:List ba.den)(h4:Int):Option (ao cl.xs):=ik tt uW dr lQ 0 Tryz.f42 (cb Tryz.f42 0) n (cl.st.mk' ((h2,(h3,(h4,()))),())) (bG cl.xs)
theorem Am (n:Nat)(h2 h3:List ba.den)(h4:Int):k6 (n+1) h2 h3 h4=my h2 h3 h4 (k6 n) some:=by kernel_rfl
theorem zd (xs ys:List bu)(hl:xs.length=ys.length)(hb:xs.length≤maxLen):∀(k i:Nat),i≤xs.length→xs.length<i+k→
  k6 k xs ys (i:Int)=if b8 (xs.drop i) (ys.drop i)=true then some (.pan (.ret ((),((),())))) else some (.ret ((),((false,()),()))):=by
 intro k
 induction k with
 |zero=>intro i h h';omega
 |succ k ih=>
  intro i hi h
  rw[Am]
  unfold my
  by_cases h1:i<xs.length
  ·have h2:i<ys.length:=by omega
   rw[aQ h1 hb,ih (i+1) h1 (by omega)]
   have e1:(xs.getD (i:Int).toNat (0,(false,[],()),(false,[],()),[],()):bu)=xs[i]:=aF h1
   have e2:(ys.getD (i:Int).toNat (0,(false,[],()),(false,[],()),[],()):bu)=ys[i]:=aF h2
   refine bT (by simpa using h1) ?_
   refine bT (by simpa using h1) ?_
   refine bT (by simpa using h2) ?_
   rw[e1,e2,zE h1,zE h2]
   cases hc:eC xs[i] ys[i] with
   |false=>
    refine (aa rfl _ _).trans ?_
    rw[if_neg]
    intro h
    have h:=bJ.1 h
    rw[List.cons.injEq] at h
    rw[iY.2 h.1] at hc
    cases hc
   |true=>
    refine (ac rfl _ _).trans ?_
    have e:=iY.1 hc
    by_cases hd:b8 (xs.drop (i+1)) (ys.drop (i+1))=true
    ·rw[if_pos hd,if_pos (bJ.2 (by rw[e,bJ.1 hd]))]
    ·rw[if_neg hd,if_neg]
     intro h
     have h:=bJ.1 h
     rw[List.cons.injEq] at h
     exact hd (bJ.2 h.2)
  ·rw[zI (by omega),zI (by omega),if_pos (bJ.2 rfl)]
   exact ac (by simpa using h1) _ _
def pP (a0 a1:List ba.den):Option fw.Res:=bif (↑a0.length:Int) != (↑a1.length:Int) then oR ((false,()),()) else (gA ((a0,(a1,(0,()))),())).run fun y=>match y with | .ret ((),((x9,()),()))=>(oR ((x9,()),())) | .pan (.ret ((),((),())))=>(oR ((true,()),()))
theorem Ca (a0 a1:List ba.den):Io.run tt uW dr lQ fw Tryz.f42 ((a0,a1,()),())=pP a0 a1:=by kernel_rfl
theorem pX:HcsOk prog uI:=.cons IY .nil
theorem Fv:HcOk prog 42 (ah fw rp):=by
 refine bK pX (lp:=lQ) (fn:=Tryz.f42) fw (.step (h0:=aD cl gA) (by kernel_rfl) (iK pX (lp:=lQ) (fn:=Tryz.f42) (.done (by kernel_rfl)) cl gA ?_) (.done (by kernel_rfl))) rp ?_
 ·rintro ⟨⟨(xs:List bu),(ys:List bu),(i:Int),⟨⟩⟩,⟨⟩⟩ y hw hy
  obtain ⟨hg,hy⟩:=Tr.guard hy
  simp only[zA,zB] at hg
  obtain ⟨hi,hl⟩:=hg
  have hi:i=0:=hi
  have hl:xs.length=ys.length:=hl
  subst hi
  refine ⟨xs.length+1,(zd xs ys hl hw.1.1.1 _ 0 (by omega) (by omega)).trans ?_⟩
  rw[← hy,List.drop_zero,List.drop_zero]
  simp only[Tr.val_ite,Tr.val_ret]
 ·rintro ⟨⟨(xs:List bu),(ys:List bu),⟨⟩⟩,⟨⟩⟩ out hw ho
  cases ho
  refine (Ca xs ys).trans ?_
  unfold pP gA
  show _=oR ((b8 xs ys,()),())
  by_cases hl:xs.length=ys.length
  ·refine bF (by rw[hl];exact bne_self_eq_false' _) ?_
   refine bT (by simpa using hl) ?_
   cases h:b8 xs ys with
   |true=>rfl
   |false=>rfl
  ·have e:b8 xs ys=false:=by
    cases h:b8 xs ys with
    |false=>rfl
    |true=>exact absurd (congrArg List.length (bJ.1 h)) hl
   rw[e]
   refine aa ?_ _ _
   have:(xs.length:Int)≠ys.length:=by omega
   simpa using this
abbrev fP:Io:=⟨[yw,yw],[],[],[dB],none⟩
def vT (d:fP.In):Tr fP.Res:=.ret (.ret ((eB d.1.1 d.1.2.1,()),()))
abbrev yu:List (Nat×Hc):=[(42,ah fw rp)]
def HX:Hd:=br yu
def zv:Lp:=bA []
def rL (a0 a1 a2 a3 a4:Int)(a5:List ba.den)(a6 a7 a8 a9 a10:Int)(a11:List ba.den):Option fP.Res:=bif a0 != a6 then oR ((false,()),()) else bif a1 != a7 then oR ((false,()),()) else bif a2 != a8 then oR ((false,()),()) else bif a3 != a9 then oR ((false,()),()) else bif a4 != a10 then oR ((false,()),()) else oR ((b8 a5 a11,()),())
theorem FQ (a0 a1 a2 a3 a4:Int)(a5:List ba.den)(a6 a7 a8 a9 a10:Int)(a11:List ba.den):Io.run tt HX dr zv fP Tryz.f14 (((a0,a1,a2,a3,a4,a5,()),(a6,a7,a8,a9,a10,a11,()),()),())=rL a0 a1 a2 a3 a4 a5 a6 a7 a8 a9 a10 a11:=by kernel_rfl
theorem IZ:HcOk prog 14 (ah fP vT):=by
 refine bK (cs:=yu) (.cons Fv .nil) (lp:=zv) (fn:=Tryz.f14) fP (.done (by kernel_rfl)) vT ?_
 rintro ⟨⟨⟨(a0:Int),(a1:Int),(a2:Int),(a3:Int),(a4:Int),(a5:List bu),⟨⟩⟩,⟨(b0:Int),(b1:Int),(b2:Int),(b3:Int),(b4:Int),(b5:List bu),⟨⟩⟩,⟨⟩⟩,⟨⟩⟩ out hw ho
 cases ho
 refine (FQ a0 a1 a2 a3 a4 a5 b0 b1 b2 b3 b4 b5).trans ?_
 show _=oR ((eB (a0,a1,a2,a3,a4,a5,()) (b0,b1,b2,b3,b4,b5,()),()),())
 have fin:∀c:Bool,(c=true↔((a0,a1,a2,a3,a4,a5,()):fZ)=(b0,b1,b2,b3,b4,b5,()))→some (Out.ret ((c,()),()):fP.Res)=oR ((eB (a0,a1,a2,a3,a4,a5,()) (b0,b1,b2,b3,b4,b5,()),()),()):=by
  intro c hc
  have:c=eB (a0,a1,a2,a3,a4,a5,()) (b0,b1,b2,b3,b4,b5,()):=Bool.eq_iff_iff.2 (hc.trans mm.symm)
  rw[this]
 unfold rL
 by_cases h0:a0=b0
 rotate_left
 ·exact (aa (by simpa using h0) _ _).trans (fin false (zO fun h=>h0 (congrArg Prod.fst h)))
 refine bF (by simpa using h0) ?_
 by_cases h1:a1=b1
 rotate_left
 ·exact (aa (by simpa using h1) _ _).trans (fin false (zO fun h=>h1 (congrArg (fun x:fZ=>x.2.1) h)))
 refine bF (by simpa using h1) ?_
 by_cases h2:a2=b2
 rotate_left
 ·exact (aa (by simpa using h2) _ _).trans (fin false (zO fun h=>h2 (congrArg (fun x:fZ=>x.2.2.1) h)))
 refine bF (by simpa using h2) ?_
 by_cases h3:a3=b3
 rotate_left
 ·exact (aa (by simpa using h3) _ _).trans (fin false (zO fun h=>h3 (congrArg (fun x:fZ=>x.2.2.2.1) h)))
 refine bF (by simpa using h3) ?_
 by_cases h4:a4=b4
 rotate_left
 ·exact (aa (by simpa using h4) _ _).trans (fin false (zO fun h=>h4 (congrArg (fun x:fZ=>x.2.2.2.2.1) h)))
 refine (ac (by simpa using h4) _ _).trans (fin _ ?_)
 rw[bJ]
 constructor
 ·intro h
  rw[h0,h1,h2,h3,h4,h]
 ·intro h
  exact congrArg (fun x:fZ=>x.2.2.2.2.2.1) h
abbrev kS:Io:=⟨[dL,dI,dI],[],[],[jx],none⟩
def CK (d:kS.In):Tr kS.Res:=.ite (decide ((0:Int)≤d.1.2.2.1)&&decide (d.1.2.2.1≤(8:Int))) (.ret (.ret (((al d.1.1 d.1.2.1 d.1.2.2.1).1,()),()))) .no
abbrev Ho:List (Nat×Hc):=[(108,ah fo rg)]
def Ni:Hd:=br Ho
def Iu:Lp:=bA []
def GR (a0:LI)(a1 a2:Int):Option kS.Res:=bif decide (0≤a2)&&decide (a2≤8) then oR (((al a0 a1 a2).1,()),()) else none
theorem Ml (a0:LI)(a1 a2:Int):Io.run tt Ni dr Iu kS Tryz.f75 ((a0,a1,a2,()),())=GR a0 a1 a2:=by kernel_rfl
theorem I1:HcOk prog 75 (ah kS CK):=by
 refine bK (cs:=Ho) (.cons Fo .nil) (lp:=Iu) (fn:=Tryz.f75) kS (.done (by kernel_rfl)) CK ?_
 rintro ⟨⟨(b:LI),(p:Int),(n:Int),⟨⟩⟩,⟨⟩⟩ out hw ho
 obtain ⟨hg,ho⟩:=Tr.guard ho
 cases ho
 refine (Ml b p n).trans ?_
 exact aa hg _ _
abbrev iG:Io:=⟨[jx,OO,Bw],[],[],[dB],none⟩
def A9 (d:iG.In):Tr iG.Res:=.ret (.ret ((!aL d.1.1 d.1.2.1 d.1.2.2.1,()),()))
abbrev Dn:List (Nat×Hc):=[]
def Lb:Hd:=br Dn
def Ef:Lp:=bA []
def ut (a0 a1 a2:Int):Option iG.Res:=bif decide (a0<0) then bif a0 == -1 then bif a1 == -1 then oR ((a2 == -1,()),()) else oR ((false,()),()) else oR ((false,()),()) else bif decide (0≤a1) then oR ((decide (0≤a2),()),()) else oR ((false,()),())
theorem JF (a0 a1 a2:Int):Io.run tt Lb dr Ef iG Tryz.f43 ((a0,a1,a2,()),())=ut a0 a1 a2:=by kernel_rfl
theorem LO:HcOk prog 43 (ah iG A9):=by
 refine bK (cs:=Dn) HcsOk.nil (lp:=Ef) (fn:=Tryz.f43) iG (.done (by kernel_rfl)) A9 ?_
 rintro ⟨⟨(pid:Int),(ep:Int),(sq:Int),⟨⟩⟩,⟨⟩⟩ out hw ho
 cases ho
 refine (JF pid ep sq).trans ?_
 show _=oR ((!(if pid = -1∧ep = -1∧sq = -1∨0≤pid∧0≤ep∧0≤sq then false else true),()),())
 have key:∀c:Prop,[Decidable c]→∀b:Bool,(b=true↔c)→some (Out.ret ((b,()),()):iG.Res)=oR ((!(if c then false else true),()),()):=by
  intro c _ b h
  by_cases hc:c
  ·rw[if_pos hc,h.2 hc];rfl
  ·rw[if_neg hc]
   cases b with
   |false=>rfl
   |true=>exact absurd (h.1 rfl) hc
 unfold ut
 by_cases h1:pid<0
 ·refine bT (decide_eq_true h1) ?_
  by_cases h2:pid = -1
  ·refine bT (by simp[h2]) ?_
   by_cases h3:ep = -1
   ·refine bT (by simp[h3]) ?_
    exact key _ _ (by simp;omega)
   ·refine bF (by simp[h3]) ?_
    exact key _ _ (by simp;omega)
  ·refine bF (by simp[h2]) ?_
   exact key _ _ (by simp;omega)
 ·refine bF (decide_eq_false h1) ?_
  by_cases h2:0≤ep
  ·refine bT (decide_eq_true h2) ?_
   exact key _ _ (by simp;omega)
  ·refine bF (decide_eq_false h2) ?_
   exact key _ _ (by simp;omega)
def b9 (a b:Int):Int×Bool:=if aG (a - b)=true then (a - b,true) else (0,false)
abbrev gb:Io:=⟨[jx,jx],[],[],[jx,dB],none⟩
def Bb (d:gb.In):Tr gb.Res:=.ret (.ret (((b9 d.1.1 d.1.2.1).1,(b9 d.1.1 d.1.2.1).2,()),()))
abbrev Dp:List (Nat×Hc):=[]
def Lc:Hd:=br Dp
def Eg:Lp:=bA []
def uw (a0 a1:Int):Option gb.Res:=bif decide (0≤a1) then bif decide (a0<i64.wrap (-9223372036854775808+a1)) then oR ((0,false,()),()) else bif decide (a1<0) then bif decide (i64.wrap (9223372036854775807+a1)<a0) then oR ((0,false,()),()) else oR ((i64.wrap (a0 - a1),true,()),()) else oR ((i64.wrap (a0 - a1),true,()),()) else bif decide (a1<0) then bif decide (i64.wrap (9223372036854775807+a1)<a0) then oR ((0,false,()),()) else oR ((i64.wrap (a0 - a1),true,()),()) else oR ((i64.wrap (a0 - a1),true,()),())
theorem JH (a0 a1:Int):Io.run tt Lc dr Eg gb Tryz.f79 ((a0,a1,()),())=uw a0 a1:=by kernel_rfl
theorem LQ:HcOk prog 79 (ah gb Bb):=by
 refine bK (cs:=Dp) HcsOk.nil (lp:=Eg) (fn:=Tryz.f79) gb (.done (by kernel_rfl)) Bb ?_
 rintro ⟨⟨(a:Int),(b:Int),⟨⟩⟩,⟨⟩⟩ out hw ho
 cases ho
 refine (JH a b).trans ?_
 have ha:bi .i64 a:=hw.1.1
 have hb:bi .i64 b:=hw.1.2.1
 have ha:=gE ha
 have hb:=gE hb
 show _=oR (((b9 a b).1,(b9 a b).2,()),())
 unfold uw
 have fin:aG (a - b)=true→some (Out.ret ((i64.wrap (a - b),true,()),()):gb.Res)=oR (((b9 a b).1,(b9 a b).2,()),()):=by
  intro h
  have e:b9 a b=(a - b,true):=by unfold b9;rw[if_pos h]
  rw[e,af (fC.1 h).1 (fC.1 h).2]
 have fin2:aG (a - b)=false→some (Out.ret ((0,false,()),()):gb.Res)=oR (((b9 a b).1,(b9 a b).2,()),()):=by
  intro h
  have e:b9 a b=(0,false):=by unfold b9;rw[if_neg (by rw[h];exact fun h=>by cases h)]
  rw[e]
 have fy:(-9223372036854775808≤a - b∧a - b≤9223372036854775807)→aG (a - b)=true:=fun h=>fC.2 h
 have fn:¬(-9223372036854775808≤a - b∧a - b≤9223372036854775807)→aG (a - b)=false:=fun h=>by
  cases h2:aG (a - b) with
  |false=>rfl
  |true=>exact absurd (fC.1 h2) h
 by_cases h0:0≤b
 ·refine bT (decide_eq_true h0) ?_
  rw[af (n:=-9223372036854775808+b) (by omega) (by omega)]
  by_cases h1:a < -9223372036854775808+b
  ·exact (aa (decide_eq_true h1) _ _).trans (fin2 (fn (by omega)))
  ·refine bF (decide_eq_false h1) ?_
   exact (ac (decide_eq_false (by omega)) _ _).trans (fin (fy (by omega)))
 ·refine bF (decide_eq_false h0) ?_
  refine bT (decide_eq_true (show b<0 by omega)) ?_
  rw[af (n:=9223372036854775807+b) (by omega) (by omega)]
  by_cases h1:9223372036854775807+b<a
  ·exact (aa (decide_eq_true h1) _ _).trans (fin2 (fn (by omega)))
  ·exact (ac (decide_eq_false h1) _ _).trans (fin (fy (by omega)))
abbrev gU:Io:=⟨[yx],[],[],[jx],none⟩
def vU (d:gU.In):Tr gU.Res:=.ret (.ret ((fb d.1.1,()),()))
abbrev rT:List (Nat×Hc):=[]
def yR:Hd:=br rT
abbrev cT:Lo:=⟨⟨(.one (.hol (.sl 49 ba))::bt (.one hI::.one hI::.any::aj (bt []))),[]⟩,[(.exit 0,⟨(.any::bt (.one hI::aj (bO []))),[]⟩)]⟩
def ji (d:cT.st.den):Tr (ao cT.xs):=.ite (decide (d.1.2.2.1=(0:Int))) (.ret (.ret ((),((df d.1.1 d.1.2.1,()),())))) .no
def oh:Lp:=bA [(4,aD cT ji)]
def oN {R:Type}(h1:List ba.den)(h2 h3:Int)(next:List ba.den→Int→Int→Option R)(out:ao cT.xs→Option R):Option R:=bif decide (h3<(↑h1.length:Int)) then bif decide (0≤h3)&&decide (h3<(↑h1.length:Int)) then bif decide (h2<(h1.getD h3.toNat (0,(false,[],()),(false,[],()),[],())).1) then bif decide (0≤h3)&&decide (h3<(↑h1.length:Int)) then next (h1) ((h1.getD h3.toNat (0,(false,[],()),(false,[],()),[],())).1) (i64.wrap (h3+1)) else none else next (h1) (h2) (i64.wrap (h3+1)) else none else out (.ret ((),((h2,()),())))
def nf (n:Nat)(h1:List ba.den)(h2 h3:Int):Option (ao cT.xs):=ik tt yR dr oh 0 Tryz.f23 (cb Tryz.f23 0) n (cT.st.mk' ((h1,(h2,(h3,()))),())) (bG cT.xs)
theorem Cj (n:Nat)(h1:List ba.den)(h2 h3:Int):nf (n+1) h1 h2 h3=oN h1 h2 h3 (nf n) some:=by kernel_rfl
theorem wG (rs:List bu)(hl:rs.length≤maxLen):∀(k i:Nat) (t:Int),rs.length<i+k→i≤rs.length→nf k rs t i=some (.ret ((),((df (rs.drop i) t,()),()))):=by
 intro k
 induction k with
 |zero=>intro i t h;omega
 |succ k ih=>
  intro i t h1 h2
  rw[Cj]
  unfold oN
  by_cases hi:i<rs.length
  ·refine bT (by simpa using hi) ?_
   refine bT (by simpa using hi) ?_
   have e:List.getD rs (i:Int).toNat (0,(false,[],()),(false,[],()),[],())=rs[i]:=by simp only[zG,aF hi]
   rw[e,aQ hi hl,zE hi]
   have e2:df (rs[i]::rs.drop (i+1)) t=df (rs.drop (i+1)) (dg t rs[i].1):=rfl
   rw[e2]
   unfold dg
   by_cases hc:t<rs[i].1
   ·refine bT (decide_eq_true hc) ?_
    refine bT (by simpa using hi) ?_
    rw[if_pos hc]
    exact ih (i+1) _ (by omega) (by omega)
   ·refine bF (decide_eq_false hc) ?_
    rw[if_neg hc]
    exact ih (i+1) _ (by omega) (by omega)
  ·refine bF (by simp;omega) ?_
   rw[zI (by omega)]
   rfl
def rM (a0:List ba.den):Option gU.Res:=(ji ((a0,(-9223372036854775808,(0,()))),())).run fun y=>match y with | .ret ((),((x11,()),()))=>(oR ((x11,()),()))
theorem FR (a0:List ba.den):Io.run tt yR dr oh gU Tryz.f23 ((a0,()),())=rM a0:=by kernel_rfl
theorem I0:HcOk prog 23 (ah gU vU):=by
 refine bK (cs:=rT) HcsOk.nil (lp:=oh) (fn:=Tryz.f23) gU (.step (h0:=aD cT ji) (by kernel_rfl) (iK (cs:=rT) HcsOk.nil (lp:=oh) (fn:=Tryz.f23) (.done (by kernel_rfl)) cT ji ?_) (.done (by kernel_rfl))) vU ?_
 ·rintro ⟨⟨(rs:List bu),(t:Int),(i:Int),⟨⟩⟩,⟨⟩⟩ y hw hy
  obtain ⟨hg,hy⟩:=Tr.guard hy
  have h1:i=0:=of_decide_eq_true hg
  subst h1
  refine ⟨rs.length+1,(wG rs hw.1.1.1 (rs.length+1) 0 t (by omega) (by omega)).trans ?_⟩
  rw[← hy];rfl
 ·rintro ⟨⟨(rs:List bu),⟨⟩⟩,⟨⟩⟩ out hw ho
  cases ho
  refine (FR rs).trans ?_
  show _=oR ((fb rs,()),())
  unfold rM ji
  refine (aa rfl _ _).trans ?_
  cases rs with
  |nil=>rfl
  |cons r rs=>
   have hr:bi .i64 r.1:=(hw.1.1.2 r (by simp)).1
   have hr:=gE hr
   have e:df (r::rs) (-9223372036854775808)=df rs r.1:=by
    show df rs (dg (-9223372036854775808) r.1)=_
    unfold dg
    by_cases h:r.1 > -9223372036854775808
    ·rw[if_pos h]
    ·rw[if_neg h]
     have:r.1 = -9223372036854775808:=by omega
     rw[this]
   exact congrArg (fun x=>oR ((x,()),())) e
theorem oC {b:LI}{p n:Nat}(h:p+n≤b.length):(al b (p:Int) (n:Int)).1=ap b p n:=by
 unfold al ap
 rw[if_neg (by omega),zG,zG]
abbrev jV:Io:=⟨[dL,dI],[],[],[dI,dI],none⟩
def A8 (d:jV.In):Tr jV.Res:=.ret (.ret (((aA d.1.1 d.1.2.1).1,(aA d.1.1 d.1.2.1).2,()),()))
abbrev Dm:List (Nat×Hc):=[(75,ah kS CK)]
def La:Hd:=br Dm
def Ee:Lp:=bA []
def ur (a0:LI)(a1:Int):Option jV.Res:=bif decide (a1<0) then oR ((0,3,()),()) else bif decide ((↑a0.length:Int)<a1) then oR ((0,3,()),()) else bif decide (i64.wrap ((↑a0.length:Int) - a1)<12) then oR ((0,1,()),()) else bif decide ((al a0 (i64.wrap (a1+8)) 4).1<49) then oR ((0,5,()),()) else bif decide (35988<(al a0 (i64.wrap (a1+8)) 4).1) then oR ((0,4,()),()) else bif decide (i64.wrap (i64.wrap ((↑a0.length:Int) - a1) - 12)<(al a0 (i64.wrap (a1+8)) 4).1) then oR ((0,1,()),()) else oR ((i64.wrap ((al a0 (i64.wrap (a1+8)) 4).1+12),0,()),())
theorem JE (a0:LI)(a1:Int):Io.run tt La dr Ee jV Tryz.f74 ((a0,a1,()),())=ur a0 a1:=by kernel_rfl
theorem LN:HcOk prog 74 (ah jV A8):=by
 refine bK (cs:=Dm) (.cons I1 .nil) (lp:=Ee) (fn:=Tryz.f74) jV (.done (by kernel_rfl)) A8 ?_
 rintro ⟨⟨(b:LI),(p:Int),⟨⟩⟩,⟨⟩⟩ out hw ho
 cases ho
 refine (JE b p).trans ?_
 have hl:b.length≤9223372036854775807:=hw.1.1.1
 show _=oR (((aA b p).1,(aA b p).2,()),())
 unfold ur aA
 by_cases h1:p<0
 ·refine bT (decide_eq_true h1) ?_
  rw[if_pos (.inl h1)]
 refine bF (decide_eq_false h1) ?_
 by_cases h2:(b.length:Int)<p
 ·refine bT (decide_eq_true h2) ?_
  rw[if_pos (.inr h2)]
 refine bF (decide_eq_false h2) ?_
 rw[if_neg (by omega),af (n:=(b.length:Int) - p) (by omega) (by omega)]
 by_cases h3:(b.length:Int) - p<12
 ·refine bT (decide_eq_true h3) ?_
  rw[if_pos h3]
 refine bF (decide_eq_false h3) ?_
 obtain ⟨p,rfl⟩:=aq (show 0≤p by omega)
 have e:(al b (i64.wrap ((p:Int)+8)) 4).1=ap b (p+8) 4:=by
  rw[af (n:=(p:Int)+8) (by omega) (by omega)]
  exact oC (b:=b) (p:=p+8) (n:=4) (by omega)
 rw[if_neg h3,e,zG,af (n:=(b.length:Int) - p - 12) (by omega) (by omega)]
 by_cases h4:ap b (p+8) 4<49
 ·refine bT (decide_eq_true h4) ?_
  rw[if_pos h4]
 refine bF (decide_eq_false h4) ?_
 rw[if_neg h4]
 by_cases h5:35988<ap b (p+8) 4
 ·refine bT (decide_eq_true h5) ?_
  rw[if_pos h5]
 refine bF (decide_eq_false h5) ?_
 rw[if_neg h5]
 by_cases h6:(b.length:Int) - p - 12<ap b (p+8) 4
 ·refine bT (decide_eq_true h6) ?_
  rw[if_pos h6]
 refine bF (decide_eq_false h6) ?_
 rw[if_neg h6,af (n:=ap b (p+8) 4+12) (by omega) (by omega)]
def Cw (a0:LI):Option (Out ((tL×Int×Unit)×Unit) Empty):=bif decide (0≤22)&&decide (22<(↑a0.length:Int)) then bif decide ((al a0 0 8).1<0) then oR (((0,0,0,false,0,0,0,0,0,0,()),80,()),()) else bif decide (4611686018427387648<(al a0 0 8).1) then oR (((0,0,0,false,0,0,0,0,0,0,()),80,()),()) else bif decide (0≤21)&&decide (21<(↑a0.length:Int)) then bif a0.getD (Int.toNat 21) 0 != 0 then oR (((0,0,0,false,0,0,0,0,0,0,()),83,()),()) else bif decide (0≤22)&&decide (22<(↑a0.length:Int)) then bif decide (1<a0.getD (Int.toNat 22) 0) then oR (((0,0,0,false,0,0,0,0,0,0,()),83,()),()) else bif !!aL (al a0 43 8).1 (i16.wrap (al a0 51 2).1) (i32.wrap (al a0 53 4).1) then oR (((0,0,0,false,0,0,0,0,0,0,()),84,()),()) else bif decide ((al a0 57 4).1<1) then oR (((0,0,0,false,0,0,0,0,0,0,()),85,()),()) else bif decide (256<(al a0 57 4).1) then oR (((0,0,0,false,0,0,0,0,0,0,()),9,()),()) else bif (al a0 23 4).1 != i64.wrap ((al a0 57 4).1 - 1) then oR (((0,0,0,false,0,0,0,0,0,0,()),72,()),()) else oR ((((al a0 0 8).1,(↑a0.length:Int),i32.wrap (al a0 12 4).1,a0.getD (Int.toNat 22) 0 == 1,(al a0 57 4).1,(al a0 27 8).1,(al a0 35 8).1,(al a0 43 8).1,i16.wrap (al a0 51 2).1,i32.wrap (al a0 53 4).1,()),0,()),()) else none else none else none
theorem Gi {b:LI}(hb:∀c∈b,0≤c∧c≤255){p:Nat}(h:p+2≤b.length):i16.wrap (ap b p 2)=ap b p 2:=by
 unfold ap
 rw[← EI (iL hb p 2) (fG h)]
 exact bD (bQ _ _)
theorem vt {b:LI}(hb:∀c∈b,0≤c∧c≤255){p:Nat}(h:p+4≤b.length):i32.wrap (ap b p 4)=ap b p 4:=by
 unfold ap
 rw[← qX (iL hb p 4) (fG h)]
 exact bD (bQ _ _)
theorem Gj {b:LI}(hb:∀c∈b,0≤c∧c≤255)(hl:61≤b.length):
  Cw b=some (.ret ((if aK (ap b 0 8)=true then (bc,(80,())) else if b.getD 21 0≠0∨1<b.getD 22 0 then (bc,(83,())) else if aL (ap b 43 8) (ap b 51 2) (ap b 53 4)=true then (bc,(84,())) else if ap b 57 4<1 then (bc,(85,())) else if 256<ap b 57 4 then (bc,(9,())) else if ap b 23 4≠ap b 57 4 - 1 then (bc,(72,())) else (hM b,(0,()))),())):=by
 have hz:∀p n:Nat,p+n≤61→(al b (p:Int) (n:Int)).1=ap b p n:=fun p n h=>oC (by omega)
 have z0:(al b 0 8).1=ap b 0 8:=hz 0 8 (by decide)
 have z12:(al b 12 4).1=ap b 12 4:=hz 12 4 (by decide)
 have z23:(al b 23 4).1=ap b 23 4:=hz 23 4 (by decide)
 have z27:(al b 27 8).1=ap b 27 8:=hz 27 8 (by decide)
 have z35:(al b 35 8).1=ap b 35 8:=hz 35 8 (by decide)
 have z43:(al b 43 8).1=ap b 43 8:=hz 43 8 (by decide)
 have z51:(al b 51 2).1=ap b 51 2:=hz 51 2 (by decide)
 have z53:(al b 53 4).1=ap b 53 4:=hz 53 4 (by decide)
 have z57:(al b 57 4).1=ap b 57 4:=hz 57 4 (by decide)
 have w51:=Gi hb (p:=51) (by omega)
 have w53:=vt hb (p:=53) (by omega)
 have w12:=vt hb (p:=12) (by omega)
 unfold Cw
 rw[z0,z12,z23,z27,z35,z43,z51,z53,z57,w51,w53,w12]
 have hI:hM b=(ap b 0 8,(b.length:Int),ap b 12 4,decide (b.getD 22 0=1),ap b 57 4,ap b 27 8,ap b 35 8,ap b 43 8,ap b 51 2,ap b 53 4,()):=rfl
 have hB:aK (ap b 0 8)=(decide (ap b 0 8<0) || decide (4611686018427387648<ap b 0 8)):=rfl
 have hxy:(b.getD (Int.toNat 22) 0 == 1)=decide (b.getD 22 0=1):=by
  show (b.getD 22 0 == 1)=_
  by_cases h:b.getD 22 0=1
  ·rw[h];rfl
  ·rw[decide_eq_false h];exact beq_eq_false_iff_ne.2 h
 rw[hI,hB,hxy,show Int.toNat 21=21 from rfl,show Int.toNat 22=22 from rfl]
 generalize b.getD 21 0=x at *
 generalize b.getD 22 0=y at *
 generalize ap b 0 8=base at *
 generalize ap b 57 4=cnt at *
 generalize ap b 23 4=mst at *
 refine bT (by simp only[zA,zB];omega) ?_
 by_cases c0:base<0
 ·refine bT (decide_eq_true c0) ?_
  rw[if_pos (by rw[decide_eq_true c0];rfl)]
  rfl
 refine bF (decide_eq_false c0) ?_
 by_cases c1:4611686018427387648<base
 ·refine bT (decide_eq_true c1) ?_
  rw[if_pos (by rw[decide_eq_true c1,Bool.or_true])]
  rfl
 refine bF (decide_eq_false c1) ?_
 rw[if_neg (by rw[decide_eq_false c0,decide_eq_false c1];decide)]
 refine bT (by simp only[zA,zB];omega) ?_
 by_cases c2:x=0
 rotate_left
 ·refine bT (by simpa using c2) ?_
  rw[if_pos (.inl c2)]
  rfl
 refine bF (by simpa using c2) ?_
 refine bT (by simp only[zA,zB];omega) ?_
 by_cases c3:1<y
 ·refine bT (decide_eq_true c3) ?_
  rw[if_pos (.inr c3)]
  rfl
 refine bF (decide_eq_false c3) ?_
 rw[if_neg (by rintro (h | h);exact h c2;exact c3 h)]
 cases c3:aL (ap b 43 8) (ap b 51 2) (ap b 53 4) with
 |true=>exact (aa rfl _ _)
 |false=>
 refine (ac rfl _ _).trans ?_
 rw[if_neg (show ¬ false=true by decide)]
 by_cases c4:cnt<1
 ·refine bT (decide_eq_true c4) ?_
  rw[if_pos c4]
  rfl
 refine bF (decide_eq_false c4) ?_
 rw[if_neg c4]
 by_cases c5:256<cnt
 ·refine bT (decide_eq_true c5) ?_
  rw[if_pos c5]
  rfl
 refine bF (decide_eq_false c5) ?_
 rw[if_neg c5,af (n:=cnt - 1) (by omega) (by omega)]
 by_cases c6:mst=cnt - 1
 ·refine bF (by simpa using c6) ?_
  rw[if_neg (aC c6)]
 ·refine bT (by simpa using c6) ?_
  rw[if_pos c6]
  rfl
abbrev iF:Io:=⟨[dL,dB],[],[],[Hq,dI],none⟩
def A7 (d:iF.In):Tr iF.Res:=.ret (.ret (((ai d.1.1 d.1.2.1).1,(ai d.1.1 d.1.2.1).2,()),()))
abbrev Dl:List (Nat×Hc):=[(74,ah jV A8),(75,ah kS CK),(43,ah iG A9),(31,ah iU tJ),(62,ah eo ny),(63,ah gK vA)]
def K9:Hd:=br Dl
def Ed:Lp:=bA []
def uq (a0:LI)(a1:Bool):Option iF.Res:=bif decide ((↑a0.length:Int)<61) then oR (((0,0,0,false,0,0,0,0,0,0,()),1,()),()) else bif (aA a0 0).2 != 0 then oR (((0,0,0,false,0,0,0,0,0,0,()),(aA a0 0).2,()),()) else bif decide ((aA a0 0).1<(↑a0.length:Int)) then oR (((0,0,0,false,0,0,0,0,0,0,()),2,()),()) else bif decide (0≤16)&&decide (16<(↑a0.length:Int)) then bif a0.getD (Int.toNat 16) 0 != 2 then oR (((0,0,0,false,0,0,0,0,0,0,()),81,()),()) else bif a1 then bif decide (0≤17)&&(decide (17≤21)&&decide (21≤(↑a0.length:Int))) then bif decide (0≤21)&&(decide (21≤(↑a0.length:Int))&&decide ((↑a0.length:Int)≤(↑a0.length:Int))) then bif !decide (List.drop (Int.toNat 17) (List.take (Int.toNat 21) a0)=ay (i64.wrap (cC 0 (List.drop (Int.toNat 21) (List.take (↑a0.length:Int).toNat a0)))) (Int.toNat 4)) then oR (((0,0,0,false,0,0,0,0,0,0,()),82,()),()) else bif decide (0≤22)&&decide (22<(↑a0.length:Int)) then bif decide ((al a0 0 8).1<0) then oR (((0,0,0,false,0,0,0,0,0,0,()),80,()),()) else bif decide (4611686018427387648<(al a0 0 8).1) then oR (((0,0,0,false,0,0,0,0,0,0,()),80,()),()) else bif decide (0≤21)&&decide (21<(↑a0.length:Int)) then bif a0.getD (Int.toNat 21) 0 != 0 then oR (((0,0,0,false,0,0,0,0,0,0,()),83,()),()) else bif decide (0≤22)&&decide (22<(↑a0.length:Int)) then bif decide (1<a0.getD (Int.toNat 22) 0) then oR (((0,0,0,false,0,0,0,0,0,0,()),83,()),()) else bif !!aL (al a0 43 8).1 (i16.wrap (al a0 51 2).1) (i32.wrap (al a0 53 4).1) then oR (((0,0,0,false,0,0,0,0,0,0,()),84,()),()) else bif decide ((al a0 57 4).1<1) then oR (((0,0,0,false,0,0,0,0,0,0,()),85,()),()) else bif decide (256<(al a0 57 4).1) then oR (((0,0,0,false,0,0,0,0,0,0,()),9,()),()) else bif (al a0 23 4).1 != i64.wrap ((al a0 57 4).1 - 1) then oR (((0,0,0,false,0,0,0,0,0,0,()),72,()),()) else oR ((((al a0 0 8).1,(↑a0.length:Int),i32.wrap (al a0 12 4).1,a0.getD (Int.toNat 22) 0 == 1,(al a0 57 4).1,(al a0 27 8).1,(al a0 35 8).1,(al a0 43 8).1,i16.wrap (al a0 51 2).1,i32.wrap (al a0 53 4).1,()),0,()),()) else none else none else none else none else none else bif decide (0≤22)&&decide (22<(↑a0.length:Int)) then bif decide ((al a0 0 8).1<0) then oR (((0,0,0,false,0,0,0,0,0,0,()),80,()),()) else bif decide (4611686018427387648<(al a0 0 8).1) then oR (((0,0,0,false,0,0,0,0,0,0,()),80,()),()) else bif decide (0≤21)&&decide (21<(↑a0.length:Int)) then bif a0.getD (Int.toNat 21) 0 != 0 then oR (((0,0,0,false,0,0,0,0,0,0,()),83,()),()) else bif decide (0≤22)&&decide (22<(↑a0.length:Int)) then bif decide (1<a0.getD (Int.toNat 22) 0) then oR (((0,0,0,false,0,0,0,0,0,0,()),83,()),()) else bif !!aL (al a0 43 8).1 (i16.wrap (al a0 51 2).1) (i32.wrap (al a0 53 4).1) then oR (((0,0,0,false,0,0,0,0,0,0,()),84,()),()) else bif decide ((al a0 57 4).1<1) then oR (((0,0,0,false,0,0,0,0,0,0,()),85,()),()) else bif decide (256<(al a0 57 4).1) then oR (((0,0,0,false,0,0,0,0,0,0,()),9,()),()) else bif (al a0 23 4).1 != i64.wrap ((al a0 57 4).1 - 1) then oR (((0,0,0,false,0,0,0,0,0,0,()),72,()),()) else oR ((((al a0 0 8).1,(↑a0.length:Int),i32.wrap (al a0 12 4).1,a0.getD (Int.toNat 22) 0 == 1,(al a0 57 4).1,(al a0 27 8).1,(al a0 35 8).1,(al a0 43 8).1,i16.wrap (al a0 51 2).1,i32.wrap (al a0 53 4).1,()),0,()),()) else none else none else none else none
theorem JD (a0:LI)(a1:Bool):Io.run tt K9 dr Ed iF Tryz.f39 ((a0,a1,()),())=uq a0 a1:=by kernel_rfl
theorem LM:HcOk prog 39 (ah iF A7):=by
 refine bK (cs:=Dl) (.cons LN (.cons I1 (.cons LO (.cons wW (.cons vh (.cons IE .nil)))))) (lp:=Ed) (fn:=Tryz.f39) iF (.done (by kernel_rfl)) A7 ?_
 rintro ⟨⟨(b:LI),(sm:Bool),⟨⟩⟩,⟨⟩⟩ out hw ho
 cases ho
 have hb:∀c∈b,0≤c∧c≤255:=dj hw.1.1
 refine (JD b sm).trans ?_
 show _=oR (((ai b sm).1,(ai b sm).2,()),())
 have eE:aJ b sm=if (b.length:Int)<61 then 1 else if (aA b 0).2≠0 then (aA b 0).2 else if (aA b 0).1<(b.length:Int) then 2 else if b.getD 16 0≠2 then 81 else if sm=true∧gg b=false then 82
   else if aK (ap b 0 8)=true then 80 else if b.getD 21 0≠0∨1<b.getD 22 0 then 83 else if aL (ap b 43 8) (ap b 51 2) (ap b 53 4)=true then 84 else if ap b 57 4<1 then 85 else if 256<ap b 57 4 then 9 else if ap b 23 4≠ap b 57 4 - 1 then 72 else 0:=rfl
 have fin:∀e:Int,e≠0→aJ b sm=e→some (Out.ret ((bc,(e,())),()):iF.Res)=oR (((ai b sm).1,(ai b sm).2,()),()):=by
  intro e he h
  have:ai b sm=(bc,e):=by unfold ai;rw[h,if_pos he]
  rw[this]
 unfold uq
 by_cases h1:(b.length:Int)<61
 ·refine bT (decide_eq_true h1) ?_
  exact fin 1 (by decide) (by rw[eE,if_pos h1])
 refine bF (decide_eq_false h1) ?_
 rw[if_neg h1] at eE
 by_cases h2:(aA b 0).2=0
 rotate_left
 ·refine bT (by simpa using h2) ?_
  exact fin _ h2 (by rw[eE,if_pos h2])
 refine bF (by simpa using h2) ?_
 rw[if_neg (aC h2)] at eE
 by_cases h3:(aA b 0).1<(b.length:Int)
 ·refine bT (decide_eq_true h3) ?_
  exact fin 2 (by decide) (by rw[eE,if_pos h3])
 refine bF (decide_eq_false h3) ?_
 rw[if_neg h3] at eE
 refine bT (by simp only[zA,zB];omega) ?_
 rw[show Int.toNat 16=16 from rfl]
 by_cases h4:b.getD 16 0=2
 rotate_left
 ·refine bT (by simpa using h4) ?_
  exact fin 81 (by decide) (by rw[eE,if_pos h4])
 refine bF (by simpa using h4) ?_
 rw[if_neg (aC h4)] at eE
 have hT:=Gj hb (by omega)
 have fin2:¬(sm=true∧gg b=false)→Cw b=oR (((ai b sm).1,(ai b sm).2,()),()):=by
  intro hn
  rw[if_neg hn] at eE
  rw[hT]
  have hs:ai b sm=if aJ b sm≠0 then (bc,aJ b sm) else (hM b,0):=rfl
  rw[hs,eE]
  by_cases d1:aK (ap b 0 8)=true
  ·rw[if_pos d1,if_pos d1,if_pos (by decide)]
  rw[if_neg d1,if_neg d1]
  by_cases d2:b.getD 21 0≠0∨1<b.getD 22 0
  ·rw[if_pos d2,if_pos d2,if_pos (by decide)]
  rw[if_neg d2,if_neg d2]
  by_cases d3:aL (ap b 43 8) (ap b 51 2) (ap b 53 4)=true
  ·rw[if_pos d3,if_pos d3,if_pos (by decide)]
  rw[if_neg d3,if_neg d3]
  by_cases d4:ap b 57 4<1
  ·rw[if_pos d4,if_pos d4,if_pos (by decide)]
  rw[if_neg d4,if_neg d4]
  by_cases d5:256<ap b 57 4
  ·rw[if_pos d5,if_pos d5,if_pos (by decide)]
  rw[if_neg d5,if_neg d5]
  by_cases d6:ap b 23 4≠ap b 57 4 - 1
  ·rw[if_pos d6,if_pos d6,if_pos (by decide)]
  rw[if_neg d6,if_neg d6,if_neg (by decide)]
 cases sm with
 |false=>
  refine (ac rfl _ _).trans ?_
  exact fin2 (fun h=>by cases h.1)
 |true=>
  refine (aa rfl _ _).trans ?_
  rw[zG,List.take_length,show Int.toNat 21=21 from rfl,show Int.toNat 17=17 from rfl]
  refine bT (by simp only[zA,zB];omega) ?_
  refine bT (by simp only[zA,zB];omega) ?_
  have hc:=Ap 0 (b:=b.drop 21) (by decide) (fun x h=>hb x (List.mem_of_mem_drop h))
  have e17:List.drop 17 (List.take 21 b)=(b.drop 17).take 4:=by rw[List.drop_take]
  rw[af (by omega) (by omega),e17]
  have hS:gg b=if (b.drop 17).take 4=ay (cC 0 (b.drop 21)) 4 then true else false:=rfl
  by_cases h5:(b.drop 17).take 4=ay (cC 0 (b.drop 21)) 4
  ·rw[if_pos h5] at hS
   refine bF (by rw[show Int.toNat 4=4 from rfl,decide_eq_true h5];rfl) ?_
   exact fin2 (by rw[hS];exact fun h=>by cases h.2)
  ·rw[if_neg h5] at hS
   refine bT (by rw[show Int.toNat 4=4 from rfl,decide_eq_false h5];rfl) ?_
   exact fin 82 (by decide) (by rw[eE,if_pos ⟨rfl,hS⟩])
theorem DH {n:Int}(h : -9223372036854775808≤n)(h':n≤9223372036854775807):bi .i64 n:=by simp[bi,IntKind.min,IntKind.max,IntKind.signed,IntKind.bits];omega
theorem JW (m:Nat)(t:Int)(b:LI)(p:Int):0≤(ab m t b p).1∧(ab m t b p).1<18446744073709551616:=by
 unfold ab
 split
 ·exact ⟨by decide,by decide⟩
 split
 ·simp only;omega
 ·simp only;omega
theorem J3 (b:LI):bi .i64 (aM b).1.1∧bi .i32 (aM b).1.2.1:=by
 have h0:bi .i64 ax.1∧bi .i32 ax.2.1:=⟨DH (n:=0) (by omega) (by omega),(⟨by decide,by decide⟩:bi .i32 0)⟩
 have hz:=JW 10 1 b 1
 have h1:bi .i64 (ak (ab 10 1 b 1).1):=by
  unfold ak
  split
  ·exact DH (by omega) (by omega)
  ·exact DH (by omega) (by omega)
 have h2:bi .i32 (ag b (ab 10 1 b 1).2.1).1:=bQ _ _
 unfold aM
 repeat' split
 all_goals first | exact h0 | exact ⟨h1,h2⟩
theorem J2 (b:LI)(p:Int):bi .i64 (am b p).1.1∧bi .i32 (am b p).1.2.1:=by
 have h0:bi .i64 ax.1∧bi .i32 ax.2.1:=⟨DH (n:=0) (by omega) (by omega),(⟨by decide,by decide⟩:bi .i32 0)⟩
 unfold am
 repeat' split
 all_goals first | exact h0 | exact J3 _
abbrev jW:Io:=⟨[dL,Hq],[],[],[yx,dI],none⟩
def Ba (d:jW.In):Tr jW.Res:=.ite (decide (d.1.2.1.2.2.2.2.1≤(4294960000:Int))) (.ret (.ret (((cF d.1.1 d.1.2.1.2.2.2.2.2.1 d.1.2.1.2.2.2.2.2.2.1 d.1.2.1.2.2.2.2.1.toNat).1,(cF d.1.1 d.1.2.1.2.2.2.2.2.1 d.1.2.1.2.2.2.2.2.2.1 d.1.2.1.2.2.2.2.1.toNat).2,()),()))) .no
abbrev Do:List (Nat×Hc):=[(78,ah jM AW),(79,ah gb Bb),(23,ah gU vU)]
def DF:Hd:=br Do
abbrev db:Lo:=⟨⟨(.one (.hol (.sl 5 (Ty.int u8)))::bt (.one (.ptr 3 0)::bt (.one (.onl 49 ba 13)::.one hI::.one hI::aj (aj (aj (aj (aj (dC (bt []))))))))),[none,none,none,some [hI,hI,hJ,hL,hI,hI,hI,hI,hK,hJ]]⟩,[(.ret,⟨(bO (.one (.onl 49 ba 9)::.one hI::.any::aj (aj (aj (aj (aj (dC (bO [])))))))),[]⟩),(.exit 0,⟨(.one (.hol (.sl 5 (Ty.int u8)))::bt (.one (.ptr 3 0)::bt (.one (.onl 49 ba 13)::.one hI::.any::aj (aj (aj (aj (aj (dC (bt []))))))))),[none,none,none,some [hI,hI,hJ,hL,hI,hI,hI,hI,hK,hJ]]⟩)]⟩
def tp (blk:LI)(z1 z2 z3:Int)(z4:Bool)(z5 z6 z7 z8 z9 z10:Int)(x:List bu×Int×Int):Tr (ao db.xs):=
 .ite (decide (x.2.2≠0)) (.ret (.ret ((),(([],(x.2.2,())),())))) (.ret (.pan (.ret ((),((blk,(x.1,(x.2.1,()))),((z1,(z2,(z3,(z4,(z5,(z6,(z7,(z8,(z9,(z10,())))))))))),()))))))
def kG (d:db.st.den):Tr (ao db.xs):=
 .ite (decide (d.1.2.2.2.1=0)&&(decide (d.1.2.1.length=0)&&decide (d.2.1.2.2.2.2.1≤(4294960000:Int))))
  (tp d.1.1 d.2.1.1 d.2.1.2.1 d.2.1.2.2.1 d.2.1.2.2.2.1 d.2.1.2.2.2.2.1 d.2.1.2.2.2.2.2.1 d.2.1.2.2.2.2.2.2.1 d.2.1.2.2.2.2.2.2.2.1 d.2.1.2.2.2.2.2.2.2.2.1 d.2.1.2.2.2.2.2.2.2.2.2.1 (aI d.1.1 d.2.1.2.2.2.2.2.1 d.2.1.2.2.2.2.1.toNat 0 d.1.2.2.1 [])) .no
def qT:Lp:=bA [(5,aD db kG)]
def lw {R:Type}(h11:LI)(h12:List ba.den)(h13 h14 h15 h16 h17:Int)(h18:Bool)(h19 h20 h21 h22 h23 h24:Int)(next:LI→List ba.den→Int→Int→Int→Int→Int→Bool→Int→Int→Int→Int→Int→Int→Option R)(out:ao db.xs→Option R):Option R:=bif decide (h14<h19) then bif (am h11 h13).2.2 != 0 then out (.ret ((),(([],((am h11 h13).2.2,())),()))) else bif i64.wrap (am h11 h13).1.2.1 != h14 then out (.ret ((),(([],(72,())),()))) else bif (am h11 h13).1.1 == -9223372036854775808 then bif !decide (0≤h20) then out (.ret ((),(([],(86,())),()))) else bif h14 == 0 then bif (am h11 h13).1.1 != 0 then out (.ret ((),(([],(86,())),()))) else bif decide (h12.length+1≤4294967296) then next (h11) (h12++[(i64.wrap (h20+(am h11 h13).1.1),(am h11 h13).1.2.2)]) ((am h11 h13).2.1) (i64.wrap (h14+1)) (h15) (h16) (h17) (h18) (h19) (h20) (h21) (h22) (h23) (h24) else none else bif decide (h12.length+1≤4294967296) then next (h11) (h12++[(i64.wrap (h20+(am h11 h13).1.1),(am h11 h13).1.2.2)]) ((am h11 h13).2.1) (i64.wrap (h14+1)) (h15) (h16) (h17) (h18) (h19) (h20) (h21) (h22) (h23) (h24) else none else bif !(b9 0 (am h11 h13).1.1).2 then out (.ret ((),(([],(86,())),()))) else bif !(b9 h20 (b9 0 (am h11 h13).1.1).1).2 then out (.ret ((),(([],(86,())),()))) else bif h14 == 0 then bif (am h11 h13).1.1 != 0 then out (.ret ((),(([],(86,())),()))) else bif decide (h12.length+1≤4294967296) then next (h11) (h12++[((b9 h20 (b9 0 (am h11 h13).1.1).1).1,(am h11 h13).1.2.2)]) ((am h11 h13).2.1) (i64.wrap (h14+1)) (h15) (h16) (h17) (h18) (h19) (h20) (h21) (h22) (h23) (h24) else none else bif decide (h12.length+1≤4294967296) then next (h11) (h12++[((b9 h20 (b9 0 (am h11 h13).1.1).1).1,(am h11 h13).1.2.2)]) ((am h11 h13).2.1) (i64.wrap (h14+1)) (h15) (h16) (h17) (h18) (h19) (h20) (h21) (h22) (h23) (h24) else none else out (.pan (.ret ((),((h11,(h12,(h13,()))),((h15,(h16,(h17,(h18,(h19,(h20,(h21,(h22,(h23,(h24,())))))))))),())))))
def lL (n:Nat)(h11:LI)(h12:List ba.den)(h13 h14 h15 h16 h17:Int)(h18:Bool)(h19 h20 h21 h22 h23 h24:Int):Option (ao db.xs):=ik tt DF dr qT 0 Tryz.f41 (cb Tryz.f41 0) n (db.st.mk' ((h11,(h12,(h13,(h14,())))),((h15,(h16,(h17,(h18,(h19,(h20,(h21,(h22,(h23,(h24,())))))))))),()))) (bG db.xs)
theorem vk (n:Nat)(h11:LI)(h12:List ba.den)(h13 h14 h15 h16 h17:Int)(h18:Bool)(h19 h20 h21 h22 h23 h24:Int):lL (n+1) h11 h12 h13 h14 h15 h16 h17 h18 h19 h20 h21 h22 h23 h24=lw h11 h12 h13 h14 h15 h16 h17 h18 h19 h20 h21 h22 h23 h24 (lL n) some:=by kernel_rfl
theorem N2 {d f:Int}(hd:bi .i64 d)(hf:bi .i64 f)(hne:d≠-9223372036854775808):b9 0 d=(-d,true)∧b9 f (-d)=(if aG (f+d)=true then (f+d,true) else (0,false)):=by
 have h1:=gE hd
 have h2:=gE hf
 constructor
 ·unfold b9
  rw[if_pos (fC.2 (by omega)),Int.zero_sub]
 ·unfold b9
  rw[Int.sub_neg]
theorem ze (blk:LI)(z1 z2 z3:Int)(z4:Bool)(cnt f z7 z8 z9 z10:Int)(hf:bi .i64 f):∀(n k i:Nat) (p:Int) (out:List bu),n<k→out.length=i→i+n≤4294960000→(cnt=((i+n:Nat):Int)∨cnt≤i∧n=0)→
  lL k blk out p i z1 z2 z3 z4 cnt f z7 z8 z9 z10=(tp blk z1 z2 z3 z4 cnt f z7 z8 z9 z10 (aI blk f n i p out)).val:=by
 intro n
 induction n with
 |zero=>
  intro k i p out h1 h2 h3 h4
  obtain ⟨k,rfl⟩:∃j,k=j+1:=⟨k - 1,by omega⟩
  rw[vk]
  unfold lw
  refine bF (decide_eq_false (by omega)) ?_
  rfl
 |succ n ih=>
  intro k i p out h1 h2 h3 h4
  have h4:cnt=((i+(n+1):Nat):Int):=by
   rcases h4 with h | h
   ·exact h
   ·omega
  obtain ⟨k,rfl⟩:∃j,k=j+1:=⟨k - 1,by omega⟩
  rw[vk]
  unfold lw
  refine bT (decide_eq_true (by omega)) ?_
  have e:aI blk f (n+1) i p out=if (am blk p).2.2≠0 then ([],0,(am blk p).2.2) else if (am blk p).1.2.1≠(i:Int) then ([],0,72) else if i=0∧(am blk p).1.1≠0∨aG (f+(am blk p).1.1)=false then ([],0,86)
   else aI blk f n (i+1) (am blk p).2.1 (out++[(f+(am blk p).1.1,(am blk p).1.2.2.1,(am blk p).1.2.2.2.1,(am blk p).1.2.2.2.2.1,())]):=rfl
  rw[e]
  obtain ⟨b1,b2⟩:=J2 blk p
  generalize am blk p=r at *
  obtain ⟨⟨d,o,kv⟩,q,er⟩:=r
  simp only at b1 b2 ⊢
  have b1':=gE b1
  have b2':=wt b2
  have b3:=gE hf
  by_cases c1:er=0
  rotate_left
  ·refine bT (by simpa using c1) ?_
   rw[if_pos c1]
   unfold tp
   rw[Tr.val_ite,if_pos (by simpa using c1),Tr.val_ret]
  refine bF (by simpa using c1) ?_
  rw[if_neg (aC c1),af (n:=o) (by omega) (by omega)]
  by_cases c2:o=(i:Int)
  rotate_left
  ·refine bT (by simpa using c2) ?_
   rw[if_pos c2]
   rfl
  refine bF (by simpa using c2) ?_
  rw[if_neg (aC c2),af (n:=(i:Int)+1) (by omega) (by omega)]
  have next:aG (f+d)=true→(bif decide (out.length+1≤4294967296) then lL k blk (out++[(f+d,kv)]) q ((i:Int)+1) z1 z2 z3 z4 cnt f z7 z8 z9 z10 else none)=(tp blk z1 z2 z3 z4 cnt f z7 z8 z9 z10 (aI blk f n (i+1) q (out++[(f+d,kv)]))).val:=by
   intro hfit
   refine bT (decide_eq_true (by omega)) ?_
   exact ih k (i+1) q _ (by omega) (by simp[h2]) (by omega) (.inl (by rw[h4];omega))
  have fin:∀e:Int,e≠0→oR ((),(([],(e,())),()))=(tp blk z1 z2 z3 z4 cnt f z7 z8 z9 z10 ([],0,e)).val:=by
   intro e he
   unfold tp
   rw[Tr.val_ite,if_pos (by simpa using he),Tr.val_ret]
  by_cases c3:d = -9223372036854775808
  ·refine bT (by simpa using c3) ?_
   by_cases c4:0≤f
   ·refine bF (by rw[decide_eq_true c4];rfl) ?_
    have hfit:aG (f+d)=true:=fC.2 (by omega)
    by_cases c5:i=0
    ·refine bT (by simp[c5]) ?_
     refine bT (by rw[c3];rfl) ?_
     rw[if_pos (.inl ⟨c5,by omega⟩)]
     exact fin 86 (by decide)
    ·refine bF (by simp[c5]) ?_
     rw[if_neg (by rintro (h | h);exact c5 h.1;rw[hfit] at h;cases h),af (n:=f+d) (by omega) (by omega)]
     exact next hfit
   ·refine bT (by rw[decide_eq_false c4];rfl) ?_
    rw[if_pos (.inr (by
     cases h:aG (f+d) with
     |false=>rfl
     |true=>have:=fC.1 h;omega))]
    exact fin 86 (by decide)
  refine bF (by simpa using c3) ?_
  obtain ⟨s1,s2⟩:=N2 b1 hf c3
  rw[s1]
  refine (ac rfl _ _).trans ?_
  rw[s2]
  cases hfit:aG (f+d) with
  |false=>
   rw[if_neg (by decide)]
   refine (aa rfl _ _).trans ?_
   rw[if_pos (.inr rfl)]
   exact fin 86 (by decide)
  |true=>
   rw[if_pos rfl]
   refine (ac rfl _ _).trans ?_
   by_cases c5:i=0
   ·refine bT (by simp[c5]) ?_
    by_cases c6:d=0
    ·refine bF (by simpa using c6) ?_
     rw[if_neg (by rintro (h | h);exact h.2 c6;cases h)]
     exact next hfit
    ·refine bT (by simpa using c6) ?_
     rw[if_pos (.inl ⟨c5,c6⟩)]
     exact fin 86 (by decide)
   ·refine bF (by simp[c5]) ?_
    rw[if_neg (by rintro (h | h);exact c5 h.1;cases h)]
    exact next hfit
def uu (a0:LI)(a1 a2 a3:Int)(a4:Bool)(a5 a6 a7 a8 a9 a10:Int):Option jW.Res:=(kG ((a0,([],(0,(0,())))),((a1,(a2,(a3,(a4,(a5,(a6,(a7,(a8,(a9,(a10,())))))))))),()))).run fun y=>match y with | .ret ((),((x108,x109,()),()))=>(oR ((x108,x109,()),())) | .pan (.ret ((),((x110,x111,x112,()),(x113,x114,x115,x116,x117,x118,x119,x120,x121,x122,()),())))=>(bif decide (x112<(↑x110.length:Int)) then oR (([],2,()),()) else bif fb x111 != x119 then oR (([],86,()),()) else oR ((x111,0,()),()))
theorem JG (a0:LI)(a1 a2 a3:Int)(a4:Bool)(a5 a6 a7 a8 a9 a10:Int):Io.run tt DF dr qT jW Tryz.f41 ((a0,(a1,a2,a3,a4,a5,a6,a7,a8,a9,a10,()),()),())=uu a0 a1 a2 a3 a4 a5 a6 a7 a8 a9 a10:=by kernel_rfl
theorem uS:HcsOk prog Do:=.cons LB (.cons LQ (.cons I0 .nil))
theorem LP:HcOk prog 41 (ah jW Ba):=by
 refine bK uS (lp:=qT) (fn:=Tryz.f41) jW (.step (h0:=aD db kG) (by kernel_rfl) (iK uS (lp:=qT) (fn:=Tryz.f41) (.done (by kernel_rfl)) db kG ?_) (.done (by kernel_rfl))) Ba ?_
 ·rintro ⟨⟨(blk:LI),(out:List bu),(p:Int),(i:Int),⟨⟩⟩,⟨⟨(z1:Int),(z2:Int),(z3:Int),(z4:Bool),(cnt:Int),(f:Int),(z7:Int),(z8:Int),(z9:Int),(z10:Int),⟨⟩⟩,⟨⟩⟩⟩ y hw hy
  obtain ⟨hg,hy⟩:=Tr.guard hy
  simp only[zA,zB] at hg
  obtain ⟨h1,h2,h3⟩:=hg
  have h1:i=0:=h1
  have h2:out.length=0:=h2
  have h3:cnt≤(4294960000:Int):=h3
  subst h1
  obtain rfl:=List.length_eq_zero_iff.1 h2
  have hf:bi .i64 f:=hw.2.1.2.2.2.2.2.1
  refine ⟨cnt.toNat+1,(ze blk z1 z2 z3 z4 cnt f z7 z8 z9 z10 hf cnt.toNat (cnt.toNat+1) 0 p [] (by omega) rfl (by omega) (by omega)).trans ?_⟩
  exact hy
 ·rintro ⟨⟨(blk:LI),⟨(z1:Int),(z2:Int),(z3:Int),(z4:Bool),(cnt:Int),(f:Int),(z7:Int),(z8:Int),(z9:Int),(z10:Int),⟨⟩⟩,⟨⟩⟩,⟨⟩⟩ out hw ho
  obtain ⟨hg,ho⟩:=Tr.guard ho
  have hg:cnt≤(4294960000:Int):=of_decide_eq_true hg
  cases ho
  refine (JG blk z1 z2 z3 z4 cnt f z7 z8 z9 z10).trans ?_
  show _=oR (((cF blk f z7 cnt.toNat).1,(cF blk f z7 cnt.toNat).2,()),())
  unfold uu kG
  refine bT (by simp only[zA,zB];exact ⟨trivial,rfl,hg⟩) ?_
  have eR:cF blk f z7 cnt.toNat=if (aI blk f cnt.toNat 0 0 []).2.2≠0 then ([],(aI blk f cnt.toNat 0 0 []).2.2)
    else if (aI blk f cnt.toNat 0 0 []).2.1<(blk.length:Int) then ([],2)
    else if fb (aI blk f cnt.toNat 0 0 []).1≠z7 then ([],86) else ((aI blk f cnt.toNat 0 0 []).1,0):=rfl
  rw[eR]
  unfold tp
  generalize aI blk f cnt.toNat 0 0 []=r
  obtain ⟨rs,q,e⟩:=r
  by_cases h3:e=0
  rotate_left
  ·refine bT (decide_eq_true h3) ?_
   rw[if_pos h3]
   rfl
  refine bF (decide_eq_false (aC h3)) ?_
  rw[if_neg (aC h3)]
  by_cases h4:q<(blk.length:Int)
  ·refine bT (decide_eq_true h4) ?_
   rw[if_pos h4]
  refine bF (decide_eq_false h4) ?_
  rw[if_neg h4]
  by_cases h5:fb rs=z7
  ·refine bF (by simpa using h5) ?_
   rw[if_neg (aC h5)]
  ·refine bT (by simpa using h5) ?_
   rw[if_pos h5]
theorem AA (b:LI):(aX b).1.length≤32768:=by
 unfold aX
 repeat' split
 all_goals first | (simp;done) | skip
 rw[fS]
 have h:=nk (ak (ab 10 1 b 0).1)
 have:=vm ((b.drop (ab 10 1 b 0).2.1.toNat).length+1) (b.drop (ab 10 1 b 0).2.1.toNat) [] (ar (ak (ab 10 1 b 0).1)) h.1
 simp only
 omega
theorem yA {b:LI}(h:(aO b).2=0):61≤b.length∧b.length≤36000:=by
 have hE:aJ b true=0:=by
  by_cases hh:aJ b true=0
  ·exact hh
  exfalso
  have:fz b=([],aJ b true):=by unfold fz;rw[if_pos hh]
  unfold aO at h
  rw[this,if_pos hh] at h
  exact hh h
 obtain ⟨k1,k2,k3,_⟩:=lB hE
 have k4:=lV k2
 omega
abbrev iW:Io:=⟨[dL],[],[],[yw,dI],none⟩
def GG (d:iW.In):Tr iW.Res:=.ite (decide (d.1.1.length≤4294960000)) (.ret (.ret (((aO d.1.1).1,(aO d.1.1).2,()),()))) .no
abbrev Hn:List (Nat×Hc):=[(39,ah iF A7),(33,ah iT tI),(40,ah jL AU),(41,ah jW Ba)]
def Nh:Hd:=br Hn
def It:Lp:=bA []
def x4 (a0:LI):Option iW.Res:=bif (ai a0 true).2 != 0 then oR (((0,0,0,0,0,[],()),(ai a0 true).2,()),()) else bif decide (0≤61)&&(decide (61≤(↑a0.length:Int))&&decide ((↑a0.length:Int)≤(↑a0.length:Int))) then bif decide ((List.drop (Int.toNat 61) (List.take (↑a0.length:Int).toNat a0)).length≤4294967296) then bif (ai a0 true).1.2.2.2.1 then bif decide (32768=32768)&&decide ((List.drop (Int.toNat 61) (List.take (↑a0.length:Int).toNat a0)).length≤4294960000) then bif (aX (List.drop (Int.toNat 61) (List.take (↑a0.length:Int).toNat a0))).2 != 0 then oR (((0,0,0,0,0,[],()),(aX (List.drop (Int.toNat 61) (List.take (↑a0.length:Int).toNat a0))).2,()),()) else bif decide (32768<(↑(aX (List.drop (Int.toNat 61) (List.take (↑a0.length:Int).toNat a0))).1.length:Int)) then oR (((0,0,0,0,0,[],()),4,()),()) else bif decide ((ai a0 true).1.2.2.2.2.1≤4294960000) then bif (cF (aX (List.drop (Int.toNat 61) (List.take (↑a0.length:Int).toNat a0))).1 (ai a0 true).1.2.2.2.2.2.1 (ai a0 true).1.2.2.2.2.2.2.1 (Int.toNat (ai a0 true).1.2.2.2.2.1)).2 != 0 then oR (((0,0,0,0,0,[],()),(cF (aX (List.drop (Int.toNat 61) (List.take (↑a0.length:Int).toNat a0))).1 (ai a0 true).1.2.2.2.2.2.1 (ai a0 true).1.2.2.2.2.2.2.1 (Int.toNat (ai a0 true).1.2.2.2.2.1)).2,()),()) else oR ((((ai a0 true).1.1,(ai a0 true).1.2.2.1,(ai a0 true).1.2.2.2.2.2.2.2.1,(ai a0 true).1.2.2.2.2.2.2.2.2.1,(ai a0 true).1.2.2.2.2.2.2.2.2.2.1,(cF (aX (List.drop (Int.toNat 61) (List.take (↑a0.length:Int).toNat a0))).1 (ai a0 true).1.2.2.2.2.2.1 (ai a0 true).1.2.2.2.2.2.2.1 (Int.toNat (ai a0 true).1.2.2.2.2.1)).1,()),0,()),()) else none else none else bif decide (32768<(↑(List.drop (Int.toNat 61) (List.take (↑a0.length:Int).toNat a0)).length:Int)) then oR (((0,0,0,0,0,[],()),4,()),()) else bif decide ((ai a0 true).1.2.2.2.2.1≤4294960000) then bif (cF (List.drop (Int.toNat 61) (List.take (↑a0.length:Int).toNat a0)) (ai a0 true).1.2.2.2.2.2.1 (ai a0 true).1.2.2.2.2.2.2.1 (Int.toNat (ai a0 true).1.2.2.2.2.1)).2 != 0 then oR (((0,0,0,0,0,[],()),(cF (List.drop (Int.toNat 61) (List.take (↑a0.length:Int).toNat a0)) (ai a0 true).1.2.2.2.2.2.1 (ai a0 true).1.2.2.2.2.2.2.1 (Int.toNat (ai a0 true).1.2.2.2.2.1)).2,()),()) else oR ((((ai a0 true).1.1,(ai a0 true).1.2.2.1,(ai a0 true).1.2.2.2.2.2.2.2.1,(ai a0 true).1.2.2.2.2.2.2.2.2.1,(ai a0 true).1.2.2.2.2.2.2.2.2.2.1,(cF (List.drop (Int.toNat 61) (List.take (↑a0.length:Int).toNat a0)) (ai a0 true).1.2.2.2.2.2.1 (ai a0 true).1.2.2.2.2.2.2.1 (Int.toNat (ai a0 true).1.2.2.2.2.1)).1,()),0,()),()) else none else none else none
theorem Mk (a0:LI):Io.run tt Nh dr It iW Tryz.f13 ((a0,()),())=x4 a0:=by kernel_rfl
theorem NH:HcOk prog 13 (ah iW GG):=by
 refine bK (cs:=Hn) (.cons LM (.cons wV (.cons Lz (.cons LP .nil)))) (lp:=It) (fn:=Tryz.f13) iW (.done (by kernel_rfl)) GG ?_
 rintro ⟨⟨(b:LI),⟨⟩⟩,⟨⟩⟩ out hw ho
 obtain ⟨hg,ho⟩:=Tr.guard ho
 have hg2:b.length≤4294960000:=of_decide_eq_true hg
 clear hg
 cases ho
 refine (Mk b).trans ?_
 show _=oR (((aO b).1,(aO b).2,()),())
 have eE:fz b=if aJ b true≠0 then ([],aJ b true) else if (aV b (decide (b.getD 22 0=1))).2≠0 then ([],(aV b (decide (b.getD 22 0=1))).2) else cF (aV b (decide (b.getD 22 0=1))).1 (ap b 27 8) (ap b 35 8) (ap b 57 4).toNat:=rfl
 have fin:∀e:Int,e≠0→(fz b).2=e→some (Out.ret ((qZ,(e,())),()):iW.Res)=oR (((aO b).1,(aO b).2,()),()):=by
  intro e he h
  have:aO b=(qZ,e):=by unfold aO;rw[h,if_pos he]
  rw[this]
 have fin2:∀rs:List bu,fz b=(rs,0)→some (Out.ret (((ap b 0 8,ap b 12 4,ap b 43 8,ap b 51 2,ap b 53 4,rs,()),(0,())),()):iW.Res)=oR (((aO b).1,(aO b).2,()),()):=by
  intro rs h
  have:aO b=((ap b 0 8,ap b 12 4,ap b 43 8,ap b 51 2,ap b 53 4,rs,()),0):=by unfold aO;rw[h,if_neg (aC rfl)]
  rw[this]
 unfold x4
 by_cases h1:aJ b true=0
 rotate_left
 ·have eh:ai b true=(bc,aJ b true):=by unfold ai;rw[if_pos h1]
  rw[eh]
  refine bT (by simpa using h1) ?_
  exact fin _ h1 (by rw[eE,if_pos h1])
 have eh:ai b true=(hM b,0):=by unfold ai;rw[if_neg (aC h1)]
 rw[if_neg (aC h1)] at eE
 obtain ⟨k1,_,_,_,_,_,_,_,_,k2,k3,_⟩:=lB h1
 have hI:hM b=(ap b 0 8,(b.length:Int),ap b 12 4,decide (b.getD 22 0=1),ap b 57 4,ap b 27 8,ap b 35 8,ap b 43 8,ap b 51 2,ap b 53 4,()):=rfl
 rw[eh,hI]
 dsimp only
 have e61:List.drop (Int.toNat 61) (List.take (b.length:Int).toNat b)=b.drop 61:=by
  show List.drop 61 (List.take (b.length:Int).toNat b)=_
  rw[zG,List.take_length]
 have l61:(b.drop 61).length=b.length - 61:=List.length_drop
 rw[e61]
 refine (ac rfl _ _).trans ?_
 refine bT (by simp only[zA,zB];omega) ?_
 refine bT (decide_eq_true (by omega)) ?_
 have rest:∀blk:LI,fz b=cF blk (ap b 27 8) (ap b 35 8) (ap b 57 4).toNat→(bif decide (ap b 57 4≤4294960000) then bif (cF blk (ap b 27 8) (ap b 35 8) (ap b 57 4).toNat).2 != 0 then oR (((0,0,0,0,0,[],()),(cF blk (ap b 27 8) (ap b 35 8) (ap b 57 4).toNat).2,()),()) else oR (((ap b 0 8,ap b 12 4,ap b 43 8,ap b 51 2,ap b 53 4,(cF blk (ap b 27 8) (ap b 35 8) (ap b 57 4).toNat).1,()),0,()),()) else none:Option iW.Res)=oR (((aO b).1,(aO b).2,()),()):=by
  intro blk hb
  refine bT (decide_eq_true (by omega)) ?_
  by_cases h4:(cF blk (ap b 27 8) (ap b 35 8) (ap b 57 4).toNat).2=0
  ·refine bF (by simpa using h4) ?_
   exact fin2 _ (by rw[hb,← h4])
  ·refine bT (by simpa using h4) ?_
   exact fin _ h4 (by rw[hb])
 by_cases h22:b.getD 22 0=1
 ·rw[decide_eq_true h22] at eE ⊢
  have hB:aV b true=aX (b.drop 61):=rfl
  rw[hB] at eE
  refine (aa rfl _ _).trans ?_
  have l62:(b.drop 61).length≤4294960000:=by omega
  refine bT (by rw[zA];exact ⟨rfl,decide_eq_true l62⟩) ?_
  by_cases h2:(aX (b.drop 61)).2=0
  rotate_left
  ·refine bT (by simpa using h2) ?_
   exact fin _ h2 (by rw[eE,if_pos h2])
  refine bF (by simpa using h2) ?_
  rw[if_neg (aC h2)] at eE
  have:=AA (b.drop 61)
  have this:¬(32768:Int)<((aX (b.drop 61)).1.length:Int):=by omega
  refine bF (decide_eq_false this) ?_
  exact rest _ eE
 ·rw[decide_eq_false h22] at eE ⊢
  have hB:aV b false=if 32768<((b.drop 61).length:Int) then ([],4) else (b.drop 61,0):=rfl
  rw[hB] at eE
  refine (ac rfl _ _).trans ?_
  by_cases h2:32768<((b.drop 61).length:Int)
  ·rw[if_pos h2] at eE
   refine bT (decide_eq_true h2) ?_
   exact fin 4 (by decide) (by rw[eE,if_pos (by decide)])
  ·rw[if_neg h2,if_neg (aC rfl)] at eE
   refine bF (decide_eq_false h2) ?_
   exact rest _ eE
abbrev m6:Io:=⟨[dL,jx,Bw],[],[],[dO,dI],none⟩
def GH (d:m6.In):Tr m6.Res:=.ite (decide (d.1.1.length≤4294960000)) (.ret (.ret (((az d.1.1 d.1.2.1 d.1.2.2.1).1,(az d.1.1 d.1.2.1 d.1.2.2.1).2,()),()))) .no
abbrev Hp:List (Nat×Hc):=[(13,ah iW GG),(62,ah eo ny),(25,ah r8 MS)]
def Nj:Hd:=br Hp
def Iv:Lp:=bA []
def x5 (a0:LI)(a1 a2:Int):Option m6.Res:=bif decide (a0.length≤4294960000) then bif (aO a0).2 != 0 then oR (([],(aO a0).2,()),()) else bif decide (a1<0) then oR (([],80,()),()) else bif decide (4611686018427387648<a1) then oR (([],80,()),()) else bif decide (0≤8)&&(decide (8≤12)&&decide (12≤(↑a0.length:Int))) then bif decide ((ay a1 (Int.toNat 8)).length+(List.drop (Int.toNat 8) (List.take (Int.toNat 12) a0)).length≤4294967296) then bif decide (List.length (ay a1 (Int.toNat 8)++List.drop (Int.toNat 8) (List.take (Int.toNat 12) a0))+(ay (i64.wrap a2) (Int.toNat 4)).length≤4294967296) then bif decide (0≤16)&&(decide (16≤(↑a0.length:Int))&&decide ((↑a0.length:Int)≤(↑a0.length:Int))) then bif decide (List.length (ay a1 (Int.toNat 8)++List.drop (Int.toNat 8) (List.take (Int.toNat 12) a0)++ay (i64.wrap a2) (Int.toNat 4))+(List.drop (Int.toNat 16) (List.take (↑a0.length:Int).toNat a0)).length≤4294967296) then oR ((ay a1 (Int.toNat 8)++List.drop (Int.toNat 8) (List.take (Int.toNat 12) a0)++ay (i64.wrap a2) (Int.toNat 4)++List.drop (Int.toNat 16) (List.take (↑a0.length:Int).toNat a0),0,()),()) else none else none else none else none else none else none
theorem Mm (a0:LI)(a1 a2:Int):Io.run tt Nj dr Iv m6 Tryz.f29 ((a0,a1,a2,()),())=x5 a0 a1 a2:=by kernel_rfl
theorem NI:HcOk prog 29 (ah m6 GH):=by
 refine bK (cs:=Hp) (.cons NH (.cons vh (.cons Ov .nil))) (lp:=Iv) (fn:=Tryz.f29) m6 (.done (by kernel_rfl)) GH ?_
 rintro ⟨⟨(b:LI),(base:Int),(ep:Int),⟨⟩⟩,⟨⟩⟩ out hw ho
 obtain ⟨hg,ho⟩:=Tr.guard ho
 have hg2:b.length≤4294960000:=of_decide_eq_true hg
 clear hg
 cases ho
 refine (Mm b base ep).trans ?_
 show _=oR (((az b base ep).1,((az b base ep).2,())),())
 have hep:bi .i32 ep:=hw.1.2.2.1
 have hep:=wt hep
 unfold x5
 refine bT (decide_eq_true hg2) ?_
 by_cases h1:(aO b).2=0
 rotate_left
 ·have:az b base ep=([],(aO b).2):=by unfold az;rw[if_pos h1]
  rw[this]
  exact aa (by simpa using h1) _ _
 refine bF (by simpa using h1) ?_
 have hB:aK base=(decide (base<0) || decide (4611686018427387648<base)):=rfl
 by_cases h2:base<0
 ·have:az b base ep=([],80):=by unfold az;rw[if_neg (aC h1),if_pos (by rw[hB,decide_eq_true h2];rfl)]
  rw[this]
  exact aa (decide_eq_true h2) _ _
 refine bF (decide_eq_false h2) ?_
 by_cases h3:4611686018427387648<base
 ·have:az b base ep=([],80):=by unfold az;rw[if_neg (aC h1),if_pos (by rw[hB,decide_eq_true h3,Bool.or_true])]
  rw[this]
  exact aa (decide_eq_true h3) _ _
 refine bF (decide_eq_false h3) ?_
 have e:az b base ep=(ay base 8++((b.drop 8).take 4++(ay ep 4++b.drop 16)),0):=by unfold az;rw[if_neg (aC h1),if_neg (by rw[hB,decide_eq_false h2,decide_eq_false h3];decide)]
 rw[e]
 obtain ⟨l1,l2⟩:=yA h1
 have e1:List.drop (Int.toNat 8) (List.take (Int.toNat 12) b)=(b.drop 8).take 4:=by
  show List.drop 8 (List.take 12 b)=_
  rw[List.drop_take]
 have e2:List.drop (Int.toNat 16) (List.take (b.length:Int).toNat b)=b.drop 16:=by
  show List.drop 16 (List.take (b.length:Int).toNat b)=_
  rw[zG,List.take_length]
 rw[e1,e2,af (n:=ep) (by omega) (by omega),show Int.toNat 8=8 from rfl,show Int.toNat 4=4 from rfl]
 have m1:((b.drop 8).take 4).length=4:=fG (b:=b) (p:=8) (n:=4) (by omega)
 have m2:(b.drop 16).length=b.length - 16:=List.length_drop
 have q8:=eZ base 8
 have q4:=eZ ep 4
 refine bT (by simp only[zA,zB];omega) ?_
 refine bT (decide_eq_true (by omega)) ?_
 refine bT (decide_eq_true (by rw[zH];omega)) ?_
 refine bT (by simp only[zA,zB];omega) ?_
 refine bT (decide_eq_true (by rw[zH,zH];omega)) ?_
 simp only[zK]
abbrev Ob:Type:=LI×Int×Int×Int×Unit
def AE (d:Ob):AS:=⟨[.one (.ptr 0 0),.one (.int .i64 d.2.1),.one (.int .i32 d.2.2.1)]++List.replicate 35 .any,[],[some [.ex 5 (.int .u8) 0 d.1 1 1,.int .i64 d.2.2.2.1]]⟩
def BC:Hd:=br []
abbrev f32:Func:=Tryz.f53
def qo:Func:={ f32 with results:=f32.results.push (.tmp 0) }
abbrev eY:Lo:=⟨⟨(.one (.ptr 0 0)::.one hI::.one hJ::.any::aj (.one hI::.any::aj [])),[some [.exl 5 (Ty.int u8) 2 2,hI]]⟩,[(.exit 0,⟨(.one (.ptr 0 0)::.any::aj (aj (bO []))),[some [.exl 5 (Ty.int u8) 2 2,hI]]⟩)]⟩
def fX (xs:LI)(p:Nat)(v:Int):LI:=(((xs.set p (v / 256 ^ 3 % 256)).set (p+1) (v / 256 ^ 2 % 256)).set (p+2) (v / 256 ^ 1 % 256)).set (p+3) (v / 256 ^ 0 % 256)
theorem s6 (xs:LI)(p:Nat)(v:Int):(fX xs p v).length=xs.length:=by simp[fX]
theorem F8 (A T:LI)(a b c d v:Int):fX (A++a::b::c::d::T) A.length v=A++(ay v 4++T):=by
 simp[fX,ay,List.set_append]
def nF (d:eY.st.den):Tr (ao eY.xs):=
 .ite (decide (d.1.2.2.1=0)&&(decide ((0:Int)≤d.1.1)&&decide (d.1.1+4≤(d.2.1.1.length:Int)))) (.ret (.ret ((),((),((fX d.2.1.1 d.1.1.toNat d.1.2.1,(d.2.1.2.1,())),()))))) .no
def pm:Lp:=bA [(5,aD eY nF)]
def nr {R:Type}(h4 h5 h6:Int)(h7:LI)(h8:Int)(next:Int→Int→Int→LI→Int→Option R)(out:ao eY.xs→Option R):Option R:=bif decide (h6<4) then bif decide (0≤i64.wrap (24 - i64.wrap (8*h6))) then bif decide ((↑0:Int)≤i64.wrap (h4+h6))&&decide (i64.wrap (h4+h6)<(↑0:Int)+(↑h7.length:Int)) then next (h4) (h5) (i64.wrap (h6+1)) (lm 0 (i64.wrap (h4+h6)).toNat h7 (u8.wrap (dH i32 h5 (i64.wrap (24 - i64.wrap (8*h6)))))) (h8) else none else none else out (.ret ((),((),((h7,(h8,())),()))))
def kZ (n:Nat)(h4 h5 h6:Int)(h7:LI)(h8:Int):Option (ao eY.xs):=ik tt BC dr pm 1 qo (cb qo 0) n (eY.st.mk' ((h4,(h5,(h6,()))),((h7,(h8,())),()))) (bG eY.xs)
theorem Ak (n:Nat)(h4 h5 h6:Int)(h7:LI)(h8:Int):kZ (n+1) h4 h5 h6 h7 h8=nr h4 h5 h6 h7 h8 (kZ n) some:=by kernel_rfl
theorem Pk {v:Int}(h:bi .i32 v){i:Nat}(hi:i≤3):u8.wrap (dH i32 v (i64.wrap (24 - i64.wrap (8*(i:Int)))))=v / 256 ^ (3 - i) % 256:=by
 simp[bi,IntKind.min,IntKind.max,IntKind.signed,IntKind.bits] at h
 rw[af (n:=8*(i:Int)) (by omega) (by omega),af (n:=24 - 8*(i:Int)) (by omega) (by omega)]
 unfold dH
 have e:min (24 - 8*(i:Int)).toNat (i32).bits=8*(3 - i):=by
  show min (24 - 8*(i:Int)).toNat 32=_
  omega
 rw[e,show (2:Int) ^ (8*(3 - i))=256 ^ (3 - i) by rw[Int.pow_mul];rfl]
 have hp:(0:Int)<256 ^ (3 - i):=Int.pow_pos (by decide)
 rw[Int.fdiv_eq_ediv_of_nonneg _ (Int.le_of_lt hp)]
 have hr:bi .i32 (v / 256 ^ (3 - i)):=by
  have h1:v / 256 ^ (3 - i)=v.fdiv (2 ^ (8*(3 - i))):=by
   rw[show (2:Int) ^ (8*(3 - i))=256 ^ (3 - i) by rw[Int.pow_mul];rfl,Int.fdiv_eq_ediv_of_nonneg _ (Int.le_of_lt hp)]
  have h2:=yS .i32 (x:=v) (8*(3 - i)) (by simp[bi,IntKind.min,IntKind.max,IntKind.signed,IntKind.bits];omega)
  rw[h1,← h2]
  exact bQ _ _
 rw[bD hr]
 simp[IntKind.wrap,IntKind.signed,IntKind.bits]
theorem H9 {v:Int}(hv:bi .i32 v)(m:Int)(p k:Nat)(xs:LI)(h0:p+4≤xs.length)(hl:xs.length≤maxLen):kZ (k+5) p v 0 xs m=some (.ret ((),((),((fX xs p v,(m,())),())))):=by
 rw[aB] at hl
 have go:∀(j i:Nat) (ys:LI),i≤3→ys.length=xs.length→kZ (j+1) p v i ys m=kZ j p v ((i+1:Nat):Int) (ys.set (p+i) (v / 256 ^ (3 - i) % 256)) m:=by
  intro j i ys hi hy
  rw[Ak]
  unfold nr
  rw[Pk hv hi]
  rw[af (n:=(p:Int)+(i:Int)) (by omega) (by omega),af (n:=(i:Int)+1) (by omega) (by omega),af (n:=8*(i:Int)) (by omega) (by omega),af (n:=24 - 8*(i:Int)) (by omega) (by omega)]
  refine bT (by simp;omega) ?_
  refine bT (by simp;omega) ?_
  refine bT (by simp only[zA,zB];omega) ?_
  rw[show ((p:Int)+(i:Int)).toNat=p+i by omega]
  rfl
 have g0:=go (k+4) 0 xs (by omega) rfl
 have g1:=go (k+3) 1 (xs.set (p+0) (v / 256 ^ (3 - 0) % 256)) (by omega) (by simp)
 have g2:=go (k+2) 2 ((xs.set (p+0) (v / 256 ^ (3 - 0) % 256)).set (p+1) (v / 256 ^ (3 - 1) % 256)) (by omega) (by simp)
 have g3:=go (k+1) 3 (((xs.set (p+0) (v / 256 ^ (3 - 0) % 256)).set (p+1) (v / 256 ^ (3 - 1) % 256)).set (p+2) (v / 256 ^ (3 - 2) % 256)) (by omega) (by simp)
 refine g0.trans (g1.trans (g2.trans (g3.trans ?_)))
 rw[Ak]
 unfold nr
 exact ac (by simp) _ _
theorem Or:LpsOk prog 1 pm (xm qo) 0:=by
 refine .step (h0:=aD eY nF) (by kernel_rfl) (iK (cs:=[]) HcsOk.nil (lp:=pm) (fn:=qo) (.done (by kernel_rfl)) eY nF ?_) (.done (by kernel_rfl))
 rintro ⟨⟨(p:Int),(v:Int),(i:Int),⟨⟩⟩,⟨⟨(xs:LI),(m:Int),⟨⟩⟩,⟨⟩⟩⟩ y hw hy
 obtain ⟨hg,hy⟩:=Tr.guard hy
 simp only[zA,zB] at hg
 obtain ⟨h1,h2,h3⟩:=hg
 have h1:i=0:=h1
 have h2:0≤p:=h2
 have h3:p+4≤(xs.length:Int):=h3
 subst h1
 obtain ⟨p,rfl⟩:=aq h2
 refine ⟨5,(H9 (k:=0) hw.1.2.1 m p xs (by omega) hw.2.1.1.1).trans ?_⟩
 rw[← hy];rfl
def NO (ex:Ex)(A:AS):Option (Int×LI×Int):=match ex with
 |.ret=>match A.get 6,A.ob with
  |.one (.int .i64 r),some [.ex _ (.int .u8) lo xs _ _,.int .i64 m]::_=>bif Nat.beq lo 0 then some (r,xs,m) else none
  |_,_=>none
 |_=>none
theorem NP (xs:LI)(p v m:Int):ev tt BC dr pm 1 (eG qo) (aR qo) (eG qo) [] (AE (xs,p,v,m,())) NO=bif decide (p<0) then some ((3:Int),xs,m) else bif decide (i64.wrap ((↑0:Int)+(↑xs.length:Int) - 4)<p) then some ((3:Int),xs,m) else (nF ((p,(v,(0,()))),((xs,(m,())),()))).run fun y=>match y with | .ret ((),((),(x16,x17,()),()))=>some ((0:Int),x16,x17):=by kernel_rfl
def FS (w:World)(bw b:Nat):Nat→Nat→Prop:=fun b' o=>b'≠b∧b'≠bw∧∃v,w.cell? ⟨b',o,none⟩=some v
def xf (w:World)(bw b:Nat):Fra:=⟨w,fun b'=>b'=b∨b'=bw,FS w bw b,fun k=>if k=0 then some bw else none⟩
def p3 (w:World)(bw b:Nat):Gh:=⟨FS w bw b,fun k=>if k=0 then some bw else none,fun j=>if j=1 then some (b,0) else none⟩
theorem JI {w:World}{bw b:Nat}(hw:bw<w.heap.size)(hb:b<w.heap.size)(hne:bw≠b)(ht:fY (FS w bw b) w):GhOk (xf w bw b) (p3 w bw b) w where
 mu:=fun k b' h=>by
  simp only[p3] at h
  split at h
  ·cases h;exact ⟨.inr (.inr rfl),fun _ h=>h.2.1 rfl,hw⟩
  ·cases h
 muI:=fun k k' b' h h'=>by
  simp only[p3] at h h'
  split at h <;> split at h'
  ·rename_i e1 e2;exact e1.trans e2.symm
  ·cases h'
  ·cases h
  ·cases h
 ow:=fun i b' l h=>by
  simp only[p3] at h
  split at h
  ·cases h
   refine ⟨fun _ _ h=>h.1 rfl,.inr (.inl rfl),hb,fun k h=>?_⟩
   simp only[p3] at h
   split at h
   ·cases h;exact hne rfl
   ·cases h
  ·cases h
 owI:=fun i j b' l l' h h'=>by
  simp only[p3] at h h'
  split at h <;> split at h'
  ·rename_i e1 e2;exact e1.trans e2.symm
  ·cases h'
  ·cases h
  ·cases h
 sB:=fun b' o h=>by
  obtain ⟨_,_,v,h⟩:=h
  unfold World.cell? at h
  split at h
  ·rename_i e
   exact (Array.getElem?_eq_some_iff.1 e).1
  ·cases h
 fr:=⟨rfl,rfl,rfl,Nat.le_refl _,fun _ _ _=>rfl⟩
 sub:=fun _ _ h=>h
 sup:=fun _ _ h=>.inl h
 keep:=fun _ _ _=>rfl
 fix_:=fun _ _ h=>h
 tab:=ht
theorem FT (w:World)(xs:LI)(m v:Int)(bw b cap n:Nat)(curw cur:Array Value)(elw el:TypeId)(hw:w.heap[bw]?=some (.cells curw elw (0,0)))(hcw:curw.toList=[.slice (some ⟨b,0,none⟩) n cap,.int .i64 m])(hn:n=xs.length)
  (hh:w.heap[b]?=some (.cells cur el (0,0))) (hcs:cur.size=cap) (hle:xs.length≤cap) (hcap:cap≤maxLen) (hne:bw≠b) (ht:fY (FS w bw b) w) (h21:21≤xs.length) (hv:bi .i32 v) (hmm:bi .i64 m)
  (hx:∀(k:Nat) (x:Int),xs[k]?=some x→bi .u8 x∧cur[k]?=some (Value.int .u8 x)):
  Calls prog 53 #[.pointer (some ⟨bw,0,none⟩),.int .i64 17,.int .i32 v] w fun e w'=>e=.returned (.int .i64 0)∧(xf w bw b).ok w'∧(∀b' o,FS w bw b b' o→w'.cell? ⟨b',o,none⟩=w.cell? ⟨b',o,none⟩)∧
   ∃(b2 cap2:Nat) (curw2 cur2:Array Value) (elw2 el2:TypeId) (m':Int),w'.heap[bw]?=some (.cells curw2 elw2 (0,0))∧curw2.toList=[.slice (some ⟨b2,0,none⟩) xs.length cap2,.int .i64 m']∧(b2=b∨w.heap.size≤b2)∧b2≠bw∧b2<w'.heap.size∧
    w'.heap[b2]?=some (.cells cur2 el2 (0,0))∧cur2.size=cap2∧xs.length≤cap2∧cap2≤maxLen∧m'=m∧∀(k:Nat) (x:Int),(fX xs 17 v)[k]?=some x→bi .u8 x∧cur2[k]?=some (Value.int .u8 x):=by
 have htt:=cY Tryz.prog 400
 have hc:f32.body=some (aR qo):=by kernel_rfl
 refine calls_of_wp (P:=prog) (fn:=f32) (by kernel_rfl) hc ?_
 have hxl:(xs.length:Int)≤9223372036854775807:=by rw[aB] at hcap;omega
 have R0:Rel (xf w bw b) (p3 w bw b) (AE (xs,17,v,m,())) (#[.pointer (some ⟨bw,0,none⟩),.int .i64 17,.int .i32 v]++Array.replicate (f32.ntmps - 3) undef) [] w:=by
  refine ⟨?_,trivial,fun k cs hk=>?_,JI (wo hw) (wo hh) hne ht⟩
  ·rw[show f32.ntmps - 3=35 by kernel_rfl,Array.toList_append,Array.toList_replicate]
   exact ⟨⟨bw,rfl,rfl⟩,⟨rfl,(⟨by decide,by decide⟩:bi .i64 17)⟩,⟨rfl,hv⟩,All2.replicate (R:=Rv (p3 w bw b) w) (a:=.any) (b:=undef) trivial 35⟩
  ·cases k with
   |succ k=>simp[AE] at hk
   |zero=>
    simp only[AE,List.getElem?_cons_zero,zC] at hk
    subst hk
    refine ⟨bw,_,rfl,hw,.inl ⟨curw,elw,rfl,?_⟩⟩
    rw[hcw]
    refine ⟨.inr ⟨b,cap,by rw[hn,Nat.zero_add],⟨by decide,by decide,.inl rfl⟩,cur,el,hh,by rw[hcs];simp[Ty.size],by rw[Nat.zero_add];exact hle,hcap,fun k x hk=>?_⟩,⟨rfl,hmm⟩,trivial⟩
    obtain ⟨h1,h2⟩:=hx k x hk
    refine ⟨[.int .u8 x],⟨rfl,h1⟩,fun q u hq=>?_⟩
    cases q with
    |succ q=>simp at hq
    |zero=>
     simp only[List.getElem?_cons_zero,zC] at hq
     subst hq
     simpa [Ty.size] using h2
 have hrun:ev tt BC dr pm 1 (eG qo) (aR qo) (eG qo) [] (AE (xs,17,v,m,())) NO=some (0,fX xs 17 v,m):=by
  refine (NP xs 17 v m).trans ?_
  refine bF (by decide) ?_
  rw[af (n:=(0:Int)+(xs.length:Int) - 4) (by omega) (by omega)]
  refine bF (decide_eq_false (by omega)) ?_
  unfold nF
  refine bT (by simp only[zA,zB];exact ⟨trivial,by decide,show (17:Int)+4≤(xs.length:Int) by omega⟩) ?_
  rfl
 have hkb:∀d,(xf w bw b).mu0 (1+d)=none:=fun d=>if_neg (by omega)
 refine cz htt hm (gD HcsOk.nil) (dc htt) hkb (lp:=pm) (aR qo) (Or.all) hrun R0 ?_
 intro ex A' G' a' w' R' hd hk
 cases ex with
 |normal=>cases hk
 |exit i=>cases hk
 |panic v=>cases hk
 |ret=>
  refine ⟨hd,?_⟩
  unfold NO at hk
  simp only at hk
  split at hk
  ·rename_i r0 e lo ys i j m0 rest e1 e2
   cases hz:Nat.beq lo 0 with
   |false=>rw[hz] at hk;cases hk
   |true=>
    rw[hz] at hk
    have hz:=Nat.eq_of_beq_eq_true hz
    subst hz
    simp only[cond_true,zC,zD] at hk
    obtain ⟨rfl,hys,rfl⟩:=hk
    have hyl:ys.length=xs.length:=by rw[hys];exact s6 _ _ _
    have e0:f32.results.toList=[.tmp 6]:=by kernel_rfl
    obtain ⟨us,hres,hus⟩:=lh (P:=prog) htt R' f32 (by
     rw[e0]
     intro v hv
     simp only[zL,List.map_nil,List.mem_singleton] at hv
     subst hv
     show A'.get 6≠.any
     rw[e1]
     exact fun h=>by cases h)
    rw[e0] at hus
    obtain ⟨u,rfl,hu⟩:∃u,us=[u]∧Rv G' w' (A'.get 6) u:=by
     cases us with
     |nil=>exact hus.elim
     |cons u us=>
      cases us with
      |nil=>exact ⟨u,rfl,hus.1⟩
      |cons _ _=>exact hus.2.elim
    rw[e1] at hu
    have hu:u=.int .i64 0:=hu.1
    subst hu
    obtain ⟨bo,oo,hm0,hh0,ho⟩:=R'.ob 0 [.ex e (.int .u8) 0 ys i j,.int .i64 m0] (by rw[e2];rfl)
    have hfx:=R'.gh.fix_ 0 bw rfl
    rw[hfx] at hm0
    cases hm0
    obtain ⟨curw2,elw2,rfl,hcs2⟩:=ho.cells (by simp[C.isItr])
    obtain ⟨v1,v2,hv12,hv1,hv2⟩:∃v1 v2,curw2.toList=[v1,v2]∧Rc G' w' (.ex e (.int .u8) 0 ys i j) v1∧Rc G' w' (.int .i64 m0) v2:=by
     match hl:curw2.toList with
     |[]=>rw[hl] at hcs2;exact hcs2.elim
     |[_]=>rw[hl] at hcs2;exact hcs2.2.elim
     |[v1,v2]=>rw[hl] at hcs2;exact ⟨v1,v2,rfl,hcs2.1,hcs2.2.1⟩
     |_::_::_::_=>rw[hl] at hcs2;exact hcs2.2.2.elim
    have hv2:v2=.int .i64 m0:=hv2.1
    subst hv2
    rcases hv1 with ⟨_,hnil,_⟩ | ⟨b2,cap2,rfl,⟨_,_,how⟩,cur2,el2,g1,g2,g3,g4,g5⟩
    ·rw[hnil] at hyl;simp at hyl;omega
    obtain ⟨l,how⟩:∃l,G'.ow l=some (b2,0):=by rcases how with h | h <;> exact ⟨_,h⟩
    obtain ⟨_,k2,k3,k4⟩:=R'.gh.ow l b2 0 how
    have hb2:b2≠bw:=by rintro rfl;exact k4 0 hfx
    rw[Nat.zero_add] at hv12 g3
    refine ⟨_,hres,rfl,R'.gh.fr,fun b' o hs=>R'.gh.keep b' o hs,b2,cap2,curw2,cur2,elw2,el2,m0,hh0,by rw[hv12,hyl],?_,hb2,k3,g1,by rw[g2];simp[Ty.size],by omega,g4,rfl,fun k x hk=>?_⟩
    ·rcases k2 with h | h | h
     ·exact .inr h
     ·exact .inl h
     ·exact absurd h hb2
    ·rw[← hys] at hk
     obtain ⟨c,⟨rfl,hin⟩,hq⟩:=g5 k x hk
     have:=hq 0 _ rfl
     exact ⟨hin,by simpa [Ty.size] using this⟩
  ·cases hk
end
end Go.Proofs.YtcbcbjdobbgddaaGreatDoor.Sym
namespace Go.Proofs.YtcbcbjdobbgddaaGreatDoor.Sym
open Go
noncomputable section
abbrev n5:Io:=iu
def Cz (d:n5.In):Tr n5.Res:=
 .ite (dE (aN d.1.1.2.2.2.2.2.1) d.1.1.2.2.2.2.2.1 0&&decide (aP d.1.1≠0)) (.ret (.ret ((([]:LI),(aP d.1.1,())),()))) .no
theorem IG:HcOk prog 45 (ah n5 Cz):=by
 refine HcOk.weakB Eo ?_
 rintro ⟨⟨(b:fZ),⟨⟩⟩,⟨⟩⟩ y hw hy
 obtain ⟨hg,hy⟩:=Tr.guard hy
 simp only[zA,zB] at hg
 obtain ⟨h1,h2⟩:=hg
 rw[← hy]
 have e:dF b=([],aP b):=by unfold dF;rw[if_pos h2]
 show (oQ ((b,()),())).val=some (.ret ((([]:LI),(aP b,())),()))
 unfold oQ
 rw[Tr.val_ite,if_pos h1,Tr.val_ret]
 show oR (((dF b).1,((dF b).2,())),())=_
 rw[e]
abbrev n6:Io:=iu
def CA (d:n6.In):Tr n6.Res:=
 .ite (dE (aN d.1.1.2.2.2.2.2.1) d.1.1.2.2.2.2.2.1 0&&decide (aP d.1.1=0)) (.ret (.ret (((bB d.1.1.2.2.2.2.2.1).1,(0,())),()))) .no
theorem IH:HcOk prog 45 (ah n6 CA):=by
 refine HcOk.weakB Eo ?_
 rintro ⟨⟨(b:fZ),⟨⟩⟩,⟨⟩⟩ y hw hy
 obtain ⟨hg,hy⟩:=Tr.guard hy
 simp only[zA,zB] at hg
 obtain ⟨h1,h2⟩:=hg
 rw[← hy]
 have e:dF b=((bB b.2.2.2.2.2.1).1,0):=by unfold dF;rw[if_neg (by rw[h2];exact fun h=>h rfl)]
 show (oQ ((b,()),())).val=some (.ret (((bB b.2.2.2.2.2.1).1,(0,())),()))
 unfold oQ
 rw[Tr.val_ite,if_pos h1,Tr.val_ret]
 show oR (((dF b).1,((dF b).2,())),())=_
 rw[e]
abbrev DK:Io:=⟨[yw,dB],[],[],[dO,dI],none⟩
abbrev CS:List (Nat×Hc):=[(45,ah n5 Cz)]
def KM:Hd:=br CS
def DQ:Lp:=bA []
def tR (a0 a1 a2 a3 a4:Int)(a5:List ba.den)(a6:Bool):Option DK.Res:=bif dE (aN a5) a5 0&&decide (aP (a0,a1,a2,a3,a4,a5,())≠0) then bif aP (a0,a1,a2,a3,a4,a5,()) != 0 then oR (([],aP (a0,a1,a2,a3,a4,a5,()),()),()) else bif a6 then none else none else none
theorem I7 (a0 a1 a2 a3 a4:Int)(a5:List ba.den)(a6:Bool):Io.run tt KM dr DQ DK Tryz.f17 (((a0,a1,a2,a3,a4,a5,()),a6,()),())=tR a0 a1 a2 a3 a4 a5 a6:=by kernel_rfl
end
end Go.Proofs.YtcbcbjdobbgddaaGreatDoor.Sym
namespace Go.Proofs.YtcbcbjdobbgddaaGreatDoor.Sym
open Go
open Go.IntKind (i8 i16 i32 i64 u8 u16 u32 u64)
noncomputable section
def s9:Nat→Code→Code
 |0,c=>c
 |n+1,.seq _ b=>s9 n b
 |_+1,c=>c
def MY (tt:TT)(hd:Hd)(dr:Dr)(lr:Nat){R:Type}:Nat→Code→AS→(AS→Option R)→Option R
 |0,_,A,K=>K A
 |n+1,.seq a b,A,K=>ev tt hd dr (fun _=>none) 0 lr a lr [] A fun ex A=>match ex with
  |.normal=>MY tt hd dr lr n b A K
  |_=>none
 |_+1,_,_,_=>none
theorem By {P:Program}{tt:TT}(htt:bR P tt)(hm:P.follows .mixedOrders=true){hd:Hd}(hh:jj P hd){okDraw:Dr}(hdr:gq P tt okDraw){R:Type}{F:Fra}{cst:List (Array Value)}{lr:Nat}(hkb:∀d,F.mu0 (0+d)=none){r:R}{Q:Exit→Act→World→Prop}:
  ∀(n:Nat) (c:Code) {G:Gh} {A:AS} {a:Act} {w:World} {K:AS→Option R},MY tt hd okDraw lr n c A K=some r→Rel F G A a.tmps cst w→
   (∀A' G' a' w',Rel F G' A' a'.tmps cst w'→a'.defers=a.defers→K A'=some r→(s9 n c).wp P Q a' w')→c.wp P Q a w:=by
 intro n
 induction n with
 |zero=>intro c G A a w K h Rl k;exact k A G a w Rl rfl h
 |succ n ih=>
  intro c G A a w K h Rl k
  cases c with
  |seq x y=>
   refine wp_seq (cz htt hm hh hdr hkb (lp:=fun _=>none) x (fun _ _ _ h=>by cases h) h Rl ?_)
   intro ex A1 G1 a1 w1 R1 hd1 h1
   cases ex with
   |normal=>exact ih y h1 R1 (by rw[hd1];exact k)
   |exit i=>cases h1
   |ret=>cases h1
   |panic v=>cases h1
  |_=>cases h
theorem GK {G:Gh}{w:World}:∀{n:Nat} {us:List Value},us.length=n→All2 (Rv G w) (List.replicate n .any) us
 |0,[],_=>trivial
 |n+1,_::us,h=>⟨trivial,GK (n:=n) (us:=us) (by simpa using h)⟩
 |0,_::_,h=>by cases h
 |_+1,[],h=>by cases h
abbrev fE:Func:=Tryz.f17
abbrev GY:List (Nat×Hc):=[(45,ah n6 CA),(38,ah ir vy),(47,ah sb Gu),(48,ah sa Gt),(49,ah r9 Gs),(51,ah wx MC),(50,ah DM Oa),(52,ah sc Gv),(55,ah fN qz),(54,ah iv vC)]
theorem wk:HcsOk prog GY:=.cons IH (.cons Em (.cons IK (.cons IJ (.cons II (.cons Nr (.cons Ox (.cons IL (.cons zS (.cons Ep .nil)))))))))
def wl:Hd:=br GY
abbrev iV:Io:=⟨[yw,dB],[],[],[dO,dI],none⟩
def MV (A:AS):Option (LI×Int×Int):=match A.stk,A.get 9,A.get 94,A.get 100 with
 |[],.one (.ptr k 0),.one (.ptr k' 0),.one (.int .i32 v)=>match A.ob[k]? with
  |some (some [.lst _ (.int .u8) xs own,.int .i64 m])=>bif Nat.beq A.tm.length 104&&(Nat.beq k k'&&!Nat.beq own 0) then some (xs,m,v) else none
  |_=>none
 |_,_,_,_=>none
def gV:Array Oper:=dX (gY (s9 20 (aR fE)))
def pq:Code:=fR (s9 20 (aR fE))
def O1 (b:fZ)(packed:Bool):Option (LI×Int×Int):=
 MY tt wl dr (eG fE) 20 (aR fE) (Io.start iV fE.ntmps ((b,packed,()),())) fun A=>kk tt wl 0 gV (List.range 7) A fun ex A=>match ex with
  |.normal=>MV A
  |_=>none
def cK {R:Type}(L:LI)(n:Nat)(p:LI)(K:LI→Option R):Option R:=bif kr L 36000 n then K (L++p) else none
def we (a0 a1 a2 a3 a4:Int)(a5:List ba.den)(a6:Bool):Option (LI×Int×Int):=
 bif dE (aN a5) a5 0&&decide (aP (a0,a1,a2,a3,a4,a5,())=0) then bif a6 then none else
  cK [] 8 (ay a0 8) fun L=>cK L 4 (ay (i32.wrap (i64.wrap (49+((bB a5).1.length:Int)))) 4) fun L=>cK L 4 (ay a1 4) fun L=>cK L 1 (ay 2 1) fun L=>cK L 4 (ay 0 4) fun L=>cK L 2 (ay 0 2) fun L=>
  cK L 4 (ay (i32.wrap (i64.wrap ((a5.length:Int) - 1))) 4) fun L=>bif decide ((0:Int)≤0)&&decide ((0:Int)<(a5.length:Int)) then cK L 8 (ay (a5.getD (Int.toNat 0) (0,(false,[],()),(false,[],()),[],())).1 8) fun L=>
  bif decide (1≤a5.length) then cK L 8 (ay (fb a5) 8) fun L=>cK L 8 (ay a2 8) fun L=>cK L 2 (ay a3 2) fun L=>cK L 4 (ay a4 4) fun L=>cK L 4 (ay (i32.wrap (a5.length:Int)) 4) fun L=>
  cK L (aW [(bB a5).1]) (cD [(bB a5).1]) fun L=>bif decide (List.length L≤4294967296) then bif decide ((0:Int)≤21)&&(decide ((21:Int)≤(L.length:Int))&&decide ((L.length:Int)≤(L.length:Int))) then
   some (L,36000,i32.wrap (pw [List.drop (Int.toNat 21) (List.take (L.length:Int).toNat L)] 0)) else none else none else none else none else none
theorem MW (a0 a1 a2 a3 a4:Int)(a5:List ba.den)(a6:Bool):O1 (a0,a1,a2,a3,a4,a5,()) a6=we a0 a1 a2 a3 a4 a5 a6:=by kernel_rfl
def yE (xs:LI)(m:Int):AS:=⟨(List.replicate 104 .any).set 9 (.one (.ptr 0 0)),[],[some [.lst 5 (.int .u8) xs 1,.int .i64 m]]⟩
theorem KD (xs:LI)(m:Int):ev tt wl dr (fun _=>none) 0 (eG fE) pq (eG fE) [] (yE xs m) (Io.fin tt iV fE)=bif decide (xs.length≤4294967296) then some (.ret ((xs,0,()),())) else none:=by kernel_rfl
theorem KE {xs:LI}{m v:Int}{out:iV.Res}{F:Fra}{G2:Gh}{A2:AS}{a2:Act}{cst:List (Array Value)}{w w2:World}{R:Ending→World→Prop}
  (hkb:∀d,F.mu0 (0+d)=none) (hq:F.w0=w∧∀b,¬ F.X b) (hS0:∀b o,F.S0 b o→b<w.heap.size) (htab:fY F.S0 F.w0)
  (R2:Rel F G2 A2 a2.tmps cst w2) (hd2:a2.defers=[]) (hK:MV A2=some (xs,m,v)) (h21:21≤xs.length)
  (hrest:ev tt wl dr (fun _=>none) 0 (eG fE) pq (eG fE) [] (yE (fX xs 17 v) m) (Io.fin tt iV fE)=some out)
  (hend:∀ex A' G' a' w',Rel F G' A' a'.tmps cst w'→Io.fin tt iV fE ex A'=some out→MR prog fE R ex G' a' w'):
  wpOps prog gV (Exit.then (pq.wp prog (bodyPost prog fE R)) (bodyPost prog fE R)) [7] a2 w2:=by
 have htt:=cY Tryz.prog 400
 have hX:∀b,F.mine b→w.heap.size≤b:=fun b h=>by
  rcases h with h | h
  ·rw[hq.1] at h;exact h
  ·exact absurd h (hq.2 b)
 unfold MV at hK
 split at hK
 rotate_left
 ·cases hK
 rename_i k k' v' hstk e9 e94 e100
 split at hK
 rotate_left
 ·cases hK
 rename_i e xs' own m' eob
 cases hck:Nat.beq A2.tm.length 104&&(Nat.beq k k'&&!Nat.beq own 0) with
 |false=>rw[hck] at hK;cases hK
 |true=>
 rw[hck] at hK
 simp only[cond_true,zC,zD] at hK
 obtain ⟨rfl,rfl,rfl⟩:=hK
 simp only[zA,Bool.not_eq_true'] at hck
 obtain ⟨hl104,hkk,hown⟩:=hck
 have hl104:=Nat.eq_of_beq_eq_true hl104
 have hkk:=Nat.eq_of_beq_eq_true hkk
 subst hkk
 have hown:own≠0:=fun h=>by rw[h] at hown;cases hown
 have hcst:cst=[]:=by
  have:=R2.stk
  rw[hstk] at this
  cases cst with
  |nil=>rfl
  |cons _ _=>exact this.elim
 have v9:=R2.get 9
 rw[e9] at v9
 obtain ⟨bw,hbw,v9⟩:=v9
 have v94:=R2.get 94
 rw[e94] at v94
 obtain ⟨bw',hbw',v94⟩:=v94
 rw[hbw] at hbw'
 cases hbw'
 have v100:=R2.get 100
 rw[e100] at v100
 obtain ⟨v100,hvr⟩:=v100
 obtain ⟨bo,curw,elw,hbo,hhw,hcs⟩:=R2.ob.cells eob (by simp[C.isItr])
 rw[hbw] at hbo
 cases hbo
 obtain ⟨v1,v2,hv12,hv1,hv2⟩:∃v1 v2,curw.toList=[v1,v2]∧Rc G2 w2 (.lst e (.int .u8) xs' own) v1∧Rc G2 w2 (.int .i64 m') v2:=by
  match hl:curw.toList with
  |[]=>rw[hl] at hcs;exact hcs.elim
  |[_]=>rw[hl] at hcs;exact hcs.2.elim
  |[v1,v2]=>rw[hl] at hcs;exact ⟨v1,v2,rfl,hcs.1,hcs.2.1⟩
  |_::_::_::_=>rw[hl] at hcs;exact hcs.2.2.elim
 obtain ⟨rfl,hmr⟩:=hv2
 obtain ⟨Ad,cap,rfl,hle,hcap,hrow,hownA⟩:=hv1
 have hne:xs'≠[]:=fun h=>by rw[h] at h21;simp at h21
 rcases hownA with h | ⟨h,h'⟩ | ⟨b,cur,el,rfl,how,hhb,hcsz⟩
 ·exact absurd h hown
 ·subst h
  obtain ⟨_,_,h,_⟩:=hrow hne
  cases h
 obtain ⟨k1,k2,k3,k4⟩:=R2.gh.ow own b _ how
 obtain ⟨m1,m2,m3⟩:=R2.gh.mu k bw hbw
 have hbne:bw≠b:=fun h=>k4 k (by rw[hbw,h])
 obtain ⟨b',o',hA,hel⟩:=hrow hne
 cases hA
 have hx:∀(k:Nat) (x:Int),xs'[k]?=some x→bi .u8 x∧cur[k]?=some (Value.int .u8 x):=by
  intro k x hk
  obtain ⟨c,⟨rfl,hin⟩,hat⟩:=hel k x hk
  obtain ⟨_,hc⟩:=hat 0 _ rfl
  refine ⟨hin,?_⟩
  rw[de hhb] at hc
  simpa [Ty.size] using hc
 have hSne:∀b' o,F.S0 b' o→b'≠b∧b'≠bw:=by
  intro b' o h
  have:=hS0 b' o h
  have h1:=hX b k2
  have h2:=hX bw m1
  omega
 have htab2:fY (FS w2 bw b) w2:=by
  intro g i hg hi
  obtain ⟨t1,t2⟩:=htab g i hg hi
  have t3:=R2.gh.tabs g i hg hi
  exact ⟨⟨(hSne _ _ t1).1,(hSne _ _ t1).2,_,t3.2⟩,t3.2⟩
 have hcalls:=FT w2 xs' m' v' bw b cap xs'.length curw cur elw el hhw hv12 rfl hhb (by rw[hcsz];simp[Ty.size]) hle hcap hbne htab2 h21 hvr hmr hx
 simp only[wpOps]
 have ho:gV[7]?=some { dst:=some 101,op:=.call { callee:=.value (.func 53),args:=#[.tmp 94,.const (.int .i64 17),.tmp 100],argTypes:=(match ((gV[7]?).getD gV[0]!).op with | .call c=>c.argTypes | _=>#[]) },type:=((gV[7]?).getD gV[0]!).type,pos:=((gV[7]?).getD gV[0]!).pos,after:=((gV[7]?).getD gV[0]!).after,guard:=none }:=by kernel_rfl
 rw[ho]
 simp only
 rw[if_pos (by simp[Region.wanted])]
 refine .inl ?_
 have hfn:FnOk prog 53:=⟨f32,by kernel_rfl,by kernel_rfl,by kernel_rfl⟩
 have hev:a2.eval (.tmp 94)=.pointer (some ⟨bw,0,none⟩):=v94
 have hev2:a2.eval (.tmp 100)=.int .i32 v':=v100
 unfold Oper.wp
 have hrun:∀o:Oper,o.op=.call { callee:=.value (.func 53),args:=#[.tmp 94,.const (.int .i64 17),.tmp 100],argTypes:=(match ((gV[7]?).getD gV[0]!).op with | .call c=>c.argTypes | _=>#[]) }→(execOp a2.eval o).run prog w2=.ok (.enter 53 #[.pointer (some ⟨bw,0,none⟩),.int .i64 17,.int .i32 v']) w2:=by
  intro o ho
  simp[execOp,ho,resolve,Act.eval,Deferred.ofValue,invoke,hfn.run]
  exact ⟨by rw[← Array.getD_eq_getD_getElem?];exact v94,by rw[← Array.getD_eq_getD_getElem?];exact v100⟩
 rw[hrun _ rfl]
 simp only[Oper.upon]
 refine hcalls.mono fun en w3 ⟨hen,hfr,hkeep,b2,cap2,curw2,cur2,elw2,el2,m2',g1,g2,g3,g4,g5,g6,g7,g8,g9,g10,g11⟩=>?_
 subst hen
 subst g10
 show pq.wp prog (bodyPost prog fE R) (a2.put (some 101) (.int .i64 0)) w3
 have R2p:=R2.puts (v:=.any) (u:=.int .i64 0) trivial (some 101)
 have hlen:(a2.put (some 101) (.int .i64 0)).tmps.toList.length=104:=by
  rw[← R2p.tm.length]
  show (A2.put (some 101) .any).tm.length=104
  simp[AS.put,hl104]
 have hget9:(a2.put (some 101) (.int .i64 0)).tmps.toList[9]?=some (.pointer (some ⟨bw,0,none⟩)):=by
  have h9:A2.tm[9]?=some (.one (.ptr k 0)):=by
   unfold AS.get at e9
   rw[List.getD_eq_getElem?_getD] at e9
   cases h:A2.tm[9]? with
   |none=>rw[h] at e9;cases e9
   |some x=>rw[h] at e9;simpa using e9
  have h9':(A2.put (some 101) .any).tm[9]?=some (.one (.ptr k 0)):=by
   simp[AS.put,List.getElem?_set,h9]
  obtain ⟨u,hu,hr⟩:=R2p.tm.get h9'
  obtain ⟨bq,hbq,hr⟩:=hr
  rw[hbw] at hbq
  cases hbq
  rw[hu,hr]
 have hsz:w2.heap.size≤w3.heap.size:=hfr.size
 have hsz0:w.heap.size≤w2.heap.size:=by have:=R2.gh.fr.size;rw[hq.1] at this;exact this
 have hb2m:F.mine b2:=by
  rcases g3 with h | h
  ·rw[h];exact k2
  ·exact .inl (by rw[hq.1];omega)
 have hb2w:w.heap.size≤b2:=hX b2 hb2m
 have hbww:w.heap.size≤bw:=hX bw m1
 have hblk:∀j,j<w.heap.size→w3.heap[j]?=w2.heap[j]?:=by
  intro j hj
  refine hfr.block j (show j<w2.heap.size by omega) ?_
  rintro (h | h)
  ·have:=hX b k2;omega
  ·omega
 have hslen:(fX xs' 17 v').length=xs'.length:=s6 _ _ _
 have gh3:GhOk F ⟨fun b' o=>F.S0 b' o∨(b'=b2∧o<xs'.length),fun k=>if k=0 then some bw else none,fun i=>if i=1 then some (b2,xs'.length) else none⟩ w3:=by
  refine { mu:=?_,muI:=?_,ow:=?_,owI:=?_,sB:=?_,fr:=?_,sub:=?_,sup:=?_,keep:=?_,fix_:=?_,tab:=htab }
  ·intro key bb h
   simp only at h
   split at h
   ·cases h
    refine ⟨m1,?_,by omega⟩
    rintro o (h | h)
    ·have:=hS0 _ _ h;omega
    ·exact g4 h.1.symm
   ·cases h
  ·intro key key' bb h h'
   simp only at h h'
   split at h <;> split at h'
   ·rename_i q1 q2;exact q1.trans q2.symm
   ·cases h'
   ·cases h
   ·cases h
  ·intro i bb l h
   simp only at h
   split at h
   ·cases h
    refine ⟨?_,hb2m,g5,?_⟩
    ·rintro o ho (h | h)
     ·have:=hS0 _ _ h;omega
     ·have:=h.2;omega
    ·intro key h
     simp only at h
     split at h
     ·cases h;exact g4 rfl
     ·cases h
   ·cases h
  ·intro i j bb l l' h h'
   simp only at h h'
   split at h <;> split at h'
   ·rename_i q1 q2;exact q1.trans q2.symm
   ·cases h'
   ·cases h
   ·cases h
  ·rintro bb o (h | h)
   ·have:=hS0 _ _ h;omega
   ·rw[h.1];exact g5
  ·have f2:=R2.gh.fr
   refine ⟨hfr.os.trans f2.os,hfr.tape.trans f2.tape,hfr.output.trans f2.output,by rw[hq.1];omega,fun j hj hx=>?_⟩
   rw[hq.1] at hj
   rw[hblk j hj]
   exact f2.block j (by rw[hq.1];exact hj) hx
  ·exact fun _ _ h=>.inl h
  ·rintro bb o (h | h)
   ·exact .inl h
   ·rw[h.1];exact .inr hb2m
  ·intro bb o h
   rw[← R2.gh.keep bb o h]
   have:=hblk bb (hS0 bb o h)
   unfold World.cell?
   rw[this]
  ·intro key bb h
   have:=hkb key
   rw[Nat.zero_add] at this
   rw[this] at h
   cases h
 have R3:Rel F ⟨fun b' o=>F.S0 b' o∨(b'=b2∧o<xs'.length),fun k=>if k=0 then some bw else none,fun i=>if i=1 then some (b2,xs'.length) else none⟩ (yE (fX xs' 17 v') m2') (a2.put (some 101) (.int .i64 0)).tmps cst w3:=by
  refine ⟨?_,by rw[hcst];exact trivial,?_,gh3⟩
  ·refine All2.set_left 9 (GK hlen) fun u hu=>?_
   rw[hget9] at hu
   cases hu
   exact ⟨bw,rfl,rfl⟩
  ·intro key cs hk
   cases key with
   |succ key=>simp[yE] at hk
   |zero=>
    simp only[yE,List.getElem?_cons_zero,zC] at hk
    subst hk
    refine ⟨bw,_,rfl,g1,.inl ⟨curw2,elw2,rfl,?_⟩⟩
    rw[g2]
    refine ⟨⟨some ⟨b2,0,none⟩,cap2,by rw[hslen],by rw[hslen];exact g8,g9,?_,?_⟩,⟨rfl,hmr⟩,trivial⟩
    ·intro _
     refine ⟨b2,0,rfl,fun i x hx=>?_⟩
     obtain ⟨q1,q2⟩:=g11 i x hx
     have hi:i<xs'.length:=by
      rw[← hslen]
      exact (List.getElem?_eq_some_iff.1 hx).1
     refine ⟨[.int .u8 x],⟨rfl,q1⟩,fun j u hj=>?_⟩
     cases j with
     |succ j=>simp at hj
     |zero=>
      simp only[List.getElem?_cons_zero,zC] at hj
      subst hj
      refine ⟨.inr ⟨rfl,?_⟩,?_⟩
      ·simp[Ty.size];omega
      ·rw[de g6]
       simpa [Ty.size] using q2
    ·exact .inr (.inr ⟨b2,cur2,el2,rfl,by simp[Ty.size,hslen],g6,by rw[g7];simp[Ty.size]⟩)
 refine cz htt hm (gD wk) (dc htt) hkb (lp:=fun _=>none) pq (fun _ _ _ h=>by cases h) hrest R3 ?_
 intro ex A' G' a' w' R' hdf hk
 have hdf:a'.defers=[]:=hdf.trans ((Act.put_defers' _ _ _).trans hd2)
 have:=hend ex A' G' a' w' R' hk
 cases ex with
 |normal=>exact ⟨hdf,this⟩
 |ret=>exact ⟨hdf,this⟩
 |exit i=>exact this.elim
 |panic u=>exact fun u hu=>⟨hdf,this u hu⟩
theorem v8 {P:Program}{tt:TT}(htt:bR P tt)(hm:P.follows .mixedOrders=true){hd:Hd}(hh:jj P hd){okDraw:Dr}(hdr:gq P tt okDraw){f:Nat}{fn:Func}(hf:P.funcs[f]?=some fn){c:Code}(hc:fn.body=some c){io:Io}{lp:Lp}
  (hlp:∀e∈bh (eG fn) c (eG fn) [],∀h,lp (cy e.2.1)=some h→qm P io.obs.length e.2.1 h) {d:io.In} {out:io.Res} (hrun:io.run tt hd okDraw lp fn d=some out):Gm P tt f fn io d out:=by
 intro F G cst w vals R Rl hkb _ hend
 simp only[Io.run,hc] at hrun
 refine calls_of_wp hf hc (cz htt hm hh hdr hkb c hlp hrun Rl ?_)
 intro ex A' G' a' w' R' hdf hk
 have:=hend ex A' G' a' w' R' hk
 cases ex with
 |normal=>exact ⟨hdf,this⟩
 |ret=>exact ⟨hdf,this⟩
 |exit i=>exact this.elim
 |panic v=>exact fun u hu=>⟨hdf,this u hu⟩
theorem JT (v:Int){n:Nat}(h:n≤4):ay (i32.wrap v) n=ay v n:=by
 have e:∃q:Int,i32.wrap v=v+4294967296*q:=by
  refine ⟨(i32.wrap v - v) / 4294967296,?_⟩
  simp[IntKind.wrap,IntKind.signed,IntKind.bits] <;> (try split) <;> omega
 obtain ⟨q,e⟩:=e
 rw[e]
 have key:∀k:Nat,k<4→((v+4294967296*q) / 256 ^ k) % 256=(v / 256 ^ k) % 256:=by
  intro k hk
  match k,hk with
  |0,_=>omega
  |1,_=>omega
  |2,_=>omega
  |3,_=>omega
 induction n with
 |zero=>rfl
 |succ n ih=>rw[ay,ay,key n (by omega),ih (by omega)]
theorem p5 {b:fZ}(h:aP b=0):aK b.1=false∧aL b.2.2.1 b.2.2.2.1 b.2.2.2.2.1=false∧1≤b.2.2.2.2.2.1.length∧b.2.2.2.2.2.1.length≤256∧(bB b.2.2.2.2.2.1).2=0∧(bB b.2.2.2.2.2.1).1.length≤32768:=by
 unfold aP at h
 split at h
 ·cases h
 rename_i h1
 split at h
 ·cases h
 rename_i h2
 split at h
 ·cases h
 rename_i h3
 split at h
 ·cases h
 rename_i h4
 refine ⟨by simpa using h1,by simpa using h2,?_,by omega,h,?_⟩
 ·cases hr:b.2.2.2.2.2.1 with
  |nil=>exact absurd hr h3
  |cons _ _=>simp
 ·unfold bB at h ⊢
  split
  ·simp
  rename_i h5
  rw[if_neg h5] at h
  split
  ·simp
  rename_i h6
  simp only
  omega
theorem bj {R:Type}{L:LI}{n:Nat}{p:LI}{K:LI→Option R}(h:L.length+n≤36000):cK L n p K=K (L++p):=aa (dd.2 ⟨rfl,h⟩) _ _
def jk (b:fZ):LI:=ay b.1 8++(ay (49+((bB b.2.2.2.2.2.1).1.length:Int)) 4++(ay b.2.1 4++[2]))
theorem lD (b:fZ):(jk b).length=17:=by simp[jk,eZ]
theorem Bx {a0 a1 a2 a3 a4:Int}{a5:List bu}(hr:dE (aN a5) a5 0=true)(h:aP (a0,a1,a2,a3,a4,a5,())=0):
  we a0 a1 a2 a3 a4 a5 false=some (jk (a0,a1,a2,a3,a4,a5,())++(0::0::0::0::cm (a0,a1,a2,a3,a4,a5,()) 0 (bB a5).1),36000,i32.wrap (cC 0 (cm (a0,a1,a2,a3,a4,a5,()) 0 (bB a5).1))):=by
 obtain ⟨-,-,h1,h2,-,h3⟩:=p5 h
 have h1:1≤a5.length:=h1
 have h2:a5.length≤256:=h2
 have h3:(bB a5).1.length≤32768:=h3
 have hw:∀x:Int,0≤x→x≤2147483647→i32.wrap x=x:=fun x h h'=>bD (by simp[bi,IntKind.min,IntKind.max,IntKind.signed,IntKind.bits];omega)
 have e1:i32.wrap (i64.wrap (49+((bB a5).1.length:Int)))=49+((bB a5).1.length:Int):=by
  rw[af (n:=49+((bB a5).1.length:Int)) (by omega) (by omega),hw _ (by omega) (by omega)]
 have e2:i32.wrap (i64.wrap ((a5.length:Int) - 1))=(a5.length:Int) - 1:=by
  rw[af (n:=(a5.length:Int) - 1) (by omega) (by omega),hw _ (by omega) (by omega)]
 have e3:i32.wrap (a5.length:Int)=(a5.length:Int):=hw _ (by omega) (by omega)
 have e4:(a5.getD (Int.toNat 0) (0,(false,[],()),(false,[],()),[],())).1=aN a5:=by
  cases a5 with
  |nil=>simp at h1
  |cons r rs=>rfl
 have j1:aW [(bB a5).1]=(bB a5).1.length:=Nat.add_zero _
 have j2:cD [(bB a5).1]=(bB a5).1:=List.append_nil _
 unfold we
 refine bT (by rw[zA,zB];exact ⟨hr,h⟩) ?_
 refine (ac rfl _ _).trans ?_
 rw[e1,e2,e3,e4,j1,j2]
 generalize hblk:(bB a5).1=blk at *
 have ln:∀(v:Int) (n:Nat),(ay v n).length=n:=eZ
 refine (bj (by simp)).trans ?_
 refine (bj (by simp[ln])).trans ?_
 refine (bj (by simp[ln])).trans ?_
 refine (bj (by simp[ln])).trans ?_
 refine (bj (by simp[ln])).trans ?_
 refine (bj (by simp[ln])).trans ?_
 refine (bj (by simp[ln])).trans ?_
 refine bT (by simp only[zA,zB];omega) ?_
 refine (bj (by simp[ln])).trans ?_
 refine bT (decide_eq_true h1) ?_
 refine (bj (by simp[ln])).trans ?_
 refine (bj (by simp[ln])).trans ?_
 refine (bj (by simp[ln])).trans ?_
 refine (bj (by simp[ln])).trans ?_
 refine (bj (by simp[ln])).trans ?_
 refine (bj (by simp[ln];omega)).trans ?_
 have eL:[]++ay a0 8++ay (49+(blk.length:Int)) 4++ay a1 4++ay 2 1++ay 0 4++ay 0 2++ay ((a5.length:Int) - 1) 4++ay (aN a5) 8++ay (fb a5) 8++ay a2 8++ay a3 2++ay a4 4++ay (a5.length:Int) 4++blk
   = jk (a0,a1,a2,a3,a4,a5,())++(0::0::0::0::cm (a0,a1,a2,a3,a4,a5,()) 0 blk):=by
  have q1:ay 2 1=[2]:=rfl
  have q2:ay 0 4=[0,0,0,0]:=rfl
  simp only[jk,cm,hblk,q1,q2,List.nil_append,zK,List.cons_append]
 rw[eL]
 have hL:(jk (a0,a1,a2,a3,a4,a5,())++(0::0::0::0::cm (a0,a1,a2,a3,a4,a5,()) 0 blk)).length=61+blk.length:=by
  simp[lD,cm,ln];omega
 refine bT (decide_eq_true (by omega)) ?_
 refine bT (by simp only[zA,zB];omega) ?_
 have e5:List.drop (Int.toNat 21) (List.take ((jk (a0,a1,a2,a3,a4,a5,())++(0::0::0::0::cm (a0,a1,a2,a3,a4,a5,()) 0 blk)).length:Int).toNat (jk (a0,a1,a2,a3,a4,a5,())++(0::0::0::0::cm (a0,a1,a2,a3,a4,a5,()) 0 blk)))
   = cm (a0,a1,a2,a3,a4,a5,()) 0 blk:=by
  rw[zG,List.take_length]
  show List.drop 21 _=_
  have:(21:Nat)=(jk (a0,a1,a2,a3,a4,a5,())).length+4:=by rw[lD]
  rw[this,List.drop_append]
  rfl
 rw[e5]
 rfl
def Gn (d:iV.In):Tr iV.Res:=
 .ite (!d.1.2.1&&dE (aN d.1.1.2.2.2.2.2.1) d.1.1.2.2.2.2.2.1 0) (.ret (.ret (((kf d.1.1).1,(kf d.1.1).2,()),()))) .no
theorem Nl:HcOk prog 17 (ah iV Gn):=by
 have htt:=cY Tryz.prog 400
 have hf:prog.funcs[17]?=some fE:=by kernel_rfl
 have hc:fE.body=some (aR fE):=by kernel_rfl
 refine lJ htt hf (by kernel_rfl) iV Gn (fun d out hw ho=>?_) (by kernel_rfl)
 obtain ⟨⟨⟨a0,a1,a2,a3,a4,a5,⟨⟩⟩,packed,⟨⟩⟩,⟨⟩⟩:=d
 obtain ⟨hg,ho⟩:=Tr.guard ho
 simp only[zA,Bool.not_eq_true'] at hg
 obtain ⟨hp,hr⟩:=hg
 subst hp
 have ho:Out.ret (((kf (a0,a1,a2,a3,a4,a5,())).1,(kf (a0,a1,a2,a3,a4,a5,())).2,()),())=out:=Option.some.inj ho
 subst ho
 by_cases he:aP (a0,a1,a2,a3,a4,a5,())=0
 rotate_left
 ·have e:kf (a0,a1,a2,a3,a4,a5,())=([],aP (a0,a1,a2,a3,a4,a5,())):=by unfold kf;rw[if_pos he]
  rw[e]
  refine v8 htt hm (gD (l:=CS) (.cons IG .nil)) (dc htt) hf hc (lp:=DQ) (LpsOk.done (by kernel_rfl)).all ?_
  refine (I7 a0 a1 a2 a3 a4 a5 false).trans ?_
  unfold tR
  refine bT (by rw[zA,zB];exact ⟨hr,he⟩) ?_
  exact aa (by simpa using he) _ _
 ·have e:kf (a0,a1,a2,a3,a4,a5,())=(sU (a0,a1,a2,a3,a4,a5,()) 0 (bB a5).1,0):=by unfold kf;rw[if_neg (aC he)]
  rw[e]
  intro F G cst w vals R Rl hkb hq hend
  have hq:=hq rfl
  have hrun:=(MW a0 a1 a2 a3 a4 a5 false).trans (Bx hr he)
  refine calls_of_wp hf hc (By htt hm (gD wk) (dc htt) hkb 20 (aR fE) hrun Rl ?_)
  intro A1 G1 a1' w1 R1 hd1 h1
  have hsp:s9 20 (aR fE)=.seq (.region 27 gV false) pq:=by kernel_rfl
  rw[hsp]
  refine wp_seq (wp_region ?_)
  rw[show List.range gV.size=List.range 7++[7] by kernel_rfl]
  refine lE htt (gD wk) hkb [7] (List.range 7) h1 R1 ?_
  intro ex A2 G2 a2' w2 R2 hd2 h2
  cases ex with
  |exit i=>cases h2
  |ret=>cases h2
  |panic v=>cases h2
  |normal=>
  have hT:21≤(jk (a0,a1,a2,a3,a4,a5,())++(0::0::0::0::cm (a0,a1,a2,a3,a4,a5,()) 0 (bB a5).1)).length:=by
   simp[lD];omega
  refine KE hkb hq (fun b o h=>Rl.gh.sB b o (Rl.gh.sub b o h)) Rl.gh.tab R2 (hd2.trans hd1) h2 hT ?_ hend
  refine (KD _ _).trans ?_
  have eS:fX (jk (a0,a1,a2,a3,a4,a5,())++(0::0::0::0::cm (a0,a1,a2,a3,a4,a5,()) 0 (bB a5).1)) 17 (i32.wrap (cC 0 (cm (a0,a1,a2,a3,a4,a5,()) 0 (bB a5).1)))
    = sU (a0,a1,a2,a3,a4,a5,()) 0 (bB a5).1:=by
   have:=F8 (jk (a0,a1,a2,a3,a4,a5,())) (cm (a0,a1,a2,a3,a4,a5,()) 0 (bB a5).1) 0 0 0 0 (i32.wrap (cC 0 (cm (a0,a1,a2,a3,a4,a5,()) 0 (bB a5).1)))
   rw[lD] at this
   rw[this,JT _ (Nat.le_refl 4)]
   unfold jk sU
   simp only[zK]
  rw[eS]
  refine aa (decide_eq_true ?_) _ _
  obtain ⟨-,-,h1,h2,-,h3⟩:=p5 he
  have h3:(bB a5).1.length≤32768:=h3
  simp[sU,cm,eZ]
  omega
end
end Go.Proofs.YtcbcbjdobbgddaaGreatDoor.Sym
namespace Go.Proofs.YtcbcbjdobbgddaaGreatDoor.Sym
open Go
noncomputable section
def Ay:fZ:=(5,1,-1,-1,-1,[(1000,(true,[],()),(false,[104,105],()),[],())],())
abbrev gP:Io:=⟨[],[],[],[yw],none⟩
def vH (d:gP.In):Tr gP.Res:=.ret (.ret (((5,1,-1,-1,-1,[(1000,(true,[],()),(false,[104,105],()),[],())],()),()),()))
abbrev yl:List (Nat×Hc):=[]
def HN:Hd:=br yl
def zn:Lp:=bA []
def Bj:Option gP.Res:=oR (((5,1,-1,-1,-1,[(1000,(true,[],()),(false,[104,105],()),[],())],()),()),())
theorem FH:Io.run tt HN dr zn gP Tryz.f32 ((),())=Bj:=by kernel_rfl
theorem IP:HcOk prog 32 (ah gP vH):=by
 refine bK (cs:=yl) HcsOk.nil (lp:=zn) (fn:=Tryz.f32) gP (.done (by kernel_rfl)) vH ?_
 rintro ⟨⟨⟩,⟨⟩⟩ out hw ho
 rw[← ho]
 exact FH
abbrev gO:Io:=⟨[],[],[],[dB],none⟩
def vF (d:gO.In):Tr gO.Res:=.ret (.ret ((true,()),()))
abbrev yk:List (Nat×Hc):=[(32,ah gP vH),(17,ah iV Gn),(12,ah jD Cy),(14,ah fP vT)]
def HM:Hd:=br yk
def zm:Lp:=bA []
def rE:Option gO.Res:=bif dE (aN [(1000,(true,[],()),(false,[104,105],()),[],())]) [(1000,(true,[],()),(false,[104,105],()),[],())] 0 then bif (kf (5,1,-1,-1,-1,[(1000,(true,[],()),(false,[104,105],()),[],())],())).2 != 0 then oR ((false,()),()) else bif (↑[0,0,0,0,0,0,0,5,0,0,0,58,0,0,0,1,2,35,61,173,68,0,0,0,0,0,0,0,0,0,0,0,0,3,232,0,0,0,0,0,0,3,232,255,255,255,255,255,255,255,255,255,255,255,255,255,255,0,0,0,1,16,0,0,0,1,4,104,105,0].length:Int) != 70 then oR ((false,()),()) else bif decide (0≤7)&&decide (7<(↑[0,0,0,0,0,0,0,5,0,0,0,58,0,0,0,1,2,35,61,173,68,0,0,0,0,0,0,0,0,0,0,0,0,3,232,0,0,0,0,0,0,3,232,255,255,255,255,255,255,255,255,255,255,255,255,255,255,0,0,0,1,16,0,0,0,1,4,104,105,0].length:Int)) then bif [0,0,0,0,0,0,0,5,0,0,0,58,0,0,0,1,2,35,61,173,68,0,0,0,0,0,0,0,0,0,0,0,0,3,232,0,0,0,0,0,0,3,232,255,255,255,255,255,255,255,255,255,255,255,255,255,255,0,0,0,1,16,0,0,0,1,4,104,105,0].getD (Int.toNat 7) 0 != 5 then oR ((false,()),()) else bif decide (0≤11)&&decide (11<(↑[0,0,0,0,0,0,0,5,0,0,0,58,0,0,0,1,2,35,61,173,68,0,0,0,0,0,0,0,0,0,0,0,0,3,232,0,0,0,0,0,0,3,232,255,255,255,255,255,255,255,255,255,255,255,255,255,255,0,0,0,1,16,0,0,0,1,4,104,105,0].length:Int)) then bif [0,0,0,0,0,0,0,5,0,0,0,58,0,0,0,1,2,35,61,173,68,0,0,0,0,0,0,0,0,0,0,0,0,3,232,0,0,0,0,0,0,3,232,255,255,255,255,255,255,255,255,255,255,255,255,255,255,0,0,0,1,16,0,0,0,1,4,104,105,0].getD (Int.toNat 11) 0 != 58 then oR ((false,()),()) else bif decide (0≤16)&&decide (16<(↑[0,0,0,0,0,0,0,5,0,0,0,58,0,0,0,1,2,35,61,173,68,0,0,0,0,0,0,0,0,0,0,0,0,3,232,0,0,0,0,0,0,3,232,255,255,255,255,255,255,255,255,255,255,255,255,255,255,0,0,0,1,16,0,0,0,1,4,104,105,0].length:Int)) then bif [0,0,0,0,0,0,0,5,0,0,0,58,0,0,0,1,2,35,61,173,68,0,0,0,0,0,0,0,0,0,0,0,0,3,232,0,0,0,0,0,0,3,232,255,255,255,255,255,255,255,255,255,255,255,255,255,255,0,0,0,1,16,0,0,0,1,4,104,105,0].getD (Int.toNat 16) 0 != 2 then oR ((false,()),()) else bif decide (0≤61)&&decide (61<(↑[0,0,0,0,0,0,0,5,0,0,0,58,0,0,0,1,2,35,61,173,68,0,0,0,0,0,0,0,0,0,0,0,0,3,232,0,0,0,0,0,0,3,232,255,255,255,255,255,255,255,255,255,255,255,255,255,255,0,0,0,1,16,0,0,0,1,4,104,105,0].length:Int)) then bif [0,0,0,0,0,0,0,5,0,0,0,58,0,0,0,1,2,35,61,173,68,0,0,0,0,0,0,0,0,0,0,0,0,3,232,0,0,0,0,0,0,3,232,255,255,255,255,255,255,255,255,255,255,255,255,255,255,0,0,0,1,16,0,0,0,1,4,104,105,0].getD (Int.toNat 61) 0 != 16 then oR ((false,()),()) else bif decide ([0,0,0,0,0,0,0,5,0,0,0,58,0,0,0,1,2,35,61,173,68,0,0,0,0,0,0,0,0,0,0,0,0,3,232,0,0,0,0,0,0,3,232,255,255,255,255,255,255,255,255,255,255,255,255,255,255,0,0,0,1,16,0,0,0,1,4,104,105,0].length≤4294960000) then bif (aO [0,0,0,0,0,0,0,5,0,0,0,58,0,0,0,1,2,35,61,173,68,0,0,0,0,0,0,0,0,0,0,0,0,3,232,0,0,0,0,0,0,3,232,255,255,255,255,255,255,255,255,255,255,255,255,255,255,0,0,0,1,16,0,0,0,1,4,104,105,0]).2 == 0 then oR ((eB (aO [0,0,0,0,0,0,0,5,0,0,0,58,0,0,0,1,2,35,61,173,68,0,0,0,0,0,0,0,0,0,0,0,0,3,232,0,0,0,0,0,0,3,232,255,255,255,255,255,255,255,255,255,255,255,255,255,255,0,0,0,1,16,0,0,0,1,4,104,105,0]).1 (5,1,-1,-1,-1,[(1000,(true,[],()),(false,[104,105],()),[],())],()),()),()) else oR ((false,()),()) else none else none else none else none else none else none
theorem FG:Io.run tt HM dr zm gO Tryz.f10 ((),())=rE:=by kernel_rfl
theorem IO:HcOk prog 10 (ah gO vF):=by
 refine bK (cs:=yk) (.cons IP (.cons Nl (.cons IC (.cons IZ .nil)))) (lp:=zm) (fn:=Tryz.f10) gO (.done (by kernel_rfl)) vF ?_
 rintro ⟨⟨⟩,⟨⟩⟩ out hw ho
 cases ho
 have e:rE=oR ((eB Ay Ay,()),()):=by kernel_rfl
 refine FG.trans (e.trans ?_)
 rw[mm.2 rfl]
abbrev ix:Io:=⟨[dL,jx,Bw],[],[],[dB],none⟩
def vG (d:ix.In):Tr ix.Res:=.ite (decide (d.1.1.length≤4294950000)) (.ret (.ret ((true,()),()))) .no
abbrev C1:List (Nat×Hc):=[(10,ah gO vF),(11,ah kP Cx),(29,ah m6 GH),(30,w9 (ah mI Gp)),(15,ah gG vu),(28,vW)]
def KS:Hd:=br C1
def DW:Lp:=bA []
def t6 (a0:LI)(a1 a2:Int):Option ix.Res:=bif decide (a0.length≤4294967000) then bif decide (a0.length≤4294960000) then bif decide (0≤0)&&(decide (0≤(↑a0.length:Int))&&decide ((↑a0.length:Int)≤(↑(List.length (a0++[13,20,27,34,41,48,55,62,69,76,83,90,97,104,111,118,125,132,139,146,153,160,167,174,181,188,195,202,209,216,223,230,237,244,251,2,9,16,23,30,37,44,51,58,65,72,79,86,93,100,107,114,121,128,135,142,149,156,163,170,177,184,191,198,205,212,219,226,233,240,247,254,5,12,19,26,33,40,47,54,61,68,75,82,89,96,103,110,117,124,131,138,145,152,159,166])):Int))) then bif decide ((List.drop (Int.toNat 0) (List.take (↑a0.length:Int).toNat (a0++[13,20,27,34,41,48,55,62,69,76,83,90,97,104,111,118,125,132,139,146,153,160,167,174,181,188,195,202,209,216,223,230,237,244,251,2,9,16,23,30,37,44,51,58,65,72,79,86,93,100,107,114,121,128,135,142,149,156,163,170,177,184,191,198,205,212,219,226,233,240,247,254,5,12,19,26,33,40,47,54,61,68,75,82,89,96,103,110,117,124,131,138,145,152,159,166]))).length≤4294960000) then bif decide (0≤0)&&(decide (0≤(↑a0.length:Int))&&decide ((↑a0.length:Int)≤(↑(List.length (a0++[13,20,27,34,41,48,55,62,69,76,83,90,97,104,111,118,125,132,139,146,153,160,167,174,181,188,195,202,209,216,223,230,237,244,251,2,9,16,23,30,37,44,51,58,65,72,79,86,93,100,107,114,121,128,135,142,149,156,163,170,177,184,191,198,205,212,219,226,233,240,247,254,5,12,19,26,33,40,47,54,61,68,75,82,89,96,103,110,117,124,131,138,145,152,159,166])):Int))) then bif decide ((List.drop (Int.toNat 0) (List.take (↑a0.length:Int).toNat (a0++[13,20,27,34,41,48,55,62,69,76,83,90,97,104,111,118,125,132,139,146,153,160,167,174,181,188,195,202,209,216,223,230,237,244,251,2,9,16,23,30,37,44,51,58,65,72,79,86,93,100,107,114,121,128,135,142,149,156,163,170,177,184,191,198,205,212,219,226,233,240,247,254,5,12,19,26,33,40,47,54,61,68,75,82,89,96,103,110,117,124,131,138,145,152,159,166]))).length≤4294960000) then bif (az (List.drop (Int.toNat 0) (List.take (↑a0.length:Int).toNat (a0++[13,20,27,34,41,48,55,62,69,76,83,90,97,104,111,118,125,132,139,146,153,160,167,174,181,188,195,202,209,216,223,230,237,244,251,2,9,16,23,30,37,44,51,58,65,72,79,86,93,100,107,114,121,128,135,142,149,156,163,170,177,184,191,198,205,212,219,226,233,240,247,254,5,12,19,26,33,40,47,54,61,68,75,82,89,96,103,110,117,124,131,138,145,152,159,166]))) a1 a2).2 != (az a0 a1 a2).2 then oR ((false,()),()) else bif (az (List.drop (Int.toNat 0) (List.take (↑a0.length:Int).toNat (a0++[13,20,27,34,41,48,55,62,69,76,83,90,97,104,111,118,125,132,139,146,153,160,167,174,181,188,195,202,209,216,223,230,237,244,251,2,9,16,23,30,37,44,51,58,65,72,79,86,93,100,107,114,121,128,135,142,149,156,163,170,177,184,191,198,205,212,219,226,233,240,247,254,5,12,19,26,33,40,47,54,61,68,75,82,89,96,103,110,117,124,131,138,145,152,159,166]))) a1 a2).2 != (az (List.drop (Int.toNat 0) (List.take (↑a0.length:Int).toNat (a0++[13,20,27,34,41,48,55,62,69,76,83,90,97,104,111,118,125,132,139,146,153,160,167,174,181,188,195,202,209,216,223,230,237,244,251,2,9,16,23,30,37,44,51,58,65,72,79,86,93,100,107,114,121,128,135,142,149,156,163,170,177,184,191,198,205,212,219,226,233,240,247,254,5,12,19,26,33,40,47,54,61,68,75,82,89,96,103,110,117,124,131,138,145,152,159,166]))) a1 a2).2 then oR ((false,()),()) else bif decide (a0.length≤4294967000) then bif !decide (a0++[13,20,27,34,41,48,55,62,69,76,83,90,97,104,111,118,125,132,139,146,153,160,167,174,181,188,195,202,209,216,223,230,237,244,251,2,9,16,23,30,37,44,51,58,65,72,79,86,93,100,107,114,121,128,135,142,149,156,163,170,177,184,191,198,205,212,219,226,233,240,247,254,5,12,19,26,33,40,47,54,61,68,75,82,89,96,103,110,117,124,131,138,145,152,159,166]=a0++[13,20,27,34,41,48,55,62,69,76,83,90,97,104,111,118,125,132,139,146,153,160,167,174,181,188,195,202,209,216,223,230,237,244,251,2,9,16,23,30,37,44,51,58,65,72,79,86,93,100,107,114,121,128,135,142,149,156,163,170,177,184,191,198,205,212,219,226,233,240,247,254,5,12,19,26,33,40,47,54,61,68,75,82,89,96,103,110,117,124,131,138,145,152,159,166]) then oR ((false,()),()) else bif decide ((az (List.drop (Int.toNat 0) (List.take (↑a0.length:Int).toNat (a0++[13,20,27,34,41,48,55,62,69,76,83,90,97,104,111,118,125,132,139,146,153,160,167,174,181,188,195,202,209,216,223,230,237,244,251,2,9,16,23,30,37,44,51,58,65,72,79,86,93,100,107,114,121,128,135,142,149,156,163,170,177,184,191,198,205,212,219,226,233,240,247,254,5,12,19,26,33,40,47,54,61,68,75,82,89,96,103,110,117,124,131,138,145,152,159,166]))) a1 a2).1.length≤4294967000)&&decide ((az (List.drop (Int.toNat 0) (List.take (↑a0.length:Int).toNat (a0++[13,20,27,34,41,48,55,62,69,76,83,90,97,104,111,118,125,132,139,146,153,160,167,174,181,188,195,202,209,216,223,230,237,244,251,2,9,16,23,30,37,44,51,58,65,72,79,86,93,100,107,114,121,128,135,142,149,156,163,170,177,184,191,198,205,212,219,226,233,240,247,254,5,12,19,26,33,40,47,54,61,68,75,82,89,96,103,110,117,124,131,138,145,152,159,166]))) a1 a2).1.length≤4294967000) then bif decide ((az (List.drop (Int.toNat 0) (List.take (↑a0.length:Int).toNat (a0++[13,20,27,34,41,48,55,62,69,76,83,90,97,104,111,118,125,132,139,146,153,160,167,174,181,188,195,202,209,216,223,230,237,244,251,2,9,16,23,30,37,44,51,58,65,72,79,86,93,100,107,114,121,128,135,142,149,156,163,170,177,184,191,198,205,212,219,226,233,240,247,254,5,12,19,26,33,40,47,54,61,68,75,82,89,96,103,110,117,124,131,138,145,152,159,166]))) a1 a2).1=(az a0 a1 a2).1)&&decide ((az (List.drop (Int.toNat 0) (List.take (↑a0.length:Int).toNat (a0++[13,20,27,34,41,48,55,62,69,76,83,90,97,104,111,118,125,132,139,146,153,160,167,174,181,188,195,202,209,216,223,230,237,244,251,2,9,16,23,30,37,44,51,58,65,72,79,86,93,100,107,114,121,128,135,142,149,156,163,170,177,184,191,198,205,212,219,226,233,240,247,254,5,12,19,26,33,40,47,54,61,68,75,82,89,96,103,110,117,124,131,138,145,152,159,166]))) a1 a2).1=(az a0 a1 a2).1) then bif decide (a0.length≤4294967000) then oR ((decide (a0++[13,20,27,34,41,48,55,62,69,76,83,90,97,104,111,118,125,132,139,146,153,160,167,174,181,188,195,202,209,216,223,230,237,244,251,2,9,16,23,30,37,44,51,58,65,72,79,86,93,100,107,114,121,128,135,142,149,156,163,170,177,184,191,198,205,212,219,226,233,240,247,254,5,12,19,26,33,40,47,54,61,68,75,82,89,96,103,110,117,124,131,138,145,152,159,166]=a0++[13,20,27,34,41,48,55,62,69,76,83,90,97,104,111,118,125,132,139,146,153,160,167,174,181,188,195,202,209,216,223,230,237,244,251,2,9,16,23,30,37,44,51,58,65,72,79,86,93,100,107,114,121,128,135,142,149,156,163,170,177,184,191,198,205,212,219,226,233,240,247,254,5,12,19,26,33,40,47,54,61,68,75,82,89,96,103,110,117,124,131,138,145,152,159,166]),()),()) else none else oR ((false,()),()) else none else none else none else none else none else none else none else none
theorem Ji (a0:LI)(a1 a2:Int):Io.run tt KS dr DW ix Tryz.f8 ((a0,a1,a2,()),())=t6 a0 a1 a2:=by kernel_rfl
theorem BU (b:LI)(base ep:Int):(az b base ep).1.length≤36016:=by
 unfold az
 split
 ·simp
 split
 ·simp
 rename_i h _
 have h:(aO b).2=0:=Classical.byContradiction h
 obtain ⟨h1,h2⟩:=yA h
 simp only[zH,eZ,List.length_take,List.length_drop]
 omega
theorem Lv:HcOk prog 8 (ah ix vG):=by
 refine bK (cs:=C1) (.cons IO (.cons okWide (.cons NI (.cons (nj Nm) (.cons Iz (.cons Lm .nil)))))) (lp:=DW) (fn:=Tryz.f8) ix (.done (by kernel_rfl)) vG ?_
 rintro ⟨⟨(b:LI),(base:Int),(ep:Int),⟨⟩⟩,⟨⟩⟩ out hw ho
 obtain ⟨hg,ho⟩:=Tr.guard ho
 have hg:b.length≤4294950000:=of_decide_eq_true hg
 cases ho
 refine (Ji b base ep).trans ?_
 unfold t6
 have e:∀t:LI,List.drop (Int.toNat 0) (List.take (b.length:Int).toNat (b++t))=b:=by
  intro t
  show List.drop 0 (List.take (b.length:Int).toNat (b++t))=b
  rw[zG,List.drop_zero,List.take_left]
 rw[e]
 have sl:∀t:LI,(decide ((0:Int)≤0)&&(decide ((0:Int)≤(b.length:Int))&&decide ((b.length:Int)≤((b++t).length:Int))))=true:=by
  intro t
  simp only[zA,zB,zH];omega
 have hl:=BU b base ep
 have g1:decide (b.length≤4294967000)=true:=decide_eq_true (by omega)
 have g2:decide (b.length≤4294960000)=true:=decide_eq_true (by omega)
 refine (aa g1 _ _).trans ?_
 refine (aa g2 _ _).trans ?_
 refine (aa (sl _) _ _).trans ?_
 refine (aa g2 _ _).trans ?_
 refine (aa (sl _) _ _).trans ?_
 refine (aa g2 _ _).trans ?_
 refine (ac (bne_self_eq_false _) _ _).trans ?_
 refine (ac (bne_self_eq_false _) _ _).trans ?_
 refine (aa g1 _ _).trans ?_
 refine bF (by rw[decide_eq_true rfl];rfl) ?_
 refine bT (by simp only[zA,zB];omega) ?_
 refine bT (by rw[decide_eq_true rfl];rfl) ?_
 refine (aa g1 _ _).trans ?_
 rw[decide_eq_true rfl]
end
end Go.Proofs.YtcbcbjdobbgddaaGreatDoor.Sym
namespace Go.Proofs.YtcbcbjdobbgddaaGreatDoor.Sym
open Go
open Go.IntKind (i8 i16 i32 i64 u8 u16 u32 u64)
open Go.ChangeShapes Go.WideShapes Go.ChangeAt Go.RowKit
noncomputable section
abbrev yW:List (String×DataW Unit):=[("leat/crc.rows",Rows.laid_leat_crc_rows)]
theorem MI:Tryz.prog.globalNamed "leat/crc.rows"=some 0:=by kernel_rfl
theorem OG:(Tryz.prog.globals[0]?).map (·.type)=some ((Tryz.prog.globals[0]?).map (·.type)).get!:=by kernel_rfl
theorem OJ:Tryz.prog.underlying ((Tryz.prog.globals[0]?).map (·.type)).get!=some (.array 16 98):=by kernel_rfl
theorem O6:Tryz.prog.underlying 98=some (.int .u32):=by kernel_rfl
theorem Oq:(Rows.laid_leat_crc_rows:DataW Unit)=.agg (pC.map fun n=>.lit (.int .u32 n)):=by kernel_rfl
set_option maxRecDepth 100000 in
theorem AH {W:World}(h:laidMetH Tryz.prog yW W):fY (S0 W) W:=by
 rw[MakeChecks.laidMetH_plain _ _ _ (by kernel_rfl)] at h
 obtain ⟨ps,⟨g0,t0,cs0,f0,p0,q0,hg0,ht0,hv0,hd0,_,_⟩,_,_⟩:=h
 obtain rfl:=Option.some.inj (MI.symm.trans hg0)
 obtain rfl:=Option.some.inj (OG.symm.trans ht0)
 obtain ⟨xs,m,rfl,hx,hlen,hn,hel⟩:=DataW.trod_array OJ hd0
 have c1:Tryz.prog.cellsOf 98=1:=by kernel_rfl
 intro g i hg hi
 have hg:g=0:=Nat.eq_of_beq_eq_true hg
 subst hg
 have hi:i<16:=hi
 have key:W.cell? ⟨0,i,none⟩=some (.int .u32 (dY (i:Int))):=by
  have h1:=hel i hi
  have h2:xs[i]?=some xs[i]:=List.getElem?_eq_getElem (by omega)
  rw[h2,c1] at h1
  obtain ⟨k,e1,e2,_⟩:=DataW.trod_int O6 h1
  have h3:=World.var?_cell MI hv0 i
  rw[h3]
  have h4:cs0.toList[i]?=some (.int .u32 k):=by
   have:((cs0.toList.drop (i*1)).take 1)[0]?=some (.int .u32 k):=by rw[e1];rfl
   rw[List.getElem?_take] at this
   simpa using this
  have h5:cs0[i]?=some (.int .u32 k):=by simpa using h4
  rw[h5]
  have hk:(pC.map fun n=>(DataW.lit (.int .u32 n):DataW Unit))[i]?=some (.lit (.int .u32 k)):=by
   have hx1:(.agg (pC.map fun n=>.lit (.int .u32 n)):DataW Unit)=.agg (xs.map (·.1)):=Oq.symm.trans (congrArg Prod.fst hx)
   have hx1:=DataW.agg.inj hx1
   rw[hx1,List.getElem?_map,h2]
   simp[e2]
  rw[List.getElem?_map] at hk
  have hs:dY (i:Int)=pC.getD i 0:=rfl
  rw[hs,List.getD_eq_getElem?_getD]
  cases ht:pC[i]? with
  |none=>rw[ht] at hk;cases hk
  |some x=>
   rw[ht] at hk
   simp only[Option.map_some,zC,DataW.lit.injEq,Lit.int.injEq] at hk
   rw[hk.2]
   rfl
 exact ⟨⟨_,key⟩,key⟩
theorem Hs (os:Os)(args:Array Value):laidMetH Tryz.prog yW ((World.doorLaid Tryz.prog 400 os).forCall (fun _ _=>0) ⟨#[],args,[]⟩).memory:=
 laidMetH_of_parts3 (fuel:=8) (laidMet_of_run' 8 (by kernel_rfl) (by kernel_rfl)) (by kernel_rfl) (by kernel_rfl)
section
variable {H:Type} {enc:TypeId×Value→H}
theorem mH {a:Assume}{C:Checked}{os:Os}{f:FuncId}{fn:Func}{s:OpenSpec}{k:(H:Type)→List (DataW H)→Bool}(hk:s.cond=some k){F:Stop.Interp}{conds:List PathCond}{apart fresh handsOn again:Bool}{laid:List (String×DataW Unit)}
  (own:ownKnob C.prog.godebug=none) (started:os.Started) (noInit:C.prog.inits.idxOf? f=none) (hfn:C.prog.funcs[f]?=some fn)
  (witness:∃(w:World) (tape:Tape) (i:Input),w.os=os∧(w.forCall tape i).Shaped C.prog∧i.vars=[]∧Input.okWide C.prog (w.forCall tape i) .any w.heap.size f i∧
   ((s.pre enc C.prog fn conds apart (w.forCall tape i).memory i.args∧laidMetH C.prog laid (w.forCall tape i).memory)∧sizedMet enc C.prog fn s apart (w.forCall tape i).memory i.args)∧a.holds C.prog (lone (Frame.enter C.prog f i.args .normal) [] (w.forCall tape i)))
  (contract:∀(W:World) (base:Nat) (args:Array Value) (ds gs:List (DataW H)) (before:List MemPlace),
   (∀(j:Nat) t v,fn.params[j]?=some t→args[j]?=some v→Value.okWide C.prog W .any base t v)→
   DataW.Whole enc C.prog fn.params.toList s.vars apart W args.toList ds gs before→k H (ds++gs)=true→laidMetH C.prog laid W→
   Calls C.prog f args W fun e W'=>∃v,e=.returned v∧(s.at F).post enc C.prog fn apart fresh handsOn again W args v W'):
  ReturnsInHanded a C os f .any (fun w args=>(s.pre enc C.prog fn conds apart w args∧laidMetH C.prog laid w)∧sizedMet enc C.prog fn s apart w args) ((s.at F).post enc C.prog fn apart fresh handsOn again):=by
 refine returnsInHanded_of_calls own started noInit witness ?_
 intro w tape i _ _ _ hok hpre hholds
 obtain ⟨_,_,_,fn',hfn',_,_,_,_,hval⟩:=hok
 have e:fn'=fn:=Option.some.inj (hfn'.symm.trans hfn)
 subst e
 obtain ⟨ds,gs,before,hw,hc,hkk⟩:=(OpenSpec.pre_some hk conds apart _ _).1 hpre.1.1
 have hw':=DataW.Whole.of_heap (w':=w.forCall tape i) (by rfl) hw
 refine (contract (w.forCall tape i) w.heap.size i.args ds gs before hval hw' hkk (hpre.1.2.of_heap (by rfl))).mono fun e W' ⟨v,he,hp⟩=>?_
 subst he
 exact ChangeSpec.post_blind hp
theorem xt {C:Checked}{os:Os}{f:FuncId}{fn:Func}{s:OpenSpec}{k:(H:Type)→List (DataW H)→Bool}(hk:s.cond=some k){apart:Bool}{laid:List (String×DataW Unit)}(w0:World)(args:Array Value)(fuel:Nat)(hos:w0.os=os)
  (hsh:(w0.forCall (fun _ _=>0) ⟨#[],args,[]⟩).Shaped C.prog)
  (hok:Input.okWideB C.prog (w0.forCall (fun _ _=>0) ⟨#[],args,[]⟩) f ⟨#[],args,[]⟩=true)
  {x:List (DataW H)×List (DataW H)×List MemPlace} (hx:DataW.whole enc C.prog (w0.forCall (fun _ _=>0) ⟨#[],args,[]⟩).memory fn.params.toList s.vars apart args.toList fuel=some x)
  (hkk:k H (x.1++x.2.1)=true)
  (hsz:s.bare.sizedB enc C.prog fn apart (w0.forCall (fun _ _=>0) ⟨#[],args,[]⟩).memory args fuel=true)
  (hl:laidMetH C.prog laid (w0.forCall (fun _ _=>0) ⟨#[],args,[]⟩).memory):
  ∃(w:World) (tape:Tape) (i:Input),w.os=os∧(w.forCall tape i).Shaped C.prog∧i.vars=[]∧Input.okWide C.prog (w.forCall tape i) .any w.heap.size f i∧
   ((s.pre enc C.prog fn [] apart (w.forCall tape i).memory i.args∧laidMetH C.prog laid (w.forCall tape i).memory)∧sizedMet enc C.prog fn s apart (w.forCall tape i).memory i.args)∧({}:Assume).holds C.prog (lone (Frame.enter C.prog f i.args .normal) [] (w.forCall tape i)):=
 ⟨w0,fun _ _=>0,⟨#[],args,[]⟩,hos,hsh,(Input.okWide_of_okWideB (base:=0) hok).1,(Input.okWide_of_okWideB hok).2,
  ⟨⟨(OpenSpec.pre_some hk [] apart _ _).2 ⟨x.1,x.2.1,x.2.2,DataW.Whole_of_whole hx,rfl,hkk⟩,hl⟩,sizedMet_of_sizedB hsz⟩,by
  simp only[Assume.holds]
  exact ⟨by simp,by simp,fun _=>Modest.zero,by simp,by simp⟩⟩
end
end
end Go.Proofs.YtcbcbjdobbgddaaGreatDoor.Sym
