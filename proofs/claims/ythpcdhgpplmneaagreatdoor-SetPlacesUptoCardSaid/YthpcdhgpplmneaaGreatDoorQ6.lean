/- batch: head, Decode, Rebase. -/
import Derived.Test.YthpcdhgpplmneaaGreatDoorQ5

set_option linter.unusedVariables false
set_option linter.unusedSimpArgs false
namespace Go.Proofs.YthpcdhgpplmneaaGreatDoor.Sym
open Go
open Go.IntKind (i8 i16 i32 i64 u8 u16 u32 u64)
noncomputable section
def Eh (a0:LI):Option (Out ((wi×Int×Unit)×Unit) Empty):=bif aQ (bc (a0.take 61) 0 8) then oR (((0,0,0,false,0,0,0,0,0,0,()),80,()),()) else bif bc (a0.take 61) (0+8+4+4+1+4) 2 != 0&&!bc (a0.take 61) (0+8+4+4+1+4) 2 == 1 then oR (((0,0,0,false,0,0,0,0,0,0,()),83,()),()) else bif ba (bc (a0.take 61) (0+8+4+4+1+4+2+4+8+8) 8) (bc (a0.take 61) (0+8+4+4+1+4+2+4+8+8+8) 2) (bc (a0.take 61) (0+8+4+4+1+4+2+4+8+8+8+2) 4) then oR (((0,0,0,false,0,0,0,0,0,0,()),84,()),()) else bif decide (bc (a0.take 61) (0+8+4+4+1+4+2+4+8+8+8+2+4) 4<1) then oR (((0,0,0,false,0,0,0,0,0,0,()),85,()),()) else bif decide (256<bc (a0.take 61) (0+8+4+4+1+4+2+4+8+8+8+2+4) 4) then oR (((0,0,0,false,0,0,0,0,0,0,()),9,()),()) else bif bc (a0.take 61) (0+8+4+4+1+4+2) 4 != i32.wrap (bc (a0.take 61) (0+8+4+4+1+4+2+4+8+8+8+2+4) 4 - 1) then oR (((0,0,0,false,0,0,0,0,0,0,()),72,()),()) else bif (ax a0 0).2 != 0 then oR (((0,0,0,false,0,0,0,0,0,0,()),(ax a0 0).2,()),()) else oR (((bc (a0.take 61) 0 8,(ax a0 0).1,bc (a0.take 61) (0+8+4) 4,bc (a0.take 61) (0+8+4+4+1+4) 2 == 1,i64.wrap (bc (a0.take 61) (0+8+4+4+1+4+2+4+8+8+8+2+4) 4),bc (a0.take 61) (0+8+4+4+1+4+2+4) 8,bc (a0.take 61) (0+8+4+4+1+4+2+4+8) 8,bc (a0.take 61) (0+8+4+4+1+4+2+4+8+8) 8,bc (a0.take 61) (0+8+4+4+1+4+2+4+8+8+8) 2,bc (a0.take 61) (0+8+4+4+1+4+2+4+8+8+8+2) 4,()),0,()),())
theorem Oj {b:LI}{p:Nat}(h:p<b.length):(b.drop p).take 1=[b.getD p 0]:=by
 rw[zE h,List.take_succ_cons,List.take_zero,aK h]
theorem Q7 {b:LI}{p:Nat}(h:p+1<b.length):(b.drop p).take 2=[b.getD p 0,b.getD (p+1) 0]:=by
 rw[zE (show p<b.length by omega),List.take_succ_cons,Oj h,aK (show p<b.length by omega)]
theorem Tc {b:LI}{p:Nat}(h:p<b.length):aw b p 1=if 128≤b.getD p 0 then b.getD p 0 - 256 else b.getD p 0:=by
 unfold aw;rw[Oj h];rfl
theorem Td {b:LI}{p:Nat}(h:p+1<b.length):aw b p 2=(if 128≤b.getD p 0 then b.getD p 0 - 256 else b.getD p 0)*256+b.getD (p+1) 0:=by
 unfold aw;rw[Q7 h];rfl
theorem QL:∀{l:LI},(∀c∈l,0≤c∧c≤255)→l.length=4→u32.wrap (cn l)=aZ l
 |[a,b,c,d],h,_=>by
  have ha:=h a (by simp)
  have hb:=h b (by simp)
  have hc:=h c (by simp)
  have hd:=h d (by simp)
  simp only[aZ,cn,List.foldl_cons,List.foldl_nil]
  simp[IntKind.wrap,IntKind.signed,IntKind.bits] <;> (try split) <;> omega
theorem Ga:∀{l:LI},(∀c∈l,0≤c∧c≤255)→l.length=4→∀{x:Int},0≤x→x<4294967296→(l=az x 4↔aZ l=x)
 |[a,b,c,d],h,_,x,h0,h1=>by
  have ha:=h a (by simp)
  have hb:=h b (by simp)
  have hc:=h c (by simp)
  have hd:=h d (by simp)
  simp only[aZ,az,List.foldl_cons,List.foldl_nil,List.cons.injEq,and_true]
  constructor
  ·rintro ⟨rfl,rfl,rfl,rfl⟩
   omega
  ·intro h
   omega
theorem Dy (c:Int){b:LI}(hc:0≤c∧c<4294967296)(hb:∀x∈b,0≤x∧x≤255):0≤cw c b∧cw c b<4294967296:=by
 unfold cw
 have h1:=Nat.xor_lt_two_pow (n:=32) (show c.toNat<2 ^ 32 by omega) (show 4294967295<2 ^ 32 by decide)
 have h2:=Nat.xor_lt_two_pow (n:=32) (sL hb h1) (show 4294967295<2 ^ 32 by decide)
 omega
theorem ga {b:LI}{p:Int}(h:(ax b p).2=0):61≤(ax b p).1∧(ax b p).1≤36000∧p+(ax b p).1≤(b.length:Int)∧0≤p:=by
 unfold ax at h ⊢
 split
 ·rename_i h1;rw[if_pos h1] at h;cases h
 rename_i h1;rw[if_neg h1] at h
 split
 ·rename_i h2;rw[if_pos h2] at h;cases h
 rename_i h2;rw[if_neg h2] at h
 split
 ·rename_i h3;rw[if_pos h3] at h;cases h
 rename_i h3;rw[if_neg h3] at h
 split
 ·rename_i h4;rw[if_pos h4] at h;cases h
 rename_i h4;rw[if_neg h4] at h
 split
 ·rename_i h5;rw[if_pos h5] at h;cases h
 simp only
 omega
theorem Iu {b:LI}(hb:∀c∈b,0≤c∧c≤255)(hl:61≤b.length)(h0:(ax b 0).2=0)(h1:¬(ax b 0).1<(b.length:Int)):
  Eh b=some (.ret ((if aQ (aw b 0 8)=true then (bA,(80,())) else if b.getD 21 0≠0∨1<b.getD 22 0 then (bA,(83,())) else if ba (aw b 43 8) (aw b 51 2) (aw b 53 4)=true then (bA,(84,())) else if aw b 57 4<1 then (bA,(85,())) else if 256<aw b 57 4 then (bA,(9,())) else if aw b 23 4≠aw b 57 4 - 1 then (bA,(72,())) else (iO b,(0,()))),())):=by
 have hz:∀p n:Nat,p+n≤61→bc (b.take 61) (p:Int) n=aw b p n:=by
  intro p n h
  rw[kc]
  unfold aw
  rw[List.drop_take,List.take_take,Nat.min_eq_left (by omega)]
 have z0:bc (b.take 61) 0 8=aw b 0 8:=hz 0 8 (by decide)
 have z12:bc (b.take 61) (0+8+4) 4=aw b 12 4:=hz 12 4 (by decide)
 have z21:bc (b.take 61) (0+8+4+4+1+4) 2=aw b 21 2:=hz 21 2 (by decide)
 have z23:bc (b.take 61) (0+8+4+4+1+4+2) 4=aw b 23 4:=hz 23 4 (by decide)
 have z27:bc (b.take 61) (0+8+4+4+1+4+2+4) 8=aw b 27 8:=hz 27 8 (by decide)
 have z35:bc (b.take 61) (0+8+4+4+1+4+2+4+8) 8=aw b 35 8:=hz 35 8 (by decide)
 have z43:bc (b.take 61) (0+8+4+4+1+4+2+4+8+8) 8=aw b 43 8:=hz 43 8 (by decide)
 have z51:bc (b.take 61) (0+8+4+4+1+4+2+4+8+8+8) 2=aw b 51 2:=hz 51 2 (by decide)
 have z53:bc (b.take 61) (0+8+4+4+1+4+2+4+8+8+8+2) 4=aw b 53 4:=hz 53 4 (by decide)
 have z57:bc (b.take 61) (0+8+4+4+1+4+2+4+8+8+8+2+4) 4=aw b 57 4:=hz 57 4 (by decide)
 have a21:=Td (b:=b) (p:=21) (by omega)
 have hat:∀i,0≤b.getD i 0∧b.getD i 0≤255:=fun i=>by
  rw[List.getD_eq_getElem?_getD]
  cases e:b[i]? with
  |none=>exact ⟨by decide,by decide⟩
  |some x=>exact hb x (List.mem_of_getElem? e)
 have g21:=hat 21
 have g22:=hat 22
 have hm:=ga h0
 have hsz:(ax b 0).1=(b.length:Int):=by omega
 unfold Eh
 rw[z0,z12,z21,z23,z27,z35,z43,z51,z53,z57,h0,hsz]
 have hI:iO b=(aw b 0 8,(b.length:Int),aw b 12 4,decide (b.getD 22 0=1),aw b 57 4,aw b 27 8,aw b 35 8,aw b 43 8,aw b 51 2,aw b 53 4,()):=rfl
 rw[hI,a21]
 generalize b.getD 21 0=x at *
 generalize b.getD (21+1) 0=y at *
 generalize aw b 0 8=base at *
 generalize aw b 57 4=cnt at *
 generalize aw b 23 4=mst at *
 cases c1:aQ base with
 |true=>exact (aa rfl _ _)
 |false=>
 refine (ae rfl _ _).trans ?_
 rw[if_neg (show ¬ false=true by decide)]
 by_cases c2:x≠0∨1<y
 ·refine (aa ?_ _ _).trans ?_
  ·simp only[zA,Bool.not_eq_true',bne_iff_ne,beq_eq_false_iff_ne]
   split <;> omega
  ·rw[if_pos c2]
   rfl
 refine (ae ?_ _ _).trans ?_
 ·by_cases hy:y=0
  ·rw[show (if 128≤x then x - 256 else x)*256+y=0 by rw[if_neg (by omega)];omega]
   rfl
  ·rw[show (if 128≤x then x - 256 else x)*256+y=1 by rw[if_neg (by omega)];omega]
   rfl
 rw[if_neg c2]
 have hx:x=0:=by omega
 have hxy:((if 128≤x then x - 256 else x)*256+y == 1)=decide (y=1):=by
  subst hx
  rw[if_neg (by decide),show (0:Int)*256+y=y by omega]
  by_cases h:y=1 <;> simp[h]
 rw[hxy]
 cases c3:ba (aw b 43 8) (aw b 51 2) (aw b 53 4) with
 |true=>exact (aa rfl _ _)
 |false=>
 refine (ae rfl _ _).trans ?_
 rw[if_neg (show ¬ false=true by decide)]
 by_cases c4:cnt<1
 ·refine bT (decide_eq_true c4) ?_
  rw[if_pos c4]
  rfl
 refine bF (decide_eq_false c4) ?_
 rw[if_neg c4]
 by_cases c5:256<cnt
 ·refine bT (decide_eq_true c5) ?_
  rw[if_pos c5]
  rfl
 refine bF (decide_eq_false c5) ?_
 rw[if_neg c5,bW (k:=.i32) (n:=cnt - 1) (by simp[bt,IntKind.min,IntKind.max,IntKind.signed,IntKind.bits];omega),af (n:=cnt) (by omega) (by omega)]
 by_cases c6:mst=cnt - 1
 ·refine bF (by simpa using c6) ?_
  rw[if_neg (au c6)]
  exact ae rfl _ _
 ·refine bT (by simpa using c6) ?_
  rw[if_pos c6]
  rfl
abbrev iY:Io:=⟨[dL,dB],[],[],[Lf,dI],none⟩
def DU (d:iY.In):Tr iY.Res:=.ite (decide (d.1.1.length≤4294960000)) (.ret (.ret (((aj d.1.1 d.1.2.1).1,(aj d.1.1 d.1.2.1).2,()),()))) .no
abbrev Gg:List (Nat×Hc):=[(67,ah i0 yi),(98,ah jh yv),(104,ah zi QQ),(105,ah sT Kd),(99,ah zh QP),(106,ah Hi SK),(107,ah zg QO),(96,ah jc yn),(100,ah gL tj),(108,ah gM yj)]
def O0:Hd:=bI Gg
def Ho:Lp:=bQ []
def wt (a0:LI)(a1:Bool):Option iY.Res:=bif decide ((↑a0.length:Int)<61) then oR (((0,0,0,false,0,0,0,0,0,0,()),1,()),()) else bif decide (a0.length≤4294960000) then bif (ax a0 0).2 != 0 then oR (((0,0,0,false,0,0,0,0,0,0,()),(ax a0 0).2,()),()) else bif decide ((ax a0 0).1<(↑a0.length:Int)) then oR (((0,0,0,false,0,0,0,0,0,0,()),2,()),()) else bif decide (0≤0)&&(decide (0≤61)&&decide (61≤(↑a0.length:Int))) then bif decide ((List.drop (Int.toNat 0) (List.take (Int.toNat 61) a0)).length≤4294967296) then bif iW (List.drop (Int.toNat 0) (List.take (Int.toNat 61) a0)) 0 8 then bif iW (List.drop (Int.toNat 0) (List.take (Int.toNat 61) a0)) (0+8) 4&&decide (0≤4) then bif iW (List.drop (Int.toNat 0) (List.take (Int.toNat 61) a0)) (0+8+4) 4 then bif iW (List.drop (Int.toNat 0) (List.take (Int.toNat 61) a0)) (0+8+4+4) 1 then bif iW (List.drop (Int.toNat 0) (List.take (Int.toNat 61) a0)) (0+8+4+4+1) 4 then bif iW (List.drop (Int.toNat 0) (List.take (Int.toNat 61) a0)) (0+8+4+4+1+4) 2 then bif iW (List.drop (Int.toNat 0) (List.take (Int.toNat 61) a0)) (0+8+4+4+1+4+2) 4 then bif iW (List.drop (Int.toNat 0) (List.take (Int.toNat 61) a0)) (0+8+4+4+1+4+2+4) 8 then bif iW (List.drop (Int.toNat 0) (List.take (Int.toNat 61) a0)) (0+8+4+4+1+4+2+4+8) 8 then bif iW (List.drop (Int.toNat 0) (List.take (Int.toNat 61) a0)) (0+8+4+4+1+4+2+4+8+8) 8 then bif iW (List.drop (Int.toNat 0) (List.take (Int.toNat 61) a0)) (0+8+4+4+1+4+2+4+8+8+8) 2 then bif iW (List.drop (Int.toNat 0) (List.take (Int.toNat 61) a0)) (0+8+4+4+1+4+2+4+8+8+8+2) 4 then bif iW (List.drop (Int.toNat 0) (List.take (Int.toNat 61) a0)) (0+8+4+4+1+4+2+4+8+8+8+2+4) 4 then bif bc (List.drop (Int.toNat 0) (List.take (Int.toNat 61) a0)) (0+8+4+4) 1 != 2 then oR (((0,0,0,false,0,0,0,0,0,0,()),81,()),()) else bif a1 then bif decide (0≤21)&&(decide (21≤(↑a0.length:Int))&&decide ((↑a0.length:Int)≤(↑a0.length:Int))) then bif u32.wrap (bc (List.drop (Int.toNat 0) (List.take (Int.toNat 61) a0)) (0+8+4+4+1) 4) != rc [List.drop (Int.toNat 21) (List.take (↑a0.length:Int).toNat a0)] 0 then oR (((0,0,0,false,0,0,0,0,0,0,()),82,()),()) else bif aQ (bc (List.drop (Int.toNat 0) (List.take (Int.toNat 61) a0)) 0 8) then oR (((0,0,0,false,0,0,0,0,0,0,()),80,()),()) else bif bc (List.drop (Int.toNat 0) (List.take (Int.toNat 61) a0)) (0+8+4+4+1+4) 2 != 0&&!bc (List.drop (Int.toNat 0) (List.take (Int.toNat 61) a0)) (0+8+4+4+1+4) 2 == 1 then oR (((0,0,0,false,0,0,0,0,0,0,()),83,()),()) else bif ba (bc (List.drop (Int.toNat 0) (List.take (Int.toNat 61) a0)) (0+8+4+4+1+4+2+4+8+8) 8) (bc (List.drop (Int.toNat 0) (List.take (Int.toNat 61) a0)) (0+8+4+4+1+4+2+4+8+8+8) 2) (bc (List.drop (Int.toNat 0) (List.take (Int.toNat 61) a0)) (0+8+4+4+1+4+2+4+8+8+8+2) 4) then oR (((0,0,0,false,0,0,0,0,0,0,()),84,()),()) else bif decide (bc (List.drop (Int.toNat 0) (List.take (Int.toNat 61) a0)) (0+8+4+4+1+4+2+4+8+8+8+2+4) 4<1) then oR (((0,0,0,false,0,0,0,0,0,0,()),85,()),()) else bif decide (256<bc (List.drop (Int.toNat 0) (List.take (Int.toNat 61) a0)) (0+8+4+4+1+4+2+4+8+8+8+2+4) 4) then oR (((0,0,0,false,0,0,0,0,0,0,()),9,()),()) else bif bc (List.drop (Int.toNat 0) (List.take (Int.toNat 61) a0)) (0+8+4+4+1+4+2) 4 != i32.wrap (bc (List.drop (Int.toNat 0) (List.take (Int.toNat 61) a0)) (0+8+4+4+1+4+2+4+8+8+8+2+4) 4 - 1) then oR (((0,0,0,false,0,0,0,0,0,0,()),72,()),()) else bif (ax a0 0).2 != 0 then oR (((0,0,0,false,0,0,0,0,0,0,()),(ax a0 0).2,()),()) else oR (((bc (List.drop (Int.toNat 0) (List.take (Int.toNat 61) a0)) 0 8,(ax a0 0).1,bc (List.drop (Int.toNat 0) (List.take (Int.toNat 61) a0)) (0+8+4) 4,bc (List.drop (Int.toNat 0) (List.take (Int.toNat 61) a0)) (0+8+4+4+1+4) 2 == 1,i64.wrap (bc (List.drop (Int.toNat 0) (List.take (Int.toNat 61) a0)) (0+8+4+4+1+4+2+4+8+8+8+2+4) 4),bc (List.drop (Int.toNat 0) (List.take (Int.toNat 61) a0)) (0+8+4+4+1+4+2+4) 8,bc (List.drop (Int.toNat 0) (List.take (Int.toNat 61) a0)) (0+8+4+4+1+4+2+4+8) 8,bc (List.drop (Int.toNat 0) (List.take (Int.toNat 61) a0)) (0+8+4+4+1+4+2+4+8+8) 8,bc (List.drop (Int.toNat 0) (List.take (Int.toNat 61) a0)) (0+8+4+4+1+4+2+4+8+8+8) 2,bc (List.drop (Int.toNat 0) (List.take (Int.toNat 61) a0)) (0+8+4+4+1+4+2+4+8+8+8+2) 4,()),0,()),()) else none else bif aQ (bc (List.drop (Int.toNat 0) (List.take (Int.toNat 61) a0)) 0 8) then oR (((0,0,0,false,0,0,0,0,0,0,()),80,()),()) else bif bc (List.drop (Int.toNat 0) (List.take (Int.toNat 61) a0)) (0+8+4+4+1+4) 2 != 0&&!bc (List.drop (Int.toNat 0) (List.take (Int.toNat 61) a0)) (0+8+4+4+1+4) 2 == 1 then oR (((0,0,0,false,0,0,0,0,0,0,()),83,()),()) else bif ba (bc (List.drop (Int.toNat 0) (List.take (Int.toNat 61) a0)) (0+8+4+4+1+4+2+4+8+8) 8) (bc (List.drop (Int.toNat 0) (List.take (Int.toNat 61) a0)) (0+8+4+4+1+4+2+4+8+8+8) 2) (bc (List.drop (Int.toNat 0) (List.take (Int.toNat 61) a0)) (0+8+4+4+1+4+2+4+8+8+8+2) 4) then oR (((0,0,0,false,0,0,0,0,0,0,()),84,()),()) else bif decide (bc (List.drop (Int.toNat 0) (List.take (Int.toNat 61) a0)) (0+8+4+4+1+4+2+4+8+8+8+2+4) 4<1) then oR (((0,0,0,false,0,0,0,0,0,0,()),85,()),()) else bif decide (256<bc (List.drop (Int.toNat 0) (List.take (Int.toNat 61) a0)) (0+8+4+4+1+4+2+4+8+8+8+2+4) 4) then oR (((0,0,0,false,0,0,0,0,0,0,()),9,()),()) else bif bc (List.drop (Int.toNat 0) (List.take (Int.toNat 61) a0)) (0+8+4+4+1+4+2) 4 != i32.wrap (bc (List.drop (Int.toNat 0) (List.take (Int.toNat 61) a0)) (0+8+4+4+1+4+2+4+8+8+8+2+4) 4 - 1) then oR (((0,0,0,false,0,0,0,0,0,0,()),72,()),()) else bif (ax a0 0).2 != 0 then oR (((0,0,0,false,0,0,0,0,0,0,()),(ax a0 0).2,()),()) else oR (((bc (List.drop (Int.toNat 0) (List.take (Int.toNat 61) a0)) 0 8,(ax a0 0).1,bc (List.drop (Int.toNat 0) (List.take (Int.toNat 61) a0)) (0+8+4) 4,bc (List.drop (Int.toNat 0) (List.take (Int.toNat 61) a0)) (0+8+4+4+1+4) 2 == 1,i64.wrap (bc (List.drop (Int.toNat 0) (List.take (Int.toNat 61) a0)) (0+8+4+4+1+4+2+4+8+8+8+2+4) 4),bc (List.drop (Int.toNat 0) (List.take (Int.toNat 61) a0)) (0+8+4+4+1+4+2+4) 8,bc (List.drop (Int.toNat 0) (List.take (Int.toNat 61) a0)) (0+8+4+4+1+4+2+4+8) 8,bc (List.drop (Int.toNat 0) (List.take (Int.toNat 61) a0)) (0+8+4+4+1+4+2+4+8+8) 8,bc (List.drop (Int.toNat 0) (List.take (Int.toNat 61) a0)) (0+8+4+4+1+4+2+4+8+8+8) 2,bc (List.drop (Int.toNat 0) (List.take (Int.toNat 61) a0)) (0+8+4+4+1+4+2+4+8+8+8+2) 4,()),0,()),()) else none else none else none else none else none else none else none else none else none else none else none else none else none else none else none else none
theorem M8 (a0:LI)(a1:Bool):Io.run tt O0 T4 Ho iY Tryz.f73 ((a0,a1,()),())=wt a0 a1:=by kernel_rfl
theorem PC:HcOk prog 73 (ah iY DU):=by
 refine IK (n:=400) hm (cs:=Gg) (.cons HV (.cons H3 (.cons RN (.cons PE (.cons RM (.cons S6 (.cons RL (.cons HY (.cons An (.cons HW .nil)))))))))) (lp:=Ho) (fn:=Tryz.f73) (by kernel_rfl) (by kernel_rfl) (by kernel_rfl) iY (.done (by kernel_rfl)) DU ?_
 rintro ⟨⟨(b:LI),(sm:Bool),⟨⟩⟩,⟨⟩⟩ out hw ho
 obtain ⟨hg,ho⟩:=Tr.guard ho
 have hg2:b.length≤4294960000:=of_decide_eq_true hg
 clear hg
 cases ho
 have hb:∀c∈b,0≤c∧c≤255:=dN hw.1.1
 refine (M8 b sm).trans ?_
 show _=oR (((aj b sm).1,(aj b sm).2,()),())
 have eE:aW b sm=if (b.length:Int)<61 then 1 else if (ax b 0).2≠0 then (ax b 0).2 else if (ax b 0).1<(b.length:Int) then 2 else if b.getD 16 0≠2 then 81 else if sm=true∧eY b=false then 82
   else if aQ (aw b 0 8)=true then 80 else if b.getD 21 0≠0∨1<b.getD 22 0 then 83 else if ba (aw b 43 8) (aw b 51 2) (aw b 53 4)=true then 84 else if aw b 57 4<1 then 85 else if 256<aw b 57 4 then 9 else if aw b 23 4≠aw b 57 4 - 1 then 72 else 0:=rfl
 have fin:∀e:Int,e≠0→aW b sm=e→some (Out.ret ((bA,(e,())),()):iY.Res)=oR (((aj b sm).1,(aj b sm).2,()),()):=by
  intro e he h
  have:aj b sm=(bA,e):=by unfold aj;rw[h,if_pos he]
  rw[this]
 unfold wt
 by_cases h1:(b.length:Int)<61
 ·refine bT (decide_eq_true h1) ?_
  exact fin 1 (by decide) (by rw[eE,if_pos h1])
 refine bF (decide_eq_false h1) ?_
 rw[if_neg h1] at eE
 refine bT (decide_eq_true hg2) ?_
 by_cases h2:(ax b 0).2=0
 rotate_left
 ·refine bT (by simpa using h2) ?_
  exact fin _ h2 (by rw[eE,if_pos h2])
 refine bF (by simpa using h2) ?_
 rw[if_neg (au h2)] at eE
 by_cases h3:(ax b 0).1<(b.length:Int)
 ·refine bT (decide_eq_true h3) ?_
  exact fin 2 (by decide) (by rw[eE,if_pos h3])
 refine bF (decide_eq_false h3) ?_
 rw[if_neg h3] at eE
 have hH:(List.drop (Int.toNat 0) (List.take (Int.toNat 61) b))=b.take 61:=rfl
 have hHl:(b.take 61).length=61:=by simp;omega
 rw[hH]
 refine bT (by simp only[zA,zB];omega) ?_
 refine bT (by rw[hHl];decide) ?_
 have rm:∀p n:Int,0≤p→p+n≤61→iW (b.take 61) p n=true:=by
  intro p n g1 g2
  unfold iW
  simp only[hHl,zA,zB]
  omega
 refine (aa (rm 0 8 (by decide) (by decide)) _ _).trans ?_
 refine bT (by rw[rm (0+8) 4 (by decide) (by decide)];rfl) ?_
 refine (aa (rm (0+8+4) 4 (by decide) (by decide)) _ _).trans ?_
 refine (aa (rm (0+8+4+4) 1 (by decide) (by decide)) _ _).trans ?_
 refine (aa (rm (0+8+4+4+1) 4 (by decide) (by decide)) _ _).trans ?_
 refine (aa (rm (0+8+4+4+1+4) 2 (by decide) (by decide)) _ _).trans ?_
 refine (aa (rm (0+8+4+4+1+4+2) 4 (by decide) (by decide)) _ _).trans ?_
 refine (aa (rm (0+8+4+4+1+4+2+4) 8 (by decide) (by decide)) _ _).trans ?_
 refine (aa (rm (0+8+4+4+1+4+2+4+8) 8 (by decide) (by decide)) _ _).trans ?_
 refine (aa (rm (0+8+4+4+1+4+2+4+8+8) 8 (by decide) (by decide)) _ _).trans ?_
 refine (aa (rm (0+8+4+4+1+4+2+4+8+8+8) 2 (by decide) (by decide)) _ _).trans ?_
 refine (aa (rm (0+8+4+4+1+4+2+4+8+8+8+2) 4 (by decide) (by decide)) _ _).trans ?_
 refine (aa (rm (0+8+4+4+1+4+2+4+8+8+8+2+4) 4 (by decide) (by decide)) _ _).trans ?_
 have hz:∀p n:Nat,p+n≤61→bc (b.take 61) (p:Int) n=aw b p n:=by
  intro p n h
  rw[kc]
  unfold aw
  rw[List.drop_take,List.take_take,Nat.min_eq_left (by omega)]
 have z16:bc (b.take 61) (0+8+4+4) 1=aw b 16 1:=hz 16 1 (by decide)
 have z17:bc (b.take 61) (0+8+4+4+1) 4=aw b 17 4:=hz 17 4 (by decide)
 have a16:=Tc (b:=b) (p:=16) (by omega)
 have c16:=t5 hw.1.1 16
 rw[z16,a16]
 by_cases h4:b.getD 16 0=2
 rotate_left
 ·refine bT (by simp only[bne_iff_ne];have c16:0≤b.getD 16 0∧b.getD 16 0≤255:=c16;split <;> omega) ?_
  exact fin 81 (by decide) (by rw[eE,if_pos h4])
 refine bF (by rw[h4];rfl) ?_
 rw[if_neg (au h4)] at eE
 have hT:=Iu hb (by omega) h2 h3
 have fin2:¬(sm=true∧eY b=false)→Eh b=oR (((aj b sm).1,(aj b sm).2,()),()):=by
  intro hn
  rw[if_neg hn] at eE
  rw[hT]
  have hs:aj b sm=if aW b sm≠0 then (bA,aW b sm) else (iO b,0):=rfl
  rw[hs,eE]
  by_cases d1:aQ (aw b 0 8)=true
  ·rw[if_pos d1,if_pos d1,if_pos (by decide)]
  rw[if_neg d1,if_neg d1]
  by_cases d2:b.getD 21 0≠0∨1<b.getD 22 0
  ·rw[if_pos d2,if_pos d2,if_pos (by decide)]
  rw[if_neg d2,if_neg d2]
  by_cases d3:ba (aw b 43 8) (aw b 51 2) (aw b 53 4)=true
  ·rw[if_pos d3,if_pos d3,if_pos (by decide)]
  rw[if_neg d3,if_neg d3]
  by_cases d4:aw b 57 4<1
  ·rw[if_pos d4,if_pos d4,if_pos (by decide)]
  rw[if_neg d4,if_neg d4]
  by_cases d5:256<aw b 57 4
  ·rw[if_pos d5,if_pos d5,if_pos (by decide)]
  rw[if_neg d5,if_neg d5]
  by_cases d6:aw b 23 4≠aw b 57 4 - 1
  ·rw[if_pos d6,if_pos d6,if_pos (by decide)]
  rw[if_neg d6,if_neg d6,if_neg (by decide)]
 cases sm with
 |false=>
  refine (ae rfl _ _).trans ?_
  exact fin2 (fun h=>by cases h.1)
 |true=>
  refine (aa rfl _ _).trans ?_
  rw[zG,List.take_length,show Int.toNat 21=21 from rfl]
  refine bT (by simp only[zA,zB];omega) ?_
  rw[z17]
  have hL:=cm (b:=b) (p:=17) (n:=4) (by omega)
  have hLr:=dH hb 17 4
  have hcr:=Dy 0 (by decide) (b:=b.drop 21) (fun c hc=>hb c (List.mem_of_mem_drop hc))
  have hS:eY b=decide (aZ ((b.drop 17).take 4)=cw 0 (b.drop 21)):=by
   unfold eY
   by_cases h:(b.drop 17).take 4=az (cw 0 (b.drop 21)) 4
   ·rw[if_pos h,decide_eq_true ((Ga hLr hL hcr.1 hcr.2).1 h)]
   ·rw[if_neg h,decide_eq_false (fun h'=>h ((Ga hLr hL hcr.1 hcr.2).2 h'))]
  have hw17:u32.wrap (aw b 17 4)=aZ ((b.drop 17).take 4):=QL hLr hL
  rw[hw17]
  by_cases h5:aZ ((b.drop 17).take 4)=cw 0 (b.drop 21)
  ·refine bF (by show (aZ ((b.drop 17).take 4) != cw 0 (b.drop 21))=false;simp[h5]) ?_
   exact fin2 (fun h=>by rw[hS,decide_eq_true h5] at h;cases h.2)
  ·refine bT (by show (aZ ((b.drop 17).take 4) != cw 0 (b.drop 21))=true;simp[h5]) ?_
   exact fin 82 (by decide) (by rw[eE,if_pos ⟨rfl,by rw[hS,decide_eq_false h5]⟩])
abbrev kt:Io:=⟨[dL],[],[],[IF,dI],none⟩
def FT (d:kt.In):Tr kt.Res:=.ite (decide (d.1.1.length≤4294960000)) (.ret (.ret (((aC d.1.1).1,(aC d.1.1).2,()),()))) .no
abbrev KO:List (Nat×Hc):=[(73,ah iY DU),(74,ah iq yf),(75,ah nK Ki),(76,ah fX tl),(77,ah iZ yh)]
def LD:Hd:=bI KO
abbrev dA:Lo:=⟨⟨(bk (.one (.ptr 2 0)::.any::.one (.ptr 4 0)::.any::.one (.hol (.sl 5 (Ty.int u8)))::.one (.ptr 7 0)::.one hI::.any::ai (ai (bx (.one hI::.one hI::ai (ai (co (bx (bk []))))))))),[none,none,some [hI,hJ,hI,hK,hJ,.onl 91 cc 1036],none,some [hI,hI,hJ,hL,hI,hI,hI,hI,hK,hJ],none,none,some [hI,hJ,hI,hK,hJ,.onl 91 cc 3596]]⟩,[(.ret,⟨(bk (.one (.ptr 2 0)::.one hI::ai (ai (ai (ai (ai (co (bk [])))))))),[none,none,some [hI,hJ,hI,hK,hJ,.onl 91 cc 129]]⟩),(.ret,⟨(bk (.one (.ptr 2 0)::.one hI::ai (ai (ai (ai (ai (co (bk [])))))))),[none,none,some [hI,hJ,hI,hK,hJ,.onl 91 cc 153]]⟩),(.exit 0,⟨(bk (.one (.ptr 2 0)::.any::.one (.ptr 4 0)::.any::.one (.hol (.sl 5 (Ty.int u8)))::.one (.ptr 7 0)::.one hI::.any::ai (ai (ai (ai (ai (bx []))))))),[none,none,some [hI,hJ,hI,hK,hJ,.onl 91 cc 1036],none,some [hI,hI,hJ,hL,hI,hI,hI,hI,hK,hJ],none,none,some [hI,hJ,hI,hK,hJ,.onl 91 cc 3596]]⟩)]⟩
def SB:bB:=(0,(0,(0,(0,(0,([],()))))))
def ld (blk:LI)(f:Int):Nat→Nat→Int→List cy→Int×Int×Int×List cy
 |0,_,p,out=>(0,0,p,out)
 |n+1,i,p,out=>
  if (am blk p).2.2≠0 then ((am blk p).2.2,0,0,[])
  else if (bK (am blk p).1 (i:Int) f).2≠0 then (0,(bK (am blk p).1 (i:Int) f).2,0,[])
  else ld blk f n (i+1) (am blk p).2.1 (out++[(bK (am blk p).1 (i:Int) f).1])
def F9 (blk:LI)(z:bB)(info:wi)(b1 b2 b3 b4 b5:Int)(x:Int×Int×Int×List cy):Tr (ap dA.xs):=
 .ite (decide (x.1≠0)) (.ret (.ret ((),((x.1,()),(SB,())))))
  (.ite (decide (x.2.1≠0)) (.ret (.pan (.ret ((),((x.2.1,()),(SB,()))))))
   (.ret (.pan (.pan (.ret ((),((blk,(x.2.2.1,())),(z,(info,((b1,(b2,(b3,(b4,(b5,(x.2.2.2,())))))),()))))))))))
def tk (d:dA.st.den):Tr (ap dA.xs):=
 .ite (decide (d.1.2.2.2.1=0)&&(decide (d.2.2.2.1.2.2.2.2.2.1.length=0)&&(decide ((0:Int)≤d.1.2.2.1)&&decide (d.1.2.2.1≤(4294960000:Int)))))
  (F9 d.1.1 d.2.1 d.2.2.1 d.2.2.2.1.1 d.2.2.2.1.2.1 d.2.2.2.1.2.2.1 d.2.2.2.1.2.2.2.1 d.2.2.2.1.2.2.2.2.1 (ld d.1.1 d.2.2.1.2.2.2.2.2.1 d.1.2.2.1.toNat 0 d.1.2.1 [])) .no
def zU:Lp:=bQ [(11,aG dA tk)]
def mw {R:Type}(h1:LI)(h2 h3 h4 h5 h6 h7 h8 h9:Int)(h10:List cc.den)(h11 h12 h13:Int)(h14:Bool)(h15 h16 h17 h18 h19 h20 h21 h22 h23 h24 h25:Int)(h26:List cc.den)(next:LI→Int→Int→Int→Int→Int→Int→Int→Int→List cc.den→Int→Int→Int→Bool→Int→Int→Int→Int→Int→Int→Int→Int→Int→Int→Int→List cc.den→Option R)(out:ap dA.xs→Option R):Option R:=bif decide (h4<h3) then bif (am h1 h2).2.2 != 0 then out (.ret ((),(((am h1 h2).2.2,()),((0,(0,(0,(0,(0,([],())))))),())))) else bif (bK (am h1 h2).1 h4 h16).2 != 0 then out (.pan (.ret ((),(((bK (am h1 h2).1 h4 h16).2,()),((0,(0,(0,(0,(0,([],())))))),()))))) else bif decide (h26.length+1≤4294967296) then next (h1) ((am h1 h2).2.1) (h3) (i64.wrap (h4+1)) (h5) (h6) (h7) (h8) (h9) (h10) (h11) (h12) (h13) (h14) (h15) (h16) (h17) (h18) (h19) (h20) (h21) (h22) (h23) (h24) (h25) (h26++[(bK (am h1 h2).1 h4 h16).1]) else none else out (.pan (.pan (.ret ((),((h1,(h2,())),((h5,(h6,(h7,(h8,(h9,(h10,())))))),((h11,(h12,(h13,(h14,(h15,(h16,(h17,(h18,(h19,(h20,())))))))))),((h21,(h22,(h23,(h24,(h25,(h26,())))))),()))))))))
def qI (n:Nat)(h1:LI)(h2 h3 h4 h5 h6 h7 h8 h9:Int)(h10:List cc.den)(h11 h12 h13:Int)(h14:Bool)(h15 h16 h17 h18 h19 h20 h21 h22 h23 h24 h25:Int)(h26:List cc.den):Option (ap dA.xs):=fR tt LD dr zU 0 Tryz.f56 (bX Tryz.f56 0) n (dA.st.mk' ((h1,(h2,(h3,(h4,())))),((h5,(h6,(h7,(h8,(h9,(h10,())))))),((h11,(h12,(h13,(h14,(h15,(h16,(h17,(h18,(h19,(h20,())))))))))),((h21,(h22,(h23,(h24,(h25,(h26,())))))),()))))) (bC dA.xs)
theorem xS (n:Nat)(h1:LI)(h2 h3 h4 h5 h6 h7 h8 h9:Int)(h10:List cc.den)(h11 h12 h13:Int)(h14:Bool)(h15 h16 h17 h18 h19 h20 h21 h22 h23 h24 h25:Int)(h26:List cc.den):qI (n+1) h1 h2 h3 h4 h5 h6 h7 h8 h9 h10 h11 h12 h13 h14 h15 h16 h17 h18 h19 h20 h21 h22 h23 h24 h25 h26=mw h1 h2 h3 h4 h5 h6 h7 h8 h9 h10 h11 h12 h13 h14 h15 h16 h17 h18 h19 h20 h21 h22 h23 h24 h25 h26 (qI n) some:=by kernel_rfl
theorem CE (blk:LI)(z1 z2 z3 z4 z5:Int)(z6:List cy)(i1 i2 i3:Int)(i4:Bool)(i5 i6 i7 i8 i9 i10 b1 b2 b3 b4 b5:Int):∀(n k i:Nat) (p:Int) (out:List cy),n<k→out.length=i→i+n≤4294960000→
  qI k blk p ((i+n:Nat):Int) i z1 z2 z3 z4 z5 z6 i1 i2 i3 i4 i5 i6 i7 i8 i9 i10 b1 b2 b3 b4 b5 out=(F9 blk (z1,z2,z3,z4,z5,z6,()) (i1,i2,i3,i4,i5,i6,i7,i8,i9,i10,()) b1 b2 b3 b4 b5 (ld blk i6 n i p out)).val:=by
 intro n
 induction n with
 |zero=>
  intro k i p out h1 h2 h3
  obtain ⟨k,rfl⟩:∃j,k=j+1:=⟨k - 1,by omega⟩
  rw[xS]
  unfold mw
  refine bF (by simp) ?_
  rfl
 |succ n ih=>
  intro k i p out h1 h2 h3
  obtain ⟨k,rfl⟩:∃j,k=j+1:=⟨k - 1,by omega⟩
  rw[xS]
  unfold mw
  refine bT (decide_eq_true (by omega)) ?_
  have e:ld blk i6 (n+1) i p out=if (am blk p).2.2≠0 then ((am blk p).2.2,0,0,[]) else if (bK (am blk p).1 (i:Int) i6).2≠0 then (0,(bK (am blk p).1 (i:Int) i6).2,0,[]) else ld blk i6 n (i+1) (am blk p).2.1 (out++[(bK (am blk p).1 (i:Int) i6).1]):=rfl
  rw[e]
  by_cases c1:(am blk p).2.2=0
  ·refine bF (by simpa using c1) ?_
   rw[if_neg (au c1)]
   by_cases c2:(bK (am blk p).1 (i:Int) i6).2=0
   ·refine bF (by simpa using c2) ?_
    rw[if_neg (au c2)]
    refine bT (decide_eq_true (by omega)) ?_
    rw[af (n:=(i:Int)+1) (by omega) (by omega)]
    have:=ih k (i+1) (am blk p).2.1 (out++[(bK (am blk p).1 (i:Int) i6).1]) (by omega) (by simp;omega) (by omega)
    rw[show i+1+n=i+(n+1) by omega] at this
    exact this
   ·refine bT (by simpa using c2) ?_
    rw[if_pos c2]
    unfold F9
    rw[Tr.val_ite,Tr.val_ite,if_neg (by simp),if_pos (decide_eq_true c2)]
    rfl
  ·refine bT (by simpa using c1) ?_
   rw[if_pos c1]
   unfold F9
   rw[Tr.val_ite,if_pos (decide_eq_true c1)]
   rfl
theorem rU (blk:LI)(f:Int):∀(n i:Nat) (p:Int) (out:List cy),(aH blk f n i p out).2.2=0→(aH blk f n i p out).1.length=out.length+n
 |0,_,_,_,_=>rfl
 |n+1,i,p,out,h=>by
  unfold aH at h ⊢
  split
  ·rename_i c;rw[if_pos c] at h;exact absurd h c
  rename_i c;rw[if_neg c] at h
  split
  ·rename_i c2;rw[if_pos c2] at h;cases h
  rename_i c2;rw[if_neg c2] at h
  split
  ·rename_i c3;rw[if_pos c3] at h;cases h
  rename_i c3;rw[if_neg c3] at h
  rw[rU blk f n (i+1) _ _ h]
  simp;omega
theorem Ii (blk:LI)(f:Int):∀(n i:Nat) (p:Int) (out:List cy),
  ((aH blk f n i p out).2.2=0→(ld blk f n i p out)=(0,0,(aH blk f n i p out).2.1,(aH blk f n i p out).1))∧
  ((aH blk f n i p out).2.2≠0→(ld blk f n i p out).1=(aH blk f n i p out).2.2∨(ld blk f n i p out).1=0∧(ld blk f n i p out).2.1=(aH blk f n i p out).2.2)
 |0,i,p,out=>⟨fun _=>rfl,fun h=>absurd rfl h⟩
 |n+1,i,p,out=>by
  have e:aH blk f (n+1) i p out=if (am blk p).2.2≠0 then ([],0,(am blk p).2.2) else if (am blk p).1.2.1≠(i:Int) then ([],0,72) else if i=0∧(am blk p).1.1≠0∨aN (f+(am blk p).1.1)=false then ([],0,86)
    else aH blk f n (i+1) (am blk p).2.1 (out++[(f+(am blk p).1.1,(am blk p).1.2.2.1,(am blk p).1.2.2.2.1,(am blk p).1.2.2.2.2.1,())]):=rfl
  have e2:ld blk f (n+1) i p out=if (am blk p).2.2≠0 then ((am blk p).2.2,0,0,[]) else if (bK (am blk p).1 (i:Int) f).2≠0 then (0,(bK (am blk p).1 (i:Int) f).2,0,[]) else ld blk f n (i+1) (am blk p).2.1 (out++[(bK (am blk p).1 (i:Int) f).1]):=rfl
  have eO:bK (am blk p).1 (i:Int) f=if (am blk p).1.2.1≠(i:Int) then (tf,72) else if (i:Int)=0∧(am blk p).1.1≠0∨aN (f+(am blk p).1.1)=false then (tf,86)
    else ((f+(am blk p).1.1,(am blk p).1.2.2.1,(am blk p).1.2.2.2.1,(am blk p).1.2.2.2.2.1,()),0):=rfl
  rw[e,e2]
  by_cases c1:(am blk p).2.2=0
  rotate_left
  ·rw[if_pos c1,if_pos c1]
   exact ⟨fun h=>absurd h c1,fun _=>.inl rfl⟩
  rw[if_neg (au c1),if_neg (au c1)]
  by_cases c2:(am blk p).1.2.1=(i:Int)
  rotate_left
  ·rw[if_pos c2,eO,if_pos c2,if_pos (by decide)]
   exact ⟨(fun h=>by cases h),fun _=>.inr ⟨rfl,rfl⟩⟩
  rw[if_neg (au c2)]
  by_cases c3:i=0∧(am blk p).1.1≠0∨aN (f+(am blk p).1.1)=false
  ·have c3':(i:Int)=0∧(am blk p).1.1≠0∨aN (f+(am blk p).1.1)=false:=by
    rcases c3 with h | h
    ·exact .inl ⟨by omega,h.2⟩
    ·exact .inr h
   rw[if_pos c3,eO,if_neg (au c2),if_pos c3',if_pos (by decide)]
   exact ⟨(fun h=>by cases h),fun _=>.inr ⟨rfl,rfl⟩⟩
  ·have c3':¬((i:Int)=0∧(am blk p).1.1≠0∨aN (f+(am blk p).1.1)=false):=by
    rintro (h | h)
    ·exact c3 (.inl ⟨by omega,h.2⟩)
    ·exact c3 (.inr h)
   rw[if_neg c3,eO,if_neg (au c2),if_neg c3',if_neg (au rfl)]
   exact Ii blk f n (i+1) _ _
theorem fh {b:LI}{sm:Bool}(h:aW b sm=0):61≤b.length∧(ax b 0).2=0∧(ax b 0).1=(b.length:Int)∧b.getD 16 0=2∧¬(sm=true∧eY b=false)∧aQ (aw b 0 8)=false∧b.getD 21 0=0∧b.getD 22 0≤1∧ba (aw b 43 8) (aw b 51 2) (aw b 53 4)=false∧1≤aw b 57 4∧aw b 57 4≤256∧aw b 23 4=aw b 57 4 - 1:=by
 unfold aW at h
 split at h
 ·cases h
 split at h
 ·rename_i c;exact absurd h c
 rename_i h1 h2
 split at h
 ·cases h
 rename_i h3
 split at h
 ·cases h
 rename_i h4
 split at h
 ·cases h
 rename_i h5
 split at h
 ·cases h
 rename_i h6
 split at h
 ·cases h
 rename_i h7
 split at h
 ·cases h
 rename_i h8
 split at h
 ·cases h
 rename_i h9
 split at h
 ·cases h
 rename_i h10
 split at h
 ·cases h
 rename_i h11
 have h2:(ax b 0).2=0:=Classical.byContradiction h2
 have hm:=ga h2
 refine ⟨by omega,h2,by omega,Classical.byContradiction h4,h5,by simpa using h6,?_,by omega,by simpa using h8,by omega,by omega,Classical.byContradiction h11⟩
 exact Classical.byContradiction fun h=>h7 (.inl h)
def A9 (a0:LI):Option kt.Res:=bif decide (a0.length≤4294960000) then bif (aj a0 true).2 != 0 then oR (((0,0,0,0,0,[],()),(aj a0 true).2,()),()) else bif decide (61≤a0.length)&&decide (a0.length≤4294960000) then bif (aR a0 (aj a0 true).1.2.2.2.1).2 != 0 then oR (((0,0,0,0,0,[],()),(aR a0 (aj a0 true).1.2.2.2.1).2,()),()) else (bif decide ((0:Int)=0)&&(decide (([]:List cy).length=0)&&(decide ((0:Int)≤(aj a0 true).1.2.2.2.2.1)&&decide ((aj a0 true).1.2.2.2.2.1≤(4294960000:Int)))) then (bif decide ((ld (aR a0 (aj a0 true).1.2.2.2.1).1 (aj a0 true).1.2.2.2.2.2.1 ((aj a0 true).1.2.2.2.2.1).toNat 0 0 []).1≠0) then oR (((0,0,0,0,0,[],()),(ld (aR a0 (aj a0 true).1.2.2.2.1).1 (aj a0 true).1.2.2.2.2.2.1 ((aj a0 true).1.2.2.2.2.1).toNat 0 0 []).1,()),()) else bif decide ((ld (aR a0 (aj a0 true).1.2.2.2.1).1 (aj a0 true).1.2.2.2.2.2.1 ((aj a0 true).1.2.2.2.2.1).toNat 0 0 []).2.1≠0) then oR (((0,0,0,0,0,[],()),(ld (aR a0 (aj a0 true).1.2.2.2.1).1 (aj a0 true).1.2.2.2.2.2.1 ((aj a0 true).1.2.2.2.2.1).toNat 0 0 []).2.1,()),()) else bif decide ((ld (aR a0 (aj a0 true).1.2.2.2.1).1 (aj a0 true).1.2.2.2.2.2.1 ((aj a0 true).1.2.2.2.2.1).toNat 0 0 []).2.2.1<(↑(aR a0 (aj a0 true).1.2.2.2.1).1.length:Int)) then oR (((0,0,0,0,0,[],()),2,()),()) else bif decide (1≤(ld (aR a0 (aj a0 true).1.2.2.2.1).1 (aj a0 true).1.2.2.2.2.2.1 ((aj a0 true).1.2.2.2.2.1).toNat 0 0 []).2.2.2.length) then bif du (ld (aR a0 (aj a0 true).1.2.2.2.1).1 (aj a0 true).1.2.2.2.2.2.1 ((aj a0 true).1.2.2.2.2.1).toNat 0 0 []).2.2.2 != (aj a0 true).1.2.2.2.2.2.2.1 then oR (((0,0,0,0,0,[],()),86,()),()) else oR ((((aj a0 true).1.1,(aj a0 true).1.2.2.1,(aj a0 true).1.2.2.2.2.2.2.2.1,(aj a0 true).1.2.2.2.2.2.2.2.2.1,(aj a0 true).1.2.2.2.2.2.2.2.2.2.1,(ld (aR a0 (aj a0 true).1.2.2.2.1).1 (aj a0 true).1.2.2.2.2.2.1 ((aj a0 true).1.2.2.2.2.1).toNat 0 0 []).2.2.2,()),0,()),()) else none) else none) else none else none
theorem P6 (a0:LI):Io.run tt LD dr zU kt Tryz.f56 ((a0,()),())=A9 a0:=by kernel_rfl
theorem Cc:HcsOk prog KO:=.cons PC (.cons Mx (.cons RP (.cons I4 (.cons HU .nil))))
theorem My:HcOk prog 56 (ah kt FT):=by
 refine bY Cc (lp:=zU) (fn:=Tryz.f56) kt (.step (h0:=aG dA tk) (by kernel_rfl) (f9 Cc (lp:=zU) (fn:=Tryz.f56) (.done (by kernel_rfl)) dA tk ?_) (.done (by kernel_rfl))) FT ?_
 ·rintro ⟨⟨(blk:LI),(p:Int),(n:Int),(i:Int),⟨⟩⟩,⟨⟨(z1:Int),(z2:Int),(z3:Int),(z4:Int),(z5:Int),(z6:List cy),⟨⟩⟩,⟨(i1:Int),(i2:Int),(i3:Int),(i4:Bool),(i5:Int),(i6:Int),(i7:Int),(i8:Int),(i9:Int),(i10:Int),⟨⟩⟩,⟨(b1:Int),(b2:Int),(b3:Int),(b4:Int),(b5:Int),(out:List cy),⟨⟩⟩,⟨⟩⟩⟩ y hw hy
  obtain ⟨hg,hy⟩:=Tr.guard hy
  simp only[zA,zB] at hg
  obtain ⟨h1,h2,h3,h4⟩:=hg
  have h1:i=0:=h1
  have h2:out=[]:=List.length_eq_zero_iff.1 h2
  have h3:0≤n:=h3
  have h4:n≤(4294960000:Int):=h4
  subst h1 h2
  obtain ⟨n,rfl⟩:=aB h3
  have:=CE blk z1 z2 z3 z4 z5 z6 i1 i2 i3 i4 i5 i6 i7 i8 i9 i10 b1 b2 b3 b4 b5 n (n+1) 0 p [] (by omega) rfl (by omega)
  rw[Nat.zero_add] at this
  exact ⟨n+1,this.trans hy⟩
 ·rintro ⟨⟨(b:LI),⟨⟩⟩,⟨⟩⟩ out hw ho
  obtain ⟨hg,ho⟩:=Tr.guard ho
  have hg2:b.length≤4294960000:=of_decide_eq_true hg
  clear hg
  cases ho
  refine (P6 b).trans ?_
  show _=oR (((aC b).1,(aC b).2,()),())
  have eE:dq b=if aW b true≠0 then ([],aW b true) else if (aR b (decide (b.getD 22 0=1))).2≠0 then ([],(aR b (decide (b.getD 22 0=1))).2) else cK (aR b (decide (b.getD 22 0=1))).1 (aw b 27 8) (aw b 35 8) (aw b 57 4).toNat:=rfl
  have fin:∀e:Int,e≠0→(dq b).2=e→some (Out.ret ((SB,(e,())),()):kt.Res)=oR (((aC b).1,(aC b).2,()),()):=by
   intro e he h
   have:aC b=(te,e):=by unfold aC;rw[h,if_pos he]
   rw[this]
   rfl
  unfold A9
  refine bT (decide_eq_true hg2) ?_
  by_cases h1:aW b true=0
  rotate_left
  ·have eh:aj b true=(bA,aW b true):=by unfold aj;rw[if_pos h1]
   rw[eh]
   refine bT (by simpa using h1) ?_
   exact fin _ h1 (by rw[eE,if_pos h1])
  have eh:aj b true=(iO b,0):=by unfold aj;rw[if_neg (au h1)]
  rw[if_neg (au h1)] at eE
  obtain ⟨k1,_,_,_,_,_,_,_,_,k2,k3,_⟩:=fh h1
  have hI:iO b=(aw b 0 8,(b.length:Int),aw b 12 4,decide (b.getD 22 0=1),aw b 57 4,aw b 27 8,aw b 35 8,aw b 43 8,aw b 51 2,aw b 53 4,()):=rfl
  rw[eh,hI]
  dsimp only
  refine (ae rfl _ _).trans ?_
  refine bT (by simp only[zA,zB];exact ⟨k1,hg2⟩) ?_
  by_cases h2:(aR b (decide (b.getD 22 0=1))).2=0
  rotate_left
  ·refine bT (by simpa using h2) ?_
   exact fin _ h2 (by rw[eE,if_pos h2])
  refine bF (by simpa using h2) ?_
  rw[if_neg (au h2)] at eE
  generalize (aR b (decide (b.getD 22 0=1))).1=blk at *
  refine bT (by simp only[zA,zB];exact ⟨trivial,rfl,show (0:Int)≤aw b 57 4 by omega,show aw b 57 4≤(4294960000:Int) by omega⟩) ?_
  have eR:cK blk (aw b 27 8) (aw b 35 8) (aw b 57 4).toNat=if (aH blk (aw b 27 8) (aw b 57 4).toNat 0 0 []).2.2≠0 then ([],(aH blk (aw b 27 8) (aw b 57 4).toNat 0 0 []).2.2)
    else if (aH blk (aw b 27 8) (aw b 57 4).toNat 0 0 []).2.1<(blk.length:Int) then ([],2)
    else if du (aH blk (aw b 27 8) (aw b 57 4).toNat 0 0 []).1≠aw b 35 8 then ([],86) else ((aH blk (aw b 27 8) (aw b 57 4).toNat 0 0 []).1,0):=rfl
  have hlen:=rU blk (aw b 27 8) (aw b 57 4).toNat 0 0 []
  obtain ⟨x1,x2⟩:=Ii blk (aw b 27 8) (aw b 57 4).toNat 0 0 []
  rw[eR] at eE
  generalize aH blk (aw b 27 8) (aw b 57 4).toNat 0 0 []=r at *
  obtain ⟨rs,q,e⟩:=r
  simp only at eE hlen x1 x2
  by_cases h3:e=0
  rotate_left
  ·rw[if_pos h3] at eE
   rcases x2 h3 with x | ⟨x,x'⟩
   ·rw[x]
    refine bT (decide_eq_true h3) ?_
    exact fin e h3 (by rw[eE])
   ·rw[x,x']
    refine (ae rfl _ _).trans ?_
    refine bT (decide_eq_true h3) ?_
    exact fin e h3 (by rw[eE])
  rw[if_neg (au h3)] at eE
  rw[x1 h3]
  have hlen:=hlen h3
  refine (ae rfl _ _).trans ?_
  refine (ae rfl _ _).trans ?_
  by_cases h4:q<(blk.length:Int)
  ·refine bT (decide_eq_true h4) ?_
   exact fin 2 (by decide) (by rw[eE,if_pos h4])
  refine bF (decide_eq_false h4) ?_
  refine bT (decide_eq_true (show 1≤rs.length by rw[hlen];simp;omega)) ?_
  rw[if_neg h4] at eE
  by_cases h5:du rs=aw b 35 8
  ·refine bF (by simpa using h5) ?_
   rw[if_neg (au h5)] at eE
   have:aC b=((aw b 0 8,aw b 12 4,aw b 43 8,aw b 51 2,aw b 53 4,rs,()),0):=by unfold aC;rw[eE,if_neg (au rfl)]
   rw[this]
  ·refine bT (by simpa using h5) ?_
   exact fin 86 (by decide) (by rw[eE,if_pos h5])
end
end Go.Proofs.YthpcdhgpplmneaaGreatDoor.Sym
namespace Go.Proofs.YthpcdhgpplmneaaGreatDoor.Sym
open Go
noncomputable section
def lw (b:LI)(m:Int)(n:Nat):Bool:=decide (m=36000)&&Nat.ble (b.length+n) 36000
theorem dE {b:LI}{m:Int}{n:Nat}:lw b m n=true↔m=36000∧b.length+n≤36000:=by
 unfold lw;rw[zA,zB,Nat.ble_eq]
abbrev uD:Io:=n7
def Kg (d:uD.In):Tr uD.Res:=
 .ite (decide (d.1.1=36000)) (.ret (.ret (((),()),((([]:LI),(36000,())),())))) .no
theorem MH:HcOk prog 89 (ah uD Kg):=by
 refine HcOk.weakB Sb ?_
 rintro ⟨⟨(m:Int),⟨⟩⟩,⟨⟩⟩ y hw hy
 obtain ⟨hg,hy⟩:=Tr.guard hy
 have hg:m=36000:=of_decide_eq_true hg
 subst hg
 rw[← hy]
 rfl
abbrev uC:Io:=n6
def Kf (d:uC.In):Tr uC.Res:=
 .ite (lw d.2.1.1 d.2.1.2.1 8) (.ret (.ret ((0,()),((d.2.1.1++az d.1.2.1 8,(36000,())),())))) .no
theorem MG:HcOk prog 90 (ah uC Kf):=by
 refine HcOk.weakB Sa ?_
 rintro ⟨⟨⟨⟩,(v:Int),⟨⟩⟩,⟨⟨(b:LI),(m:Int),⟨⟩⟩,⟨⟩⟩⟩ y hw hy
 obtain ⟨hg,hy⟩:=Tr.guard hy
 obtain ⟨h1,h2⟩:=(dE (b:=b) (m:=m) (n:=8)).1 hg
 subst h1
 rw[← hy]
 have hk:cT b 36000=true:=by unfold cT;simp only[zA,zB];omega
 have e:ct b 36000 v 8=(0,b++az v 8):=by unfold ct;rw[if_neg (by omega)]
 show (F4 (((),(v,())),((b,(36000,())),()))).val=some (.ret ((0,()),((b++az v 8,(36000,())),())))
 unfold F4
 rw[Tr.val_ite,if_pos hk,Tr.val_ret]
 show oR (((ct b 36000 v 8).1,()),(((ct b 36000 v 8).2,(36000,())),()))=_
 rw[e]
abbrev uB:Io:=nZ
def Ke (d:uB.In):Tr uB.Res:=
 .ite (lw d.2.1.1 d.2.1.2.1 4) (.ret (.ret ((0,()),((d.2.1.1++az d.1.2.1 4,(36000,())),())))) .no
theorem MF:HcOk prog 91 (ah uB Ke):=by
 refine HcOk.weakB R9 ?_
 rintro ⟨⟨⟨⟩,(v:Int),⟨⟩⟩,⟨⟨(b:LI),(m:Int),⟨⟩⟩,⟨⟩⟩⟩ y hw hy
 obtain ⟨hg,hy⟩:=Tr.guard hy
 obtain ⟨h1,h2⟩:=(dE (b:=b) (m:=m) (n:=4)).1 hg
 subst h1
 rw[← hy]
 have hk:cT b 36000=true:=by unfold cT;simp only[zA,zB];omega
 have e:ct b 36000 v 4=(0,b++az v 4):=by unfold ct;rw[if_neg (by omega)]
 show (F3 (((),(v,())),((b,(36000,())),()))).val=some (.ret ((0,()),((b++az v 4,(36000,())),())))
 unfold F3
 rw[Tr.val_ite,if_pos hk,Tr.val_ret]
 show oR (((ct b 36000 v 4).1,()),(((ct b 36000 v 4).2,(36000,())),()))=_
 rw[e]
abbrev zj:Io:=nY
def QR (d:zj.In):Tr zj.Res:=
 .ite (lw d.2.1.1 d.2.1.2.1 2) (.ret (.ret ((0,()),((d.2.1.1++az d.1.2.1 2,(36000,())),())))) .no
theorem RO:HcOk prog 93 (ah zj QR):=by
 refine HcOk.weakB R8 ?_
 rintro ⟨⟨⟨⟩,(v:Int),⟨⟩⟩,⟨⟨(b:LI),(m:Int),⟨⟩⟩,⟨⟩⟩⟩ y hw hy
 obtain ⟨hg,hy⟩:=Tr.guard hy
 obtain ⟨h1,h2⟩:=(dE (b:=b) (m:=m) (n:=2)).1 hg
 subst h1
 rw[← hy]
 have hk:cT b 36000=true:=by unfold cT;simp only[zA,zB];omega
 have e:ct b 36000 v 2=(0,b++az v 2):=by unfold ct;rw[if_neg (by omega)]
 show (F2 (((),(v,())),((b,(36000,())),()))).val=some (.ret ((0,()),((b++az v 2,(36000,())),())))
 unfold F2
 rw[Tr.val_ite,if_pos hk,Tr.val_ret]
 show oR (((ct b 36000 v 2).1,()),(((ct b 36000 v 2).2,(36000,())),()))=_
 rw[e]
abbrev Hj:Io:=uF
def SL (d:Hj.In):Tr Hj.Res:=
 .ite (lw d.2.1.1 d.2.1.2.1 1) (.ret (.ret ((0,()),((d.2.1.1++az d.1.2.1 1,(36000,())),())))) .no
theorem S7:HcOk prog 92 (ah Hj SL):=by
 refine HcOk.weakB S8 ?_
 rintro ⟨⟨⟨⟩,(v:Int),⟨⟩⟩,⟨⟨(b:LI),(m:Int),⟨⟩⟩,⟨⟩⟩⟩ y hw hy
 obtain ⟨hg,hy⟩:=Tr.guard hy
 obtain ⟨h1,h2⟩:=(dE (b:=b) (m:=m) (n:=1)).1 hg
 subst h1
 rw[← hy]
 have hk:cT b 36000=true:=by unfold cT;simp only[zA,zB];omega
 have e:ct b 36000 v 1=(0,b++az v 1):=by unfold ct;rw[if_neg (by omega)]
 show (OC (((),(v,())),((b,(36000,())),()))).val=some (.ret ((0,()),((b++az v 1,(36000,())),())))
 unfold OC
 rw[Tr.val_ite,if_pos hk,Tr.val_ret]
 show oR (((ct b 36000 v 1).1,()),(((ct b 36000 v 1).2,(36000,())),()))=_
 rw[e]
abbrev uE:Io:=n8
def Kh (d:uE.In):Tr uE.Res:=
 .ite (lw d.2.1.1 d.2.1.2.1 (ao d.1.2.1)) (.ret (.ret ((0,()),((d.2.1.1++aU d.1.2.1,(36000,())),())))) .no
theorem MI:HcOk prog 94 (ah uE Kh):=by
 refine HcOk.weakB Sc ?_
 rintro ⟨⟨⟨⟩,(ps:List (LI)),⟨⟩⟩,⟨⟨(b:LI),(m:Int),⟨⟩⟩,⟨⟩⟩⟩ y hw hy
 obtain ⟨hg,hy⟩:=Tr.guard hy
 obtain ⟨h1,h2⟩:=(dE (b:=b) (m:=m) (n:=ao ps)).1 hg
 subst h1
 rw[← hy]
 have hk:(cT b 36000&&decide (ao ps≤4294960000))=true:=by unfold cT;simp only[zA,zB];omega
 have e:vA b 36000 ps=(0,b++aU ps):=by unfold vA;rw[if_neg (by omega)]
 show (F5 (((),(ps,())),((b,(36000,())),()))).val=some (.ret ((0,()),((b++aU ps,(36000,())),())))
 unfold F5
 rw[Tr.val_ite,if_pos hk,Tr.val_ret]
 show oR (((vA b 36000 ps).1,()),(((vA b 36000 ps).2,(36000,())),()))=_
 rw[e]
abbrev nI:Io:=⟨[dL,gl,yY],[],[],[dO,dI],none⟩
def Kb (d:nI.In):Tr nI.Res:=.ite (decide (d.1.1.length≤4294960000)) (.ret (.ret (((aq d.1.1 d.1.2.1 d.1.2.2.1).1,(aq d.1.1 d.1.2.1 d.1.2.2.1).2,()),()))) .no
abbrev KQ:List (Nat×Hc):=[(56,ah kt FT),(100,ah gL tj),(89,ah uD Kg),(90,ah uC Kf),(94,ah uE Kh),(91,ah uB Ke),(97,ah gv sI)]
def Rk:Hd:=bI KQ
def L8:Lp:=bQ []
def Ba (a0:LI)(a1 a2:Int):Option nI.Res:=bif decide (a0.length≤4294960000) then bif (aC a0).2 != 0 then oR (([],(aC a0).2,()),()) else bif aQ a1 then oR (([],80,()),()) else bif lw [] 36000 8 then bif decide (0≤8)&&(decide (8≤12)&&decide (12≤(↑a0.length:Int))) then bif lw ([]++az a1 8) 36000 (ao [List.drop (Int.toNat 8) (List.take (Int.toNat 12) a0)]) then bif lw ([]++az a1 8++aU [List.drop (Int.toNat 8) (List.take (Int.toNat 12) a0)]) 36000 4 then bif decide (0≤16)&&(decide (16≤(↑a0.length:Int))&&decide ((↑a0.length:Int)≤(↑a0.length:Int))) then bif lw ([]++az a1 8++aU [List.drop (Int.toNat 8) (List.take (Int.toNat 12) a0)]++az a2 4) 36000 (ao [List.drop (Int.toNat 16) (List.take (↑a0.length:Int).toNat a0)]) then bif decide (List.length ([]++az a1 8++aU [List.drop (Int.toNat 8) (List.take (Int.toNat 12) a0)]++az a2 4++aU [List.drop (Int.toNat 16) (List.take (↑a0.length:Int).toNat a0)])≤4294967296) then oR (([]++az a1 8++aU [List.drop (Int.toNat 8) (List.take (Int.toNat 12) a0)]++az a2 4++aU [List.drop (Int.toNat 16) (List.take (↑a0.length:Int).toNat a0)],0,()),()) else none else none else none else none else none else none else none else none
theorem P7 (a0:LI)(a1 a2:Int):Io.run tt Rk dr L8 nI Tryz.f69 ((a0,a1,a2,()),())=Ba a0 a1 a2:=by kernel_rfl
theorem MA:HcOk prog 69 (ah nI Kb):=by
 refine bY (cs:=KQ) (.cons My (.cons An (.cons MH (.cons MG (.cons MI (.cons MF (.cons Db .nil))))))) (lp:=L8) (fn:=Tryz.f69) nI (.done (by kernel_rfl)) Kb ?_
 rintro ⟨⟨(b:LI),(base:Int),(ep:Int),⟨⟩⟩,⟨⟩⟩ out hw ho
 obtain ⟨hg,ho⟩:=Tr.guard ho
 have hg2:b.length≤4294960000:=of_decide_eq_true hg
 clear hg
 cases ho
 refine (P7 b base ep).trans ?_
 show _=oR (((aq b base ep).1,((aq b base ep).2,())),())
 unfold Ba
 refine bT (decide_eq_true hg2) ?_
 by_cases h1:(aC b).2=0
 rotate_left
 ·have:aq b base ep=([],(aC b).2):=by unfold aq;rw[if_pos h1]
  rw[this]
  exact aa (by simpa using h1) _ _
 refine bF (by simpa using h1) ?_
 by_cases h2:aQ base=true
 ·have:aq b base ep=([],80):=by unfold aq;rw[if_neg (au h1),if_pos h2]
  rw[this]
  exact aa h2 _ _
 refine bF (by simpa using h2) ?_
 have e:aq b base ep=(az base 8++((b.drop 8).take 4++(az ep 4++b.drop 16)),0):=by unfold aq;rw[if_neg (au h1),if_neg h2]
 rw[e]
 have hL:61≤b.length∧b.length≤36000:=by
  have hE:aW b true=0:=by
   by_cases h:aW b true=0
   ·exact h
   exfalso
   have:dq b=([],aW b true):=by unfold dq;rw[if_pos h]
   unfold aC at h1
   rw[this,if_pos h] at h1
   exact h h1
  obtain ⟨k1,k2,k3,_⟩:=fh hE
  have k4:=ga k2
  omega
 obtain ⟨l1,l2⟩:=hL
 have e1:List.drop (Int.toNat 8) (List.take (Int.toNat 12) b)=(b.drop 8).take 4:=by
  show List.drop 8 (List.take 12 b)=_
  rw[List.drop_take]
 have e2:List.drop (Int.toNat 16) (List.take (b.length:Int).toNat b)=b.drop 16:=by
  show List.drop 16 (List.take (b.length:Int).toNat b)=_
  rw[zG,List.take_length]
 have j1:∀x:LI,ao [x]=x.length:=fun x=>Nat.add_zero _
 have j2:∀x:LI,aU [x]=x:=fun x=>List.append_nil _
 rw[e1,e2,j1,j1,j2,j2]
 have m1:((b.drop 8).take 4).length=4:=cm (b:=b) (p:=8) (n:=4) (by omega)
 have m2:(b.drop 16).length=b.length - 16:=List.length_drop
 have q8:=dT base 8
 have q4:=dT ep 4
 refine (aa (dE.2 ⟨rfl,by simp⟩) _ _).trans ?_
 refine bT (by simp only[zA,zB];omega) ?_
 refine (aa (dE.2 ⟨rfl,by simp only[zH,List.length_nil];omega⟩) _ _).trans ?_
 refine (aa (dE.2 ⟨rfl,by simp only[zH,List.length_nil];omega⟩) _ _).trans ?_
 refine bT (by simp only[zA,zB];omega) ?_
 refine (aa (dE.2 ⟨rfl,by simp only[zH,List.length_nil];omega⟩) _ _).trans ?_
 refine bT (by simp only[zH,List.length_nil,zB];omega) ?_
 simp only[List.nil_append,zK]
end
end Go.Proofs.YthpcdhgpplmneaaGreatDoor.Sym
namespace Go.Proofs.YthpcdhgpplmneaaGreatDoor.Sym
open Go
open Go.IntKind (i8 i16 i32 i64 u8 u16 u32 u64)
noncomputable section
abbrev lV:Io:=⟨[dL,dI,dI],[],[],[gl],none⟩
def F7 (d:lV.In):Tr lV.Res:=.ite (decide ((0:Int)≤d.1.2.2.1)&&decide (d.1.2.2.1≤(8:Int))) (.ret (.ret (((al d.1.1 d.1.2.1 d.1.2.2.1).1,()),()))) .no
abbrev Lc:List (Nat×Hc):=[(133,ah fZ tq)]
def RG:Hd:=bI Lc
def Mq:Lp:=bQ []
def KH (a0:LI)(a1 a2:Int):Option lV.Res:=bif decide (0≤a2)&&decide (a2≤8) then oR (((al a0 a1 a2).1,()),()) else none
theorem Qz (a0:LI)(a1 a2:Int):Io.run tt RG dr Mq lV Tryz.f103 ((a0,a1,a2,()),())=KH a0 a1 a2:=by kernel_rfl
theorem MZ:HcOk prog 103 (ah lV F7):=by
 refine bY (cs:=Lc) (.cons I6 .nil) (lp:=Mq) (fn:=Tryz.f103) lV (.done (by kernel_rfl)) F7 ?_
 rintro ⟨⟨(b:LI),(p:Int),(n:Int),⟨⟩⟩,⟨⟩⟩ out hw ho
 obtain ⟨hg,ho⟩:=Tr.guard ho
 cases ho
 refine (Qz b p n).trans ?_
 exact aa hg _ _
abbrev jo:Io:=⟨[gl,To,yY],[],[],[dB],none⟩
def Eb (d:jo.In):Tr jo.Res:=.ret (.ret ((!ba d.1.1 d.1.2.1 d.1.2.2.1,()),()))
abbrev GN:List (Nat×Hc):=[]
def Pp:Hd:=bI GN
def HN:Lp:=bQ []
def wY (a0 a1 a2:Int):Option jo.Res:=bif decide (a0<0) then bif a0 == -1 then bif a1 == -1 then oR ((a2 == -1,()),()) else oR ((false,()),()) else oR ((false,()),()) else bif decide (0≤a1) then oR ((decide (0≤a2),()),()) else oR ((false,()),())
theorem NI (a0 a1 a2:Int):Io.run tt Pp dr HN jo Tryz.f82 ((a0,a1,a2,()),())=wY a0 a1 a2:=by kernel_rfl
theorem PX:HcOk prog 82 (ah jo Eb):=by
 refine bY (cs:=GN) HcsOk.nil (lp:=HN) (fn:=Tryz.f82) jo (.done (by kernel_rfl)) Eb ?_
 rintro ⟨⟨(pid:Int),(ep:Int),(sq:Int),⟨⟩⟩,⟨⟩⟩ out hw ho
 cases ho
 refine (NI pid ep sq).trans ?_
 show _=oR ((!(if pid = -1∧ep = -1∧sq = -1∨0≤pid∧0≤ep∧0≤sq then false else true),()),())
 have key:∀c:Prop,[Decidable c]→∀b:Bool,(b=true↔c)→some (Out.ret ((b,()),()):jo.Res)=oR ((!(if c then false else true),()),()):=by
  intro c _ b h
  by_cases hc:c
  ·rw[if_pos hc,h.2 hc];rfl
  ·rw[if_neg hc]
   cases b with
   |false=>rfl
   |true=>exact absurd (h.1 rfl) hc
 unfold wY
 by_cases h1:pid<0
 ·refine bT (decide_eq_true h1) ?_
  by_cases h2:pid = -1
  ·refine bT (by simp[h2]) ?_
   by_cases h3:ep = -1
   ·refine bT (by simp[h3]) ?_
    exact key _ _ (by simp;omega)
   ·refine bF (by simp[h3]) ?_
    exact key _ _ (by simp;omega)
  ·refine bF (by simp[h2]) ?_
   exact key _ _ (by simp;omega)
 ·refine bF (decide_eq_false h1) ?_
  by_cases h2:0≤ep
  ·refine bT (decide_eq_true h2) ?_
   exact key _ _ (by simp;omega)
  ·refine bF (decide_eq_false h2) ?_
   exact key _ _ (by simp;omega)
def cr (a b:Int):Int×Bool:=if aN (a - b)=true then (a - b,true) else (0,false)
abbrev gO:Io:=⟨[gl,gl],[],[],[gl,dB],none⟩
def Ed (d:gO.In):Tr gO.Res:=.ret (.ret (((cr d.1.1 d.1.2.1).1,(cr d.1.1 d.1.2.1).2,()),()))
abbrev GP:List (Nat×Hc):=[]
def Pq:Hd:=bI GP
def HO:Lp:=bQ []
def w7 (a0 a1:Int):Option gO.Res:=bif decide (0≤a1) then bif decide (a0<i64.wrap (-9223372036854775808+a1)) then oR ((0,false,()),()) else bif decide (a1<0) then bif decide (i64.wrap (9223372036854775807+a1)<a0) then oR ((0,false,()),()) else oR ((i64.wrap (a0 - a1),true,()),()) else oR ((i64.wrap (a0 - a1),true,()),()) else bif decide (a1<0) then bif decide (i64.wrap (9223372036854775807+a1)<a0) then oR ((0,false,()),()) else oR ((i64.wrap (a0 - a1),true,()),()) else oR ((i64.wrap (a0 - a1),true,()),())
theorem NK (a0 a1:Int):Io.run tt Pq dr HO gO Tryz.f116 ((a0,a1,()),())=w7 a0 a1:=by kernel_rfl
theorem PZ:HcOk prog 116 (ah gO Ed):=by
 refine bY (cs:=GP) HcsOk.nil (lp:=HO) (fn:=Tryz.f116) gO (.done (by kernel_rfl)) Ed ?_
 rintro ⟨⟨(a:Int),(b:Int),⟨⟩⟩,⟨⟩⟩ out hw ho
 cases ho
 refine (NK a b).trans ?_
 have ha:bt .i64 a:=hw.1.1
 have hb:bt .i64 b:=hw.1.2.1
 have ha:=gD ha
 have hb:=gD hb
 show _=oR (((cr a b).1,(cr a b).2,()),())
 unfold w7
 have fin:aN (a - b)=true→some (Out.ret ((i64.wrap (a - b),true,()),()):gO.Res)=oR (((cr a b).1,(cr a b).2,()),()):=by
  intro h
  have e:cr a b=(a - b,true):=by unfold cr;rw[if_pos h]
  rw[e,af (eT.1 h).1 (eT.1 h).2]
 have fin2:aN (a - b)=false→some (Out.ret ((0,false,()),()):gO.Res)=oR (((cr a b).1,(cr a b).2,()),()):=by
  intro h
  have e:cr a b=(0,false):=by unfold cr;rw[if_neg (by rw[h];exact fun h=>by cases h)]
  rw[e]
 have fy:(-9223372036854775808≤a - b∧a - b≤9223372036854775807)→aN (a - b)=true:=fun h=>eT.2 h
 have fn:¬(-9223372036854775808≤a - b∧a - b≤9223372036854775807)→aN (a - b)=false:=fun h=>by
  cases h2:aN (a - b) with
  |false=>rfl
  |true=>exact absurd (eT.1 h2) h
 by_cases h0:0≤b
 ·refine bT (decide_eq_true h0) ?_
  rw[af (n:=-9223372036854775808+b) (by omega) (by omega)]
  by_cases h1:a < -9223372036854775808+b
  ·exact (aa (decide_eq_true h1) _ _).trans (fin2 (fn (by omega)))
  ·refine bF (decide_eq_false h1) ?_
   exact (ae (decide_eq_false (by omega)) _ _).trans (fin (fy (by omega)))
 ·refine bF (decide_eq_false h0) ?_
  refine bT (decide_eq_true (show b<0 by omega)) ?_
  rw[af (n:=9223372036854775807+b) (by omega) (by omega)]
  by_cases h1:9223372036854775807+b<a
  ·exact (aa (decide_eq_true h1) _ _).trans (fin2 (fn (by omega)))
  ·exact (ae (decide_eq_false h1) _ _).trans (fin (fy (by omega)))
abbrev iH:Io:=⟨[Lg],[],[],[gl],none⟩
def yG (d:iH.In):Tr iH.Res:=.ret (.ret ((du d.1.1,()),()))
abbrev uj:List (Nat×Hc):=[]
def Cv:Hd:=bI uj
abbrev dm:Lo:=⟨⟨(.one (.hol (.sl 91 cc))::bk (.one hI::.one hI::.any::ai (bk []))),[]⟩,[(.exit 0,⟨(.any::bk (.one hI::ai (bx []))),[]⟩)]⟩
def jZ (d:dm.st.den):Tr (ap dm.xs):=.ite (decide (d.1.2.2.1=(0:Int))) (.ret (.ret ((),((dJ d.1.1 d.1.2.1,()),())))) .no
def pO:Lp:=bQ [(4,aG dm jZ)]
def qo {R:Type}(h1:List cc.den)(h2 h3:Int)(next:List cc.den→Int→Int→Option R)(out:ap dm.xs→Option R):Option R:=bif decide (h3<(↑h1.length:Int)) then bif decide (0≤h3)&&decide (h3<(↑h1.length:Int)) then bif decide (h2<(h1.getD h3.toNat (0,(false,[],()),(false,[],()),[],())).1) then bif decide (0≤h3)&&decide (h3<(↑h1.length:Int)) then next (h1) ((h1.getD h3.toNat (0,(false,[],()),(false,[],()),[],())).1) (i64.wrap (h3+1)) else none else next (h1) (h2) (i64.wrap (h3+1)) else none else out (.ret ((),((h2,()),())))
def oA (n:Nat)(h1:List cc.den)(h2 h3:Int):Option (ap dm.xs):=fR tt Cv dr pO 0 Tryz.f72 (bX Tryz.f72 0) n (dm.st.mk' ((h1,(h2,(h3,()))),())) (bC dm.xs)
theorem FA (n:Nat)(h1:List cc.den)(h2 h3:Int):oA (n+1) h1 h2 h3=qo h1 h2 h3 (oA n) some:=by kernel_rfl
theorem zQ (rs:List cy)(hl:rs.length≤maxLen):∀(k i:Nat) (t:Int),rs.length<i+k→i≤rs.length→oA k rs t i=some (.ret ((),((dJ (rs.drop i) t,()),()))):=by
 intro k
 induction k with
 |zero=>intro i t h;omega
 |succ k ih=>
  intro i t h1 h2
  rw[FA]
  unfold qo
  by_cases hi:i<rs.length
  ·refine bT (by simpa using hi) ?_
   refine bT (by simpa using hi) ?_
   have e:List.getD rs (i:Int).toNat (0,(false,[],()),(false,[],()),[],())=rs[i]:=by simp only[zG,aK hi]
   rw[e,aM hi hl,zE hi]
   have e2:dJ (rs[i]::rs.drop (i+1)) t=dJ (rs.drop (i+1)) (dK t rs[i].1):=rfl
   rw[e2]
   unfold dK
   by_cases hc:t<rs[i].1
   ·refine bT (decide_eq_true hc) ?_
    refine bT (by simpa using hi) ?_
    rw[if_pos hc]
    exact ih (i+1) _ (by omega) (by omega)
   ·refine bF (decide_eq_false hc) ?_
    rw[if_neg hc]
    exact ih (i+1) _ (by omega) (by omega)
  ·refine bF (by simp;omega) ?_
   rw[zI (by omega)]
   rfl
def t4 (a0:List cc.den):Option iH.Res:=(jZ ((a0,(-9223372036854775808,(0,()))),())).run fun y=>match y with | .ret ((),((x11,()),()))=>(oR ((x11,()),()))
theorem JD (a0:List cc.den):Io.run tt Cv dr pO iH Tryz.f72 ((a0,()),())=t4 a0:=by kernel_rfl
theorem MY:HcOk prog 72 (ah iH yG):=by
 refine bY (cs:=uj) HcsOk.nil (lp:=pO) (fn:=Tryz.f72) iH (.step (h0:=aG dm jZ) (by kernel_rfl) (f9 (cs:=uj) HcsOk.nil (lp:=pO) (fn:=Tryz.f72) (.done (by kernel_rfl)) dm jZ ?_) (.done (by kernel_rfl))) yG ?_
 ·rintro ⟨⟨(rs:List cy),(t:Int),(i:Int),⟨⟩⟩,⟨⟩⟩ y hw hy
  obtain ⟨hg,hy⟩:=Tr.guard hy
  have h1:i=0:=of_decide_eq_true hg
  subst h1
  refine ⟨rs.length+1,(zQ rs hw.1.1.1 (rs.length+1) 0 t (by omega) (by omega)).trans ?_⟩
  rw[← hy];rfl
 ·rintro ⟨⟨(rs:List cy),⟨⟩⟩,⟨⟩⟩ out hw ho
  cases ho
  refine (JD rs).trans ?_
  show _=oR ((du rs,()),())
  unfold t4 jZ
  refine (aa rfl _ _).trans ?_
  cases rs with
  |nil=>rfl
  |cons r rs=>
   have hr:bt .i64 r.1:=(hw.1.1.2 r (by simp)).1
   have hr:=gD hr
   have e:dJ (r::rs) (-9223372036854775808)=dJ rs r.1:=by
    show dJ rs (dK (-9223372036854775808) r.1)=_
    unfold dK
    by_cases h:r.1 > -9223372036854775808
    ·rw[if_pos h]
    ·rw[if_neg h]
     have:r.1 = -9223372036854775808:=by omega
     rw[this]
   exact congrArg (fun x=>oR ((x,()),())) e
theorem p6 {b:LI}{p n:Nat}(h:p+n≤b.length):(al b (p:Int) (n:Int)).1=aw b p n:=by
 unfold al aw
 rw[if_neg (by omega),zG,zG]
abbrev jn:Io:=⟨[dL,dI],[],[],[dI,dI],none⟩
def yH (d:jn.In):Tr jn.Res:=.ret (.ret (((ax d.1.1 d.1.2.1).1,(ax d.1.1 d.1.2.1).2,()),()))
abbrev GM:List (Nat×Hc):=[(103,ah lV F7)]
def Po:Hd:=bI GM
def HM:Lp:=bQ []
def wX (a0:LI)(a1:Int):Option jn.Res:=bif decide (a1<0) then oR ((0,3,()),()) else bif decide ((↑a0.length:Int)<a1) then oR ((0,3,()),()) else bif decide (i64.wrap ((↑a0.length:Int) - a1)<12) then oR ((0,1,()),()) else bif decide ((al a0 (i64.wrap (a1+8)) 4).1<49) then oR ((0,5,()),()) else bif decide (35988<(al a0 (i64.wrap (a1+8)) 4).1) then oR ((0,4,()),()) else bif decide (i64.wrap (i64.wrap ((↑a0.length:Int) - a1) - 12)<(al a0 (i64.wrap (a1+8)) 4).1) then oR ((0,1,()),()) else oR ((i64.wrap ((al a0 (i64.wrap (a1+8)) 4).1+12),0,()),())
theorem NH (a0:LI)(a1:Int):Io.run tt Po dr HM jn Tryz.f71 ((a0,a1,()),())=wX a0 a1:=by kernel_rfl
theorem H8:HcOk prog 71 (ah jn yH):=by
 refine bY (cs:=GM) (.cons MZ .nil) (lp:=HM) (fn:=Tryz.f71) jn (.done (by kernel_rfl)) yH ?_
 rintro ⟨⟨(b:LI),(p:Int),⟨⟩⟩,⟨⟩⟩ out hw ho
 cases ho
 refine (NH b p).trans ?_
 have hl:b.length≤9223372036854775807:=hw.1.1.1
 show _=oR (((ax b p).1,(ax b p).2,()),())
 unfold wX ax
 by_cases h1:p<0
 ·refine bT (decide_eq_true h1) ?_
  rw[if_pos (.inl h1)]
 refine bF (decide_eq_false h1) ?_
 by_cases h2:(b.length:Int)<p
 ·refine bT (decide_eq_true h2) ?_
  rw[if_pos (.inr h2)]
 refine bF (decide_eq_false h2) ?_
 rw[if_neg (by omega),af (n:=(b.length:Int) - p) (by omega) (by omega)]
 by_cases h3:(b.length:Int) - p<12
 ·refine bT (decide_eq_true h3) ?_
  rw[if_pos h3]
 refine bF (decide_eq_false h3) ?_
 obtain ⟨p,rfl⟩:=aB (show 0≤p by omega)
 have e:(al b (i64.wrap ((p:Int)+8)) 4).1=aw b (p+8) 4:=by
  rw[af (n:=(p:Int)+8) (by omega) (by omega)]
  exact p6 (b:=b) (p:=p+8) (n:=4) (by omega)
 rw[if_neg h3,e,zG,af (n:=(b.length:Int) - p - 12) (by omega) (by omega)]
 by_cases h4:aw b (p+8) 4<49
 ·refine bT (decide_eq_true h4) ?_
  rw[if_pos h4]
 refine bF (decide_eq_false h4) ?_
 rw[if_neg h4]
 by_cases h5:35988<aw b (p+8) 4
 ·refine bT (decide_eq_true h5) ?_
  rw[if_pos h5]
 refine bF (decide_eq_false h5) ?_
 rw[if_neg h5]
 by_cases h6:(b.length:Int) - p - 12<aw b (p+8) 4
 ·refine bT (decide_eq_true h6) ?_
  rw[if_pos h6]
 refine bF (decide_eq_false h6) ?_
 rw[if_neg h6,af (n:=aw b (p+8) 4+12) (by omega) (by omega)]
def FR (a0:LI):Option (Out ((wi×Int×Unit)×Unit) Empty):=bif decide (0≤22)&&decide (22<(↑a0.length:Int)) then bif decide ((al a0 0 8).1<0) then oR (((0,0,0,false,0,0,0,0,0,0,()),80,()),()) else bif decide (4611686018427387648<(al a0 0 8).1) then oR (((0,0,0,false,0,0,0,0,0,0,()),80,()),()) else bif decide (0≤21)&&decide (21<(↑a0.length:Int)) then bif a0.getD (Int.toNat 21) 0 != 0 then oR (((0,0,0,false,0,0,0,0,0,0,()),83,()),()) else bif decide (0≤22)&&decide (22<(↑a0.length:Int)) then bif decide (1<a0.getD (Int.toNat 22) 0) then oR (((0,0,0,false,0,0,0,0,0,0,()),83,()),()) else bif !!ba (al a0 43 8).1 (i16.wrap (al a0 51 2).1) (i32.wrap (al a0 53 4).1) then oR (((0,0,0,false,0,0,0,0,0,0,()),84,()),()) else bif decide ((al a0 57 4).1<1) then oR (((0,0,0,false,0,0,0,0,0,0,()),85,()),()) else bif decide (256<(al a0 57 4).1) then oR (((0,0,0,false,0,0,0,0,0,0,()),9,()),()) else bif (al a0 23 4).1 != i64.wrap ((al a0 57 4).1 - 1) then oR (((0,0,0,false,0,0,0,0,0,0,()),72,()),()) else oR ((((al a0 0 8).1,(↑a0.length:Int),i32.wrap (al a0 12 4).1,a0.getD (Int.toNat 22) 0 == 1,(al a0 57 4).1,(al a0 27 8).1,(al a0 35 8).1,(al a0 43 8).1,i16.wrap (al a0 51 2).1,i32.wrap (al a0 53 4).1,()),0,()),()) else none else none else none
theorem J5 {b:LI}(hb:∀c∈b,0≤c∧c≤255){p:Nat}(h:p+2≤b.length):i16.wrap (aw b p 2)=aw b p 2:=by
 unfold aw
 rw[← tc (dH hb p 2) (cm h)]
 exact bW (bP _ _)
theorem yb {b:LI}(hb:∀c∈b,0≤c∧c≤255){p:Nat}(h:p+4≤b.length):i32.wrap (aw b p 4)=aw b p 4:=by
 unfold aw
 rw[← mY (dH hb p 4) (cm h)]
 exact bW (bP _ _)
theorem J6 {b:LI}(hb:∀c∈b,0≤c∧c≤255)(hl:61≤b.length):
  FR b=some (.ret ((if aQ (aw b 0 8)=true then (bA,(80,())) else if b.getD 21 0≠0∨1<b.getD 22 0 then (bA,(83,())) else if ba (aw b 43 8) (aw b 51 2) (aw b 53 4)=true then (bA,(84,())) else if aw b 57 4<1 then (bA,(85,())) else if 256<aw b 57 4 then (bA,(9,())) else if aw b 23 4≠aw b 57 4 - 1 then (bA,(72,())) else (iO b,(0,()))),())):=by
 have hz:∀p n:Nat,p+n≤61→(al b (p:Int) (n:Int)).1=aw b p n:=fun p n h=>p6 (by omega)
 have z0:(al b 0 8).1=aw b 0 8:=hz 0 8 (by decide)
 have z12:(al b 12 4).1=aw b 12 4:=hz 12 4 (by decide)
 have z23:(al b 23 4).1=aw b 23 4:=hz 23 4 (by decide)
 have z27:(al b 27 8).1=aw b 27 8:=hz 27 8 (by decide)
 have z35:(al b 35 8).1=aw b 35 8:=hz 35 8 (by decide)
 have z43:(al b 43 8).1=aw b 43 8:=hz 43 8 (by decide)
 have z51:(al b 51 2).1=aw b 51 2:=hz 51 2 (by decide)
 have z53:(al b 53 4).1=aw b 53 4:=hz 53 4 (by decide)
 have z57:(al b 57 4).1=aw b 57 4:=hz 57 4 (by decide)
 have w51:=J5 hb (p:=51) (by omega)
 have w53:=yb hb (p:=53) (by omega)
 have w12:=yb hb (p:=12) (by omega)
 unfold FR
 rw[z0,z12,z23,z27,z35,z43,z51,z53,z57,w51,w53,w12]
 have hI:iO b=(aw b 0 8,(b.length:Int),aw b 12 4,decide (b.getD 22 0=1),aw b 57 4,aw b 27 8,aw b 35 8,aw b 43 8,aw b 51 2,aw b 53 4,()):=rfl
 have hB:aQ (aw b 0 8)=(decide (aw b 0 8<0) || decide (4611686018427387648<aw b 0 8)):=rfl
 have hxy:(b.getD (Int.toNat 22) 0 == 1)=decide (b.getD 22 0=1):=by
  show (b.getD 22 0 == 1)=_
  by_cases h:b.getD 22 0=1
  ·rw[h];rfl
  ·rw[decide_eq_false h];exact beq_eq_false_iff_ne.2 h
 rw[hI,hB,hxy,show Int.toNat 21=21 from rfl,show Int.toNat 22=22 from rfl]
 generalize b.getD 21 0=x at *
 generalize b.getD 22 0=y at *
 generalize aw b 0 8=base at *
 generalize aw b 57 4=cnt at *
 generalize aw b 23 4=mst at *
 refine bT (by simp only[zA,zB];omega) ?_
 by_cases c0:base<0
 ·refine bT (decide_eq_true c0) ?_
  rw[if_pos (by rw[decide_eq_true c0];rfl)]
  rfl
 refine bF (decide_eq_false c0) ?_
 by_cases c1:4611686018427387648<base
 ·refine bT (decide_eq_true c1) ?_
  rw[if_pos (by rw[decide_eq_true c1,Bool.or_true])]
  rfl
 refine bF (decide_eq_false c1) ?_
 rw[if_neg (by rw[decide_eq_false c0,decide_eq_false c1];decide)]
 refine bT (by simp only[zA,zB];omega) ?_
 by_cases c2:x=0
 rotate_left
 ·refine bT (by simpa using c2) ?_
  rw[if_pos (.inl c2)]
  rfl
 refine bF (by simpa using c2) ?_
 refine bT (by simp only[zA,zB];omega) ?_
 by_cases c3:1<y
 ·refine bT (decide_eq_true c3) ?_
  rw[if_pos (.inr c3)]
  rfl
 refine bF (decide_eq_false c3) ?_
 rw[if_neg (by rintro (h | h);exact h c2;exact c3 h)]
 cases c3:ba (aw b 43 8) (aw b 51 2) (aw b 53 4) with
 |true=>exact (aa rfl _ _)
 |false=>
 refine (ae rfl _ _).trans ?_
 rw[if_neg (show ¬ false=true by decide)]
 by_cases c4:cnt<1
 ·refine bT (decide_eq_true c4) ?_
  rw[if_pos c4]
  rfl
 refine bF (decide_eq_false c4) ?_
 rw[if_neg c4]
 by_cases c5:256<cnt
 ·refine bT (decide_eq_true c5) ?_
  rw[if_pos c5]
  rfl
 refine bF (decide_eq_false c5) ?_
 rw[if_neg c5,af (n:=cnt - 1) (by omega) (by omega)]
 by_cases c6:mst=cnt - 1
 ·refine bF (by simpa using c6) ?_
  rw[if_neg (au c6)]
 ·refine bT (by simpa using c6) ?_
  rw[if_pos c6]
  rfl
abbrev jm:Io:=⟨[dL,dB],[],[],[Lf,dI],none⟩
def Ea (d:jm.In):Tr jm.Res:=.ret (.ret (((aj d.1.1 d.1.2.1).1,(aj d.1.1 d.1.2.1).2,()),()))
abbrev GL:List (Nat×Hc):=[(71,ah jn yH),(103,ah lV F7),(82,ah jo Eb),(22,ah kr AW),(85,ah fk oV),(86,ah iu yl)]
def Pn:Hd:=bI GL
def HL:Lp:=bQ []
def wW (a0:LI)(a1:Bool):Option jm.Res:=bif decide ((↑a0.length:Int)<61) then oR (((0,0,0,false,0,0,0,0,0,0,()),1,()),()) else bif (ax a0 0).2 != 0 then oR (((0,0,0,false,0,0,0,0,0,0,()),(ax a0 0).2,()),()) else bif decide ((ax a0 0).1<(↑a0.length:Int)) then oR (((0,0,0,false,0,0,0,0,0,0,()),2,()),()) else bif decide (0≤16)&&decide (16<(↑a0.length:Int)) then bif a0.getD (Int.toNat 16) 0 != 2 then oR (((0,0,0,false,0,0,0,0,0,0,()),81,()),()) else bif a1 then bif decide (0≤17)&&(decide (17≤21)&&decide (21≤(↑a0.length:Int))) then bif decide (0≤21)&&(decide (21≤(↑a0.length:Int))&&decide ((↑a0.length:Int)≤(↑a0.length:Int))) then bif !decide (List.drop (Int.toNat 17) (List.take (Int.toNat 21) a0)=az (i64.wrap (cw 0 (List.drop (Int.toNat 21) (List.take (↑a0.length:Int).toNat a0)))) (Int.toNat 4)) then oR (((0,0,0,false,0,0,0,0,0,0,()),82,()),()) else bif decide (0≤22)&&decide (22<(↑a0.length:Int)) then bif decide ((al a0 0 8).1<0) then oR (((0,0,0,false,0,0,0,0,0,0,()),80,()),()) else bif decide (4611686018427387648<(al a0 0 8).1) then oR (((0,0,0,false,0,0,0,0,0,0,()),80,()),()) else bif decide (0≤21)&&decide (21<(↑a0.length:Int)) then bif a0.getD (Int.toNat 21) 0 != 0 then oR (((0,0,0,false,0,0,0,0,0,0,()),83,()),()) else bif decide (0≤22)&&decide (22<(↑a0.length:Int)) then bif decide (1<a0.getD (Int.toNat 22) 0) then oR (((0,0,0,false,0,0,0,0,0,0,()),83,()),()) else bif !!ba (al a0 43 8).1 (i16.wrap (al a0 51 2).1) (i32.wrap (al a0 53 4).1) then oR (((0,0,0,false,0,0,0,0,0,0,()),84,()),()) else bif decide ((al a0 57 4).1<1) then oR (((0,0,0,false,0,0,0,0,0,0,()),85,()),()) else bif decide (256<(al a0 57 4).1) then oR (((0,0,0,false,0,0,0,0,0,0,()),9,()),()) else bif (al a0 23 4).1 != i64.wrap ((al a0 57 4).1 - 1) then oR (((0,0,0,false,0,0,0,0,0,0,()),72,()),()) else oR ((((al a0 0 8).1,(↑a0.length:Int),i32.wrap (al a0 12 4).1,a0.getD (Int.toNat 22) 0 == 1,(al a0 57 4).1,(al a0 27 8).1,(al a0 35 8).1,(al a0 43 8).1,i16.wrap (al a0 51 2).1,i32.wrap (al a0 53 4).1,()),0,()),()) else none else none else none else none else none else bif decide (0≤22)&&decide (22<(↑a0.length:Int)) then bif decide ((al a0 0 8).1<0) then oR (((0,0,0,false,0,0,0,0,0,0,()),80,()),()) else bif decide (4611686018427387648<(al a0 0 8).1) then oR (((0,0,0,false,0,0,0,0,0,0,()),80,()),()) else bif decide (0≤21)&&decide (21<(↑a0.length:Int)) then bif a0.getD (Int.toNat 21) 0 != 0 then oR (((0,0,0,false,0,0,0,0,0,0,()),83,()),()) else bif decide (0≤22)&&decide (22<(↑a0.length:Int)) then bif decide (1<a0.getD (Int.toNat 22) 0) then oR (((0,0,0,false,0,0,0,0,0,0,()),83,()),()) else bif !!ba (al a0 43 8).1 (i16.wrap (al a0 51 2).1) (i32.wrap (al a0 53 4).1) then oR (((0,0,0,false,0,0,0,0,0,0,()),84,()),()) else bif decide ((al a0 57 4).1<1) then oR (((0,0,0,false,0,0,0,0,0,0,()),85,()),()) else bif decide (256<(al a0 57 4).1) then oR (((0,0,0,false,0,0,0,0,0,0,()),9,()),()) else bif (al a0 23 4).1 != i64.wrap ((al a0 57 4).1 - 1) then oR (((0,0,0,false,0,0,0,0,0,0,()),72,()),()) else oR ((((al a0 0 8).1,(↑a0.length:Int),i32.wrap (al a0 12 4).1,a0.getD (Int.toNat 22) 0 == 1,(al a0 57 4).1,(al a0 27 8).1,(al a0 35 8).1,(al a0 43 8).1,i16.wrap (al a0 51 2).1,i32.wrap (al a0 53 4).1,()),0,()),()) else none else none else none else none
theorem NG (a0:LI)(a1:Bool):Io.run tt Pn dr HL jm Tryz.f78 ((a0,a1,()),())=wW a0 a1:=by kernel_rfl
theorem PW:HcOk prog 78 (ah jm Ea):=by
 refine bY (cs:=GL) (.cons H8 (.cons MZ (.cons PX (.cons EX (.cons xO (.cons MB .nil)))))) (lp:=HL) (fn:=Tryz.f78) jm (.done (by kernel_rfl)) Ea ?_
 rintro ⟨⟨(b:LI),(sm:Bool),⟨⟩⟩,⟨⟩⟩ out hw ho
 cases ho
 have hb:∀c∈b,0≤c∧c≤255:=dN hw.1.1
 refine (NG b sm).trans ?_
 show _=oR (((aj b sm).1,(aj b sm).2,()),())
 have eE:aW b sm=if (b.length:Int)<61 then 1 else if (ax b 0).2≠0 then (ax b 0).2 else if (ax b 0).1<(b.length:Int) then 2 else if b.getD 16 0≠2 then 81 else if sm=true∧eY b=false then 82
   else if aQ (aw b 0 8)=true then 80 else if b.getD 21 0≠0∨1<b.getD 22 0 then 83 else if ba (aw b 43 8) (aw b 51 2) (aw b 53 4)=true then 84 else if aw b 57 4<1 then 85 else if 256<aw b 57 4 then 9 else if aw b 23 4≠aw b 57 4 - 1 then 72 else 0:=rfl
 have fin:∀e:Int,e≠0→aW b sm=e→some (Out.ret ((bA,(e,())),()):jm.Res)=oR (((aj b sm).1,(aj b sm).2,()),()):=by
  intro e he h
  have:aj b sm=(bA,e):=by unfold aj;rw[h,if_pos he]
  rw[this]
 unfold wW
 by_cases h1:(b.length:Int)<61
 ·refine bT (decide_eq_true h1) ?_
  exact fin 1 (by decide) (by rw[eE,if_pos h1])
 refine bF (decide_eq_false h1) ?_
 rw[if_neg h1] at eE
 by_cases h2:(ax b 0).2=0
 rotate_left
 ·refine bT (by simpa using h2) ?_
  exact fin _ h2 (by rw[eE,if_pos h2])
 refine bF (by simpa using h2) ?_
 rw[if_neg (au h2)] at eE
 by_cases h3:(ax b 0).1<(b.length:Int)
 ·refine bT (decide_eq_true h3) ?_
  exact fin 2 (by decide) (by rw[eE,if_pos h3])
 refine bF (decide_eq_false h3) ?_
 rw[if_neg h3] at eE
 refine bT (by simp only[zA,zB];omega) ?_
 rw[show Int.toNat 16=16 from rfl]
 by_cases h4:b.getD 16 0=2
 rotate_left
 ·refine bT (by simpa using h4) ?_
  exact fin 81 (by decide) (by rw[eE,if_pos h4])
 refine bF (by simpa using h4) ?_
 rw[if_neg (au h4)] at eE
 have hT:=J6 hb (by omega)
 have fin2:¬(sm=true∧eY b=false)→FR b=oR (((aj b sm).1,(aj b sm).2,()),()):=by
  intro hn
  rw[if_neg hn] at eE
  rw[hT]
  have hs:aj b sm=if aW b sm≠0 then (bA,aW b sm) else (iO b,0):=rfl
  rw[hs,eE]
  by_cases d1:aQ (aw b 0 8)=true
  ·rw[if_pos d1,if_pos d1,if_pos (by decide)]
  rw[if_neg d1,if_neg d1]
  by_cases d2:b.getD 21 0≠0∨1<b.getD 22 0
  ·rw[if_pos d2,if_pos d2,if_pos (by decide)]
  rw[if_neg d2,if_neg d2]
  by_cases d3:ba (aw b 43 8) (aw b 51 2) (aw b 53 4)=true
  ·rw[if_pos d3,if_pos d3,if_pos (by decide)]
  rw[if_neg d3,if_neg d3]
  by_cases d4:aw b 57 4<1
  ·rw[if_pos d4,if_pos d4,if_pos (by decide)]
  rw[if_neg d4,if_neg d4]
  by_cases d5:256<aw b 57 4
  ·rw[if_pos d5,if_pos d5,if_pos (by decide)]
  rw[if_neg d5,if_neg d5]
  by_cases d6:aw b 23 4≠aw b 57 4 - 1
  ·rw[if_pos d6,if_pos d6,if_pos (by decide)]
  rw[if_neg d6,if_neg d6,if_neg (by decide)]
 cases sm with
 |false=>
  refine (ae rfl _ _).trans ?_
  exact fin2 (fun h=>by cases h.1)
 |true=>
  refine (aa rfl _ _).trans ?_
  rw[zG,List.take_length,show Int.toNat 21=21 from rfl,show Int.toNat 17=17 from rfl]
  refine bT (by simp only[zA,zB];omega) ?_
  refine bT (by simp only[zA,zB];omega) ?_
  have hc:=Dy 0 (b:=b.drop 21) (by decide) (fun x h=>hb x (List.mem_of_mem_drop h))
  have e17:List.drop 17 (List.take 21 b)=(b.drop 17).take 4:=by rw[List.drop_take]
  rw[af (by omega) (by omega),e17]
  have hS:eY b=if (b.drop 17).take 4=az (cw 0 (b.drop 21)) 4 then true else false:=rfl
  by_cases h5:(b.drop 17).take 4=az (cw 0 (b.drop 21)) 4
  ·rw[if_pos h5] at hS
   refine bF (by rw[show Int.toNat 4=4 from rfl,decide_eq_true h5];rfl) ?_
   exact fin2 (by rw[hS];exact fun h=>by cases h.2)
  ·rw[if_neg h5] at hS
   refine bT (by rw[show Int.toNat 4=4 from rfl,decide_eq_false h5];rfl) ?_
   exact fin 82 (by decide) (by rw[eE,if_pos ⟨rfl,hS⟩])
theorem He {n:Int}(h : -9223372036854775808≤n)(h':n≤9223372036854775807):bt .i64 n:=by simp[bt,IntKind.min,IntKind.max,IntKind.signed,IntKind.bits];omega
theorem N2 (m:Nat)(t:Int)(b:LI)(p:Int):0≤(ab m t b p).1∧(ab m t b p).1<18446744073709551616:=by
 unfold ab
 split
 ·exact ⟨by decide,by decide⟩
 split
 ·simp only;omega
 ·simp only;omega
theorem N8 (b:LI):bt .i64 (aX b).1.1∧bt .i32 (aX b).1.2.1:=by
 have h0:bt .i64 aL.1∧bt .i32 aL.2.1:=⟨He (n:=0) (by omega) (by omega),(⟨by decide,by decide⟩:bt .i32 0)⟩
 have hz:=N2 10 1 b 1
 have h1:bt .i64 (ak (ab 10 1 b 1).1):=by
  unfold ak
  split
  ·exact He (by omega) (by omega)
  ·exact He (by omega) (by omega)
 have h2:bt .i32 (ag b (ab 10 1 b 1).2.1).1:=bP _ _
 unfold aX
 repeat' split
 all_goals first | exact h0 | exact ⟨h1,h2⟩
theorem DF (b:LI)(p:Int):bt .i64 (am b p).1.1∧bt .i32 (am b p).1.2.1:=by
 have h0:bt .i64 aL.1∧bt .i32 aL.2.1:=⟨He (n:=0) (by omega) (by omega),(⟨by decide,by decide⟩:bt .i32 0)⟩
 unfold am
 repeat' split
 all_goals first | exact h0 | exact N8 _
abbrev kN:Io:=⟨[dL,Lf],[],[],[Lg,dI],none⟩
def Ec (d:kN.In):Tr kN.Res:=.ite (decide (d.1.2.1.2.2.2.2.1≤(4294960000:Int))) (.ret (.ret (((cK d.1.1 d.1.2.1.2.2.2.2.2.1 d.1.2.1.2.2.2.2.2.2.1 d.1.2.1.2.2.2.2.1.toNat).1,(cK d.1.1 d.1.2.1.2.2.2.2.2.1 d.1.2.1.2.2.2.2.2.2.1 d.1.2.1.2.2.2.2.1.toNat).2,()),()))) .no
abbrev GO:List (Nat×Hc):=[(115,ah kC D2),(116,ah gO Ed),(72,ah iH yG)]
def Ha:Hd:=bI GO
abbrev dC:Lo:=⟨⟨(.one (.hol (.sl 5 (Ty.int u8)))::bk (.one (.ptr 3 0)::bk (.one (.onl 91 cc 13)::.one hI::.one hI::ai (ai (ai (ai (ai (co (bk []))))))))),[none,none,none,some [hI,hI,hJ,hL,hI,hI,hI,hI,hK,hJ]]⟩,[(.ret,⟨(bx (.one (.onl 91 cc 9)::.one hI::.any::ai (ai (ai (ai (ai (co (bx [])))))))),[]⟩),(.exit 0,⟨(.one (.hol (.sl 5 (Ty.int u8)))::bk (.one (.ptr 3 0)::bk (.one (.onl 91 cc 13)::.one hI::.any::ai (ai (ai (ai (ai (co (bk []))))))))),[none,none,none,some [hI,hI,hJ,hL,hI,hI,hI,hI,hK,hJ]]⟩)]⟩
def vW (blk:LI)(z1 z2 z3:Int)(z4:Bool)(z5 z6 z7 z8 z9 z10:Int)(x:List cy×Int×Int):Tr (ap dC.xs):=
 .ite (decide (x.2.2≠0)) (.ret (.ret ((),(([],(x.2.2,())),())))) (.ret (.pan (.ret ((),((blk,(x.1,(x.2.1,()))),((z1,(z2,(z3,(z4,(z5,(z6,(z7,(z8,(z9,(z10,())))))))))),()))))))
def lK (d:dC.st.den):Tr (ap dC.xs):=
 .ite (decide (d.1.2.2.2.1=0)&&(decide (d.1.2.1.length=0)&&decide (d.2.1.2.2.2.2.1≤(4294960000:Int))))
  (vW d.1.1 d.2.1.1 d.2.1.2.1 d.2.1.2.2.1 d.2.1.2.2.2.1 d.2.1.2.2.2.2.1 d.2.1.2.2.2.2.2.1 d.2.1.2.2.2.2.2.2.1 d.2.1.2.2.2.2.2.2.2.1 d.2.1.2.2.2.2.2.2.2.2.1 d.2.1.2.2.2.2.2.2.2.2.2.1 (aH d.1.1 d.2.1.2.2.2.2.2.1 d.2.1.2.2.2.2.1.toNat 0 d.1.2.2.1 [])) .no
def s7:Lp:=bQ [(5,aG dC lK)]
def mz {R:Type}(h11:LI)(h12:List cc.den)(h13 h14 h15 h16 h17:Int)(h18:Bool)(h19 h20 h21 h22 h23 h24:Int)(next:LI→List cc.den→Int→Int→Int→Int→Int→Bool→Int→Int→Int→Int→Int→Int→Option R)(out:ap dC.xs→Option R):Option R:=bif decide (h14<h19) then bif (am h11 h13).2.2 != 0 then out (.ret ((),(([],((am h11 h13).2.2,())),()))) else bif i64.wrap (am h11 h13).1.2.1 != h14 then out (.ret ((),(([],(72,())),()))) else bif (am h11 h13).1.1 == -9223372036854775808 then bif !decide (0≤h20) then out (.ret ((),(([],(86,())),()))) else bif h14 == 0 then bif (am h11 h13).1.1 != 0 then out (.ret ((),(([],(86,())),()))) else bif decide (h12.length+1≤4294967296) then next (h11) (h12++[(i64.wrap (h20+(am h11 h13).1.1),(am h11 h13).1.2.2)]) ((am h11 h13).2.1) (i64.wrap (h14+1)) (h15) (h16) (h17) (h18) (h19) (h20) (h21) (h22) (h23) (h24) else none else bif decide (h12.length+1≤4294967296) then next (h11) (h12++[(i64.wrap (h20+(am h11 h13).1.1),(am h11 h13).1.2.2)]) ((am h11 h13).2.1) (i64.wrap (h14+1)) (h15) (h16) (h17) (h18) (h19) (h20) (h21) (h22) (h23) (h24) else none else bif !(cr 0 (am h11 h13).1.1).2 then out (.ret ((),(([],(86,())),()))) else bif !(cr h20 (cr 0 (am h11 h13).1.1).1).2 then out (.ret ((),(([],(86,())),()))) else bif h14 == 0 then bif (am h11 h13).1.1 != 0 then out (.ret ((),(([],(86,())),()))) else bif decide (h12.length+1≤4294967296) then next (h11) (h12++[((cr h20 (cr 0 (am h11 h13).1.1).1).1,(am h11 h13).1.2.2)]) ((am h11 h13).2.1) (i64.wrap (h14+1)) (h15) (h16) (h17) (h18) (h19) (h20) (h21) (h22) (h23) (h24) else none else bif decide (h12.length+1≤4294967296) then next (h11) (h12++[((cr h20 (cr 0 (am h11 h13).1.1).1).1,(am h11 h13).1.2.2)]) ((am h11 h13).2.1) (i64.wrap (h14+1)) (h15) (h16) (h17) (h18) (h19) (h20) (h21) (h22) (h23) (h24) else none else out (.pan (.ret ((),((h11,(h12,(h13,()))),((h15,(h16,(h17,(h18,(h19,(h20,(h21,(h22,(h23,(h24,())))))))))),())))))
def mO (n:Nat)(h11:LI)(h12:List cc.den)(h13 h14 h15 h16 h17:Int)(h18:Bool)(h19 h20 h21 h22 h23 h24:Int):Option (ap dC.xs):=fR tt Ha dr s7 0 Tryz.f80 (bX Tryz.f80 0) n (dC.st.mk' ((h11,(h12,(h13,(h14,())))),((h15,(h16,(h17,(h18,(h19,(h20,(h21,(h22,(h23,(h24,())))))))))),()))) (bC dC.xs)
theorem xU (n:Nat)(h11:LI)(h12:List cc.den)(h13 h14 h15 h16 h17:Int)(h18:Bool)(h19 h20 h21 h22 h23 h24:Int):mO (n+1) h11 h12 h13 h14 h15 h16 h17 h18 h19 h20 h21 h22 h23 h24=mz h11 h12 h13 h14 h15 h16 h17 h18 h19 h20 h21 h22 h23 h24 (mO n) some:=by kernel_rfl
theorem SD {d f:Int}(hd:bt .i64 d)(hf:bt .i64 f)(hne:d≠-9223372036854775808):cr 0 d=(-d,true)∧cr f (-d)=(if aN (f+d)=true then (f+d,true) else (0,false)):=by
 have h1:=gD hd
 have h2:=gD hf
 constructor
 ·unfold cr
  rw[if_pos (eT.2 (by omega)),Int.zero_sub]
 ·unfold cr
  rw[Int.sub_neg]
theorem CP (blk:LI)(z1 z2 z3:Int)(z4:Bool)(cnt f z7 z8 z9 z10:Int)(hf:bt .i64 f):∀(n k i:Nat) (p:Int) (out:List cy),n<k→out.length=i→i+n≤4294960000→(cnt=((i+n:Nat):Int)∨cnt≤i∧n=0)→
  mO k blk out p i z1 z2 z3 z4 cnt f z7 z8 z9 z10=(vW blk z1 z2 z3 z4 cnt f z7 z8 z9 z10 (aH blk f n i p out)).val:=by
 intro n
 induction n with
 |zero=>
  intro k i p out h1 h2 h3 h4
  obtain ⟨k,rfl⟩:∃j,k=j+1:=⟨k - 1,by omega⟩
  rw[xU]
  unfold mz
  refine bF (decide_eq_false (by omega)) ?_
  rfl
 |succ n ih=>
  intro k i p out h1 h2 h3 h4
  have h4:cnt=((i+(n+1):Nat):Int):=by
   rcases h4 with h | h
   ·exact h
   ·omega
  obtain ⟨k,rfl⟩:∃j,k=j+1:=⟨k - 1,by omega⟩
  rw[xU]
  unfold mz
  refine bT (decide_eq_true (by omega)) ?_
  have e:aH blk f (n+1) i p out=if (am blk p).2.2≠0 then ([],0,(am blk p).2.2) else if (am blk p).1.2.1≠(i:Int) then ([],0,72) else if i=0∧(am blk p).1.1≠0∨aN (f+(am blk p).1.1)=false then ([],0,86)
   else aH blk f n (i+1) (am blk p).2.1 (out++[(f+(am blk p).1.1,(am blk p).1.2.2.1,(am blk p).1.2.2.2.1,(am blk p).1.2.2.2.2.1,())]):=rfl
  rw[e]
  obtain ⟨b1,b2⟩:=DF blk p
  generalize am blk p=r at *
  obtain ⟨⟨d,o,kv⟩,q,er⟩:=r
  simp only at b1 b2 ⊢
  have b1':=gD b1
  have b2':=zf b2
  have b3:=gD hf
  by_cases c1:er=0
  rotate_left
  ·refine bT (by simpa using c1) ?_
   rw[if_pos c1]
   unfold vW
   rw[Tr.val_ite,if_pos (by simpa using c1),Tr.val_ret]
  refine bF (by simpa using c1) ?_
  rw[if_neg (au c1),af (n:=o) (by omega) (by omega)]
  by_cases c2:o=(i:Int)
  rotate_left
  ·refine bT (by simpa using c2) ?_
   rw[if_pos c2]
   rfl
  refine bF (by simpa using c2) ?_
  rw[if_neg (au c2),af (n:=(i:Int)+1) (by omega) (by omega)]
  have next:aN (f+d)=true→(bif decide (out.length+1≤4294967296) then mO k blk (out++[(f+d,kv)]) q ((i:Int)+1) z1 z2 z3 z4 cnt f z7 z8 z9 z10 else none)=(vW blk z1 z2 z3 z4 cnt f z7 z8 z9 z10 (aH blk f n (i+1) q (out++[(f+d,kv)]))).val:=by
   intro hfit
   refine bT (decide_eq_true (by omega)) ?_
   exact ih k (i+1) q _ (by omega) (by simp[h2]) (by omega) (.inl (by rw[h4];omega))
  have fin:∀e:Int,e≠0→oR ((),(([],(e,())),()))=(vW blk z1 z2 z3 z4 cnt f z7 z8 z9 z10 ([],0,e)).val:=by
   intro e he
   unfold vW
   rw[Tr.val_ite,if_pos (by simpa using he),Tr.val_ret]
  by_cases c3:d = -9223372036854775808
  ·refine bT (by simpa using c3) ?_
   by_cases c4:0≤f
   ·refine bF (by rw[decide_eq_true c4];rfl) ?_
    have hfit:aN (f+d)=true:=eT.2 (by omega)
    by_cases c5:i=0
    ·refine bT (by simp[c5]) ?_
     refine bT (by rw[c3];rfl) ?_
     rw[if_pos (.inl ⟨c5,by omega⟩)]
     exact fin 86 (by decide)
    ·refine bF (by simp[c5]) ?_
     rw[if_neg (by rintro (h | h);exact c5 h.1;rw[hfit] at h;cases h),af (n:=f+d) (by omega) (by omega)]
     exact next hfit
   ·refine bT (by rw[decide_eq_false c4];rfl) ?_
    rw[if_pos (.inr (by
     cases h:aN (f+d) with
     |false=>rfl
     |true=>have:=eT.1 h;omega))]
    exact fin 86 (by decide)
  refine bF (by simpa using c3) ?_
  obtain ⟨s1,s2⟩:=SD b1 hf c3
  rw[s1]
  refine (ae rfl _ _).trans ?_
  rw[s2]
  cases hfit:aN (f+d) with
  |false=>
   rw[if_neg (by decide)]
   refine (aa rfl _ _).trans ?_
   rw[if_pos (.inr rfl)]
   exact fin 86 (by decide)
  |true=>
   rw[if_pos rfl]
   refine (ae rfl _ _).trans ?_
   by_cases c5:i=0
   ·refine bT (by simp[c5]) ?_
    by_cases c6:d=0
    ·refine bF (by simpa using c6) ?_
     rw[if_neg (by rintro (h | h);exact h.2 c6;cases h)]
     exact next hfit
    ·refine bT (by simpa using c6) ?_
     rw[if_pos (.inl ⟨c5,c6⟩)]
     exact fin 86 (by decide)
   ·refine bF (by simp[c5]) ?_
    rw[if_neg (by rintro (h | h);exact c5 h.1;cases h)]
    exact next hfit
def wZ (a0:LI)(a1 a2 a3:Int)(a4:Bool)(a5 a6 a7 a8 a9 a10:Int):Option kN.Res:=(lK ((a0,([],(0,(0,())))),((a1,(a2,(a3,(a4,(a5,(a6,(a7,(a8,(a9,(a10,())))))))))),()))).run fun y=>match y with | .ret ((),((x108,x109,()),()))=>(oR ((x108,x109,()),())) | .pan (.ret ((),((x110,x111,x112,()),(x113,x114,x115,x116,x117,x118,x119,x120,x121,x122,()),())))=>(bif decide (x112<(↑x110.length:Int)) then oR (([],2,()),()) else bif du x111 != x119 then oR (([],86,()),()) else oR ((x111,0,()),()))
theorem NJ (a0:LI)(a1 a2 a3:Int)(a4:Bool)(a5 a6 a7 a8 a9 a10:Int):Io.run tt Ha dr s7 kN Tryz.f80 ((a0,(a1,a2,a3,a4,a5,a6,a7,a8,a9,a10,()),()),())=wZ a0 a1 a2 a3 a4 a5 a6 a7 a8 a9 a10:=by kernel_rfl
theorem xy:HcsOk prog GO:=.cons PL (.cons PZ (.cons MY .nil))
theorem PY:HcOk prog 80 (ah kN Ec):=by
 refine bY xy (lp:=s7) (fn:=Tryz.f80) kN (.step (h0:=aG dC lK) (by kernel_rfl) (f9 xy (lp:=s7) (fn:=Tryz.f80) (.done (by kernel_rfl)) dC lK ?_) (.done (by kernel_rfl))) Ec ?_
 ·rintro ⟨⟨(blk:LI),(out:List cy),(p:Int),(i:Int),⟨⟩⟩,⟨⟨(z1:Int),(z2:Int),(z3:Int),(z4:Bool),(cnt:Int),(f:Int),(z7:Int),(z8:Int),(z9:Int),(z10:Int),⟨⟩⟩,⟨⟩⟩⟩ y hw hy
  obtain ⟨hg,hy⟩:=Tr.guard hy
  simp only[zA,zB] at hg
  obtain ⟨h1,h2,h3⟩:=hg
  have h1:i=0:=h1
  have h2:out.length=0:=h2
  have h3:cnt≤(4294960000:Int):=h3
  subst h1
  obtain rfl:=List.length_eq_zero_iff.1 h2
  have hf:bt .i64 f:=hw.2.1.2.2.2.2.2.1
  refine ⟨cnt.toNat+1,(CP blk z1 z2 z3 z4 cnt f z7 z8 z9 z10 hf cnt.toNat (cnt.toNat+1) 0 p [] (by omega) rfl (by omega) (by omega)).trans ?_⟩
  exact hy
 ·rintro ⟨⟨(blk:LI),⟨(z1:Int),(z2:Int),(z3:Int),(z4:Bool),(cnt:Int),(f:Int),(z7:Int),(z8:Int),(z9:Int),(z10:Int),⟨⟩⟩,⟨⟩⟩,⟨⟩⟩ out hw ho
  obtain ⟨hg,ho⟩:=Tr.guard ho
  have hg:cnt≤(4294960000:Int):=of_decide_eq_true hg
  cases ho
  refine (NJ blk z1 z2 z3 z4 cnt f z7 z8 z9 z10).trans ?_
  show _=oR (((cK blk f z7 cnt.toNat).1,(cK blk f z7 cnt.toNat).2,()),())
  unfold wZ lK
  refine bT (by simp only[zA,zB];exact ⟨trivial,rfl,hg⟩) ?_
  have eR:cK blk f z7 cnt.toNat=if (aH blk f cnt.toNat 0 0 []).2.2≠0 then ([],(aH blk f cnt.toNat 0 0 []).2.2)
    else if (aH blk f cnt.toNat 0 0 []).2.1<(blk.length:Int) then ([],2)
    else if du (aH blk f cnt.toNat 0 0 []).1≠z7 then ([],86) else ((aH blk f cnt.toNat 0 0 []).1,0):=rfl
  rw[eR]
  unfold vW
  generalize aH blk f cnt.toNat 0 0 []=r
  obtain ⟨rs,q,e⟩:=r
  by_cases h3:e=0
  rotate_left
  ·refine bT (decide_eq_true h3) ?_
   rw[if_pos h3]
   rfl
  refine bF (decide_eq_false (au h3)) ?_
  rw[if_neg (au h3)]
  by_cases h4:q<(blk.length:Int)
  ·refine bT (decide_eq_true h4) ?_
   rw[if_pos h4]
  refine bF (decide_eq_false h4) ?_
  rw[if_neg h4]
  by_cases h5:du rs=z7
  ·refine bF (by simpa using h5) ?_
   rw[if_neg (au h5)]
  ·refine bT (by simpa using h5) ?_
   rw[if_pos h5]
theorem rV (b:LI):(bh b).1.length≤32768:=by
 unfold bh
 repeat' split
 all_goals first | (simp;done) | skip
 rw[fp]
 have h:=oH (ak (ab 10 1 b 0).1)
 have:=xW ((b.drop (ab 10 1 b 0).2.1.toNat).length+1) (b.drop (ab 10 1 b 0).2.1.toNat) [] (aF (ak (ab 10 1 b 0).1)) h.1
 simp only
 omega
theorem Li {b:LI}(h:(aC b).2=0):61≤b.length∧b.length≤36000:=by
 have hE:aW b true=0:=by
  by_cases hh:aW b true=0
  ·exact hh
  exfalso
  have:dq b=([],aW b true):=by unfold dq;rw[if_pos hh]
  unfold aC at h
  rw[this,if_pos hh] at h
  exact hh h
 obtain ⟨k1,k2,k3,_⟩:=fh hE
 have k4:=ga k2
 omega
abbrev iG:Io:=⟨[dL],[],[],[IF,dI],none⟩
def F6 (d:iG.In):Tr iG.Res:=.ite (decide (d.1.1.length≤4294960000)) (.ret (.ret (((aC d.1.1).1,(aC d.1.1).2,()),()))) .no
abbrev Lb:List (Nat×Hc):=[(78,ah jm Ea),(21,ah jB wg),(79,ah kB D0),(80,ah kN Ec)]
def RF:Hd:=bI Lb
def Mp:Lp:=bQ []
def By (a0:LI):Option iG.Res:=bif (aj a0 true).2 != 0 then oR (((0,0,0,0,0,[],()),(aj a0 true).2,()),()) else bif decide (0≤61)&&(decide (61≤(↑a0.length:Int))&&decide ((↑a0.length:Int)≤(↑a0.length:Int))) then bif decide ((List.drop (Int.toNat 61) (List.take (↑a0.length:Int).toNat a0)).length≤4294967296) then bif (aj a0 true).1.2.2.2.1 then bif decide (32768=32768)&&decide ((List.drop (Int.toNat 61) (List.take (↑a0.length:Int).toNat a0)).length≤4294960000) then bif (bh (List.drop (Int.toNat 61) (List.take (↑a0.length:Int).toNat a0))).2 != 0 then oR (((0,0,0,0,0,[],()),(bh (List.drop (Int.toNat 61) (List.take (↑a0.length:Int).toNat a0))).2,()),()) else bif decide (32768<(↑(bh (List.drop (Int.toNat 61) (List.take (↑a0.length:Int).toNat a0))).1.length:Int)) then oR (((0,0,0,0,0,[],()),4,()),()) else bif decide ((aj a0 true).1.2.2.2.2.1≤4294960000) then bif (cK (bh (List.drop (Int.toNat 61) (List.take (↑a0.length:Int).toNat a0))).1 (aj a0 true).1.2.2.2.2.2.1 (aj a0 true).1.2.2.2.2.2.2.1 (Int.toNat (aj a0 true).1.2.2.2.2.1)).2 != 0 then oR (((0,0,0,0,0,[],()),(cK (bh (List.drop (Int.toNat 61) (List.take (↑a0.length:Int).toNat a0))).1 (aj a0 true).1.2.2.2.2.2.1 (aj a0 true).1.2.2.2.2.2.2.1 (Int.toNat (aj a0 true).1.2.2.2.2.1)).2,()),()) else oR ((((aj a0 true).1.1,(aj a0 true).1.2.2.1,(aj a0 true).1.2.2.2.2.2.2.2.1,(aj a0 true).1.2.2.2.2.2.2.2.2.1,(aj a0 true).1.2.2.2.2.2.2.2.2.2.1,(cK (bh (List.drop (Int.toNat 61) (List.take (↑a0.length:Int).toNat a0))).1 (aj a0 true).1.2.2.2.2.2.1 (aj a0 true).1.2.2.2.2.2.2.1 (Int.toNat (aj a0 true).1.2.2.2.2.1)).1,()),0,()),()) else none else none else bif decide (32768<(↑(List.drop (Int.toNat 61) (List.take (↑a0.length:Int).toNat a0)).length:Int)) then oR (((0,0,0,0,0,[],()),4,()),()) else bif decide ((aj a0 true).1.2.2.2.2.1≤4294960000) then bif (cK (List.drop (Int.toNat 61) (List.take (↑a0.length:Int).toNat a0)) (aj a0 true).1.2.2.2.2.2.1 (aj a0 true).1.2.2.2.2.2.2.1 (Int.toNat (aj a0 true).1.2.2.2.2.1)).2 != 0 then oR (((0,0,0,0,0,[],()),(cK (List.drop (Int.toNat 61) (List.take (↑a0.length:Int).toNat a0)) (aj a0 true).1.2.2.2.2.2.1 (aj a0 true).1.2.2.2.2.2.2.1 (Int.toNat (aj a0 true).1.2.2.2.2.1)).2,()),()) else oR ((((aj a0 true).1.1,(aj a0 true).1.2.2.1,(aj a0 true).1.2.2.2.2.2.2.2.1,(aj a0 true).1.2.2.2.2.2.2.2.2.1,(aj a0 true).1.2.2.2.2.2.2.2.2.2.1,(cK (List.drop (Int.toNat 61) (List.take (↑a0.length:Int).toNat a0)) (aj a0 true).1.2.2.2.2.2.1 (aj a0 true).1.2.2.2.2.2.2.1 (Int.toNat (aj a0 true).1.2.2.2.2.1)).1,()),0,()),()) else none else none else none
theorem Qy (a0:LI):Io.run tt RF dr Mp iG Tryz.f59 ((a0,()),())=By a0:=by kernel_rfl
theorem MX:HcOk prog 59 (ah iG F6):=by
 refine bY (cs:=Lb) (.cons PW (.cons Am (.cons PJ (.cons PY .nil)))) (lp:=Mp) (fn:=Tryz.f59) iG (.done (by kernel_rfl)) F6 ?_
 rintro ⟨⟨(b:LI),⟨⟩⟩,⟨⟩⟩ out hw ho
 obtain ⟨hg,ho⟩:=Tr.guard ho
 have hg2:b.length≤4294960000:=of_decide_eq_true hg
 clear hg
 cases ho
 refine (Qy b).trans ?_
 show _=oR (((aC b).1,(aC b).2,()),())
 have eE:dq b=if aW b true≠0 then ([],aW b true) else if (aR b (decide (b.getD 22 0=1))).2≠0 then ([],(aR b (decide (b.getD 22 0=1))).2) else cK (aR b (decide (b.getD 22 0=1))).1 (aw b 27 8) (aw b 35 8) (aw b 57 4).toNat:=rfl
 have fin:∀e:Int,e≠0→(dq b).2=e→some (Out.ret ((te,(e,())),()):iG.Res)=oR (((aC b).1,(aC b).2,()),()):=by
  intro e he h
  have:aC b=(te,e):=by unfold aC;rw[h,if_pos he]
  rw[this]
 have fin2:∀rs:List cy,dq b=(rs,0)→some (Out.ret (((aw b 0 8,aw b 12 4,aw b 43 8,aw b 51 2,aw b 53 4,rs,()),(0,())),()):iG.Res)=oR (((aC b).1,(aC b).2,()),()):=by
  intro rs h
  have:aC b=((aw b 0 8,aw b 12 4,aw b 43 8,aw b 51 2,aw b 53 4,rs,()),0):=by unfold aC;rw[h,if_neg (au rfl)]
  rw[this]
 unfold By
 by_cases h1:aW b true=0
 rotate_left
 ·have eh:aj b true=(bA,aW b true):=by unfold aj;rw[if_pos h1]
  rw[eh]
  refine bT (by simpa using h1) ?_
  exact fin _ h1 (by rw[eE,if_pos h1])
 have eh:aj b true=(iO b,0):=by unfold aj;rw[if_neg (au h1)]
 rw[if_neg (au h1)] at eE
 obtain ⟨k1,_,_,_,_,_,_,_,_,k2,k3,_⟩:=fh h1
 have hI:iO b=(aw b 0 8,(b.length:Int),aw b 12 4,decide (b.getD 22 0=1),aw b 57 4,aw b 27 8,aw b 35 8,aw b 43 8,aw b 51 2,aw b 53 4,()):=rfl
 rw[eh,hI]
 dsimp only
 have e61:List.drop (Int.toNat 61) (List.take (b.length:Int).toNat b)=b.drop 61:=by
  show List.drop 61 (List.take (b.length:Int).toNat b)=_
  rw[zG,List.take_length]
 have l61:(b.drop 61).length=b.length - 61:=List.length_drop
 rw[e61]
 refine (ae rfl _ _).trans ?_
 refine bT (by simp only[zA,zB];omega) ?_
 refine bT (decide_eq_true (by omega)) ?_
 have rest:∀blk:LI,dq b=cK blk (aw b 27 8) (aw b 35 8) (aw b 57 4).toNat→(bif decide (aw b 57 4≤4294960000) then bif (cK blk (aw b 27 8) (aw b 35 8) (aw b 57 4).toNat).2 != 0 then oR (((0,0,0,0,0,[],()),(cK blk (aw b 27 8) (aw b 35 8) (aw b 57 4).toNat).2,()),()) else oR (((aw b 0 8,aw b 12 4,aw b 43 8,aw b 51 2,aw b 53 4,(cK blk (aw b 27 8) (aw b 35 8) (aw b 57 4).toNat).1,()),0,()),()) else none:Option iG.Res)=oR (((aC b).1,(aC b).2,()),()):=by
  intro blk hb
  refine bT (decide_eq_true (by omega)) ?_
  by_cases h4:(cK blk (aw b 27 8) (aw b 35 8) (aw b 57 4).toNat).2=0
  ·refine bF (by simpa using h4) ?_
   exact fin2 _ (by rw[hb,← h4])
  ·refine bT (by simpa using h4) ?_
   exact fin _ h4 (by rw[hb])
 by_cases h22:b.getD 22 0=1
 ·rw[decide_eq_true h22] at eE ⊢
  have hB:aR b true=bh (b.drop 61):=rfl
  rw[hB] at eE
  refine (aa rfl _ _).trans ?_
  have l62:(b.drop 61).length≤4294960000:=by omega
  refine bT (by rw[zA];exact ⟨rfl,decide_eq_true l62⟩) ?_
  by_cases h2:(bh (b.drop 61)).2=0
  rotate_left
  ·refine bT (by simpa using h2) ?_
   exact fin _ h2 (by rw[eE,if_pos h2])
  refine bF (by simpa using h2) ?_
  rw[if_neg (au h2)] at eE
  have:=rV (b.drop 61)
  have this:¬(32768:Int)<((bh (b.drop 61)).1.length:Int):=by omega
  refine bF (decide_eq_false this) ?_
  exact rest _ eE
 ·rw[decide_eq_false h22] at eE ⊢
  have hB:aR b false=if 32768<((b.drop 61).length:Int) then ([],4) else (b.drop 61,0):=rfl
  rw[hB] at eE
  refine (ae rfl _ _).trans ?_
  by_cases h2:32768<((b.drop 61).length:Int)
  ·rw[if_pos h2] at eE
   refine bT (decide_eq_true h2) ?_
   exact fin 4 (by decide) (by rw[eE,if_pos (by decide)])
  ·rw[if_neg h2,if_neg (au rfl)] at eE
   refine bF (decide_eq_false h2) ?_
   exact rest _ eE
abbrev n9:Io:=⟨[dL,gl,yY],[],[],[dO,dI],none⟩
def Kv (d:n9.In):Tr n9.Res:=.ite (decide (d.1.1.length≤4294960000)) (.ret (.ret (((aq d.1.1 d.1.2.1 d.1.2.2.1).1,(aq d.1.1 d.1.2.1 d.1.2.2.1).2,()),()))) .no
abbrev Ld:List (Nat×Hc):=[(59,ah iG F6),(85,ah fk oV),(24,ah rK OB)]
def RH:Hd:=bI Ld
def Mr:Lp:=bQ []
def Bz (a0:LI)(a1 a2:Int):Option n9.Res:=bif decide (a0.length≤4294960000) then bif (aC a0).2 != 0 then oR (([],(aC a0).2,()),()) else bif decide (a1<0) then oR (([],80,()),()) else bif decide (4611686018427387648<a1) then oR (([],80,()),()) else bif decide (0≤8)&&(decide (8≤12)&&decide (12≤(↑a0.length:Int))) then bif decide ((az a1 (Int.toNat 8)).length+(List.drop (Int.toNat 8) (List.take (Int.toNat 12) a0)).length≤4294967296) then bif decide (List.length (az a1 (Int.toNat 8)++List.drop (Int.toNat 8) (List.take (Int.toNat 12) a0))+(az (i64.wrap a2) (Int.toNat 4)).length≤4294967296) then bif decide (0≤16)&&(decide (16≤(↑a0.length:Int))&&decide ((↑a0.length:Int)≤(↑a0.length:Int))) then bif decide (List.length (az a1 (Int.toNat 8)++List.drop (Int.toNat 8) (List.take (Int.toNat 12) a0)++az (i64.wrap a2) (Int.toNat 4))+(List.drop (Int.toNat 16) (List.take (↑a0.length:Int).toNat a0)).length≤4294967296) then oR ((az a1 (Int.toNat 8)++List.drop (Int.toNat 8) (List.take (Int.toNat 12) a0)++az (i64.wrap a2) (Int.toNat 4)++List.drop (Int.toNat 16) (List.take (↑a0.length:Int).toNat a0),0,()),()) else none else none else none else none else none else none
theorem QA (a0:LI)(a1 a2:Int):Io.run tt RH dr Mr n9 Tryz.f68 ((a0,a1,a2,()),())=Bz a0 a1 a2:=by kernel_rfl
theorem Sd:HcOk prog 68 (ah n9 Kv):=by
 refine bY (cs:=Ld) (.cons MX (.cons xO (.cons Q2 .nil))) (lp:=Mr) (fn:=Tryz.f68) n9 (.done (by kernel_rfl)) Kv ?_
 rintro ⟨⟨(b:LI),(base:Int),(ep:Int),⟨⟩⟩,⟨⟩⟩ out hw ho
 obtain ⟨hg,ho⟩:=Tr.guard ho
 have hg2:b.length≤4294960000:=of_decide_eq_true hg
 clear hg
 cases ho
 refine (QA b base ep).trans ?_
 show _=oR (((aq b base ep).1,((aq b base ep).2,())),())
 have hep:bt .i32 ep:=hw.1.2.2.1
 have hep:=zf hep
 unfold Bz
 refine bT (decide_eq_true hg2) ?_
 by_cases h1:(aC b).2=0
 rotate_left
 ·have:aq b base ep=([],(aC b).2):=by unfold aq;rw[if_pos h1]
  rw[this]
  exact aa (by simpa using h1) _ _
 refine bF (by simpa using h1) ?_
 have hB:aQ base=(decide (base<0) || decide (4611686018427387648<base)):=rfl
 by_cases h2:base<0
 ·have:aq b base ep=([],80):=by unfold aq;rw[if_neg (au h1),if_pos (by rw[hB,decide_eq_true h2];rfl)]
  rw[this]
  exact aa (decide_eq_true h2) _ _
 refine bF (decide_eq_false h2) ?_
 by_cases h3:4611686018427387648<base
 ·have:aq b base ep=([],80):=by unfold aq;rw[if_neg (au h1),if_pos (by rw[hB,decide_eq_true h3,Bool.or_true])]
  rw[this]
  exact aa (decide_eq_true h3) _ _
 refine bF (decide_eq_false h3) ?_
 have e:aq b base ep=(az base 8++((b.drop 8).take 4++(az ep 4++b.drop 16)),0):=by unfold aq;rw[if_neg (au h1),if_neg (by rw[hB,decide_eq_false h2,decide_eq_false h3];decide)]
 rw[e]
 obtain ⟨l1,l2⟩:=Li h1
 have e1:List.drop (Int.toNat 8) (List.take (Int.toNat 12) b)=(b.drop 8).take 4:=by
  show List.drop 8 (List.take 12 b)=_
  rw[List.drop_take]
 have e2:List.drop (Int.toNat 16) (List.take (b.length:Int).toNat b)=b.drop 16:=by
  show List.drop 16 (List.take (b.length:Int).toNat b)=_
  rw[zG,List.take_length]
 rw[e1,e2,af (n:=ep) (by omega) (by omega),show Int.toNat 8=8 from rfl,show Int.toNat 4=4 from rfl]
 have m1:((b.drop 8).take 4).length=4:=cm (b:=b) (p:=8) (n:=4) (by omega)
 have m2:(b.drop 16).length=b.length - 16:=List.length_drop
 have q8:=dT base 8
 have q4:=dT ep 4
 refine bT (by simp only[zA,zB];omega) ?_
 refine bT (decide_eq_true (by omega)) ?_
 refine bT (decide_eq_true (by rw[zH];omega)) ?_
 refine bT (by simp only[zA,zB];omega) ?_
 refine bT (decide_eq_true (by rw[zH,zH];omega)) ?_
 simp only[zK]
end
end Go.Proofs.YthpcdhgpplmneaaGreatDoor.Sym
namespace Go.Proofs.YthpcdhgpplmneaaGreatDoor.Sym
open Go
noncomputable section
end
end Go.Proofs.YthpcdhgpplmneaaGreatDoor.Sym
namespace Go.Proofs.YthpcdhgpplmneaaGreatDoor.Sym
open Go
open Go.IntKind (i8 i16 i32 i64 u8 u16 u32 u64)
noncomputable section
def Can:Bool→LI→Prop
 |_,[]=>False
 |f,[c]=>0≤c∧c<128∧(f=true→c≠0)
 |_,c::d::l=>128≤c∧c≤255∧Can true (d::l)
theorem Can.pos:∀{l:LI},Can true l→1≤bv l
 |[],h=>h.elim
 |[c],h=>by
  obtain ⟨h1,h2,h3⟩:=h
  have:=h3 rfl
  simp only[bv]
  omega
 |c::d::l,h=>by
  have:=Can.pos h.2.2
  rw[bv]
  omega
theorem Can.dig:∀{l:LI} (n:Nat) (f:Bool),Can f l→l.length≤n+1→oJ n (bv l)++[nc n (bv l)]=l
 |[],n,f,h,hl=>h.elim
 |[c],n,f,h,hl=>by
  obtain ⟨h1,h2,h3⟩:=h
  have e:bv [c]=c:=by simp only[bv];omega
  rw[e]
  cases n with
  |zero=>rfl
  |succ n=>
   have:¬ 127<c:=by omega
   simp[oJ,nc,this]
 |c::d::l,n,f,h,hl=>by
  obtain ⟨h1,h2,h3⟩:=h
  have hp:=h3.pos
  cases n with
  |zero=>simp at hl
  |succ n=>
   have ih:=Can.dig n true h3 (by simpa using hl)
   have e:bv (c::d::l)=c % 128+128*bv (d::l):=rfl
   have e1:(c % 128+128*bv (d::l)) / 128=bv (d::l):=by omega
   have e2:(c % 128+128*bv (d::l)) % 128+128=c:=by omega
   have e3:127<c % 128+128*bv (d::l):=by omega
   rw[e,oJ,nc,if_pos e3,if_pos e3,e1,e2,List.cons_append,ih]
theorem vi:∀j:Nat,(1:Int)≤128 ^ j
 |0=>by simp
 |j+1=>by
  have:=vi j
  rw[Int.pow_succ]
  omega
theorem DE (most:Nat)(top:Int)(h0:0≤top)(ht:top<128):∀(l:LI) (i:Nat),(∀c∈l,0≤c∧c≤255)→i<most→(bG most top l i).2=0→
  ∃m:Nat,(bG most top l i).1=i+m∧m<l.length∧i+m<most∧Can (decide (0<i)) (l.take (m+1))∧bv (l.take (m+1))<128 ^ (most - 1 - i)*(top+1)
 |[],i,hc,hi,h=>by simp[bG] at h
 |c::l,i,hc,hi,h=>by
  have hcc:=hc c (by simp)
  simp only[bG] at h ⊢
  split at h
  ·cases h
  rename_i h1
  rw[if_neg h1]
  split at h
  ·rename_i h2
   rw[if_pos h2]
   split at h
   ·cases h
   rename_i h3
   rw[if_neg h3]
   refine ⟨0,by simp,by simp,by omega,?_,?_⟩
   ·refine ⟨hcc.1,h2,fun hf hz=>h3 ⟨hz,by simpa using hf⟩⟩
   ·have e:bv ((c::l).take (0+1))=c:=by simp only[List.take_succ_cons,List.take_zero,bv];omega
    rw[e]
    by_cases hm:i+1=most
    ·rw[show most - 1 - i=0 by omega]
     have:¬ top<c:=fun h=>h1 ⟨hm,h⟩
     simp;omega
    ·obtain ⟨j,hj⟩:∃j,most - 1 - i=j+1:=⟨most - 2 - i,by omega⟩
     rw[hj,Int.pow_succ]
     have hp:(1:Int)≤128 ^ j:=vi j
     have:(1:Int)*128*1≤128 ^ j*128*(top+1):=Int.mul_le_mul (Int.mul_le_mul_of_nonneg_right hp (by omega)) (by omega) (by omega) (Int.mul_nonneg (by omega) (by omega))
     omega
  ·rename_i h2
   rw[if_neg h2]
   have hne:i+1<most:=by
    rcases Nat.lt_or_ge (i+1) most with h | h'
    ·exact h
    ·exact absurd ⟨by omega,by omega⟩ h1
   obtain ⟨m,g1,g2,g3,g4,g5⟩:=DE most top h0 ht l (i+1) (fun c hc'=>hc c (by simp[hc'])) hne h
   refine ⟨m+1,by rw[g1];push_cast;omega,by simp;omega,by omega,?_,?_⟩
   ·obtain ⟨d,l',rfl⟩:∃d l',l=d::l':=by
     cases l with
     |nil=>simp at g2
     |cons d l'=>exact ⟨d,l',rfl⟩
    rw[List.take_succ_cons,List.take_succ_cons] at *
    refine ⟨by omega,hcc.2,?_⟩
    simpa using g4
   ·rw[List.take_succ_cons,bv]
    obtain ⟨j,hj⟩:∃j,most - 1 - i=j+1:=⟨most - 2 - i,by omega⟩
    rw[show most - 1 - (i+1)=j by omega] at g5
    rw[hj,Int.pow_succ]
    have e:(128:Int) ^ j*128*(top+1)=128*(128 ^ j*(top+1)):=by
     rw[Int.mul_comm (128 ^ j) 128,Int.mul_assoc]
    rw[e]
    omega
def pc (b:LI)(p q:Int):LI:=(b.take q.toNat).drop p.toNat
theorem jD {b:LI}{p q r:Int}(h0:0≤p)(h1:p≤q)(h2:q≤r):pc b p q++pc b q r=pc b p r:=by
 unfold pc
 obtain ⟨P,rfl⟩:=aB h0
 obtain ⟨Q,rfl⟩:=aB (show 0≤q by omega)
 obtain ⟨R,rfl⟩:=aB (show 0≤r by omega)
 simp only[zG]
 have e:b.take Q=(b.take R).take Q:=by rw[List.take_take,Nat.min_eq_left (by omega)]
 rw[e,List.drop_take]
 have e2:(b.take R).drop Q=((b.take R).drop P).drop (Q - P):=by rw[List.drop_drop,show P+(Q - P)=Q by omega]
 rw[e2,List.take_append_drop]
theorem Ib {b:LI}{q n:Int}(h0:0≤q)(h1:0≤n):(b.drop q.toNat).take n.toNat=pc b q (q+n):=by
 unfold pc
 rw[List.drop_take,show (q+n).toNat - q.toNat=n.toNat by omega]
theorem M1 {b:LI}{p q:Int}(h0:0≤p)(h1:p≤q)(h2:q≤b.length):((pc b p q).length:Int)=q - p:=by
 unfold pc
 simp only[List.length_drop,List.length_take]
 omega
def bm (b:LI):Prop:=∀c∈b,0≤c∧c≤255
theorem xX {most:Nat}{top:Int}(h0:0≤top)(ht:top<128)(hm:0<most)(hm':most≤10)(hB:128 ^ (most - 1)*(top+1)≤18446744073709551616){b:LI}(hb:bm b){p:Int}(h:(ab most top b p).2.2=0):
  bH (ab most top b p).1=pc b p (ab most top b p).2.1∧0≤(ab most top b p).1∧(ab most top b p).1<128 ^ (most - 1)*(top+1):=by
 obtain ⟨k1,k2,k3⟩:=mr h
 unfold ab at h k2 k3 ⊢
 by_cases hp:p<0∨(b.length:Int)<p
 ·rw[if_pos hp] at h;cases h
 rw[if_neg hp] at h k2 k3 ⊢
 by_cases hr:(bG most top (b.drop p.toNat) 0).2=0
 rotate_left
 ·rw[if_neg hr] at h;exact absurd h hr
 rw[if_pos hr] at k2 k3 ⊢
 obtain ⟨m,g1,g2,g3,g4,g5⟩:=DE most top h0 ht (b.drop p.toNat) 0 (fun c hc=>hb c (List.mem_of_mem_drop hc)) hm hr
 rw[g1] at k2 k3 ⊢
 simp only at k2 k3 ⊢
 have e1:((((0:Nat):Int)+(m:Int))+1).toNat=m+1:=by omega
 rw[e1]
 have hpos:=(vG ((b.drop p.toNat).take (m+1))).1
 rw[Nat.sub_zero] at g5
 rw[Int.emod_eq_of_lt hpos (by omega)]
 refine ⟨?_,hpos,g5⟩
 have hd:=Can.dig 10 _ g4 (by rw[List.length_take];omega)
 unfold bH
 rw[hd]
 unfold pc
 rw[List.drop_take,show (p+(((0:Nat):Int)+m)+1).toNat - p.toNat=m+1 by omega]
theorem Pu {n:Int}:bt .i32 n↔-2147483648≤n∧n≤2147483647:=by simp[bt,IntKind.min,IntKind.max,IntKind.signed,IntKind.bits]
theorem Ir {u:Int}(h:0≤u):bg (ak u)=u:=by
 unfold bg ak
 split <;> split <;> omega
theorem kd {b:LI}(hb:bm b){p:Int}(h:(ag b p).2.2=0):bH (bg (ag b p).1)=pc b p (ag b p).2.1:=by
 obtain ⟨h1,h2,h3⟩:=xX (most:=5) (top:=15) (by decide) (by decide) (by decide) (by decide) (by decide) hb (show (ab 5 15 b p).2.2=0 from h)
 have h3:(ab 5 15 b p).1<4294967296:=h3
 have e:(ag b p).1=ak (ab 5 15 b p).1:=by
  show IntKind.wrap .i32 (ak (ab 5 15 b p).1)=_
  refine bW (k:=.i32) (Pu.2 ?_)
  unfold ak
  split <;> omega
 rw[e,Ir h2]
 exact h1
theorem FD {b:LI}(hb:bm b){p:Int}(h:(ab 10 1 b p).2.2=0):bH (bg (ak (ab 10 1 b p).1))=pc b p (ab 10 1 b p).2.1:=by
 obtain ⟨h1,h2,h3⟩:=xX (most:=10) (top:=1) (by decide) (by decide) (by decide) (by decide) (by decide) hb h
 rw[Ir h2]
 exact h1
theorem JW {b:LI}{p l:Int}(hl : -1≤l)(h:(ac b p l).2.2=0):(ag b p).2.2=0∧
  ((l<0∧(ag b p).1 = -1∧ac b p l=((true,[],()),(ag b p).2.1,0)) ∨
   (0≤(ag b p).1∧(ag b p).2.1+(ag b p).1≤b.length∧ac b p l=((false,pc b (ag b p).2.1 ((ag b p).2.1+(ag b p).1),()),(ag b p).2.1+(ag b p).1,0))):=by
 unfold ac at h ⊢
 by_cases h0:(ag b p).2.2=0
 rotate_left
 ·rw[if_pos h0] at h;exact absurd h h0
 have hk:=dW h0
 rw[if_neg (au h0)] at h ⊢
 by_cases h1:(ag b p).1<l
 ·rw[if_pos h1] at h;cases h
 rw[if_neg h1] at h ⊢
 by_cases h2:(ag b p).1<0
 ·rw[if_pos h2]
  exact ⟨h0,.inl ⟨by omega,by omega,rfl⟩⟩
 rw[if_neg h2] at h ⊢
 by_cases h3:(b.length:Int) - (ag b p).2.1<(ag b p).1
 ·rw[if_pos h3] at h;cases h
 rw[if_neg h3,Ib (by omega) (by omega)]
 exact ⟨h0,.inr ⟨by omega,by omega,rfl⟩⟩
theorem jv {b:LI}(hb:bm b){p l:Int}(hl : -1≤l)(h:(ac b p l).2.2=0):
  cb (ac b p l).1=pc b p (ac b p l).2.1∧gz (ac b p l).1=false∧0≤p∧p<(ac b p l).2.1∧(ac b p l).2.1≤b.length∧(0≤l→(ac b p l).1.1=false):=by
 obtain ⟨h0,h1 | h1⟩:=JW hl h
 ·obtain ⟨h1,h2,e⟩:=h1
  have hk:=dW h0
  have hd:=kd hb h0
  rw[e]
  refine ⟨?_,by simp[gz],hk.1,hk.2.1,hk.2.2,fun h=>by omega⟩
  rw[h2] at hd
  exact hd
 ·obtain ⟨h1,h2,e⟩:=h1
  have hk:=dW h0
  have hd:=kd hb h0
  rw[e]
  refine ⟨?_,by simp[gz],hk.1,by simp only;omega,by simpa using h2,fun _=>rfl⟩
  show bH (bg ((pc b (ag b p).2.1 ((ag b p).2.1+(ag b p).1)).length:Int))++pc b (ag b p).2.1 ((ag b p).2.1+(ag b p).1)=_
  rw[M1 (by omega) (by omega) h2,show (ag b p).2.1+(ag b p).1 - (ag b p).2.1=(ag b p).1 by omega,hd,jD hk.1 (by omega) (by omega)]
theorem nl {b:LI}(hb:bm b):∀(n:Nat) (o:List eM) (p:Int),0≤p→p≤b.length→(aA b n o p).2.2=0→
  ∃hs:List eM,(aA b n o p).1=o++hs∧hs.length=n∧cg hs=pc b p (aA b n o p).2.1∧dF hs=0∧p≤(aA b n o p).2.1∧(aA b n o p).2.1≤b.length
 |0,o,p,h0,h1,h=>by
  refine ⟨[],by simp[aA],rfl,?_,rfl,Int.le_refl _,h1⟩
  show []=pc b p p
  unfold pc
  rw[zI (by simp;omega)]
 |n+1,o,p,h0,h1,h=>by
  rw[nm] at h ⊢
  by_cases hH:(bd b p).2.2=0
  rotate_left
  ·rw[if_pos hH] at h;exact absurd h hH
  rw[if_neg (au hH)] at h ⊢
  unfold bd at hH
  by_cases a1:(ac b p 0).2.2=0
  rotate_left
  ·rw[if_pos a1] at hH;exact absurd hH a1
  rw[if_neg (au a1)] at hH
  by_cases a2:(cx (ac b p 0).1.2.1).2=false
  ·rw[if_pos a2] at hH;cases hH
  rw[if_neg a2] at hH
  have hH:(ac b (ac b p 0).2.1 (-1)).2.2=0:=hH
  have eH:bd b p=(((ac b p 0).1.2.1,(ac b (ac b p 0).2.1 (-1)).1,()),(ac b (ac b p 0).2.1 (-1)).2.1,(ac b (ac b p 0).2.1 (-1)).2.2):=by
   unfold bd;rw[if_neg (au a1),if_neg a2]
  rw[eH] at h ⊢
  simp only at h ⊢
  obtain ⟨k1,k2,k3,k4,k5,k6⟩:=jv hb (by decide) a1
  obtain ⟨q1,q2,q3,q4,q5,q6⟩:=jv hb (by decide) hH
  have k6:=k6 (Int.le_refl 0)
  obtain ⟨hs,g1,g2,g3,g4,g5,g6⟩:=nl hb n _ _ (show 0≤(ac b (ac b p 0).2.1 (-1)).2.1 by omega) q5 h
  refine ⟨((ac b p 0).1.2.1,(ac b (ac b p 0).2.1 (-1)).1,())::hs,by rw[g1];simp,by simp[g2],?_,?_,by omega,g6⟩
  ·have e1:cg (((ac b p 0).1.2.1,(ac b (ac b p 0).2.1 (-1)).1,())::hs)=(bH (bg (ac b p 0).1.2.1.length)++(ac b p 0).1.2.1)++cb (ac b (ac b p 0).2.1 (-1)).1++cg hs:=by
    simp[cg,AI]
   have e2:bH (bg (ac b p 0).1.2.1.length)++(ac b p 0).1.2.1=pc b p (ac b p 0).2.1:=by
    rw[← k1]
    unfold cb
    rw[if_neg (by rw[k6];decide)]
   rw[e1,e2,q1,g3,jD k3 (by omega) (by omega),jD k3 (by omega) (by omega)]
  ·unfold dF
   rw[if_neg a2,if_neg (by rw[q2];decide)]
   exact g4
theorem AH {b:LI}(hb:bm b){p:Int}(h:(ay b p).2.2=0):
  bH (bg (ay b p).1.length)++cg (ay b p).1=pc b p (ay b p).2.1∧dF (ay b p).1=0∧((ay b p).1.length:Int)≤16∧0≤p∧p<(ay b p).2.1∧(ay b p).2.1≤b.length:=by
 unfold ay at h ⊢
 by_cases c5:(ag b p).2.2=0
 rotate_left
 ·rw[if_pos c5] at h;exact absurd h c5
 rw[if_neg (au c5)] at h ⊢
 by_cases c6:(ag b p).1<0
 ·rw[if_pos c6] at h;cases h
 rw[if_neg c6] at h ⊢
 by_cases c7:16<(ag b p).1
 ·rw[if_pos c7] at h;cases h
 rw[if_neg c7] at h ⊢
 have hk:=dW c5
 obtain ⟨hs,g1,g2,g3,g4,g5,g6⟩:=nl hb (ag b p).1.toNat [] (ag b p).2.1 (by omega) hk.2.2 h
 rw[List.nil_append] at g1
 have hl:(hs.length:Int)=(ag b p).1:=by omega
 rw[g1,hl,kd hb c5,g3,jD hk.1 (by omega) g5]
 exact ⟨rfl,g4,by omega,hk.1,by omega,g6⟩
theorem FH {b:LI}(hb:bm b)(h:(aX b).2=0):cJ (aX b).1=b∧gf (aX b).1=0:=by
 unfold aX at h ⊢
 by_cases h0:b.length=0
 ·rw[if_pos h0] at h;cases h
 rw[if_neg h0] at h ⊢
 by_cases h1:b.getD 0 0=0
 rotate_left
 ·rw[if_pos h1] at h;cases h
 rw[if_neg (au h1)] at h ⊢
 by_cases h2:(ab 10 1 b 1).2.2=0
 rotate_left
 ·rw[if_pos h2] at h;exact absurd h h2
 rw[if_neg (au h2)] at h ⊢
 have d1:=FD hb h2
 have k1:=mr h2
 generalize ak (ab 10 1 b 1).1=v1 at *
 generalize (ab 10 1 b 1).2.1=q1 at *
 by_cases c1:(ag b q1).2.2=0
 rotate_left
 ·rw[if_pos c1] at h;exact absurd h c1
 rw[if_neg (au c1)] at h ⊢
 by_cases c2:(ag b q1).1<0
 ·rw[if_pos c2] at h;cases h
 rw[if_neg c2] at h ⊢
 have d2:=kd hb c1
 have k2:=dW c1
 generalize (ag b q1).1=v2 at *
 generalize (ag b q1).2.1=q2 at *
 by_cases c3:(ac b q2 (-1)).2.2=0
 rotate_left
 ·rw[if_pos c3] at h;exact absurd h c3
 rw[if_neg (au c3)] at h ⊢
 obtain ⟨d3,b3,k3⟩:=jv hb (by decide) c3
 generalize (ac b q2 (-1)).1=B1 at *
 generalize (ac b q2 (-1)).2.1=q3 at *
 by_cases c4:(ac b q3 (-1)).2.2=0
 rotate_left
 ·rw[if_pos c4] at h;exact absurd h c4
 rw[if_neg (au c4)] at h ⊢
 obtain ⟨d4,b4,k4⟩:=jv hb (by decide) c4
 generalize (ac b q3 (-1)).1=B2 at *
 generalize (ac b q3 (-1)).2.1=q4 at *
 by_cases c5:(ay b q4).2.2=0
 rotate_left
 ·rw[if_pos c5] at h;exact absurd h c5
 rw[if_neg (au c5)] at h ⊢
 obtain ⟨d5,e5,n5,k5⟩:=AH hb c5
 generalize (ay b q4).1=hs at *
 generalize (ay b q4).2.1=q5 at *
 by_cases c6:q5<(b.length:Int)
 ·rw[if_pos c6] at h;cases h
 rw[if_neg c6]
 refine ⟨?_,?_⟩
 ·show 0::(bH (bg v1)++(bH (bg v2)++(cb B1++(cb B2++(bH (bg hs.length)++cg hs)))))=b
  rw[d1,d2,d3,d4,d5,jD (by omega) (by omega) (by omega),jD (by omega) (by omega) (by omega),jD (by omega) (by omega) (by omega),jD (by omega) (by omega) (by omega),show q5=b.length by omega]
  unfold pc
  rw[zG,List.take_length]
  obtain ⟨c,l,rfl⟩:∃c l,b=c::l:=by
   cases b with
   |nil=>exact absurd rfl h0
   |cons c l=>exact ⟨c,l,rfl⟩
  have h1:c=0:=h1
  rw[h1]
  rfl
 ·show (if v2<0 then 72 else if gz B1=true∨gz B2=true then 70 else if 16<(hs.length:Int) then 9 else dF hs)=0
  rw[if_neg c2,if_neg (by rw[b3,b4];simp),if_neg (by omega),e5]
theorem FF {b:LI}(hb:bm b){p:Int}(h:(am b p).2.2=0):
  0≤p∧p<(am b p).2.1∧(am b p).2.1≤b.length∧bD (am b p).1=0∧cq (am b p).1=(pc b p (am b p).2.1,0)∧lf (am b p).1=true:=by
 unfold am at h ⊢
 by_cases c1:(ag b p).2.2=0
 rotate_left
 ·rw[if_pos c1] at h;exact absurd h c1
 rw[if_neg (au c1)] at h ⊢
 by_cases c2:(ag b p).1<0
 ·rw[if_pos c2] at h;cases h
 rw[if_neg c2] at h ⊢
 by_cases c3:16384<(ag b p).1
 ·rw[if_pos c3] at h;cases h
 rw[if_neg c3] at h ⊢
 by_cases c4:(b.length:Int) - (ag b p).2.1<(ag b p).1
 ·rw[if_pos c4] at h;cases h
 rw[if_neg c4] at h ⊢
 have d1:=kd hb c1
 have k1:=dW c1
 generalize (ag b p).1=n at *
 generalize (ag b p).2.1=q at *
 rw[Ib (by omega) (by omega)] at h ⊢
 by_cases c5:(aX (pc b q (q+n))).2=0
 rotate_left
 ·rw[if_pos c5] at h;exact absurd h c5
 rw[if_neg (au c5)] at h ⊢
 have hb2:bm (pc b q (q+n)):=fun c hc=>hb c (List.mem_of_mem_take (List.mem_of_mem_drop hc))
 obtain ⟨e1,e2⟩:=FH hb2 c5
 have hl:=M1 (b:=b) (p:=q) (q:=q+n) (by omega) (by omega) (by omega)
 generalize (aX (pc b q (q+n))).1=r at *
 have hbl:((cJ r).length:Int)=n:=by rw[e1];omega
 have hc:bD r=0:=by
  unfold bD
  rw[if_neg (au e2),if_neg (by omega)]
 refine ⟨k1.1,by simp only;omega,by simp only;omega,hc,?_,?_⟩
 ·unfold cq
  rw[if_pos hc,hbl,d1,e1,jD k1.1 (by omega) (by omega)]
 ·unfold lf
  rw[zB]
  omega
theorem bytesOf {b:LI}(h:Ty.wf bs b):bm b:=fun c hc=>by
 have:=h.2 c hc
 exact EH.1 this
end
end Go.Proofs.YthpcdhgpplmneaaGreatDoor.Sym
namespace Go.Proofs.YthpcdhgpplmneaaGreatDoor.Sym
open Go
noncomputable section
def Has (b:LI)(p:Int)(X:LI):Prop:=0≤p∧p≤b.length∧∃rest,b.drop p.toNat=X++rest
theorem Has.left {b:LI}{p:Int}{X Y:LI}(h:Has b p (X++Y)):Has b p X:=by
 obtain ⟨h0,h1,rest,h2⟩:=h
 exact ⟨h0,h1,Y++rest,by rw[h2,zK]⟩
theorem Has.len {b:LI}{p:Int}{X:LI}(h:Has b p X):p+X.length≤b.length:=by
 obtain ⟨h0,h1,rest,h2⟩:=h
 have:=congrArg List.length h2
 simp only[List.length_drop,zH] at this
 omega
theorem Has.right {b:LI}{p:Int}{X Y:LI}(h:Has b p (X++Y)):Has b (p+X.length) Y:=by
 have hl:=h.left.len
 obtain ⟨h0,h1,rest,h2⟩:=h
 refine ⟨by omega,hl,rest,?_⟩
 rw[show (p+X.length).toNat=p.toNat+X.length by omega,← List.drop_drop,h2,zK,List.drop_left]
theorem Has.take {b:LI}{p:Int}{X:LI}(h:Has b p X):(b.drop p.toNat).take X.length=X:=by
 obtain ⟨h0,h1,rest,h2⟩:=h
 rw[h2,List.take_left]
end
end Go.Proofs.YthpcdhgpplmneaaGreatDoor.Sym
namespace Go.Proofs.YthpcdhgpplmneaaGreatDoor.Sym
open Go
open Go.IntKind (i8 i16 i32 i64 u8 u16 u32 u64)
noncomputable section
theorem mp (x k:Int):∀(n m:Nat),m≤n→az (x+256 ^ n*k) m=az x m
 |_,0,_=>rfl
 |n,m+1,h=>by
  rw[az,az,mp x k n m (by omega)]
  congr 1
  have hp:(256:Int) ^ n=256 ^ m*(256*256 ^ (n - m - 1)):=by
   rw[← Int.pow_succ',← Int.pow_add]
   congr 1;omega
  have hq:(256:Int) ^ m≠0:=Int.ne_of_gt (Int.pow_pos (by decide))
  rw[hp,Int.mul_assoc,Int.add_mul_ediv_left _ _ hq,Int.mul_assoc,Int.add_mul_emod_self_left]
theorem Lv (l:LI):∀v:Int,l.foldl (fun v c=>v*256+c) v=v*256 ^ l.length+aZ l:=by
 induction l with
 |nil=>intro v;simp[aZ]
 |cons c l ih=>
  intro v
  unfold aZ
  rw[List.foldl_cons,List.foldl_cons,ih,ih (0*256+c),zN,Int.pow_succ,Int.add_mul,Int.zero_mul,Int.zero_add,Int.mul_assoc,Int.mul_comm 256]
  omega
theorem pW:∀{l:LI},byteR l→az (aZ l) l.length=l
 |[],_=>rfl
 |c::l,h=>by
  have hc:=h c (by simp)
  have hl:byteR l:=fun d hd=>h d (by simp[hd])
  have hb:=rQ l fun d hd=>⟨(hl d hd).1,by have:=(hl d hd).2;omega⟩
  have e:aZ (c::l)=aZ l+256 ^ l.length*c:=by
   have:=Lv l (0*256+c)
   unfold aZ
   rw[List.foldl_cons,this,Int.zero_mul,Int.zero_add,Int.mul_comm]
   unfold aZ;omega
  have hq:(0:Int)<256 ^ l.length:=Int.pow_pos (by decide)
  rw[zN,az,e,mp _ _ _ _ (Nat.le_refl _),pW hl,Int.add_mul_ediv_left _ _ (Int.ne_of_gt hq),Int.ediv_eq_zero_of_lt hb.1 hb.2]
  congr 1
  omega
theorem Sy {l:LI}(h:byteR l)(hl:l.length=2):az (i16.wrap (aZ l)) 2=l:=by
 have key:∃t,i16.wrap (aZ l)=aZ l+256 ^ 2*t:=⟨(i16.wrap (aZ l) - aZ l) / 65536,by simp[IntKind.wrap,IntKind.min,IntKind.max,IntKind.signed,IntKind.bits];omega⟩
 obtain ⟨t,e⟩:=key
 rw[e,mp _ _ _ _ (Nat.le_refl _)]
 have:=pW h;rw[hl] at this;exact this
theorem Sz {l:LI}(h:byteR l)(hl:l.length=4):az (i32.wrap (aZ l)) 4=l:=by
 have key:∃t,i32.wrap (aZ l)=aZ l+256 ^ 4*t:=⟨(i32.wrap (aZ l) - aZ l) / 4294967296,by simp[IntKind.wrap,IntKind.min,IntKind.max,IntKind.signed,IntKind.bits];omega⟩
 obtain ⟨t,e⟩:=key
 rw[e,mp _ _ _ _ (Nat.le_refl _)]
 have:=pW h;rw[hl] at this;exact this
theorem SA {l:LI}(h:byteR l)(hl:l.length=8):az (i64.wrap (aZ l)) 8=l:=by
 have key:∃t,i64.wrap (aZ l)=aZ l+256 ^ 8*t:=⟨(i64.wrap (aZ l) - aZ l) / 18446744073709551616,by simp[IntKind.wrap,IntKind.min,IntKind.max,IntKind.signed,IntKind.bits];omega⟩
 obtain ⟨t,e⟩:=key
 rw[e,mp _ _ _ _ (Nat.le_refl _)]
 have:=pW h;rw[hl] at this;exact this
theorem P2 (b:LI)(p:Int):pc b p p=[]:=by
 unfold pc
 exact List.drop_eq_nil_of_le (by rw[List.length_take];omega)
theorem vj {blk:LI}(hb:bm blk)(f:Int):∀(n i:Nat) (p:Int) (out:List cy),(aH blk f n i p out).2.2=0→0≤p→p≤blk.length→
  ∃rs:List cy,(aH blk f n i p out).1=out++rs∧rs.length=n∧p≤(aH blk f n i p out).2.1∧(aH blk f n i p out).2.1≤blk.length∧
   (∀acc,bz f rs i acc=(acc++pc blk p (aH blk f n i p out).2.1,0))∧cv f rs i=true∧(i=0→0<n→aJ rs=f)∧∀r∈rs,bt .i64 r.1
 |0,i,p,out,h,h0,h1=>⟨[],(List.append_nil out).symm,rfl,Int.le_refl p,h1,fun acc=>by
   show (acc,(0:Int))=(acc++pc blk p p,0)
   rw[P2,List.append_nil],rfl,fun _ h=>by omega,fun r h=>by cases h⟩
 |n+1,i,p,out,h,h0,h1=>by
  have e:aH blk f (n+1) i p out=if (am blk p).2.2≠0 then ([],0,(am blk p).2.2) else if (am blk p).1.2.1≠(i:Int) then ([],0,72) else if i=0∧(am blk p).1.1≠0∨aN (f+(am blk p).1.1)=false then ([],0,86)
    else aH blk f n (i+1) (am blk p).2.1 (out++[(f+(am blk p).1.1,(am blk p).1.2.2.1,(am blk p).1.2.2.2.1,(am blk p).1.2.2.2.2.1,())]):=rfl
  rw[e] at h ⊢
  by_cases c1:(am blk p).2.2=0
  rotate_left
  ·rw[if_pos c1] at h;exact absurd h c1
  rw[if_neg (au c1)] at h ⊢
  by_cases c2:(am blk p).1.2.1=(i:Int)
  rotate_left
  ·rw[if_pos c2] at h;cases h
  rw[if_neg (au c2)] at h ⊢
  by_cases c3:i=0∧(am blk p).1.1≠0∨aN (f+(am blk p).1.1)=false
  ·rw[if_pos c3] at h;cases h
  rw[if_neg c3] at h ⊢
  obtain ⟨k1,k2,k3,k4,k5,k6⟩:=FF hb c1
  obtain ⟨b1,b2⟩:=DF blk p
  obtain ⟨rs,r1,r2,r3,r4,r5,r6,r7,r8⟩:=vj hb f n (i+1) _ _ h (by omega) k3
  generalize am blk p=x at *
  obtain ⟨⟨d,o,K,V,hs,⟨⟩⟩,q,er⟩:=x
  simp only at k1 k2 k3 k4 k5 k6 b1 b2 r1 r3 r4 r5 c2 c3 h ⊢
  subst c2
  generalize aH blk f n (i+1) q (out++[(f+d,K,V,hs,())])=y at *
  have eR:dw f i (f+d,K,V,hs,())=(d,(i:Int),K,V,hs,()):=by
   unfold dw
   simp only
   rw[show f+d - f=d by omega]
  refine ⟨(f+d,K,V,hs,())::rs,by rw[r1];simp,by simp[r2],by omega,r4,fun acc=>?_,?_,fun hi _=>?_,fun r hr=>?_⟩
  ·have e2:bz f ((f+d,K,V,hs,())::rs) i acc=if aN (f+d - f)=false then ([],86) else if bD (dw f i (f+d,K,V,hs,()))≠0 then ([],bD (dw f i (f+d,K,V,hs,()))) else bz f rs (i+1) (acc++(cq (dw f i (f+d,K,V,hs,()))).1):=rfl
   rw[e2,eR,show f+d - f=d by omega,if_neg (by rw[eT.2 (gD b1)];decide),if_neg (au k4),k5,r5]
   simp only
   rw[zK,jD k1 (by omega) r3]
  ·show (lf (dw f i (f+d,K,V,hs,()))&&cv f rs (i+1))=true
   rw[eR,k6,r6];rfl
  ·show f+d=f
   have:d=0:=Classical.byContradiction fun hd=>c3 (.inl ⟨hi,hd⟩)
   omega
  ·rcases List.mem_cons.1 hr with rfl | hr
   ·have hft:aN (f+d)=true:=by
     cases hh:aN (f+d) with
     |true=>rfl
     |false=>exact absurd (.inr hh) c3
    have:=eT.1 hft
    show bt .i64 (f+d)
    simp[bt,IntKind.min,IntKind.max,IntKind.signed,IntKind.bits];omega
   ·exact r8 r hr
theorem t7 {b:LI}(h:bm b)(i:Nat):0≤b.getD i 0∧b.getD i 0≤255:=by
 rw[List.getD_eq_getElem?_getD]
 cases e:b[i]? with
 |none=>exact ⟨by decide,by decide⟩
 |some x=>exact h x (List.mem_of_getElem? e)
theorem w8 {a b:LI}(ha:bm a)(hb:bm b):bm (a++b):=fun c hc=>by
 rcases List.mem_append.1 hc with h | h
 ·exact ha c h
 ·exact hb c h
theorem dy:bm []:=fun c h=>by cases h
theorem pY (d:Nat):∀(n:Nat) (out:LI),bm out→bm (fM d n out)
 |0,_,h=>h
 |n+1,out,h=>pY d n _ (w8 h fun c hc=>by
   have:=t7 h (out.length - d)
   simp only[List.mem_singleton] at hc
   rw[hc];exact this)
theorem DC {b:LI}(hb:bm b):bm (aV b).1.1:=by
 unfold aV
 split
 ·split
  ·exact dy
  ·exact fun c hc=>hb c (List.mem_of_mem_drop (List.mem_of_mem_take hc))
 ·split
  ·exact dy
  ·split <;> exact dy
theorem pZ:∀(k:Nat) (b out:LI) (m:Int),bm b→bm out→bm (bN k b out m).1
 |0,_,_,_,_,h=>h
 |k+1,b,out,m,hb,h=>by
  unfold bN
  split
  ·exact h
  split
  ·exact dy
  split
  ·exact dy
  rename_i h3
  refine pZ k _ _ _ (fun c hc=>hb c (List.mem_of_mem_drop hc)) ?_
  unfold be at h3 ⊢
  split
  ·exact dy
  split
  ·exact dy
  exact pY _ _ _ (w8 h (DC hb))
theorem vE {b:LI}(hb:bm b):bm (bh b).1:=by
 unfold bh
 repeat' split
 all_goals first | exact dy | skip
 rw[fp]
 exact pZ _ _ _ _ (fun c hc=>hb c (List.mem_of_mem_drop hc)) dy
theorem wb {b:LI}(hb:bm b)(pk:Bool):bm (aR b pk).1:=by
 unfold aR
 split
 ·exact vE fun c hc=>hb c (List.mem_of_mem_drop hc)
 split
 ·exact dy
 exact fun c hc=>hb c (List.mem_of_mem_drop hc)
theorem FB (b:LI)(pk:Bool):(aR b pk).1.length≤32768:=by
 unfold aR
 split
 ·exact rV _
 split
 ·simp
 simp only
 omega
structure DecOk (b blk:LI) (rs:List cy):Prop where
 head:aW b true=0
 body:aR b (decide (b.getD 22 0=1))=(blk,0)
 rows:bu rs=(blk,0)
 len:(rs.length:Int)=aw b 57 4
 first:aJ rs=aw b 27 8
 last:du rs=aw b 35 8
 room:cv (aJ rs) rs 0=true
 times:∀r∈rs,bt .i64 r.1
theorem IH {b:LI}(hb:bm b){rs:List cy}(h:dq b=(rs,0)):∃blk,DecOk b blk rs:=by
 unfold dq at h
 by_cases c1:aW b true=0
 rotate_left
 ·rw[if_pos c1] at h;exact absurd (congrArg Prod.snd h) c1
 rw[if_neg (au c1)] at h
 by_cases c2:(aR b (decide (b.getD 22 0=1))).2=0
 rotate_left
 ·rw[if_pos c2] at h;exact absurd (congrArg Prod.snd h) c2
 rw[if_neg (au c2)] at h
 have hby:=wb hb (decide (b.getD 22 0=1))
 have hle:=FB b (decide (b.getD 22 0=1))
 have hbk:aR b (decide (b.getD 22 0=1))=((aR b (decide (b.getD 22 0=1))).1,0):=Prod.ext rfl c2
 generalize (aR b (decide (b.getD 22 0=1))).1=blk at *
 obtain ⟨k1,_,_,_,_,_,_,_,_,k2,k3,_⟩:=fh c1
 unfold cK at h
 by_cases c3:(aH blk (aw b 27 8) (aw b 57 4).toNat 0 0 []).2.2=0
 rotate_left
 ·rw[if_pos c3] at h;exact absurd (congrArg Prod.snd h) c3
 rw[if_neg (au c3)] at h
 obtain ⟨rs',r1,r2,r3,r4,r5,r6,r7,r8⟩:=vj hby (aw b 27 8) _ 0 0 [] c3 (Int.le_refl 0) (by omega)
 rw[List.nil_append] at r1
 rw[r1] at h
 by_cases c4:(aH blk (aw b 27 8) (aw b 57 4).toNat 0 0 []).2.1<(blk.length:Int)
 ·rw[if_pos c4] at h;cases congrArg Prod.snd h
 rw[if_neg c4] at h
 have hq:(aH blk (aw b 27 8) (aw b 57 4).toNat 0 0 []).2.1=(blk.length:Int):=by omega
 rw[hq] at r5
 by_cases c5:du rs'=aw b 35 8
 rotate_left
 ·rw[if_pos c5] at h;cases congrArg Prod.snd h
 rw[if_neg (au c5)] at h
 obtain rfl:rs'=rs:=congrArg Prod.fst h
 have hF:=r7 rfl (by omega)
 have hp:pc blk 0 (blk.length:Int)=blk:=by
  unfold pc
  rw[zG,List.take_length];rfl
 have h5:=r5 []
 rw[hp,List.nil_append] at h5
 refine ⟨blk,c1,hbk,?_,by omega,hF,c5,by rw[hF];exact r6,r8⟩
 unfold bu
 rw[hF,h5,if_neg (au rfl),if_neg (by simp only;omega)]
theorem t6 {b:LI}(h:bm b):byteR b:=fun c hc=>⟨(h c hc).1,by have:=(h c hc).2;omega⟩
theorem sJ {b:LI}(h:bm b){p:Nat}(hp:p+8≤b.length):az (aw b p 8) 8=(b.drop p).take 8:=by
 unfold aw
 have h1:=dH h p 8
 rw[← AD h1 (cm hp)]
 exact SA (t6 h1) (cm hp)
theorem pe {b:LI}(h:bm b){p:Nat}(hp:p+4≤b.length):az (aw b p 4) 4=(b.drop p).take 4:=by
 unfold aw
 have h1:=dH h p 4
 rw[← mY h1 (cm hp)]
 exact Sz (t6 h1) (cm hp)
theorem OI {b:LI}(h:bm b){p:Nat}(hp:p+2≤b.length):az (aw b p 2) 2=(b.drop p).take 2:=by
 unfold aw
 have h1:=dH h p 2
 rw[← tc h1 (cm hp)]
 exact Sy (t6 h1) (cm hp)
theorem qx (b:LI)(p n:Nat):(b.drop p).take n++b.drop (p+n)=b.drop p:=by
 rw[← List.drop_drop,List.take_append_drop]
structure BatR (x:bB):Prop where
 w1:bt .i64 x.1
 w2:bt .i32 x.2.1
 w3:bt .i64 x.2.2.1
 w4:bt .i16 x.2.2.2.1
 w5:bt .i32 x.2.2.2.2.1
 w6:∀r∈x.2.2.2.2.2.1,bt .i64 r.1
theorem BatR.of {x:bB}(hx:Ty.wf bp x):BatR x:=⟨hx.1,hx.2.1,hx.2.2.1,hx.2.2.2.1,hx.2.2.2.2.1,fun r hr=>(hx.2.2.2.2.2.1.2 r hr).1⟩
theorem Ik {b:LI}(h:bm b){p:Nat}(hp:p+8≤b.length):bt .i64 (aw b p 8):=by
 unfold aw
 rw[← AD (dH h p 8) (cm hp)]
 exact bP _ _
theorem Ij {b:LI}(h:bm b){p:Nat}(hp:p+4≤b.length):bt .i32 (aw b p 4):=by
 unfold aw
 rw[← mY (dH h p 4) (cm hp)]
 exact bP _ _
theorem QG {b:LI}(h:bm b){p:Nat}(hp:p+2≤b.length):bt .i16 (aw b p 2):=by
 unfold aw
 rw[← tc (dH h p 2) (cm hp)]
 exact bP _ _
theorem Ew {b:LI}(hb:bm b){x:bB}(h:aC b=(x,0)):∃blk,DecOk b blk x.2.2.2.2.2.1∧aS x=0∧mq x (b.getD 22 0) (b.drop 61)=b∧BatR x:=by
 unfold aC at h
 by_cases c1:(dq b).2=0
 rotate_left
 ·rw[if_pos c1] at h;exact absurd (congrArg Prod.snd h) c1
 rw[if_neg (au c1)] at h
 have hE:dq b=((dq b).1,0):=by rw[← c1]
 generalize (dq b).1=rs at *
 obtain rfl:=congrArg Prod.fst h
 obtain ⟨blk,D⟩:=IH hb hE
 refine ⟨blk,D,?_,?_,?_⟩
 ·obtain ⟨k1,_,_,_,_,k5,_,_,k8,k9,k10,_⟩:=fh D.head
  have hl:=D.len
  have e:aS (aw b 0 8,aw b 12 4,aw b 43 8,aw b 51 2,aw b 53 4,rs,())=if aQ (aw b 0 8)=true then 80 else if ba (aw b 43 8) (aw b 51 2) (aw b 53 4)=true then 84 else if rs=[] then 85 else if 256<(rs.length:Int) then 9 else (bu rs).2:=rfl
  rw[e,if_neg (by rw[k5];decide),if_neg (by rw[k8];decide),if_neg (fun h=>by rw[h] at hl;simp at hl;omega),if_neg (by omega),D.rows]
 ·obtain ⟨k1,k2,k3,k4,k4',k5,k6,k7,k8,k9,k10,k11⟩:=fh D.head
  have hl:(rs.length:Int)=aw b 57 4:=D.len
  have hF:aJ rs=aw b 27 8:=D.first
  have hL:du rs=aw b 35 8:=D.last
  have hS:eY b=true:=by
   cases h:eY b with
   |true=>rfl
   |false=>exact absurd ⟨rfl,h⟩ k4'
  have hS:(b.drop 17).take 4=az (cw 0 (b.drop 21)) 4:=by
   unfold eY at hS
   split at hS
   ·assumption
   ·cases hS
  have hM:aw b 8 4=49+((b.drop 61).length:Int):=by
   unfold ax at k2 k3
   split at k2
   ·cases k2
   rename_i m1
   rw[if_neg m1] at k3
   split at k2
   ·cases k2
   rename_i m2
   rw[if_neg m2] at k3
   split at k2
   ·cases k2
   rename_i m3
   rw[if_neg m3] at k3
   split at k2
   ·cases k2
   rename_i m4
   rw[if_neg m4] at k3
   split at k2
   ·cases k2
   rename_i m5
   rw[if_neg m5] at k3
   have k3:aw b 8 4+12=(b.length:Int):=k3
   rw[List.length_drop]
   omega
  have e22:=t7 hb 22
  have h21:az (b.getD 22 0) 2=(b.drop 21).take 2:=by
   rw[Q7 (by omega),k6]
   rcases (by omega:b.getD 22 0=0∨b.getD 22 0=1) with h | h <;> rw[h] <;> rfl
  have t57:az (rs.length:Int) 4++b.drop 61=b.drop 57:=by rw[hl,pe hb (by omega),qx b 57 4]
  have t53:az (aw b 53 4) 4++b.drop 57=b.drop 53:=by rw[pe hb (by omega),qx b 53 4]
  have t51:az (aw b 51 2) 2++b.drop 53=b.drop 51:=by rw[OI hb (by omega),qx b 51 2]
  have t43:az (aw b 43 8) 8++b.drop 51=b.drop 43:=by rw[sJ hb (by omega),qx b 43 8]
  have t35:az (du rs) 8++b.drop 43=b.drop 35:=by rw[hL,sJ hb (by omega),qx b 35 8]
  have t27:az (aJ rs) 8++b.drop 35=b.drop 27:=by rw[hF,sJ hb (by omega),qx b 27 8]
  have t23:az ((rs.length:Int) - 1) 4++b.drop 27=b.drop 23:=by rw[hl,← k11,pe hb (by omega),qx b 23 4]
  have t21:az (b.getD 22 0) 2++b.drop 23=b.drop 21:=by rw[h21,qx b 21 2]
  have t17:az (cw 0 (b.drop 21)) 4++b.drop 21=b.drop 17:=by rw[← hS,qx b 17 4]
  have t16:[2]++b.drop 17=b.drop 16:=by rw[← k4,← Oj (by omega),qx b 16 1]
  have t12:az (aw b 12 4) 4++b.drop 16=b.drop 12:=by rw[pe hb (by omega),qx b 12 4]
  have t8:az (49+((b.drop 61).length:Int)) 4++b.drop 12=b.drop 8:=by rw[← hM,pe hb (by omega),qx b 8 4]
  have t0:az (aw b 0 8) 8++b.drop 8=b:=by
   have:=sJ hb (p:=0) (by omega)
   rw[this];exact qx b 0 8
  have hT:b7 (aw b 0 8,aw b 12 4,aw b 43 8,aw b 51 2,aw b 53 4,rs,()) (b.getD 22 0) (b.drop 61)=b.drop 21:=by
   show az (b.getD 22 0) 2++(az ((rs.length:Int) - 1) 4++(az (aJ rs) 8++(az (du rs) 8++(az (aw b 43 8) 8++(az (aw b 51 2) 2++(az (aw b 53 4) 4++(az (rs.length:Int) 4++b.drop 61)))))))=_
   rw[t57,t53,t51,t43,t35,t27,t23,t21]
  show az (aw b 0 8) 8++(az (49+((b.drop 61).length:Int)) 4++(az (aw b 12 4) 4++([2]++(az (cw 0 (b7 (aw b 0 8,aw b 12 4,aw b 43 8,aw b 51 2,aw b 53 4,rs,()) (b.getD 22 0) (b.drop 61))) 4++b7 (aw b 0 8,aw b 12 4,aw b 43 8,aw b 51 2,aw b 53 4,rs,()) (b.getD 22 0) (b.drop 61)))))=b
  rw[hT,t17,t16,t12,t8,t0]
 ·obtain ⟨k1,_⟩:=fh D.head
  exact ⟨Ik hb (by omega),Ij hb (by omega),Ik hb (by omega),QG hb (by omega),Ij hb (by omega),D.times⟩
theorem wm {x:bB}(h:aS x=0):aQ x.1=false∧ba x.2.2.1 x.2.2.2.1 x.2.2.2.2.1=false∧1≤x.2.2.2.2.2.1.length∧x.2.2.2.2.2.1.length≤256∧(bu x.2.2.2.2.2.1).2=0:=by
 unfold aS at h
 split at h
 ·cases h
 rename_i h1
 split at h
 ·cases h
 rename_i h2
 split at h
 ·cases h
 rename_i h3
 split at h
 ·cases h
 rename_i h4
 exact ⟨by simpa using h1,by simpa using h2,List.length_pos_iff.2 h3,by omega,h⟩
theorem Q9 {rs:List cy}(h:(bu rs).2=0):(bz (aJ rs) rs 0 []).2=0∧(bu rs).1=(bz (aJ rs) rs 0 []).1∧(bu rs).1.length≤32768:=by
 unfold bu at h ⊢
 by_cases c1:(bz (aJ rs) rs 0 []).2=0
 rotate_left
 ·rw[if_pos c1] at h;exact absurd h c1
 rw[if_neg (au c1)] at h ⊢
 by_cases c2:32768<((bz (aJ rs) rs 0 []).1.length:Int)
 ·rw[if_pos c2] at h;cases h
 rw[if_neg c2] at h ⊢
 exact ⟨c1,rfl,by simp only;omega⟩
theorem KB (x:bB)(a:Int)(raw:LI):(mq x a raw).length=61+raw.length:=by
 unfold mq b7
 simp only[zH,dT,List.length_singleton]
 omega
end
end Go.Proofs.YthpcdhgpplmneaaGreatDoor.Sym
namespace Go.Proofs.YthpcdhgpplmneaaGreatDoor.Sym
open Go
noncomputable section
abbrev Oh:Ty:=.sl 22 bs
abbrev Rb:Sh:=.dat Oh false false
abbrev ON:Sh:=.dat Oh false true
abbrev Tf:Ty:=.sl 77 bp
abbrev BW:Sh:=.dat Tf false false
def aO (b:LI):Nat→Int→List (LI)→List (LI)×Int
 |0,_,ps=>(ps,0)
 |k+1,p,ps=>
  if (b.length:Int)≤p then (ps,0)
  else if ps.length=8 then ([],9)
  else if (ax b p).2≠0 then ([],(ax b p).2)
  else aO b k (p+(ax b p).1) (ps++[(b.drop p.toNat).take (ax b p).1.toNat])
def ar (b:LI):List (LI)×Int:=
 if b=[] then ([],85) else if 65536<(b.length:Int) then ([],4) else aO b 10 0 []
def dG:List bB→Int→Int
 |[],_=>-1
 |x::xs,i=>if x.2.2.1≠-1 then i else dG xs (i+1)
def aY (bs:List bB):Int:=if bs.length<2 then -1 else dG bs 0
def aD:List (LI)→Int→List bB→List bB×Int×Int
 |[],_,out=>(out,0,0)
 |p::ps,i,out=>if (aC p).2≠0 then ([],i,(aC p).2) else aD ps (i+1) (out++[(aC p).1])
def an (b:LI):List bB×Int×Int:=
 if (ar b).2≠0 then ([],0,(ar b).2)
 else if (aD (ar b).1 0 []).2.2≠0 then ([],(aD (ar b).1 0 []).2.1,(aD (ar b).1 0 []).2.2)
 else if 0≤aY (aD (ar b).1 0 []).1 then ([],aY (aD (ar b).1 0 []).1,90)
 else ((aD (ar b).1 0 []).1,0,0)
def j9 (bs:List bB):Nat:=match bs with
 |[]=>0
 |x::xs=>x.2.2.2.2.2.1.length+j9 xs
def lq:List bB→Int→Int×Bool
 |[],next=>(next,true)
 |x::xs,next=>if x.1≠next then (0,false) else lq xs (next+(x.2.2.2.2.2.1.length:Int))
def vu (bs:List bB):Int:=match bs with
 |[]=>0
 |x::_=>x.1
def jt (b:LI):Int×Int×Int:=
 if (an b).2.2≠0 then (0,0,(an b).2.2)
 else if (lq (an b).1 (vu (an b).1)).2=true then (vu (an b).1,(lq (an b).1 (vu (an b).1)).1,0)
 else (0,0,190)
def aE (ep:Int):List (LI)→List bB→Int→List (LI)→List (LI)×Int×Int
 |p::ps,x::xs,base,out=>
  if (aq p base ep).2≠0 then ([],0,(aq p base ep).2)
  else aE ep ps xs (base+(x.2.2.2.2.2.1.length:Int)) (out++[(aq p base ep).1])
 |_,_,base,out=>(out,base,0)
def bf (b:LI)(base ep:Int):LI×Int×Int:=
 if (an b).2.2≠0 then ([],0,(an b).2.2)
 else if (aE ep (ar b).1 (an b).1 base []).2.2≠0 then ([],0,(aE ep (ar b).1 (an b).1 base []).2.2)
 else (aU (aE ep (ar b).1 (an b).1 base []).1,(aE ep (ar b).1 (an b).1 base []).2.1,0)
def bE:List bB→List (LI)→List (LI)×Int
 |[],ps=>(ps,0)
 |x::xs,ps=>if (bM x).2≠0 then ([],(bM x).2) else bE xs (ps++[(bM x).1])
def kf (bs:List bB):LI×Int:=
 if bs=[] then ([],85)
 else if 8<(bs.length:Int) then ([],9)
 else if (bE bs []).2≠0 then ([],(bE bs []).2)
 else if 0≤aY bs then ([],90)
 else if 65536<(ao (bE bs []).1:Int) then ([],4)
 else (aU (bE bs []).1,0)
def mv (bs:List bB):Bool:=bs.all fun x=>cv (aJ x.2.2.2.2.2.1) x.2.2.2.2.2.1 0
def gd (ps:List (LI)):Bool:=ps.all fun p=>decide (p.length≤4294960000)
def rf (ps:List (LI)):Bool:=ps.all fun p=>decide (p.length≤36000)
def eD (bs:List bB):Bool:=bs.all fun x=>decide (0≤x.1)&&(decide (x.1≤4611686018427387648)&&decide (x.2.2.2.2.2.1.length≤256))
structure PartOk (p:LI):Prop where
 len:p.length≤36000
 by_:bm p
theorem x5 {b:LI}(hb:bm b):∀(k:Nat) (p:Int) (ps:List (LI)),(aO b k p ps).2=0→0≤p→(∀q∈ps,PartOk q)→ps.length≤8→
  (∀q∈(aO b k p ps).1,PartOk q)∧ps.length≤(aO b k p ps).1.length∧(aO b k p ps).1.length≤8∧(1≤k→p<(b.length:Int)→ps.length<(aO b k p ps).1.length)
 |0,p,ps,_,_,h,h8=>⟨h,Nat.le_refl _,h8,fun h=>by omega⟩
 |k+1,p,ps,h0,hp,h,h8=>by
  unfold aO at h0 ⊢
  split
  ·exact ⟨h,Nat.le_refl _,h8,fun _ h=>by omega⟩
  rename_i c1
  rw[if_neg c1] at h0
  split
  ·rename_i c2;rw[if_pos c2] at h0;cases h0
  rename_i c2
  rw[if_neg c2] at h0
  split
  ·rename_i c3;rw[if_pos c3] at h0;exact absurd h0 c3
  rename_i c3
  rw[if_neg c3] at h0
  have hm:=ga (Classical.byContradiction c3)
  obtain ⟨g1,g2,g3,g4⟩:=x5 hb k (p+(ax b p).1) _ h0 (by omega) (fun q hq=>by
   rcases List.mem_append.1 hq with hq | hq
   ·exact h q hq
   ·simp only[List.mem_singleton] at hq
    rw[hq]
    exact ⟨by rw[List.length_take];omega,fun c hc=>hb c (List.mem_of_mem_drop (List.mem_of_mem_take hc))⟩) (by simp;omega)
  rw[zH,List.length_singleton] at g2
  exact ⟨g1,by omega,g3,fun _ _=>by omega⟩
theorem oN {b:LI}:∀(k:Nat) (p:Int) (ps:List (LI)),(aO b k p ps).2≠0→(aO b k p ps).1=[]
 |0,_,_,h=>absurd rfl h
 |k+1,p,ps,h=>by
  unfold aO at h ⊢
  split
  ·rename_i c;rw[if_pos c] at h;exact absurd rfl h
  rename_i c
  rw[if_neg c] at h
  split
  ·rfl
  rename_i c2
  rw[if_neg c2] at h
  split
  ·rfl
  rename_i c3
  rw[if_neg c3] at h
  exact oN k _ _ h
theorem fO:∀(a b:List (LI)),ao (a++b)=ao a+ao b
 |[],b=>(Nat.zero_add _).symm
 |x::a,b=>by
  have:=fO a b
  show x.length+ao (a++b)=x.length+ao a+ao b
  omega
theorem gB {b:LI}(hb:bm b)(h:(ar b).2=0):(∀q∈(ar b).1,PartOk q)∧1≤(ar b).1.length∧(ar b).1.length≤8∧b.length≤65536:=by
 unfold ar at h ⊢
 split
 ·rename_i c;rw[if_pos c] at h;cases h
 rename_i c
 rw[if_neg c] at h
 split
 ·rename_i c2;rw[if_pos c2] at h;cases h
 rename_i c2
 rw[if_neg c2] at h
 obtain ⟨g1,g2,g3,g4⟩:=x5 hb 10 0 [] h (Int.le_refl 0) (fun q hq=>by cases hq) (Nat.zero_le _)
 have hl:=List.length_pos_iff.2 c
 have:=g4 (by decide) (by omega)
 exact ⟨g1,this,g3,by omega⟩
theorem oE {ps:List (LI)}(h:∀q∈ps,PartOk q):gd ps=true:=List.all_eq_true.2 fun q hq=>decide_eq_true (by have:=(h q hq).len;omega)
theorem IG {p:LI}(hp:bm p)(h:(aC p).2=0):0≤(aC p).1.1∧(aC p).1.1≤4611686018427387648∧1≤(aC p).1.2.2.2.2.2.1.length∧(aC p).1.2.2.2.2.2.1.length≤256:=by
 have hx:aC p=((aC p).1,0):=Prod.ext rfl h
 obtain ⟨blk,D,h1,h2,hR⟩:=Ew hp hx
 obtain ⟨g1,g2,g3,g4,g5⟩:=wm h1
 unfold aQ at g1
 simp only[Bool.or_eq_false_iff,decide_eq_false_iff_not] at g1
 exact ⟨by omega,by omega,g3,g4⟩
theorem Dk:∀(ps:List (LI)) (i:Int) (out:List bB),(∀q∈ps,PartOk q)→(aD ps i out).2.2=0→(∀x∈out,0≤x.1∧x.1≤4611686018427387648∧1≤x.2.2.2.2.2.1.length∧x.2.2.2.2.2.1.length≤256)→
  (aD ps i out).1.length=out.length+ps.length∧∀x∈(aD ps i out).1,0≤x.1∧x.1≤4611686018427387648∧1≤x.2.2.2.2.2.1.length∧x.2.2.2.2.2.1.length≤256
 |[],i,out,_,_,h=>⟨rfl,h⟩
 |p::ps,i,out,hp,h0,h=>by
  unfold aD at h0 ⊢
  split
  ·rename_i c;rw[if_pos c] at h0;exact absurd h0 c
  rename_i c
  rw[if_neg c] at h0
  have:=Dk ps (i+1) _ (fun q hq=>hp q (by simp[hq])) h0 (fun x hx=>by
   rcases List.mem_append.1 hx with hx | hx
   ·exact h x hx
   ·simp only[List.mem_singleton] at hx
    rw[hx]
    exact IG (hp p (by simp)).by_ (Classical.byContradiction c))
  refine ⟨?_,this.2⟩
  rw[this.1]
  simp only[zH,zN,List.length_nil]
  omega
theorem j8 {b:LI}(hb:bm b)(h:(an b).2.2=0):(ar b).2=0∧(aD (ar b).1 0 []).2.2=0∧(an b).1=(aD (ar b).1 0 []).1∧(an b).1.length=(ar b).1.length∧
  ∀x∈(an b).1,0≤x.1∧x.1≤4611686018427387648∧1≤x.2.2.2.2.2.1.length∧x.2.2.2.2.2.1.length≤256:=by
 unfold an at h ⊢
 split
 ·rename_i c;rw[if_pos c] at h;exact absurd h c
 rename_i c
 rw[if_neg c] at h
 split
 ·rename_i c2;rw[if_pos c2] at h;exact absurd h c2
 rename_i c2
 rw[if_neg c2] at h
 split
 ·rename_i c3;rw[if_pos c3] at h;cases h
 have c:(ar b).2=0:=Classical.byContradiction c
 have c2:(aD (ar b).1 0 []).2.2=0:=Classical.byContradiction c2
 obtain ⟨g1,_⟩:=gB hb c
 have:=Dk (ar b).1 0 [] g1 c2 (fun x hx=>by cases hx)
 exact ⟨c,c2,rfl,by rw[this.1];simp,this.2⟩
theorem kh {bs:List bB}(h:∀x∈bs,0≤x.1∧x.1≤4611686018427387648∧1≤x.2.2.2.2.2.1.length∧x.2.2.2.2.2.1.length≤256):eD bs=true:=List.all_eq_true.2 fun x hx=>by
 obtain ⟨h1,h2,h3,h4⟩:=h x hx
 simp only[zA,zB]
 exact ⟨h1,h2,h4⟩
theorem KL:∀{bs:List bB},eD bs=true→j9 bs≤256*bs.length
 |[],_=>Nat.le_refl 0
 |x::bs,h=>by
  unfold eD at h
  rw[List.all_cons,zA] at h
  obtain ⟨h1,h2⟩:=h
  simp only[zA,zB] at h1
  have:=KL (bs:=bs) h2
  unfold j9
  rw[zN]
  omega
theorem Fi {b:LI}(h:(an b).2.2≠0):(an b).1=[]:=by
 unfold an at h ⊢
 split
 ·rfl
 rename_i c
 rw[if_neg c] at h
 split
 ·rfl
 rename_i c2
 rw[if_neg c2] at h
 split
 ·rfl
 rename_i c3
 rw[if_neg c3] at h
 exact absurd rfl h
end
end Go.Proofs.YthpcdhgpplmneaaGreatDoor.Sym
namespace Go.Proofs.YthpcdhgpplmneaaGreatDoor.Sym
open Go
open Go.IntKind (i8 i16 i32 i64 u8 u16 u32 u64)
noncomputable section
abbrev SM:Type:=LI×Int×Int×Int×Unit
def DL (d:SM):AS:=⟨[.one (.ptr 0 0),.one (.int .i64 d.2.1),.one (.int .i32 d.2.2.1)]++List.replicate 35 .any,[],[some [.ex 5 (.int .u8) 0 d.1 1 1,.int .i64 d.2.2.2.1]]⟩
def EE:Hd:=bI []
abbrev f32:Func:=Tryz.f95
def sr:Func:={ f32 with results:=f32.results.push (.tmp 0) }
abbrev fL:Lo:=⟨⟨(.one (.ptr 0 0)::.one hI::.one hJ::.any::ai (.one hI::.any::ai [])),[some [.exl 5 (Ty.int u8) 2 2,hI]]⟩,[(.exit 0,⟨(.one (.ptr 0 0)::.any::ai (ai (bx []))),[some [.exl 5 (Ty.int u8) 2 2,hI]]⟩)]⟩
def gF (xs:LI)(p:Nat)(v:Int):LI:=(((xs.set p (v / 256 ^ 3 % 256)).set (p+1) (v / 256 ^ 2 % 256)).set (p+2) (v / 256 ^ 1 % 256)).set (p+3) (v / 256 ^ 0 % 256)
theorem vC (xs:LI)(p:Nat)(v:Int):(gF xs p v).length=xs.length:=by simp[gF]
theorem JV (A T:LI)(a b c d v:Int):gF (A++a::b::c::d::T) A.length v=A++(az v 4++T):=by
 simp[gF,az,List.set_append]
def o7 (d:fL.st.den):Tr (ap fL.xs):=
 .ite (decide (d.1.2.2.1=0)&&(decide ((0:Int)≤d.1.1)&&decide (d.1.1+4≤(d.2.1.1.length:Int)))) (.ret (.ret ((),((),((gF d.2.1.1 d.1.1.toNat d.1.2.1,(d.2.1.2.1,())),()))))) .no
def qU:Lp:=bQ [(5,aG fL o7)]
def oP {R:Type}(h4 h5 h6:Int)(h7:LI)(h8:Int)(next:Int→Int→Int→LI→Int→Option R)(out:ap fL.xs→Option R):Option R:=bif decide (h6<4) then bif decide (0≤i64.wrap (24 - i64.wrap (8*h6))) then bif decide ((↑0:Int)≤i64.wrap (h4+h6))&&decide (i64.wrap (h4+h6)<(↑0:Int)+(↑h7.length:Int)) then next (h4) (h5) (i64.wrap (h6+1)) (iQ 0 (i64.wrap (h4+h6)).toNat h7 (u8.wrap (eK i32 h5 (i64.wrap (24 - i64.wrap (8*h6)))))) (h8) else none else none else out (.ret ((),((),((h7,(h8,())),()))))
def l8 (n:Nat)(h4 h5 h6:Int)(h7:LI)(h8:Int):Option (ap fL.xs):=fR tt EE dr qU 1 sr (bX sr 0) n (fL.st.mk' ((h4,(h5,(h6,()))),((h7,(h8,())),()))) (bC fL.xs)
theorem Du (n:Nat)(h4 h5 h6:Int)(h7:LI)(h8:Int):l8 (n+1) h4 h5 h6 h7 h8=oP h4 h5 h6 h7 h8 (l8 n) some:=by kernel_rfl
theorem TX {v:Int}(h:bt .i32 v){i:Nat}(hi:i≤3):u8.wrap (eK i32 v (i64.wrap (24 - i64.wrap (8*(i:Int)))))=v / 256 ^ (3 - i) % 256:=by
 simp[bt,IntKind.min,IntKind.max,IntKind.signed,IntKind.bits] at h
 rw[af (n:=8*(i:Int)) (by omega) (by omega),af (n:=24 - 8*(i:Int)) (by omega) (by omega)]
 unfold eK
 have e:min (24 - 8*(i:Int)).toNat (i32).bits=8*(3 - i):=by
  show min (24 - 8*(i:Int)).toNat 32=_
  omega
 rw[e,show (2:Int) ^ (8*(3 - i))=256 ^ (3 - i) by rw[Int.pow_mul];rfl]
 have hp:(0:Int)<256 ^ (3 - i):=Int.pow_pos (by decide)
 rw[Int.fdiv_eq_ediv_of_nonneg _ (Int.le_of_lt hp)]
 have hr:bt .i32 (v / 256 ^ (3 - i)):=by
  have h1:v / 256 ^ (3 - i)=v.fdiv (2 ^ (8*(3 - i))):=by
   rw[show (2:Int) ^ (8*(3 - i))=256 ^ (3 - i) by rw[Int.pow_mul];rfl,Int.fdiv_eq_ediv_of_nonneg _ (Int.le_of_lt hp)]
  have h2:=Cw .i32 (x:=v) (8*(3 - i)) (by simp[bt,IntKind.min,IntKind.max,IntKind.signed,IntKind.bits];omega)
  rw[h1,← h2]
  exact bP _ _
 rw[bW hr]
 simp[IntKind.wrap,IntKind.signed,IntKind.bits]
theorem L7 {v:Int}(hv:bt .i32 v)(m:Int)(p k:Nat)(xs:LI)(h0:p+4≤xs.length)(hl:xs.length≤maxLen):l8 (k+5) p v 0 xs m=some (.ret ((),((),((gF xs p v,(m,())),())))):=by
 rw[aP] at hl
 have go:∀(j i:Nat) (ys:LI),i≤3→ys.length=xs.length→l8 (j+1) p v i ys m=l8 j p v ((i+1:Nat):Int) (ys.set (p+i) (v / 256 ^ (3 - i) % 256)) m:=by
  intro j i ys hi hy
  rw[Du]
  unfold oP
  rw[TX hv hi]
  rw[af (n:=(p:Int)+(i:Int)) (by omega) (by omega),af (n:=(i:Int)+1) (by omega) (by omega),af (n:=8*(i:Int)) (by omega) (by omega),af (n:=24 - 8*(i:Int)) (by omega) (by omega)]
  refine bT (by simp;omega) ?_
  refine bT (by simp;omega) ?_
  refine bT (by simp only[zA,zB];omega) ?_
  rw[show ((p:Int)+(i:Int)).toNat=p+i by omega]
  rfl
 have g0:=go (k+4) 0 xs (by omega) rfl
 have g1:=go (k+3) 1 (xs.set (p+0) (v / 256 ^ (3 - 0) % 256)) (by omega) (by simp)
 have g2:=go (k+2) 2 ((xs.set (p+0) (v / 256 ^ (3 - 0) % 256)).set (p+1) (v / 256 ^ (3 - 1) % 256)) (by omega) (by simp)
 have g3:=go (k+1) 3 (((xs.set (p+0) (v / 256 ^ (3 - 0) % 256)).set (p+1) (v / 256 ^ (3 - 1) % 256)).set (p+2) (v / 256 ^ (3 - 2) % 256)) (by omega) (by simp)
 refine g0.trans (g1.trans (g2.trans (g3.trans ?_)))
 rw[Du]
 unfold oP
 exact ae (by simp) _ _
theorem S3:LpsOk prog 1 qU (AM sr) 0:=by
 refine .step (h0:=aG fL o7) (by kernel_rfl) (f9 (cs:=[]) HcsOk.nil (lp:=qU) (fn:=sr) (.done (by kernel_rfl)) fL o7 ?_) (.done (by kernel_rfl))
 rintro ⟨⟨(p:Int),(v:Int),(i:Int),⟨⟩⟩,⟨⟨(xs:LI),(m:Int),⟨⟩⟩,⟨⟩⟩⟩ y hw hy
 obtain ⟨hg,hy⟩:=Tr.guard hy
 simp only[zA,zB] at hg
 obtain ⟨h1,h2,h3⟩:=hg
 have h1:i=0:=h1
 have h2:0≤p:=h2
 have h3:p+4≤(xs.length:Int):=h3
 subst h1
 obtain ⟨p,rfl⟩:=aB h2
 refine ⟨5,(L7 (k:=0) hw.1.2.1 m p xs (by omega) hw.2.1.1.1).trans ?_⟩
 rw[← hy];rfl
def Sl (ex:Ex)(A:AS):Option (Int×LI×Int):=match ex with
 |.ret=>match A.get 6,A.ob with
  |.one (.int .i64 r),some [.ex _ (.int .u8) lo xs _ _,.int .i64 m]::_=>bif Nat.beq lo 0 then some (r,xs,m) else none
  |_,_=>none
 |_=>none
theorem Sm (xs:LI)(p v m:Int):ev tt EE dr qU 1 (fv sr) (bj sr) (fv sr) [] (DL (xs,p,v,m,())) Sl=bif decide (p<0) then some ((3:Int),xs,m) else bif decide (i64.wrap ((↑0:Int)+(↑xs.length:Int) - 4)<p) then some ((3:Int),xs,m) else (o7 ((p,(v,(0,()))),((xs,(m,())),()))).run fun y=>match y with | .ret ((),((),(x16,x17,()),()))=>some ((0:Int),x16,x17):=by kernel_rfl
def JE (w:World)(bw b:Nat):Nat→Nat→Prop:=fun b' o=>b'≠b∧b'≠bw∧∃v,w.cell? ⟨b',o,none⟩=some v
def AC (w:World)(bw b:Nat):Fra:=⟨w,fun b'=>b'=b∨b'=bw,JE w bw b,fun k=>if k=0 then some bw else none⟩
def rO (w:World)(bw b:Nat):Gh:=⟨JE w bw b,fun k=>if k=0 then some bw else none,fun j=>if j=1 then some (b,0) else none⟩
theorem NL {w:World}{bw b:Nat}(hw:bw<w.heap.size)(hb:b<w.heap.size)(hne:bw≠b)(ht:gG (JE w bw b) w):GhOk (AC w bw b) (rO w bw b) w where
 mu:=fun k b' h=>by
  simp only[rO] at h
  split at h
  ·cases h;exact ⟨.inr (.inr rfl),fun _ h=>h.2.1 rfl,hw⟩
  ·cases h
 muI:=fun k k' b' h h'=>by
  simp only[rO] at h h'
  split at h <;> split at h'
  ·rename_i e1 e2;exact e1.trans e2.symm
  ·cases h'
  ·cases h
  ·cases h
 ow:=fun i b' l h=>by
  simp only[rO] at h
  split at h
  ·cases h
   refine ⟨fun _ _ h=>h.1 rfl,.inr (.inl rfl),hb,fun k h=>?_⟩
   simp only[rO] at h
   split at h
   ·cases h;exact hne rfl
   ·cases h
  ·cases h
 owI:=fun i j b' l l' h h'=>by
  simp only[rO] at h h'
  split at h <;> split at h'
  ·rename_i e1 e2;exact e1.trans e2.symm
  ·cases h'
  ·cases h
  ·cases h
 sB:=fun b' o h=>by
  obtain ⟨_,_,v,h⟩:=h
  unfold World.cell? at h
  split at h
  ·rename_i e
   exact (Array.getElem?_eq_some_iff.1 e).1
  ·cases h
 fr:=⟨rfl,rfl,rfl,Nat.le_refl _,fun _ _ _=>rfl⟩
 sub:=fun _ _ h=>h
 sup:=fun _ _ h=>.inl h
 keep:=fun _ _ _=>rfl
 fix_:=fun _ _ h=>h
 tab:=ht
theorem JF (w:World)(xs:LI)(m v:Int)(bw b cap n:Nat)(curw cur:Array Value)(elw el:TypeId)(hw:w.heap[bw]?=some (.cells curw elw (0,0)))(hcw:curw.toList=[.slice (some ⟨b,0,none⟩) n cap,.int .i64 m])(hn:n=xs.length)
  (hh:w.heap[b]?=some (.cells cur el (0,0))) (hcs:cur.size=cap) (hle:xs.length≤cap) (hcap:cap≤maxLen) (hne:bw≠b) (ht:gG (JE w bw b) w) (h21:21≤xs.length) (hv:bt .i32 v) (hmm:bt .i64 m)
  (hx:∀(k:Nat) (x:Int),xs[k]?=some x→bt .u8 x∧cur[k]?=some (Value.int .u8 x)):
  Calls prog 95 #[.pointer (some ⟨bw,0,none⟩),.int .i64 17,.int .i32 v] w fun e w'=>e=.returned (.int .i64 0)∧(AC w bw b).ok w'∧(∀b' o,JE w bw b b' o→w'.cell? ⟨b',o,none⟩=w.cell? ⟨b',o,none⟩)∧
   ∃(b2 cap2:Nat) (curw2 cur2:Array Value) (elw2 el2:TypeId) (m':Int),w'.heap[bw]?=some (.cells curw2 elw2 (0,0))∧curw2.toList=[.slice (some ⟨b2,0,none⟩) xs.length cap2,.int .i64 m']∧(b2=b∨w.heap.size≤b2)∧b2≠bw∧b2<w'.heap.size∧
    w'.heap[b2]?=some (.cells cur2 el2 (0,0))∧cur2.size=cap2∧xs.length≤cap2∧cap2≤maxLen∧m'=m∧∀(k:Nat) (x:Int),(gF xs 17 v)[k]?=some x→bt .u8 x∧cur2[k]?=some (Value.int .u8 x):=by
 have htt:=dx Tryz.prog 400
 have hc:f32.body=some (bj sr):=by kernel_rfl
 refine calls_of_wp (P:=prog) (fn:=f32) (by kernel_rfl) hc ?_
 have hxl:(xs.length:Int)≤9223372036854775807:=by rw[aP] at hcap;omega
 have R0:Rel (AC w bw b) (rO w bw b) (DL (xs,17,v,m,())) (#[.pointer (some ⟨bw,0,none⟩),.int .i64 17,.int .i32 v]++Array.replicate (f32.ntmps - 3) undef) [] w:=by
  refine ⟨?_,trivial,fun k cs hk=>?_,NL (zc hw) (zc hh) hne ht⟩
  ·rw[show f32.ntmps - 3=35 by kernel_rfl,Array.toList_append,Array.toList_replicate]
   exact ⟨⟨bw,rfl,rfl⟩,⟨rfl,(⟨by decide,by decide⟩:bt .i64 17)⟩,⟨rfl,hv⟩,All2.replicate (R:=Rv (rO w bw b) w) (a:=.any) (b:=undef) trivial 35⟩
  ·cases k with
   |succ k=>simp[DL] at hk
   |zero=>
    simp only[DL,List.getElem?_cons_zero,zC] at hk
    subst hk
    refine ⟨bw,_,rfl,hw,.inl ⟨curw,elw,rfl,?_⟩⟩
    rw[hcw]
    refine ⟨.inr ⟨b,cap,by rw[hn,Nat.zero_add],⟨by decide,by decide,.inl rfl⟩,cur,el,hh,by rw[hcs];simp[Ty.size],by rw[Nat.zero_add];exact hle,hcap,fun k x hk=>?_⟩,⟨rfl,hmm⟩,trivial⟩
    obtain ⟨h1,h2⟩:=hx k x hk
    refine ⟨[.int .u8 x],⟨rfl,h1⟩,fun q u hq=>?_⟩
    cases q with
    |succ q=>simp at hq
    |zero=>
     simp only[List.getElem?_cons_zero,zC] at hq
     subst hq
     simpa [Ty.size] using h2
 have hrun:ev tt EE dr qU 1 (fv sr) (bj sr) (fv sr) [] (DL (xs,17,v,m,())) Sl=some (0,gF xs 17 v,m):=by
  refine (Sm xs 17 v m).trans ?_
  refine bF (by decide) ?_
  rw[af (n:=(0:Int)+(xs.length:Int) - 4) (by omega) (by omega)]
  refine bF (decide_eq_false (by omega)) ?_
  unfold o7
  refine bT (by simp only[zA,zB];exact ⟨trivial,by decide,show (17:Int)+4≤(xs.length:Int) by omega⟩) ?_
  rfl
 have hkb:∀d,(AC w bw b).mu0 (1+d)=none:=fun d=>if_neg (by omega)
 refine cO htt hm (ik HcsOk.nil) (dD htt) hkb (lp:=qU) (bj sr) (S3.all) hrun R0 ?_
 intro ex A' G' a' w' R' hd hk
 cases ex with
 |normal=>cases hk
 |exit i=>cases hk
 |panic v=>cases hk
 |ret=>
  refine ⟨hd,?_⟩
  unfold Sl at hk
  simp only at hk
  split at hk
  ·rename_i r0 e lo ys i j m0 rest e1 e2
   cases hz:Nat.beq lo 0 with
   |false=>rw[hz] at hk;cases hk
   |true=>
    rw[hz] at hk
    have hz:=Nat.eq_of_beq_eq_true hz
    subst hz
    simp only[cond_true,zC,zD] at hk
    obtain ⟨rfl,hys,rfl⟩:=hk
    have hyl:ys.length=xs.length:=by rw[hys];exact vC _ _ _
    have e0:f32.results.toList=[.tmp 6]:=by kernel_rfl
    obtain ⟨us,hres,hus⟩:=ml (P:=prog) htt R' f32 (by
     rw[e0]
     intro v hv
     simp only[zL,List.map_nil,List.mem_singleton] at hv
     subst hv
     show A'.get 6≠.any
     rw[e1]
     exact fun h=>by cases h)
    rw[e0] at hus
    obtain ⟨u,rfl,hu⟩:∃u,us=[u]∧Rv G' w' (A'.get 6) u:=by
     cases us with
     |nil=>exact hus.elim
     |cons u us=>
      cases us with
      |nil=>exact ⟨u,rfl,hus.1⟩
      |cons _ _=>exact hus.2.elim
    rw[e1] at hu
    have hu:u=.int .i64 0:=hu.1
    subst hu
    obtain ⟨bo,oo,hm0,hh0,ho⟩:=R'.ob 0 [.ex e (.int .u8) 0 ys i j,.int .i64 m0] (by rw[e2];rfl)
    have hfx:=R'.gh.fix_ 0 bw rfl
    rw[hfx] at hm0
    cases hm0
    obtain ⟨curw2,elw2,rfl,hcs2⟩:=ho.cells (by simp[C.isItr])
    obtain ⟨v1,v2,hv12,hv1,hv2⟩:∃v1 v2,curw2.toList=[v1,v2]∧Rc G' w' (.ex e (.int .u8) 0 ys i j) v1∧Rc G' w' (.int .i64 m0) v2:=by
     match hl:curw2.toList with
     |[]=>rw[hl] at hcs2;exact hcs2.elim
     |[_]=>rw[hl] at hcs2;exact hcs2.2.elim
     |[v1,v2]=>rw[hl] at hcs2;exact ⟨v1,v2,rfl,hcs2.1,hcs2.2.1⟩
     |_::_::_::_=>rw[hl] at hcs2;exact hcs2.2.2.elim
    have hv2:v2=.int .i64 m0:=hv2.1
    subst hv2
    rcases hv1 with ⟨_,hnil,_⟩ | ⟨b2,cap2,rfl,⟨_,_,how⟩,cur2,el2,g1,g2,g3,g4,g5⟩
    ·rw[hnil] at hyl;simp at hyl;omega
    obtain ⟨l,how⟩:∃l,G'.ow l=some (b2,0):=by rcases how with h | h <;> exact ⟨_,h⟩
    obtain ⟨_,k2,k3,k4⟩:=R'.gh.ow l b2 0 how
    have hb2:b2≠bw:=by rintro rfl;exact k4 0 hfx
    rw[Nat.zero_add] at hv12 g3
    refine ⟨_,hres,rfl,R'.gh.fr,fun b' o hs=>R'.gh.keep b' o hs,b2,cap2,curw2,cur2,elw2,el2,m0,hh0,by rw[hv12,hyl],?_,hb2,k3,g1,by rw[g2];simp[Ty.size],by omega,g4,rfl,fun k x hk=>?_⟩
    ·rcases k2 with h | h | h
     ·exact .inr h
     ·exact .inl h
     ·exact absurd h hb2
    ·rw[← hys] at hk
     obtain ⟨c,⟨rfl,hin⟩,hq⟩:=g5 k x hk
     have:=hq 0 _ rfl
     exact ⟨hin,by simpa [Ty.size] using this⟩
  ·cases hk
end
end Go.Proofs.YthpcdhgpplmneaaGreatDoor.Sym
namespace Go.Proofs.YthpcdhgpplmneaaGreatDoor.Sym
open Go
noncomputable section
abbrev py:Io:=ja
def FU (d:py.In):Tr py.Res:=
 .ite (cv (aJ d.1.1.2.2.2.2.2.1) d.1.1.2.2.2.2.2.1 0&&decide (aS d.1.1≠0)) (.ret (.ret ((([]:LI),(aS d.1.1,())),()))) .no
theorem MD:HcOk prog 87 (ah py FU):=by
 refine HcOk.weakB HX ?_
 rintro ⟨⟨(b:bB),⟨⟩⟩,⟨⟩⟩ y hw hy
 obtain ⟨hg,hy⟩:=Tr.guard hy
 simp only[zA,zB] at hg
 obtain ⟨h1,h2⟩:=hg
 rw[← hy]
 have e:eG b=([],aS b):=by unfold eG;rw[if_pos h2]
 show (qr ((b,()),())).val=some (.ret ((([]:LI),(aS b,())),()))
 unfold qr
 rw[Tr.val_ite,if_pos h1,Tr.val_ret]
 show oR (((eG b).1,((eG b).2,())),())=_
 rw[e]
abbrev pz:Io:=ja
def FV (d:pz.In):Tr pz.Res:=
 .ite (cv (aJ d.1.1.2.2.2.2.2.1) d.1.1.2.2.2.2.2.1 0&&decide (aS d.1.1=0)) (.ret (.ret (((bu d.1.1.2.2.2.2.2.1).1,(0,())),()))) .no
theorem ME:HcOk prog 87 (ah pz FV):=by
 refine HcOk.weakB HX ?_
 rintro ⟨⟨(b:bB),⟨⟩⟩,⟨⟩⟩ y hw hy
 obtain ⟨hg,hy⟩:=Tr.guard hy
 simp only[zA,zB] at hg
 obtain ⟨h1,h2⟩:=hg
 rw[← hy]
 have e:eG b=((bu b.2.2.2.2.2.1).1,0):=by unfold eG;rw[if_neg (by rw[h2];exact fun h=>h rfl)]
 show (qr ((b,()),())).val=some (.ret (((bu b.2.2.2.2.2.1).1,(0,())),()))
 unfold qr
 rw[Tr.val_ite,if_pos h1,Tr.val_ret]
 show oR (((eG b).1,((eG b).2,())),())=_
 rw[e]
abbrev Hh:Io:=⟨[IF,dB],[],[],[dO,dI],none⟩
abbrev Gf:List (Nat×Hc):=[(87,ah py FU)]
def OZ:Hd:=bI Gf
def Hn:Lp:=bQ []
def wr (a0 a1 a2 a3 a4:Int)(a5:List cc.den)(a6:Bool):Option Hh.Res:=bif cv (aJ a5) a5 0&&decide (aS (a0,a1,a2,a3,a4,a5,())≠0) then bif aS (a0,a1,a2,a3,a4,a5,()) != 0 then oR (([],aS (a0,a1,a2,a3,a4,a5,()),()),()) else bif a6 then none else none else none
theorem M7 (a0 a1 a2 a3 a4:Int)(a5:List cc.den)(a6:Bool):Io.run tt OZ dr Hn Hh Tryz.f65 (((a0,a1,a2,a3,a4,a5,()),a6,()),())=wr a0 a1 a2 a3 a4 a5 a6:=by kernel_rfl
end
end Go.Proofs.YthpcdhgpplmneaaGreatDoor.Sym
namespace Go.Proofs.YthpcdhgpplmneaaGreatDoor.Sym
open Go
open Go.IntKind (i8 i16 i32 i64 u8 u16 u32 u64)
noncomputable section
def vH:Nat→Code→Code
 |0,c=>c
 |n+1,.seq _ b=>vH n b
 |_+1,c=>c
def Ri (tt:TT)(hd:Hd)(dr:Dr)(lr:Nat){R:Type}:Nat→Code→AS→(AS→Option R)→Option R
 |0,_,A,K=>K A
 |n+1,.seq a b,A,K=>ev tt hd dr (fun _=>none) 0 lr a lr [] A fun ex A=>match ex with
  |.normal=>Ri tt hd dr lr n b A K
  |_=>none
 |_+1,_,_,_=>none
theorem Ez {P:Program}{tt:TT}(htt:ch P tt)(hm:P.follows .mixedOrders=true){hd:Hd}(hh:j0 P hd){okDraw:Dr}(hdr:gX P tt okDraw){R:Type}{F:Fra}{cst:List (Array Value)}{lr:Nat}(hkb:∀d,F.mu0 (0+d)=none){r:R}{Q:Exit→Act→World→Prop}:
  ∀(n:Nat) (c:Code) {G:Gh} {A:AS} {a:Act} {w:World} {K:AS→Option R},Ri tt hd okDraw lr n c A K=some r→Rel F G A a.tmps cst w→
   (∀A' G' a' w',Rel F G' A' a'.tmps cst w'→a'.defers=a.defers→K A'=some r→(vH n c).wp P Q a' w')→c.wp P Q a w:=by
 intro n
 induction n with
 |zero=>intro c G A a w K h Rl k;exact k A G a w Rl rfl h
 |succ n ih=>
  intro c G A a w K h Rl k
  cases c with
  |seq x y=>
   refine wp_seq (cO htt hm hh hdr hkb (lp:=fun _=>none) x (fun _ _ _ h=>by cases h) h Rl ?_)
   intro ex A1 G1 a1 w1 R1 hd1 h1
   cases ex with
   |normal=>exact ih y h1 R1 (by rw[hd1];exact k)
   |exit i=>cases h1
   |ret=>cases h1
   |panic v=>cases h1
  |_=>cases h
theorem Ky {G:Gh}{w:World}:∀{n:Nat} {us:List Value},us.length=n→All2 (Rv G w) (List.replicate n .any) us
 |0,[],_=>trivial
 |n+1,_::us,h=>⟨trivial,Ky (n:=n) (us:=us) (by simpa using h)⟩
 |0,_::_,h=>by cases h
 |_+1,[],h=>by cases h
abbrev fE:Func:=Tryz.f65
abbrev KP:List (Nat×Hc):=[(87,ah pz FV),(77,ah iZ yh),(89,ah uD Kg),(90,ah uC Kf),(91,ah uB Ke),(93,ah zj QR),(92,ah Hj SL),(94,ah uE Kh),(97,ah gv sI),(96,ah jc yn)]
theorem y9:HcsOk prog KP:=.cons ME (.cons HU (.cons MH (.cons MG (.cons MF (.cons RO (.cons S7 (.cons MI (.cons Db (.cons HY .nil)))))))))
def za:Hd:=bI KP
abbrev jC:Io:=⟨[IF,dB],[],[],[dO,dI],none⟩
def Rf (A:AS):Option (LI×Int×Int):=match A.stk,A.get 9,A.get 94,A.get 100 with
 |[],.one (.ptr k 0),.one (.ptr k' 0),.one (.int .i32 v)=>match A.ob[k]? with
  |some (some [.lst _ (.int .u8) xs own,.int .i64 m])=>bif Nat.beq A.tm.length 104&&(Nat.beq k k'&&!Nat.beq own 0) then some (xs,m,v) else none
  |_=>none
 |_,_,_,_=>none
def iI:Array Oper:=fb (iL (vH 20 (bj fE)))
def qY:Code:=gy (vH 20 (bj fE))
def TD (b:bB)(packed:Bool):Option (LI×Int×Int):=
 Ri tt za dr (fv fE) 20 (bj fE) (Io.start jC fE.ntmps ((b,packed,()),())) fun A=>lk tt za 0 iI (List.range 7) A fun ex A=>match ex with
  |.normal=>Rf A
  |_=>none
def cV {R:Type}(L:LI)(n:Nat)(p:LI)(K:LI→Option R):Option R:=bif lw L 36000 n then K (L++p) else none
def y4 (a0 a1 a2 a3 a4:Int)(a5:List cc.den)(a6:Bool):Option (LI×Int×Int):=
 bif cv (aJ a5) a5 0&&decide (aS (a0,a1,a2,a3,a4,a5,())=0) then bif a6 then none else
  cV [] 8 (az a0 8) fun L=>cV L 4 (az (i32.wrap (i64.wrap (49+((bu a5).1.length:Int)))) 4) fun L=>cV L 4 (az a1 4) fun L=>cV L 1 (az 2 1) fun L=>cV L 4 (az 0 4) fun L=>cV L 2 (az 0 2) fun L=>
  cV L 4 (az (i32.wrap (i64.wrap ((a5.length:Int) - 1))) 4) fun L=>bif decide ((0:Int)≤0)&&decide ((0:Int)<(a5.length:Int)) then cV L 8 (az (a5.getD (Int.toNat 0) (0,(false,[],()),(false,[],()),[],())).1 8) fun L=>
  bif decide (1≤a5.length) then cV L 8 (az (du a5) 8) fun L=>cV L 8 (az a2 8) fun L=>cV L 2 (az a3 2) fun L=>cV L 4 (az a4 4) fun L=>cV L 4 (az (i32.wrap (a5.length:Int)) 4) fun L=>
  cV L (ao [(bu a5).1]) (aU [(bu a5).1]) fun L=>bif decide (List.length L≤4294967296) then bif decide ((0:Int)≤21)&&(decide ((21:Int)≤(L.length:Int))&&decide ((L.length:Int)≤(L.length:Int))) then
   some (L,36000,i32.wrap (rc [List.drop (Int.toNat 21) (List.take (L.length:Int).toNat L)] 0)) else none else none else none else none else none
theorem Rg (a0 a1 a2 a3 a4:Int)(a5:List cc.den)(a6:Bool):TD (a0,a1,a2,a3,a4,a5,()) a6=y4 a0 a1 a2 a3 a4 a5 a6:=by kernel_rfl
def B4 (xs:LI)(m:Int):AS:=⟨(List.replicate 104 .any).set 9 (.one (.ptr 0 0)),[],[some [.lst 5 (.int .u8) xs 1,.int .i64 m]]⟩
theorem OP (xs:LI)(m:Int):ev tt za dr (fun _=>none) 0 (fv fE) qY (fv fE) [] (B4 xs m) (Io.fin tt jC fE)=bif decide (xs.length≤4294967296) then some (.ret ((xs,0,()),())) else none:=by kernel_rfl
theorem OQ {xs:LI}{m v:Int}{out:jC.Res}{F:Fra}{G2:Gh}{A2:AS}{a2:Act}{cst:List (Array Value)}{w w2:World}{R:Ending→World→Prop}
  (hkb:∀d,F.mu0 (0+d)=none) (hq:F.w0=w∧∀b,¬ F.X b) (hS0:∀b o,F.S0 b o→b<w.heap.size) (htab:gG F.S0 F.w0)
  (R2:Rel F G2 A2 a2.tmps cst w2) (hd2:a2.defers=[]) (hK:Rf A2=some (xs,m,v)) (h21:21≤xs.length)
  (hrest:ev tt za dr (fun _=>none) 0 (fv fE) qY (fv fE) [] (B4 (gF xs 17 v) m) (Io.fin tt jC fE)=some out)
  (hend:∀ex A' G' a' w',Rel F G' A' a'.tmps cst w'→Io.fin tt jC fE ex A'=some out→Q8 prog fE R ex G' a' w'):
  wpOps prog iI (Exit.then (qY.wp prog (bodyPost prog fE R)) (bodyPost prog fE R)) [7] a2 w2:=by
 have htt:=dx Tryz.prog 400
 have hX:∀b,F.mine b→w.heap.size≤b:=fun b h=>by
  rcases h with h | h
  ·rw[hq.1] at h;exact h
  ·exact absurd h (hq.2 b)
 unfold Rf at hK
 split at hK
 rotate_left
 ·cases hK
 rename_i k k' v' hstk e9 e94 e100
 split at hK
 rotate_left
 ·cases hK
 rename_i e xs' own m' eob
 cases hck:Nat.beq A2.tm.length 104&&(Nat.beq k k'&&!Nat.beq own 0) with
 |false=>rw[hck] at hK;cases hK
 |true=>
 rw[hck] at hK
 simp only[cond_true,zC,zD] at hK
 obtain ⟨rfl,rfl,rfl⟩:=hK
 simp only[zA,Bool.not_eq_true'] at hck
 obtain ⟨hl104,hkk,hown⟩:=hck
 have hl104:=Nat.eq_of_beq_eq_true hl104
 have hkk:=Nat.eq_of_beq_eq_true hkk
 subst hkk
 have hown:own≠0:=fun h=>by rw[h] at hown;cases hown
 have hcst:cst=[]:=by
  have:=R2.stk
  rw[hstk] at this
  cases cst with
  |nil=>rfl
  |cons _ _=>exact this.elim
 have v9:=R2.get 9
 rw[e9] at v9
 obtain ⟨bw,hbw,v9⟩:=v9
 have v94:=R2.get 94
 rw[e94] at v94
 obtain ⟨bw',hbw',v94⟩:=v94
 rw[hbw] at hbw'
 cases hbw'
 have v100:=R2.get 100
 rw[e100] at v100
 obtain ⟨v100,hvr⟩:=v100
 obtain ⟨bo,curw,elw,hbo,hhw,hcs⟩:=R2.ob.cells eob (by simp[C.isItr])
 rw[hbw] at hbo
 cases hbo
 obtain ⟨v1,v2,hv12,hv1,hv2⟩:∃v1 v2,curw.toList=[v1,v2]∧Rc G2 w2 (.lst e (.int .u8) xs' own) v1∧Rc G2 w2 (.int .i64 m') v2:=by
  match hl:curw.toList with
  |[]=>rw[hl] at hcs;exact hcs.elim
  |[_]=>rw[hl] at hcs;exact hcs.2.elim
  |[v1,v2]=>rw[hl] at hcs;exact ⟨v1,v2,rfl,hcs.1,hcs.2.1⟩
  |_::_::_::_=>rw[hl] at hcs;exact hcs.2.2.elim
 obtain ⟨rfl,hmr⟩:=hv2
 obtain ⟨Ad,cap,rfl,hle,hcap,hrow,hownA⟩:=hv1
 have hne:xs'≠[]:=fun h=>by rw[h] at h21;simp at h21
 rcases hownA with h | ⟨h,h'⟩ | ⟨b,cur,el,rfl,how,hhb,hcsz⟩
 ·exact absurd h hown
 ·subst h
  obtain ⟨_,_,h,_⟩:=hrow hne
  cases h
 obtain ⟨k1,k2,k3,k4⟩:=R2.gh.ow own b _ how
 obtain ⟨m1,m2,m3⟩:=R2.gh.mu k bw hbw
 have hbne:bw≠b:=fun h=>k4 k (by rw[hbw,h])
 obtain ⟨b',o',hA,hel⟩:=hrow hne
 cases hA
 have hx:∀(k:Nat) (x:Int),xs'[k]?=some x→bt .u8 x∧cur[k]?=some (Value.int .u8 x):=by
  intro k x hk
  obtain ⟨c,⟨rfl,hin⟩,hat⟩:=hel k x hk
  obtain ⟨_,hc⟩:=hat 0 _ rfl
  refine ⟨hin,?_⟩
  rw[cM hhb] at hc
  simpa [Ty.size] using hc
 have hSne:∀b' o,F.S0 b' o→b'≠b∧b'≠bw:=by
  intro b' o h
  have:=hS0 b' o h
  have h1:=hX b k2
  have h2:=hX bw m1
  omega
 have htab2:gG (JE w2 bw b) w2:=by
  intro g i hg hi
  obtain ⟨t1,t2⟩:=htab g i hg hi
  have t3:=R2.gh.tabs g i hg hi
  exact ⟨⟨(hSne _ _ t1).1,(hSne _ _ t1).2,_,t3.2⟩,t3.2⟩
 have hcalls:=JF w2 xs' m' v' bw b cap xs'.length curw cur elw el hhw hv12 rfl hhb (by rw[hcsz];simp[Ty.size]) hle hcap hbne htab2 h21 hvr hmr hx
 simp only[wpOps]
 have ho:iI[7]?=some { dst:=some 101,op:=.call { callee:=.value (.func 95),args:=#[.tmp 94,.const (.int .i64 17),.tmp 100],argTypes:=(match ((iI[7]?).getD iI[0]!).op with | .call c=>c.argTypes | _=>#[]) },type:=((iI[7]?).getD iI[0]!).type,pos:=((iI[7]?).getD iI[0]!).pos,after:=((iI[7]?).getD iI[0]!).after,guard:=none }:=by kernel_rfl
 rw[ho]
 simp only
 rw[if_pos (by simp[Region.wanted])]
 refine .inl ?_
 have hfn:FnOk prog 95:=⟨f32,by kernel_rfl,by kernel_rfl,by kernel_rfl⟩
 have hev:a2.eval (.tmp 94)=.pointer (some ⟨bw,0,none⟩):=v94
 have hev2:a2.eval (.tmp 100)=.int .i32 v':=v100
 unfold Oper.wp
 have hrun:∀o:Oper,o.op=.call { callee:=.value (.func 95),args:=#[.tmp 94,.const (.int .i64 17),.tmp 100],argTypes:=(match ((iI[7]?).getD iI[0]!).op with | .call c=>c.argTypes | _=>#[]) }→(execOp a2.eval o).run prog w2=.ok (.enter 95 #[.pointer (some ⟨bw,0,none⟩),.int .i64 17,.int .i32 v']) w2:=by
  intro o ho
  simp[execOp,ho,resolve,Act.eval,Deferred.ofValue,invoke,hfn.run]
  exact ⟨by rw[← Array.getD_eq_getD_getElem?];exact v94,by rw[← Array.getD_eq_getD_getElem?];exact v100⟩
 rw[hrun _ rfl]
 simp only[Oper.upon]
 refine hcalls.mono fun en w3 ⟨hen,hfr,hkeep,b2,cap2,curw2,cur2,elw2,el2,m2',g1,g2,g3,g4,g5,g6,g7,g8,g9,g10,g11⟩=>?_
 subst hen
 subst g10
 show qY.wp prog (bodyPost prog fE R) (a2.put (some 101) (.int .i64 0)) w3
 have R2p:=R2.puts (v:=.any) (u:=.int .i64 0) trivial (some 101)
 have hlen:(a2.put (some 101) (.int .i64 0)).tmps.toList.length=104:=by
  rw[← R2p.tm.length]
  show (A2.put (some 101) .any).tm.length=104
  simp[AS.put,hl104]
 have hget9:(a2.put (some 101) (.int .i64 0)).tmps.toList[9]?=some (.pointer (some ⟨bw,0,none⟩)):=by
  have h9:A2.tm[9]?=some (.one (.ptr k 0)):=by
   unfold AS.get at e9
   rw[List.getD_eq_getElem?_getD] at e9
   cases h:A2.tm[9]? with
   |none=>rw[h] at e9;cases e9
   |some x=>rw[h] at e9;simpa using e9
  have h9':(A2.put (some 101) .any).tm[9]?=some (.one (.ptr k 0)):=by
   simp[AS.put,List.getElem?_set,h9]
  obtain ⟨u,hu,hr⟩:=R2p.tm.get h9'
  obtain ⟨bq,hbq,hr⟩:=hr
  rw[hbw] at hbq
  cases hbq
  rw[hu,hr]
 have hsz:w2.heap.size≤w3.heap.size:=hfr.size
 have hsz0:w.heap.size≤w2.heap.size:=by have:=R2.gh.fr.size;rw[hq.1] at this;exact this
 have hb2m:F.mine b2:=by
  rcases g3 with h | h
  ·rw[h];exact k2
  ·exact .inl (by rw[hq.1];omega)
 have hb2w:w.heap.size≤b2:=hX b2 hb2m
 have hbww:w.heap.size≤bw:=hX bw m1
 have hblk:∀j,j<w.heap.size→w3.heap[j]?=w2.heap[j]?:=by
  intro j hj
  refine hfr.block j (show j<w2.heap.size by omega) ?_
  rintro (h | h)
  ·have:=hX b k2;omega
  ·omega
 have hslen:(gF xs' 17 v').length=xs'.length:=vC _ _ _
 have gh3:GhOk F ⟨fun b' o=>F.S0 b' o∨(b'=b2∧o<xs'.length),fun k=>if k=0 then some bw else none,fun i=>if i=1 then some (b2,xs'.length) else none⟩ w3:=by
  refine { mu:=?_,muI:=?_,ow:=?_,owI:=?_,sB:=?_,fr:=?_,sub:=?_,sup:=?_,keep:=?_,fix_:=?_,tab:=htab }
  ·intro key bb h
   simp only at h
   split at h
   ·cases h
    refine ⟨m1,?_,by omega⟩
    rintro o (h | h)
    ·have:=hS0 _ _ h;omega
    ·exact g4 h.1.symm
   ·cases h
  ·intro key key' bb h h'
   simp only at h h'
   split at h <;> split at h'
   ·rename_i q1 q2;exact q1.trans q2.symm
   ·cases h'
   ·cases h
   ·cases h
  ·intro i bb l h
   simp only at h
   split at h
   ·cases h
    refine ⟨?_,hb2m,g5,?_⟩
    ·rintro o ho (h | h)
     ·have:=hS0 _ _ h;omega
     ·have:=h.2;omega
    ·intro key h
     simp only at h
     split at h
     ·cases h;exact g4 rfl
     ·cases h
   ·cases h
  ·intro i j bb l l' h h'
   simp only at h h'
   split at h <;> split at h'
   ·rename_i q1 q2;exact q1.trans q2.symm
   ·cases h'
   ·cases h
   ·cases h
  ·rintro bb o (h | h)
   ·have:=hS0 _ _ h;omega
   ·rw[h.1];exact g5
  ·have f2:=R2.gh.fr
   refine ⟨hfr.os.trans f2.os,hfr.tape.trans f2.tape,hfr.output.trans f2.output,by rw[hq.1];omega,fun j hj hx=>?_⟩
   rw[hq.1] at hj
   rw[hblk j hj]
   exact f2.block j (by rw[hq.1];exact hj) hx
  ·exact fun _ _ h=>.inl h
  ·rintro bb o (h | h)
   ·exact .inl h
   ·rw[h.1];exact .inr hb2m
  ·intro bb o h
   rw[← R2.gh.keep bb o h]
   have:=hblk bb (hS0 bb o h)
   unfold World.cell?
   rw[this]
  ·intro key bb h
   have:=hkb key
   rw[Nat.zero_add] at this
   rw[this] at h
   cases h
 have R3:Rel F ⟨fun b' o=>F.S0 b' o∨(b'=b2∧o<xs'.length),fun k=>if k=0 then some bw else none,fun i=>if i=1 then some (b2,xs'.length) else none⟩ (B4 (gF xs' 17 v') m2') (a2.put (some 101) (.int .i64 0)).tmps cst w3:=by
  refine ⟨?_,by rw[hcst];exact trivial,?_,gh3⟩
  ·refine All2.set_left 9 (Ky hlen) fun u hu=>?_
   rw[hget9] at hu
   cases hu
   exact ⟨bw,rfl,rfl⟩
  ·intro key cs hk
   cases key with
   |succ key=>simp[B4] at hk
   |zero=>
    simp only[B4,List.getElem?_cons_zero,zC] at hk
    subst hk
    refine ⟨bw,_,rfl,g1,.inl ⟨curw2,elw2,rfl,?_⟩⟩
    rw[g2]
    refine ⟨⟨some ⟨b2,0,none⟩,cap2,by rw[hslen],by rw[hslen];exact g8,g9,?_,?_⟩,⟨rfl,hmr⟩,trivial⟩
    ·intro _
     refine ⟨b2,0,rfl,fun i x hx=>?_⟩
     obtain ⟨q1,q2⟩:=g11 i x hx
     have hi:i<xs'.length:=by
      rw[← hslen]
      exact (List.getElem?_eq_some_iff.1 hx).1
     refine ⟨[.int .u8 x],⟨rfl,q1⟩,fun j u hj=>?_⟩
     cases j with
     |succ j=>simp at hj
     |zero=>
      simp only[List.getElem?_cons_zero,zC] at hj
      subst hj
      refine ⟨.inr ⟨rfl,?_⟩,?_⟩
      ·simp[Ty.size];omega
      ·rw[cM g6]
       simpa [Ty.size] using q2
    ·exact .inr (.inr ⟨b2,cur2,el2,rfl,by simp[Ty.size,hslen],g6,by rw[g7];simp[Ty.size]⟩)
 refine cO htt hm (ik y9) (dD htt) hkb (lp:=fun _=>none) qY (fun _ _ _ h=>by cases h) hrest R3 ?_
 intro ex A' G' a' w' R' hdf hk
 have hdf:a'.defers=[]:=hdf.trans ((Act.put_defers' _ _ _).trans hd2)
 have:=hend ex A' G' a' w' R' hk
 cases ex with
 |normal=>exact ⟨hdf,this⟩
 |ret=>exact ⟨hdf,this⟩
 |exit i=>exact this.elim
 |panic u=>exact fun u hu=>⟨hdf,this u hu⟩
theorem yR {P:Program}{tt:TT}(htt:ch P tt)(hm:P.follows .mixedOrders=true){hd:Hd}(hh:j0 P hd){okDraw:Dr}(hdr:gX P tt okDraw){f:Nat}{fn:Func}(hf:P.funcs[f]?=some fn){c:Code}(hc:fn.body=some c){io:Io}{lp:Lp}
  (hlp:∀e∈bL (fv fn) c (fv fn) [],∀h,lp (cN e.2.1)=some h→sn P io.obs.length e.2.1 h) {d:io.In} {out:io.Res} (hrun:io.run tt hd okDraw lp fn d=some out):J9 P tt f fn io d out:=by
 intro F G cst w vals R Rl hkb _ hend
 simp only[Io.run,hc] at hrun
 refine calls_of_wp hf hc (cO htt hm hh hdr hkb c hlp hrun Rl ?_)
 intro ex A' G' a' w' R' hdf hk
 have:=hend ex A' G' a' w' R' hk
 cases ex with
 |normal=>exact ⟨hdf,this⟩
 |ret=>exact ⟨hdf,this⟩
 |exit i=>exact this.elim
 |panic v=>exact fun u hu=>⟨hdf,this u hu⟩
theorem NZ (v:Int){n:Nat}(h:n≤4):az (i32.wrap v) n=az v n:=by
 have e:∃q:Int,i32.wrap v=v+4294967296*q:=by
  refine ⟨(i32.wrap v - v) / 4294967296,?_⟩
  simp[IntKind.wrap,IntKind.signed,IntKind.bits] <;> (try split) <;> omega
 obtain ⟨q,e⟩:=e
 rw[e]
 have key:∀k:Nat,k<4→((v+4294967296*q) / 256 ^ k) % 256=(v / 256 ^ k) % 256:=by
  intro k hk
  match k,hk with
  |0,_=>omega
  |1,_=>omega
  |2,_=>omega
  |3,_=>omega
 induction n with
 |zero=>rfl
 |succ n ih=>rw[az,az,key n (by omega),ih (by omega)]
theorem rR {b:bB}(h:aS b=0):aQ b.1=false∧ba b.2.2.1 b.2.2.2.1 b.2.2.2.2.1=false∧1≤b.2.2.2.2.2.1.length∧b.2.2.2.2.2.1.length≤256∧(bu b.2.2.2.2.2.1).2=0∧(bu b.2.2.2.2.2.1).1.length≤32768:=by
 unfold aS at h
 split at h
 ·cases h
 rename_i h1
 split at h
 ·cases h
 rename_i h2
 split at h
 ·cases h
 rename_i h3
 split at h
 ·cases h
 rename_i h4
 refine ⟨by simpa using h1,by simpa using h2,?_,by omega,h,?_⟩
 ·cases hr:b.2.2.2.2.2.1 with
  |nil=>exact absurd hr h3
  |cons _ _=>simp
 ·unfold bu at h ⊢
  split
  ·simp
  rename_i h5
  rw[if_neg h5] at h
  split
  ·simp
  rename_i h6
  simp only
  omega
theorem bO {R:Type}{L:LI}{n:Nat}{p:LI}{K:LI→Option R}(h:L.length+n≤36000):cV L n p K=K (L++p):=aa (dE.2 ⟨rfl,h⟩) _ _
def j3 (b:bB):LI:=az b.1 8++(az (49+((bu b.2.2.2.2.2.1).1.length:Int)) 4++(az b.2.1 4++[2]))
theorem mG (b:bB):(j3 b).length=17:=by simp[j3,dT]
theorem Ey {a0 a1 a2 a3 a4:Int}{a5:List cy}(hr:cv (aJ a5) a5 0=true)(h:aS (a0,a1,a2,a3,a4,a5,())=0):
  y4 a0 a1 a2 a3 a4 a5 false=some (j3 (a0,a1,a2,a3,a4,a5,())++(0::0::0::0::b7 (a0,a1,a2,a3,a4,a5,()) 0 (bu a5).1),36000,i32.wrap (cw 0 (b7 (a0,a1,a2,a3,a4,a5,()) 0 (bu a5).1))):=by
 obtain ⟨-,-,h1,h2,-,h3⟩:=rR h
 have h1:1≤a5.length:=h1
 have h2:a5.length≤256:=h2
 have h3:(bu a5).1.length≤32768:=h3
 have hw:∀x:Int,0≤x→x≤2147483647→i32.wrap x=x:=fun x h h'=>bW (by simp[bt,IntKind.min,IntKind.max,IntKind.signed,IntKind.bits];omega)
 have e1:i32.wrap (i64.wrap (49+((bu a5).1.length:Int)))=49+((bu a5).1.length:Int):=by
  rw[af (n:=49+((bu a5).1.length:Int)) (by omega) (by omega),hw _ (by omega) (by omega)]
 have e2:i32.wrap (i64.wrap ((a5.length:Int) - 1))=(a5.length:Int) - 1:=by
  rw[af (n:=(a5.length:Int) - 1) (by omega) (by omega),hw _ (by omega) (by omega)]
 have e3:i32.wrap (a5.length:Int)=(a5.length:Int):=hw _ (by omega) (by omega)
 have e4:(a5.getD (Int.toNat 0) (0,(false,[],()),(false,[],()),[],())).1=aJ a5:=by
  cases a5 with
  |nil=>simp at h1
  |cons r rs=>rfl
 have j1:ao [(bu a5).1]=(bu a5).1.length:=Nat.add_zero _
 have j2:aU [(bu a5).1]=(bu a5).1:=List.append_nil _
 unfold y4
 refine bT (by rw[zA,zB];exact ⟨hr,h⟩) ?_
 refine (ae rfl _ _).trans ?_
 rw[e1,e2,e3,e4,j1,j2]
 generalize hblk:(bu a5).1=blk at *
 have ln:∀(v:Int) (n:Nat),(az v n).length=n:=dT
 refine (bO (by simp)).trans ?_
 refine (bO (by simp[ln])).trans ?_
 refine (bO (by simp[ln])).trans ?_
 refine (bO (by simp[ln])).trans ?_
 refine (bO (by simp[ln])).trans ?_
 refine (bO (by simp[ln])).trans ?_
 refine (bO (by simp[ln])).trans ?_
 refine bT (by simp only[zA,zB];omega) ?_
 refine (bO (by simp[ln])).trans ?_
 refine bT (decide_eq_true h1) ?_
 refine (bO (by simp[ln])).trans ?_
 refine (bO (by simp[ln])).trans ?_
 refine (bO (by simp[ln])).trans ?_
 refine (bO (by simp[ln])).trans ?_
 refine (bO (by simp[ln])).trans ?_
 refine (bO (by simp[ln];omega)).trans ?_
 have eL:[]++az a0 8++az (49+(blk.length:Int)) 4++az a1 4++az 2 1++az 0 4++az 0 2++az ((a5.length:Int) - 1) 4++az (aJ a5) 8++az (du a5) 8++az a2 8++az a3 2++az a4 4++az (a5.length:Int) 4++blk
   = j3 (a0,a1,a2,a3,a4,a5,())++(0::0::0::0::b7 (a0,a1,a2,a3,a4,a5,()) 0 blk):=by
  have q1:az 2 1=[2]:=rfl
  have q2:az 0 4=[0,0,0,0]:=rfl
  simp only[j3,b7,hblk,q1,q2,List.nil_append,zK,List.cons_append]
 rw[eL]
 have hL:(j3 (a0,a1,a2,a3,a4,a5,())++(0::0::0::0::b7 (a0,a1,a2,a3,a4,a5,()) 0 blk)).length=61+blk.length:=by
  simp[mG,b7,ln];omega
 refine bT (decide_eq_true (by omega)) ?_
 refine bT (by simp only[zA,zB];omega) ?_
 have e5:List.drop (Int.toNat 21) (List.take ((j3 (a0,a1,a2,a3,a4,a5,())++(0::0::0::0::b7 (a0,a1,a2,a3,a4,a5,()) 0 blk)).length:Int).toNat (j3 (a0,a1,a2,a3,a4,a5,())++(0::0::0::0::b7 (a0,a1,a2,a3,a4,a5,()) 0 blk)))
   = b7 (a0,a1,a2,a3,a4,a5,()) 0 blk:=by
  rw[zG,List.take_length]
  show List.drop 21 _=_
  have:(21:Nat)=(j3 (a0,a1,a2,a3,a4,a5,())).length+4:=by rw[mG]
  rw[this,List.drop_append]
  rfl
 rw[e5]
 rfl
def Ka (d:jC.In):Tr jC.Res:=
 .ite (!d.1.2.1&&cv (aJ d.1.1.2.2.2.2.2.1) d.1.1.2.2.2.2.2.1 0) (.ret (.ret (((bM d.1.1).1,(bM d.1.1).2,()),()))) .no
theorem RJ:HcOk prog 65 (ah jC Ka):=by
 have htt:=dx Tryz.prog 400
 have hf:prog.funcs[65]?=some fE:=by kernel_rfl
 have hc:fE.body=some (bj fE):=by kernel_rfl
 refine mM htt hf (by kernel_rfl) jC Ka (fun d out hw ho=>?_) (by kernel_rfl)
 obtain ⟨⟨⟨a0,a1,a2,a3,a4,a5,⟨⟩⟩,packed,⟨⟩⟩,⟨⟩⟩:=d
 obtain ⟨hg,ho⟩:=Tr.guard ho
 simp only[zA,Bool.not_eq_true'] at hg
 obtain ⟨hp,hr⟩:=hg
 subst hp
 have ho:Out.ret (((bM (a0,a1,a2,a3,a4,a5,())).1,(bM (a0,a1,a2,a3,a4,a5,())).2,()),())=out:=Option.some.inj ho
 subst ho
 by_cases he:aS (a0,a1,a2,a3,a4,a5,())=0
 rotate_left
 ·have e:bM (a0,a1,a2,a3,a4,a5,())=([],aS (a0,a1,a2,a3,a4,a5,())):=by unfold bM;rw[if_pos he]
  rw[e]
  refine yR htt hm (ik (l:=Gf) (.cons MD .nil)) (dD htt) hf hc (lp:=Hn) (LpsOk.done (by kernel_rfl)).all ?_
  refine (M7 a0 a1 a2 a3 a4 a5 false).trans ?_
  unfold wr
  refine bT (by rw[zA,zB];exact ⟨hr,he⟩) ?_
  exact aa (by simpa using he) _ _
 ·have e:bM (a0,a1,a2,a3,a4,a5,())=(mq (a0,a1,a2,a3,a4,a5,()) 0 (bu a5).1,0):=by unfold bM;rw[if_neg (au he)]
  rw[e]
  intro F G cst w vals R Rl hkb hq hend
  have hq:=hq rfl
  have hrun:=(Rg a0 a1 a2 a3 a4 a5 false).trans (Ey hr he)
  refine calls_of_wp hf hc (Ez htt hm (ik y9) (dD htt) hkb 20 (bj fE) hrun Rl ?_)
  intro A1 G1 a1' w1 R1 hd1 h1
  have hsp:vH 20 (bj fE)=.seq (.region 27 iI false) qY:=by kernel_rfl
  rw[hsp]
  refine wp_seq (wp_region ?_)
  rw[show List.range iI.size=List.range 7++[7] by kernel_rfl]
  refine mH htt (ik y9) hkb [7] (List.range 7) h1 R1 ?_
  intro ex A2 G2 a2' w2 R2 hd2 h2
  cases ex with
  |exit i=>cases h2
  |ret=>cases h2
  |panic v=>cases h2
  |normal=>
  have hT:21≤(j3 (a0,a1,a2,a3,a4,a5,())++(0::0::0::0::b7 (a0,a1,a2,a3,a4,a5,()) 0 (bu a5).1)).length:=by
   simp[mG];omega
  refine OQ hkb hq (fun b o h=>Rl.gh.sB b o (Rl.gh.sub b o h)) Rl.gh.tab R2 (hd2.trans hd1) h2 hT ?_ hend
  refine (OP _ _).trans ?_
  have eS:gF (j3 (a0,a1,a2,a3,a4,a5,())++(0::0::0::0::b7 (a0,a1,a2,a3,a4,a5,()) 0 (bu a5).1)) 17 (i32.wrap (cw 0 (b7 (a0,a1,a2,a3,a4,a5,()) 0 (bu a5).1)))
    = mq (a0,a1,a2,a3,a4,a5,()) 0 (bu a5).1:=by
   have:=JV (j3 (a0,a1,a2,a3,a4,a5,())) (b7 (a0,a1,a2,a3,a4,a5,()) 0 (bu a5).1) 0 0 0 0 (i32.wrap (cw 0 (b7 (a0,a1,a2,a3,a4,a5,()) 0 (bu a5).1)))
   rw[mG] at this
   rw[this,NZ _ (Nat.le_refl 4)]
   unfold j3 mq
   simp only[zK]
  rw[eS]
  refine aa (decide_eq_true ?_) _ _
  obtain ⟨-,-,h1,h2,-,h3⟩:=rR he
  have h3:(bu a5).1.length≤32768:=h3
  simp[mq,b7,dT]
  omega
end
end Go.Proofs.YthpcdhgpplmneaaGreatDoor.Sym
namespace Go.Proofs.YthpcdhgpplmneaaGreatDoor.Sym
open Go
def C.frz (i:Nat):C→C
 |.ex e t lo xs a b=>bif !(a == i)&&!(b == i) then .ex e t lo xs a b else bif (a == i)&&((b == i)&&Nat.beq lo 0) then .lst e t xs 0 else .top
 |.eel t k x a b=>bif !(a == i)&&!(b == i) then .eel t k x a b else .top
 |.lst e t xs own=>.lst e t xs (bif own == i then 0 else own)
 |c=>c
def rG (G:Gh)(i:Nat):Gh:=⟨fun b o=>G.S b o∨∃l,G.ow i=some (b,l),G.mu,fun j=>if j=i then none else G.ow j⟩
theorem EB {G:Gh}{i j:Nat}{p:Nat×Nat}(h:(rG G i).ow j=some p):j≠i∧G.ow j=some p:=by
 simp only[rG] at h
 split at h
 ·cases h
 ·rename_i hne;exact ⟨hne,h⟩
theorem Rj {F:Fra}{G:Gh}{w:World}(h:GhOk F G w)(i:Nat):GhOk F (rG G i) w where
 mu:=fun key b hb=>by
  obtain ⟨h1,h2,h3⟩:=h.mu key b hb
  refine ⟨h1,fun o hs=>?_,h3⟩
  rcases hs with hs | ⟨l,hl⟩
  ·exact h2 o hs
  ·exact (h.ow i b l hl).2.2.2 key hb
 muI:=h.muI
 ow:=fun j b l hj=>by
  obtain ⟨hne,hj⟩:=EB hj
  obtain ⟨h1,h2,h3,h4⟩:=h.ow j b l hj
  refine ⟨fun o ho hs=>?_,h2,h3,h4⟩
  rcases hs with hs | ⟨l',hl⟩
  ·exact h1 o ho hs
  ·exact hne (h.owI j i b l l' hj hl)
 owI:=fun j k b l l' hj hk=>h.owI j k b l l' (EB hj).2 (EB hk).2
 sB:=fun b o hs=>by
  rcases hs with hs | ⟨l,hl⟩
  ·exact h.sB b o hs
  ·exact (h.ow i b l hl).2.2.1
 fr:=h.fr
 sub:=fun b o hs=>.inl (h.sub b o hs)
 sup:=fun b o hs=>by
  rcases hs with hs | ⟨l,hl⟩
  ·exact h.sup b o hs
  ·exact .inr (h.ow i b l hl).2.1
 keep:=h.keep
 fix_:=h.fix_
 tab:=h.tab
theorem Ca (G:Gh)(w:World)(i:Nat):Goes G (rG G i) w w none (some i) where
 kept:=fun b o hs=>⟨.inl hs,rfl⟩
 mu:=fun _ _ h _=>h
 ow:=fun j b l hj hne=>⟨by
  have:j≠i:=fun e=>hne (by rw[e])
  simp[rG,this,hj],rfl⟩
theorem GT {G:Gh}{w:World}{i:Nat}{c:C}{v:Value}(hc:Rc G w c v):Rc (rG G i) w (c.frz i) v:=by
 have go:=Ca G w i
 have hcell:=hc.cell
 cases c with
 |ex e t lo xs a b'=>
  simp only[C.frz]
  cases hn : !(a == i)&&!(b' == i) with
  |true=>
   simp only[cond_true]
   simp only[zA,Bool.not_eq_true',beq_eq_false_iff_ne] at hn
   exact hc.goes go (fun _ e=>by cases e) (fun j e=>by cases e;simp[C.hasOwn,hn.1,hn.2])
  |false=>
   simp only[cond_false]
   cases hy:(a == i)&&((b' == i)&&Nat.beq lo 0) with
   |false=>exact hcell
   |true=>
    simp only[cond_true]
    simp only[zA,beq_iff_eq] at hy
    obtain ⟨rfl,rfl,hl⟩:=hy
    have hl:=Nat.eq_of_beq_eq_true hl
    subst hl
    rcases hc with ⟨_,rfl,rfl⟩ | ⟨b,cap,rfl,⟨_,_,ho⟩,cur,el,hh,h1,h2,h3,h4⟩
    ·exact ⟨none,0,rfl,Nat.le_refl _,by simp[maxLen],fun hne=>absurd rfl hne,.inl rfl⟩
    ·have ho:G.ow b'=some (b,0):=by rcases ho with h | h <;> exact h
     rw[Nat.zero_add] at h2 ⊢
     refine ⟨_,cap,rfl,h2,h3,fun _=>⟨b,0,rfl,fun k x hx=>?_⟩,.inl rfl⟩
     obtain ⟨c,hc,hu⟩:=h4 k x hx
     refine ⟨c,Rt.kept go.kept t x c hc,fun q u hq=>?_⟩
     have:=hu q u hq
     rw[Nat.zero_add] at this ⊢
     refine ⟨.inr ⟨0,ho⟩,?_⟩
     rw[cM hh,Array.getElem?_toList]
     exact this
 |eel t k x a b'=>
  simp only[C.frz]
  cases hn : !(a == i)&&!(b' == i) with
  |true=>
   simp only[cond_true]
   simp only[zA,Bool.not_eq_true',beq_eq_false_iff_ne] at hn
   exact hc.goes go (fun _ e=>by cases e) (fun j e=>by cases e;simp[C.hasOwn,hn.1,hn.2])
  |false=>exact hcell
 |lst e t xs own=>
  simp only[C.frz]
  cases hb:own == i with
  |true=>
   obtain ⟨A,cap,e,h1,h2,h3,_⟩:=hc
   exact ⟨A,cap,e,h1,h2,h3.kept go.kept,.inl rfl⟩
  |false=>exact hc.goes go (fun _ e=>by cases e) (fun j e=>by cases e;simpa [C.hasOwn] using hb)
 |_=>exact Rc.goes go (fun _ e=>by cases e) (fun j e=>by cases e;simp[C.hasOwn,C.frz]) hc
theorem Rel.frz {F:Fra}{G:Gh}{A:AS}{ts:Array Value}{cst:List (Array Value)}{w:World}(R:Rel F G A ts cst w)(i:Nat):Rel F (rG G i) (A.map (C.frz i)) ts cst w:=
 R.map (fun c v h=>GT h) (fun _=>rfl) (fun key b hb=>⟨hb,rfl⟩) (Rj R.gh i)
def Lt:List V→Nat
 |.one (.ex _ _ _ _ i _)::_=>i
 |_::vs=>Lt vs
 |[]=>0
noncomputable section
def Lw (h:Hc):Hc:=fun _ args id A K=>(A.map (C.frz (Lt args))).force fun A=>h _ (args.map (V.map (C.frz (Lt args)))) id A K
theorem xp {P:Program}{f:Nat}{h:Hc}(hok:HcOk P f h):HcOk P f (Lw h):=by
 intro R args id A K r F G ts cst w vals hid hrun Rl hv
 unfold Lw at hrun
 rw[AS.force_eq] at hrun
 obtain ⟨hfn,hcalls⟩:=hok R _ id _ K r F (rG G (Lt args)) ts cst w vals hid hrun (Rl.frz _) (hv.map_left _ fun a b h=>Rv.map (fun c v h=>GT h) h)
 refine ⟨hfn,hcalls.mono ?_⟩
 rintro e w' ⟨G',A',v,u,R',hu,⟨he,ks,hn,hk⟩ | ⟨he,hk⟩⟩
 ·exact ⟨G',A',v,u,R',hu,.inl ⟨he,ks,⟨(Ca G w (Lt args)).kept.trans hn.kept,fun key b hx hb=>hn.mu key b hx hb⟩,hk⟩⟩
 ·exact ⟨G',A',v,u,R',hu,.inr ⟨he,hk⟩⟩
def C.bare:C→C
 |.ex _ _ _ _ _ _=>.top
 |.eel _ _ _ _ _=>.top
 |.lst e t xs _=>.lst e t xs 0
 |.ptr _ _=>.top
 |.fn _ _ _=>.top
 |c=>c
def V.bare:V→V
 |.one c=>.one c.bare
 |.agg cs=>.agg (cs.map C.bare)
 |_=>.any
def tD (G:Gh):Gh:=⟨G.S,fun _=>none,fun _=>none⟩
def yM (G:Gh)(w:World):Fra:=⟨w,fun _=>False,G.S,fun _=>none⟩
theorem KA {F:Fra}{G:Gh}{w:World}(h:GhOk F G w):Rel (yM G w) (tD G) ⟨[],[],[]⟩ #[] [] w:=by
 have hg:GhOk (yM G w) (tD G) w:=
  {mu:=fun _ _ h=>by cases h
   muI:=fun _ _ _ h=>by cases h
   ow:=fun _ _ _ h=>by cases h
   owI:=fun _ _ _ _ _ h=>by cases h
   sB:=h.sB
   fr:=⟨rfl,rfl,rfl,Nat.le_refl _,fun _ _ _=>rfl⟩
   sub:=fun _ _ h=>h
   sup:=fun _ _ h=>.inl h
   keep:=fun _ _ _=>rfl
   fix_:=fun _ _ h=>by cases h
   tab:=h.tabs }
 exact ⟨trivial,trivial,fun k cs hk=>by simp at hk,hg⟩
theorem C.bare_sound {G:Gh}{w:World}{c:C}{v:Value}(h:Rc G w c v):Rc (tD G) w c.bare v:=by
 have hcell:=h.cell
 cases c with
 |ex e t lo xs i j=>exact hcell
 |eel t k x i j=>exact hcell
 |lst e t xs own=>
  obtain ⟨A,cap,e,h1,h2,h3,_⟩:=h
  exact ⟨A,cap,e,h1,h2,h3,.inl rfl⟩
 |ptr k o=>exact hcell
 |fn f m caps=>exact hcell
 |_=>exact h
theorem V.bare_sound {G:Gh}{w:World}{x:V}{v:Value}(h:Rv G w x v):Rv (tD G) w x.bare v:=by
 cases x with
 |one c=>exact C.bare_sound h
 |agg cs=>
  obtain ⟨vs,e,hv⟩:=h
  exact ⟨vs,e,hv.map_left _ fun a b h=>C.bare_sound h⟩
 |tup ps=>trivial
 |any=>trivial
def Q3 (h:Hc):Hc:=fun _ args id A K=>h _ (args.map V.bare) id ⟨[],[],[]⟩ fun oc _=>match oc with
 |.ret (.tup [(false,[.lst e (.sl e2 (.int k2)) xs own]),(false,[.int k n])]) _=>bif own == 0 then none else
   (A.map (C.noOwn own)).force fun A=>K (.ret (.tup [(false,[.ex e (.sl e2 (.int k2)) 0 xs own own]),(false,[.int k n])]) (some [])) A
 |_=>none
def ve (G G':Gh)(n i:Nat)(o:Option Nat):Gh:=⟨fun b p=>G.S b p∨(G'.S b p∧n≤b∧some b≠o),G.mu,fun j=>if j=i then o.map (·,0) else G.ow j⟩
theorem Si {F:Fra}{G G':Gh}{w w':World}(h:GhOk F G w)(g:Grown w w')(hB:∀b p,G'.S b p→b<w'.heap.size)(i:Nat)(o:Option Nat)(ho:∀b,o=some b→w.heap.size≤b∧b<w'.heap.size):GhOk F (ve G G' w.heap.size i o) w' where
 mu:=fun key b hb=>by
  obtain ⟨h1,h2,h3⟩:=h.mu key b hb
  refine ⟨h1,fun p hs=>?_,Nat.lt_of_lt_of_le h3 g.size⟩
  rcases hs with hs | ⟨_,hs,_⟩
  ·exact h2 p hs
  ·omega
 muI:=h.muI
 ow:=fun j b l hj=>by
  simp only[ve] at hj ⊢
  split at hj
  ·cases o with
   |none=>cases hj
   |some b0=>
    simp only[Option.map_some,zC,zD] at hj
    obtain ⟨rfl,rfl⟩:=hj
    obtain ⟨h1,h2⟩:=ho b0 rfl
    refine ⟨fun p _ hs=>?_,.inl (Nat.le_trans h.fr.size h1),h2,fun key hk=>by have:=(h.mu key _ hk).2.2;omega⟩
    rcases hs with hs | ⟨_,_,hs⟩
    ·have:=h.sB _ _ hs;omega
    ·exact hs rfl
  ·obtain ⟨h1,h2,h3,h4⟩:=h.ow j b l hj
   refine ⟨fun p hp hs=>?_,h2,Nat.lt_of_lt_of_le h3 g.size,h4⟩
   rcases hs with hs | ⟨_,hs,_⟩
   ·exact h1 p hp hs
   ·omega
 owI:=fun j k b l l' hj hk=>by
  simp only[ve] at hj hk
  have hb:∀b l,o.map (·,0)=some (b,l)→w.heap.size≤b:=fun b l e=>by
   cases o with
   |none=>cases e
   |some b0=>cases e;exact (ho _ rfl).1
  split at hj <;> split at hk
  ·rename_i e1 e2;exact e1.trans e2.symm
  ·have:=hb _ _ hj;have:=(h.ow k _ _ hk).2.2.1;omega
  ·have:=hb _ _ hk;have:=(h.ow j _ _ hj).2.2.1;omega
  ·exact h.owI j k b l l' hj hk
 sB:=fun b p hs=>by
  rcases hs with hs | ⟨hs,_,_⟩
  ·exact Nat.lt_of_lt_of_le (h.sB b p hs) g.size
  ·exact hB b p hs
 fr:=h.fr.alloc g.os g.tape g.output g.size g.old
 sub:=fun b p hs=>.inl (h.sub b p hs)
 sup:=fun b p hs=>by
  rcases hs with hs | ⟨_,hs,_⟩
  ·exact h.sup b p hs
  ·exact .inr (.inl (Nat.le_trans h.fr.size hs))
 keep:=fun b p hs=>(g.cell (h.sB b p (h.sub b p hs))).trans (h.keep b p hs)
 fix_:=h.fix_
 tab:=h.tab
theorem xQ {P:Program}{f:Nat}{h:Hc}(hok:HcOk P f h):HcOk P f (Q3 h):=by
 intro R args id A K r F G ts cst w vals hid hrun Rl hv
 obtain ⟨hfn,hcalls⟩:=hok R (args.map V.bare) id ⟨[],[],[]⟩ _ r (yM G w) (tD G) #[] [] w vals (fun _=>rfl) hrun (KA Rl.gh) (hv.map_left _ fun a b h=>V.bare_sound h)
 refine ⟨hfn,hcalls.mono ?_⟩
 rintro e w' ⟨G',A',v,u,R',hu,⟨he,ks,_,hk⟩ | ⟨_,hk⟩⟩
 rotate_left
 ·cases hk
 have hg:Grown w w':=⟨R'.gh.fr.os,R'.gh.fr.tape,R'.gh.fr.output,R'.gh.fr.size,fun k hk=>R'.gh.fr.block k hk (fun h=>h)⟩
 split at hk
 rotate_left
 ·cases hk
 rename_i oc e1 e2 k2 xs own k n ks' heq
 cases heq
 cases hz:own == 0 with
 |true=>rw[hz] at hk;cases hk
 |false=>
 rw[hz] at hk
 simp only[cond_false,AS.force_eq] at hk
 have hi:own≠0:=by simpa using hz
 obtain ⟨us,rfl,hus⟩:=hu
 have hob:∀b,(G'.ow own).map (·.1)=some b→w.heap.size≤b∧b<w'.heap.size:=fun b hb=>by
  obtain ⟨p,hp,rfl⟩:=Option.map_eq_some_iff.1 hb
  obtain ⟨_,h2,h3,_⟩:=R'.gh.ow own p.1 p.2 hp
  exact ⟨by rcases h2 with h | h;exact h;exact h.elim,h3⟩
 have hgo:Goes G (ve G G' w.heap.size own ((G'.ow own).map (·.1))) w w' none (some own):=
  {kept:=fun b p hs=>⟨.inl hs,hg.cell (Rl.gh.sB b p hs)⟩
   mu:=fun _ _ hb _=>hb
   ow:=fun j b l hj hne=>by
    have:j≠own:=fun e=>hne (by rw[e])
    exact ⟨by simp[ve,this,hj],hg.old b (Rl.gh.ow j b l hj).2.2.1⟩ }
 have R2:Rel F (ve G G' w.heap.size own ((G'.ow own).map (·.1))) (A.map (C.noOwn own)) ts cst w':=
  Rl.map (fun c v h=>h.noOwn hgo) (fun _=>rfl) (fun key b hb=>⟨hb,hg.old b (Rl.gh.mu key b hb).2.2⟩) (Si Rl.gh hg R'.gh.sB own _ hob)
 refine ⟨_,_,.tup [(false,[.ex e1 (.sl e2 (.int k2)) 0 xs own own]),(false,[.int k n])],.tuple us,R2,⟨us,rfl,?_⟩,.inl ⟨he,some [],⟨hgo.kept,fun key b _ hb=>⟨hb,hg.old b (Rl.gh.mu key b hb).2.2⟩⟩,hk⟩⟩
 obtain ⟨u1,u2,hul⟩:∃u1 u2,us.toList=[u1,u2]:=by
  match h:us.toList with
  |[]=>rw[h] at hus;exact hus.elim
  |[_]=>rw[h] at hus;exact hus.2.elim
  |[a,b]=>exact ⟨a,b,rfl⟩
  |_::_::_::_=>rw[h] at hus;exact hus.2.2.elim
 rw[hul] at hus ⊢
 obtain ⟨hu1,hu2,_⟩:=hus
 have one:∀{c:C} {u:Value},RcOne G' w' (false,[c]) u→Rc G' w' c u:=by
  intro c u h
  rcases h with ⟨h,_⟩ | ⟨_,c',e,h⟩
  ·cases h
  ·have:c=c':=by simpa using e
   rw[this];exact h
 have hu1:=one hu1
 have hu2:=one hu2
 refine ⟨.inr ⟨rfl,_,rfl,?_⟩,.inr ⟨rfl,_,rfl,hu2⟩,trivial⟩
 obtain ⟨Ad,cap,rfl,h1,h2,hrow,hO⟩:=hu1
 rcases hO with hO | ⟨rfl,rfl⟩ | ⟨b,cur,el,rfl,how,hh,hcs⟩
 ·exact absurd hO hi
 ·have:xs=[]:=zF (by omega)
  subst this
  exact .inl ⟨rfl,rfl,rfl⟩
 ·refine .inr ⟨b,cap,by rw[Nat.zero_add],⟨hi,hi,.inl (by simp[ve,how])⟩,cur,el,hh,hcs,by rw[Nat.zero_add];exact h1,h2,fun q x hx=>?_⟩
  obtain ⟨b',o',c,e',hc,ha⟩:=hrow.cellAt hx
  cases e'
  have hfree:=(R'.gh.ow own b _ how).1
  refine ⟨c,?_,fun q' u hq=>?_⟩
  ·obtain ⟨Ai,capi,rfl,i1,i2,i3⟩:=hc
   refine ⟨Ai,capi,rfl,i1,i2,fun hne=>?_⟩
   obtain ⟨bi,oi,rfl,hin⟩:=i3 hne
   refine ⟨bi,oi,rfl,fun m y hy=>?_⟩
   obtain ⟨c,hc,hat⟩:=hin m y hy
   refine ⟨c,hc,fun q' u hq=>?_⟩
   obtain ⟨s1,s2⟩:=hat q' u hq
   refine ⟨?_,s2⟩
   rcases R'.gh.sup _ _ s1 with hs | hs
   ·exact .inl hs
   refine .inr ⟨s1,by rcases hs with h | h;exact h;exact h.elim,?_⟩
   rw[how]
   intro hbi
   simp only[Option.map_some,zC] at hbi
   subst hbi
   have hlt:oi+m*Ty.size (.int k2)+q'<xs.length*Ty.size (.sl e2 (.int k2)):=by
    rcases Nat.lt_or_ge (oi+m*Ty.size (.int k2)+q') (xs.length*Ty.size (.sl e2 (.int k2))) with h | h
    ·exact h
    ·exact absurd s1 (hfree _ h)
   have hlt:oi+m*Ty.size (.int k2)+q'<xs.length:=by simpa [Ty.size] using hlt
   obtain ⟨y2,hy2⟩:∃y2,xs[oi+m*Ty.size (.int k2)+q']?=some y2:=⟨_,List.getElem?_eq_getElem hlt⟩
   obtain ⟨b2,o2,c2,e2',hc2,ha2⟩:=hrow.cellAt hy2
   cases e2'
   obtain ⟨A2,cap2,rfl,_⟩:=hc2
   have:=(ha2 0 _ rfl).2
   have e3:0+(oi+m*Ty.size (.int k2)+q')*Ty.size (.sl e2 (.int k2))+0=oi+m*Ty.size (.int k2)+q':=by simp[Ty.size]
   rw[e3,s2] at this
   obtain ⟨rfl,_⟩:=hc
   cases q' with
   |zero=>
    simp only[List.getElem?_cons_zero,zC] at hq
    subst hq
    simp at this
   |succ q'=>simp at hq
  ·have:=(ha q' u hq).2
   rw[cM hh,Array.getElem?_toList] at this
   rw[Nat.zero_add] at this ⊢
   exact this
end
end Go.Proofs.YthpcdhgpplmneaaGreatDoor.Sym
