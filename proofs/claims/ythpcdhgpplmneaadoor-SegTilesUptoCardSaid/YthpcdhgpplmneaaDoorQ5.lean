/- batch: head, Decode, Rebase. -/
import Derived.Test.YthpcdhgpplmneaaDoorQ4

set_option linter.unusedVariables false
set_option linter.unusedSimpArgs false
namespace Go.Proofs.YthpcdhgpplmneaaDoor.Sym
open Go
open Go.IntKind (i8 i16 i32 i64 u8 u16 u32 u64)
noncomputable section
def Ab (a0:LI):Option (Out ((wU×Int×Unit)×Unit) Empty):=bif bk (aF (a0.take 61) 0 8) then oR (((0,0,0,false,0,0,0,0,0,0,()),80,()),()) else bif aF (a0.take 61) (0+8+4+4+1+4) 2 != 0&&!aF (a0.take 61) (0+8+4+4+1+4) 2 == 1 then oR (((0,0,0,false,0,0,0,0,0,0,()),83,()),()) else bif bc (aF (a0.take 61) (0+8+4+4+1+4+2+4+8+8) 8) (aF (a0.take 61) (0+8+4+4+1+4+2+4+8+8+8) 2) (aF (a0.take 61) (0+8+4+4+1+4+2+4+8+8+8+2) 4) then oR (((0,0,0,false,0,0,0,0,0,0,()),84,()),()) else bif decide (aF (a0.take 61) (0+8+4+4+1+4+2+4+8+8+8+2+4) 4<1) then oR (((0,0,0,false,0,0,0,0,0,0,()),85,()),()) else bif decide (256<aF (a0.take 61) (0+8+4+4+1+4+2+4+8+8+8+2+4) 4) then oR (((0,0,0,false,0,0,0,0,0,0,()),9,()),()) else bif aF (a0.take 61) (0+8+4+4+1+4+2) 4 != i32.wrap (aF (a0.take 61) (0+8+4+4+1+4+2+4+8+8+8+2+4) 4 - 1) then oR (((0,0,0,false,0,0,0,0,0,0,()),72,()),()) else bif (aj a0 0).2 != 0 then oR (((0,0,0,false,0,0,0,0,0,0,()),(aj a0 0).2,()),()) else oR (((aF (a0.take 61) 0 8,(aj a0 0).1,aF (a0.take 61) (0+8+4) 4,aF (a0.take 61) (0+8+4+4+1+4) 2 == 1,i64.wrap (aF (a0.take 61) (0+8+4+4+1+4+2+4+8+8+8+2+4) 4),aF (a0.take 61) (0+8+4+4+1+4+2+4) 8,aF (a0.take 61) (0+8+4+4+1+4+2+4+8) 8,aF (a0.take 61) (0+8+4+4+1+4+2+4+8+8) 8,aF (a0.take 61) (0+8+4+4+1+4+2+4+8+8+8) 2,aF (a0.take 61) (0+8+4+4+1+4+2+4+8+8+8+2) 4,()),0,()),())
theorem HX {b:LI}{p:Nat}(h:p<b.length):(b.drop p).take 1=[b.getD p 0]:=by
 rw[zE h,List.take_succ_cons,List.take_zero,aA h]
theorem J8 {b:LI}{p:Nat}(h:p+1<b.length):(b.drop p).take 2=[b.getD p 0,b.getD (p+1) 0]:=by
 rw[zE (show p<b.length by omega),List.take_succ_cons,HX h,aA (show p<b.length by omega)]
theorem Lt {b:LI}{p:Nat}(h:p<b.length):ay b p 1=if 128≤b.getD p 0 then b.getD p 0 - 256 else b.getD p 0:=by
 unfold ay;rw[HX h];rfl
theorem Lu {b:LI}{p:Nat}(h:p+1<b.length):ay b p 2=(if 128≤b.getD p 0 then b.getD p 0 - 256 else b.getD p 0)*256+b.getD (p+1) 0:=by
 unfold ay;rw[J8 h];rfl
theorem JM:∀{l:LI},(∀c∈l,0≤c∧c≤255)→l.length=4→u32.wrap (fF l)=aB l
 |[a,b,c,d],h,_=>by
  have ha:=h a (by simp)
  have hb:=h b (by simp)
  have hc:=h c (by simp)
  have hd:=h d (by simp)
  simp only[aB,fF,List.foldl_cons,List.foldl_nil]
  simp[IntKind.wrap,IntKind.signed,IntKind.bits] <;> (try split) <;> omega
theorem Bs:∀{l:LI},(∀c∈l,0≤c∧c≤255)→l.length=4→∀{x:Int},0≤x→x<4294967296→(l=aI x 4↔aB l=x)
 |[a,b,c,d],h,_,x,h0,h1=>by
  have ha:=h a (by simp)
  have hb:=h b (by simp)
  have hc:=h c (by simp)
  have hd:=h d (by simp)
  simp only[aB,aI,List.foldl_cons,List.foldl_nil,List.cons.injEq,and_true]
  constructor
  ·rintro ⟨rfl,rfl,rfl,rfl⟩
   omega
  ·intro h
   omega
theorem HF (c:Int){b:LI}(hc:0≤c∧c<4294967296)(hb:∀x∈b,0≤x∧x≤255):0≤cC c b∧cC c b<4294967296:=by
 unfold cC
 have h1:=Nat.xor_lt_two_pow (n:=32) (show c.toNat<2 ^ 32 by omega) (show 4294967295<2 ^ 32 by decide)
 have h2:=Nat.xor_lt_two_pow (n:=32) (p8 hb h1) (show 4294967295<2 ^ 32 by decide)
 omega
theorem f5 {b:LI}{p:Int}(h:(aj b p).2=0):61≤(aj b p).1∧(aj b p).1≤36000∧p+(aj b p).1≤(b.length:Int)∧0≤p:=by
 unfold aj at h ⊢
 split
 ·rename_i h1;rw[if_pos h1] at h;cases h
 rename_i h1;rw[if_neg h1] at h
 split
 ·rename_i h2;rw[if_pos h2] at h;cases h
 rename_i h2;rw[if_neg h2] at h
 split
 ·rename_i h3;rw[if_pos h3] at h;cases h
 rename_i h3;rw[if_neg h3] at h
 split
 ·rename_i h4;rw[if_pos h4] at h;cases h
 rename_i h4;rw[if_neg h4] at h
 split
 ·rename_i h5;rw[if_pos h5] at h;cases h
 simp only
 omega
theorem Dk {b:LI}(hb:∀c∈b,0≤c∧c≤255)(hl:61≤b.length)(h0:(aj b 0).2=0)(h1:¬(aj b 0).1<(b.length:Int)):
  Ab b=some (.ret ((if bk (ay b 0 8)=true then (da,(80,())) else if b.getD 21 0≠0∨1<b.getD 22 0 then (da,(83,())) else if bc (ay b 43 8) (ay b 51 2) (ay b 53 4)=true then (da,(84,())) else if ay b 57 4<1 then (da,(85,())) else if 256<ay b 57 4 then (da,(9,())) else if ay b 23 4≠ay b 57 4 - 1 then (da,(72,())) else (o5 b,(0,()))),())):=by
 have hz:∀p n:Nat,p+n≤61→aF (b.take 61) (p:Int) n=ay b p n:=by
  intro p n h
  rw[jb]
  unfold ay
  rw[List.drop_take,List.take_take,Nat.min_eq_left (by omega)]
 have z0:aF (b.take 61) 0 8=ay b 0 8:=hz 0 8 (by decide)
 have z12:aF (b.take 61) (0+8+4) 4=ay b 12 4:=hz 12 4 (by decide)
 have z21:aF (b.take 61) (0+8+4+4+1+4) 2=ay b 21 2:=hz 21 2 (by decide)
 have z23:aF (b.take 61) (0+8+4+4+1+4+2) 4=ay b 23 4:=hz 23 4 (by decide)
 have z27:aF (b.take 61) (0+8+4+4+1+4+2+4) 8=ay b 27 8:=hz 27 8 (by decide)
 have z35:aF (b.take 61) (0+8+4+4+1+4+2+4+8) 8=ay b 35 8:=hz 35 8 (by decide)
 have z43:aF (b.take 61) (0+8+4+4+1+4+2+4+8+8) 8=ay b 43 8:=hz 43 8 (by decide)
 have z51:aF (b.take 61) (0+8+4+4+1+4+2+4+8+8+8) 2=ay b 51 2:=hz 51 2 (by decide)
 have z53:aF (b.take 61) (0+8+4+4+1+4+2+4+8+8+8+2) 4=ay b 53 4:=hz 53 4 (by decide)
 have z57:aF (b.take 61) (0+8+4+4+1+4+2+4+8+8+8+2+4) 4=ay b 57 4:=hz 57 4 (by decide)
 have a21:=Lu (b:=b) (p:=21) (by omega)
 have hat:∀i,0≤b.getD i 0∧b.getD i 0≤255:=fun i=>by
  rw[List.getD_eq_getElem?_getD]
  cases e:b[i]? with
  |none=>exact ⟨by decide,by decide⟩
  |some x=>exact hb x (List.mem_of_getElem? e)
 have g21:=hat 21
 have g22:=hat 22
 have hm:=f5 h0
 have hsz:(aj b 0).1=(b.length:Int):=by omega
 unfold Ab
 rw[z0,z12,z21,z23,z27,z35,z43,z51,z53,z57,h0,hsz]
 have hI:o5 b=(ay b 0 8,(b.length:Int),ay b 12 4,decide (b.getD 22 0=1),ay b 57 4,ay b 27 8,ay b 35 8,ay b 43 8,ay b 51 2,ay b 53 4,()):=rfl
 rw[hI,a21]
 generalize b.getD 21 0=x at *
 generalize b.getD (21+1) 0=y at *
 generalize ay b 0 8=base at *
 generalize ay b 57 4=cnt at *
 generalize ay b 23 4=mst at *
 cases c1:bk base with
 |true=>exact (aa rfl _ _)
 |false=>
 refine (ac rfl _ _).trans ?_
 rw[if_neg (show ¬ false=true by decide)]
 by_cases c2:x≠0∨1<y
 ·refine (aa ?_ _ _).trans ?_
  ·simp only[zA,Bool.not_eq_true',bne_iff_ne,beq_eq_false_iff_ne]
   split <;> omega
  ·rw[if_pos c2]
   rfl
 refine (ac ?_ _ _).trans ?_
 ·by_cases hy:y=0
  ·rw[show (if 128≤x then x - 256 else x)*256+y=0 by rw[if_neg (by omega)];omega]
   rfl
  ·rw[show (if 128≤x then x - 256 else x)*256+y=1 by rw[if_neg (by omega)];omega]
   rfl
 rw[if_neg c2]
 have hx:x=0:=by omega
 have hxy:((if 128≤x then x - 256 else x)*256+y == 1)=decide (y=1):=by
  subst hx
  rw[if_neg (by decide),show (0:Int)*256+y=y by omega]
  by_cases h:y=1 <;> simp[h]
 rw[hxy]
 cases c3:bc (ay b 43 8) (ay b 51 2) (ay b 53 4) with
 |true=>exact (aa rfl _ _)
 |false=>
 refine (ac rfl _ _).trans ?_
 rw[if_neg (show ¬ false=true by decide)]
 by_cases c4:cnt<1
 ·refine bT (decide_eq_true c4) ?_
  rw[if_pos c4]
  rfl
 refine bF (decide_eq_false c4) ?_
 rw[if_neg c4]
 by_cases c5:256<cnt
 ·refine bT (decide_eq_true c5) ?_
  rw[if_pos c5]
  rfl
 refine bF (decide_eq_false c5) ?_
 rw[if_neg c5,bG (k:=.i32) (n:=cnt - 1) (by simp[bu,IntKind.min,IntKind.max,IntKind.signed,IntKind.bits];omega),af (n:=cnt) (by omega) (by omega)]
 by_cases c6:mst=cnt - 1
 ·refine bF (by simpa using c6) ?_
  rw[if_neg (aD c6)]
  exact ac rfl _ _
 ·refine bT (by simpa using c6) ?_
  rw[if_pos c6]
  rfl
abbrev gU:Io:=⟨[dL,dB],[],[],[Ld,dI],none⟩
def zp (d:gU.In):Tr gU.Res:=.ite (decide (d.1.1.length≤4294960000)) (.ret (.ret (((ao d.1.1 d.1.2.1).1,(ao d.1.1 d.1.2.1).2,()),()))) .no
abbrev Bx:List (Nat×Hc):=[(39,ah fQ qz),(46,ah hY vg),(47,ah vH JT),(48,ah qe EU),(49,ah vG JS),(50,ah Ci K1),(51,ah vF JR),(52,ah jp zu),(53,ah jm zo),(54,ah gV zr)]
def Ip:Hd:=b8 Bx
def Cm:Lp:=cp []
def tn (a0:LI)(a1:Bool):Option gU.Res:=bif decide ((↑a0.length:Int)<61) then oR (((0,0,0,false,0,0,0,0,0,0,()),1,()),()) else bif decide (a0.length≤4294960000) then bif (aj a0 0).2 != 0 then oR (((0,0,0,false,0,0,0,0,0,0,()),(aj a0 0).2,()),()) else bif decide ((aj a0 0).1<(↑a0.length:Int)) then oR (((0,0,0,false,0,0,0,0,0,0,()),2,()),()) else bif decide (0≤0)&&(decide (0≤61)&&decide (61≤(↑a0.length:Int))) then bif decide ((List.drop (Int.toNat 0) (List.take (Int.toNat 61) a0)).length≤4294967296) then bif gQ (List.drop (Int.toNat 0) (List.take (Int.toNat 61) a0)) 0 8 then bif gQ (List.drop (Int.toNat 0) (List.take (Int.toNat 61) a0)) (0+8) 4&&decide (0≤4) then bif gQ (List.drop (Int.toNat 0) (List.take (Int.toNat 61) a0)) (0+8+4) 4 then bif gQ (List.drop (Int.toNat 0) (List.take (Int.toNat 61) a0)) (0+8+4+4) 1 then bif gQ (List.drop (Int.toNat 0) (List.take (Int.toNat 61) a0)) (0+8+4+4+1) 4 then bif gQ (List.drop (Int.toNat 0) (List.take (Int.toNat 61) a0)) (0+8+4+4+1+4) 2 then bif gQ (List.drop (Int.toNat 0) (List.take (Int.toNat 61) a0)) (0+8+4+4+1+4+2) 4 then bif gQ (List.drop (Int.toNat 0) (List.take (Int.toNat 61) a0)) (0+8+4+4+1+4+2+4) 8 then bif gQ (List.drop (Int.toNat 0) (List.take (Int.toNat 61) a0)) (0+8+4+4+1+4+2+4+8) 8 then bif gQ (List.drop (Int.toNat 0) (List.take (Int.toNat 61) a0)) (0+8+4+4+1+4+2+4+8+8) 8 then bif gQ (List.drop (Int.toNat 0) (List.take (Int.toNat 61) a0)) (0+8+4+4+1+4+2+4+8+8+8) 2 then bif gQ (List.drop (Int.toNat 0) (List.take (Int.toNat 61) a0)) (0+8+4+4+1+4+2+4+8+8+8+2) 4 then bif gQ (List.drop (Int.toNat 0) (List.take (Int.toNat 61) a0)) (0+8+4+4+1+4+2+4+8+8+8+2+4) 4 then bif aF (List.drop (Int.toNat 0) (List.take (Int.toNat 61) a0)) (0+8+4+4) 1 != 2 then oR (((0,0,0,false,0,0,0,0,0,0,()),81,()),()) else bif a1 then bif decide (0≤21)&&(decide (21≤(↑a0.length:Int))&&decide ((↑a0.length:Int)≤(↑a0.length:Int))) then bif u32.wrap (aF (List.drop (Int.toNat 0) (List.take (Int.toNat 61) a0)) (0+8+4+4+1) 4) != sy [List.drop (Int.toNat 21) (List.take (↑a0.length:Int).toNat a0)] 0 then oR (((0,0,0,false,0,0,0,0,0,0,()),82,()),()) else bif bk (aF (List.drop (Int.toNat 0) (List.take (Int.toNat 61) a0)) 0 8) then oR (((0,0,0,false,0,0,0,0,0,0,()),80,()),()) else bif aF (List.drop (Int.toNat 0) (List.take (Int.toNat 61) a0)) (0+8+4+4+1+4) 2 != 0&&!aF (List.drop (Int.toNat 0) (List.take (Int.toNat 61) a0)) (0+8+4+4+1+4) 2 == 1 then oR (((0,0,0,false,0,0,0,0,0,0,()),83,()),()) else bif bc (aF (List.drop (Int.toNat 0) (List.take (Int.toNat 61) a0)) (0+8+4+4+1+4+2+4+8+8) 8) (aF (List.drop (Int.toNat 0) (List.take (Int.toNat 61) a0)) (0+8+4+4+1+4+2+4+8+8+8) 2) (aF (List.drop (Int.toNat 0) (List.take (Int.toNat 61) a0)) (0+8+4+4+1+4+2+4+8+8+8+2) 4) then oR (((0,0,0,false,0,0,0,0,0,0,()),84,()),()) else bif decide (aF (List.drop (Int.toNat 0) (List.take (Int.toNat 61) a0)) (0+8+4+4+1+4+2+4+8+8+8+2+4) 4<1) then oR (((0,0,0,false,0,0,0,0,0,0,()),85,()),()) else bif decide (256<aF (List.drop (Int.toNat 0) (List.take (Int.toNat 61) a0)) (0+8+4+4+1+4+2+4+8+8+8+2+4) 4) then oR (((0,0,0,false,0,0,0,0,0,0,()),9,()),()) else bif aF (List.drop (Int.toNat 0) (List.take (Int.toNat 61) a0)) (0+8+4+4+1+4+2) 4 != i32.wrap (aF (List.drop (Int.toNat 0) (List.take (Int.toNat 61) a0)) (0+8+4+4+1+4+2+4+8+8+8+2+4) 4 - 1) then oR (((0,0,0,false,0,0,0,0,0,0,()),72,()),()) else bif (aj a0 0).2 != 0 then oR (((0,0,0,false,0,0,0,0,0,0,()),(aj a0 0).2,()),()) else oR (((aF (List.drop (Int.toNat 0) (List.take (Int.toNat 61) a0)) 0 8,(aj a0 0).1,aF (List.drop (Int.toNat 0) (List.take (Int.toNat 61) a0)) (0+8+4) 4,aF (List.drop (Int.toNat 0) (List.take (Int.toNat 61) a0)) (0+8+4+4+1+4) 2 == 1,i64.wrap (aF (List.drop (Int.toNat 0) (List.take (Int.toNat 61) a0)) (0+8+4+4+1+4+2+4+8+8+8+2+4) 4),aF (List.drop (Int.toNat 0) (List.take (Int.toNat 61) a0)) (0+8+4+4+1+4+2+4) 8,aF (List.drop (Int.toNat 0) (List.take (Int.toNat 61) a0)) (0+8+4+4+1+4+2+4+8) 8,aF (List.drop (Int.toNat 0) (List.take (Int.toNat 61) a0)) (0+8+4+4+1+4+2+4+8+8) 8,aF (List.drop (Int.toNat 0) (List.take (Int.toNat 61) a0)) (0+8+4+4+1+4+2+4+8+8+8) 2,aF (List.drop (Int.toNat 0) (List.take (Int.toNat 61) a0)) (0+8+4+4+1+4+2+4+8+8+8+2) 4,()),0,()),()) else none else bif bk (aF (List.drop (Int.toNat 0) (List.take (Int.toNat 61) a0)) 0 8) then oR (((0,0,0,false,0,0,0,0,0,0,()),80,()),()) else bif aF (List.drop (Int.toNat 0) (List.take (Int.toNat 61) a0)) (0+8+4+4+1+4) 2 != 0&&!aF (List.drop (Int.toNat 0) (List.take (Int.toNat 61) a0)) (0+8+4+4+1+4) 2 == 1 then oR (((0,0,0,false,0,0,0,0,0,0,()),83,()),()) else bif bc (aF (List.drop (Int.toNat 0) (List.take (Int.toNat 61) a0)) (0+8+4+4+1+4+2+4+8+8) 8) (aF (List.drop (Int.toNat 0) (List.take (Int.toNat 61) a0)) (0+8+4+4+1+4+2+4+8+8+8) 2) (aF (List.drop (Int.toNat 0) (List.take (Int.toNat 61) a0)) (0+8+4+4+1+4+2+4+8+8+8+2) 4) then oR (((0,0,0,false,0,0,0,0,0,0,()),84,()),()) else bif decide (aF (List.drop (Int.toNat 0) (List.take (Int.toNat 61) a0)) (0+8+4+4+1+4+2+4+8+8+8+2+4) 4<1) then oR (((0,0,0,false,0,0,0,0,0,0,()),85,()),()) else bif decide (256<aF (List.drop (Int.toNat 0) (List.take (Int.toNat 61) a0)) (0+8+4+4+1+4+2+4+8+8+8+2+4) 4) then oR (((0,0,0,false,0,0,0,0,0,0,()),9,()),()) else bif aF (List.drop (Int.toNat 0) (List.take (Int.toNat 61) a0)) (0+8+4+4+1+4+2) 4 != i32.wrap (aF (List.drop (Int.toNat 0) (List.take (Int.toNat 61) a0)) (0+8+4+4+1+4+2+4+8+8+8+2+4) 4 - 1) then oR (((0,0,0,false,0,0,0,0,0,0,()),72,()),()) else bif (aj a0 0).2 != 0 then oR (((0,0,0,false,0,0,0,0,0,0,()),(aj a0 0).2,()),()) else oR (((aF (List.drop (Int.toNat 0) (List.take (Int.toNat 61) a0)) 0 8,(aj a0 0).1,aF (List.drop (Int.toNat 0) (List.take (Int.toNat 61) a0)) (0+8+4) 4,aF (List.drop (Int.toNat 0) (List.take (Int.toNat 61) a0)) (0+8+4+4+1+4) 2 == 1,i64.wrap (aF (List.drop (Int.toNat 0) (List.take (Int.toNat 61) a0)) (0+8+4+4+1+4+2+4+8+8+8+2+4) 4),aF (List.drop (Int.toNat 0) (List.take (Int.toNat 61) a0)) (0+8+4+4+1+4+2+4) 8,aF (List.drop (Int.toNat 0) (List.take (Int.toNat 61) a0)) (0+8+4+4+1+4+2+4+8) 8,aF (List.drop (Int.toNat 0) (List.take (Int.toNat 61) a0)) (0+8+4+4+1+4+2+4+8+8) 8,aF (List.drop (Int.toNat 0) (List.take (Int.toNat 61) a0)) (0+8+4+4+1+4+2+4+8+8+8) 2,aF (List.drop (Int.toNat 0) (List.take (Int.toNat 61) a0)) (0+8+4+4+1+4+2+4+8+8+8+2) 4,()),0,()),()) else none else none else none else none else none else none else none else none else none else none else none else none else none else none else none else none
theorem GT (a0:LI)(a1:Bool):Io.run tt Ip L6 Cm gU Tryd.f27 ((a0,a1,()),())=tn a0 a1:=by kernel_rfl
theorem IV:HcOk prog 27 (ah gU zp):=by
 refine DB (n:=400) hm (cs:=Bx) (.cons wj (.cons CT (.cons Kt (.cons I2 (.cons Kr (.cons Lm (.cons Kq (.cons IZ (.cons IU (.cons IX .nil)))))))))) (lp:=Cm) (fn:=Tryd.f27) (by kernel_rfl) (by kernel_rfl) (by kernel_rfl) gU (.done (by kernel_rfl)) zp ?_
 rintro ⟨⟨(b:LI),(sm:Bool),⟨⟩⟩,⟨⟩⟩ out hw ho
 obtain ⟨hg,ho⟩:=Tr.guard ho
 have hg2:b.length≤4294960000:=of_decide_eq_true hg
 clear hg
 cases ho
 have hb:∀c∈b,0≤c∧c≤255:=d7 hw.1.1
 refine (GT b sm).trans ?_
 show _=oR (((ao b sm).1,(ao b sm).2,()),())
 have eE:bK b sm=if (b.length:Int)<61 then 1 else if (aj b 0).2≠0 then (aj b 0).2 else if (aj b 0).1<(b.length:Int) then 2 else if b.getD 16 0≠2 then 81 else if sm=true∧fV b=false then 82
   else if bk (ay b 0 8)=true then 80 else if b.getD 21 0≠0∨1<b.getD 22 0 then 83 else if bc (ay b 43 8) (ay b 51 2) (ay b 53 4)=true then 84 else if ay b 57 4<1 then 85 else if 256<ay b 57 4 then 9 else if ay b 23 4≠ay b 57 4 - 1 then 72 else 0:=rfl
 have fin:∀e:Int,e≠0→bK b sm=e→some (Out.ret ((da,(e,())),()):gU.Res)=oR (((ao b sm).1,(ao b sm).2,()),()):=by
  intro e he h
  have:ao b sm=(da,e):=by unfold ao;rw[h,if_pos he]
  rw[this]
 unfold tn
 by_cases h1:(b.length:Int)<61
 ·refine bT (decide_eq_true h1) ?_
  exact fin 1 (by decide) (by rw[eE,if_pos h1])
 refine bF (decide_eq_false h1) ?_
 rw[if_neg h1] at eE
 refine bT (decide_eq_true hg2) ?_
 by_cases h2:(aj b 0).2=0
 rotate_left
 ·refine bT (by simpa using h2) ?_
  exact fin _ h2 (by rw[eE,if_pos h2])
 refine bF (by simpa using h2) ?_
 rw[if_neg (aD h2)] at eE
 by_cases h3:(aj b 0).1<(b.length:Int)
 ·refine bT (decide_eq_true h3) ?_
  exact fin 2 (by decide) (by rw[eE,if_pos h3])
 refine bF (decide_eq_false h3) ?_
 rw[if_neg h3] at eE
 have hH:(List.drop (Int.toNat 0) (List.take (Int.toNat 61) b))=b.take 61:=rfl
 have hHl:(b.take 61).length=61:=by simp;omega
 rw[hH]
 refine bT (by simp only[zA,zB];omega) ?_
 refine bT (by rw[hHl];decide) ?_
 have rm:∀p n:Int,0≤p→p+n≤61→gQ (b.take 61) p n=true:=by
  intro p n g1 g2
  unfold gQ
  simp only[hHl,zA,zB]
  omega
 refine (aa (rm 0 8 (by decide) (by decide)) _ _).trans ?_
 refine bT (by rw[rm (0+8) 4 (by decide) (by decide)];rfl) ?_
 refine (aa (rm (0+8+4) 4 (by decide) (by decide)) _ _).trans ?_
 refine (aa (rm (0+8+4+4) 1 (by decide) (by decide)) _ _).trans ?_
 refine (aa (rm (0+8+4+4+1) 4 (by decide) (by decide)) _ _).trans ?_
 refine (aa (rm (0+8+4+4+1+4) 2 (by decide) (by decide)) _ _).trans ?_
 refine (aa (rm (0+8+4+4+1+4+2) 4 (by decide) (by decide)) _ _).trans ?_
 refine (aa (rm (0+8+4+4+1+4+2+4) 8 (by decide) (by decide)) _ _).trans ?_
 refine (aa (rm (0+8+4+4+1+4+2+4+8) 8 (by decide) (by decide)) _ _).trans ?_
 refine (aa (rm (0+8+4+4+1+4+2+4+8+8) 8 (by decide) (by decide)) _ _).trans ?_
 refine (aa (rm (0+8+4+4+1+4+2+4+8+8+8) 2 (by decide) (by decide)) _ _).trans ?_
 refine (aa (rm (0+8+4+4+1+4+2+4+8+8+8+2) 4 (by decide) (by decide)) _ _).trans ?_
 refine (aa (rm (0+8+4+4+1+4+2+4+8+8+8+2+4) 4 (by decide) (by decide)) _ _).trans ?_
 have hz:∀p n:Nat,p+n≤61→aF (b.take 61) (p:Int) n=ay b p n:=by
  intro p n h
  rw[jb]
  unfold ay
  rw[List.drop_take,List.take_take,Nat.min_eq_left (by omega)]
 have z16:aF (b.take 61) (0+8+4+4) 1=ay b 16 1:=hz 16 1 (by decide)
 have z17:aF (b.take 61) (0+8+4+4+1) 4=ay b 17 4:=hz 17 4 (by decide)
 have a16:=Lt (b:=b) (p:=16) (by omega)
 have c16:=Bu hw.1.1 16
 rw[z16,a16]
 by_cases h4:b.getD 16 0=2
 rotate_left
 ·refine bT (by simp only[bne_iff_ne];have c16:0≤b.getD 16 0∧b.getD 16 0≤255:=c16;split <;> omega) ?_
  exact fin 81 (by decide) (by rw[eE,if_pos h4])
 refine bF (by rw[h4];rfl) ?_
 rw[if_neg (aD h4)] at eE
 have hT:=Dk hb (by omega) h2 h3
 have fin2:¬(sm=true∧fV b=false)→Ab b=oR (((ao b sm).1,(ao b sm).2,()),()):=by
  intro hn
  rw[if_neg hn] at eE
  rw[hT]
  have hs:ao b sm=if bK b sm≠0 then (da,bK b sm) else (o5 b,0):=rfl
  rw[hs,eE]
  by_cases d1:bk (ay b 0 8)=true
  ·rw[if_pos d1,if_pos d1,if_pos (by decide)]
  rw[if_neg d1,if_neg d1]
  by_cases d2:b.getD 21 0≠0∨1<b.getD 22 0
  ·rw[if_pos d2,if_pos d2,if_pos (by decide)]
  rw[if_neg d2,if_neg d2]
  by_cases d3:bc (ay b 43 8) (ay b 51 2) (ay b 53 4)=true
  ·rw[if_pos d3,if_pos d3,if_pos (by decide)]
  rw[if_neg d3,if_neg d3]
  by_cases d4:ay b 57 4<1
  ·rw[if_pos d4,if_pos d4,if_pos (by decide)]
  rw[if_neg d4,if_neg d4]
  by_cases d5:256<ay b 57 4
  ·rw[if_pos d5,if_pos d5,if_pos (by decide)]
  rw[if_neg d5,if_neg d5]
  by_cases d6:ay b 23 4≠ay b 57 4 - 1
  ·rw[if_pos d6,if_pos d6,if_pos (by decide)]
  rw[if_neg d6,if_neg d6,if_neg (by decide)]
 cases sm with
 |false=>
  refine (ac rfl _ _).trans ?_
  exact fin2 (fun h=>by cases h.1)
 |true=>
  refine (aa rfl _ _).trans ?_
  rw[zG,List.take_length,show Int.toNat 21=21 from rfl]
  refine bT (by simp only[zA,zB];omega) ?_
  rw[z17]
  have hL:=cT (b:=b) (p:=17) (n:=4) (by omega)
  have hLr:=dH hb 17 4
  have hcr:=HF 0 (by decide) (b:=b.drop 21) (fun c hc=>hb c (List.mem_of_mem_drop hc))
  have hS:fV b=decide (aB ((b.drop 17).take 4)=cC 0 (b.drop 21)):=by
   unfold fV
   by_cases h:(b.drop 17).take 4=aI (cC 0 (b.drop 21)) 4
   ·rw[if_pos h,decide_eq_true ((Bs hLr hL hcr.1 hcr.2).1 h)]
   ·rw[if_neg h,decide_eq_false (fun h'=>h ((Bs hLr hL hcr.1 hcr.2).2 h'))]
  have hw17:u32.wrap (ay b 17 4)=aB ((b.drop 17).take 4):=JM hLr hL
  rw[hw17]
  by_cases h5:aB ((b.drop 17).take 4)=cC 0 (b.drop 21)
  ·refine bF (by show (aB ((b.drop 17).take 4) != cC 0 (b.drop 21))=false;simp[h5]) ?_
   exact fin2 (fun h=>by rw[hS,decide_eq_true h5] at h;cases h.2)
  ·refine bT (by show (aB ((b.drop 17).take 4) != cC 0 (b.drop 21))=true;simp[h5]) ?_
   exact fin 82 (by decide) (by rw[eE,if_pos ⟨rfl,by rw[hS,decide_eq_false h5]⟩])
abbrev iz:Io:=⟨[dL],[],[],[Ao,dI],none⟩
def wT (d:iz.In):Tr iz.Res:=.ite (decide (d.1.1.length≤4294960000)) (.ret (.ret (((an d.1.1).1,(an d.1.1).2,()),()))) .no
abbrev Fk:List (Nat×Hc):=[(27,ah gU zp),(28,ah gj uP),(29,ah mc EV),(30,ah eZ qA),(31,ah jn zq)]
def FO:Hd:=b8 Fk
abbrev cW:Lo:=⟨⟨(bN (.one (.ptr 2 0)::.any::.one (.ptr 4 0)::.any::.one (.hol (.sl 5 (Ty.int u8)))::.one (.ptr 7 0)::.one hI::.any::ai (ai (b9 (.one hI::.one hI::ai (ai (dZ (b9 (bN []))))))))),[none,none,some [hI,hJ,hI,hK,hJ,.onl 75 aK 1036],none,some [hI,hI,hJ,hL,hI,hI,hI,hI,hK,hJ],none,none,some [hI,hJ,hI,hK,hJ,.onl 75 aK 3596]]⟩,[(.ret,⟨(bN (.one (.ptr 2 0)::.one hI::ai (ai (ai (ai (ai (dZ (bN [])))))))),[none,none,some [hI,hJ,hI,hK,hJ,.onl 75 aK 129]]⟩),(.ret,⟨(bN (.one (.ptr 2 0)::.one hI::ai (ai (ai (ai (ai (dZ (bN [])))))))),[none,none,some [hI,hJ,hI,hK,hJ,.onl 75 aK 153]]⟩),(.exit 0,⟨(bN (.one (.ptr 2 0)::.any::.one (.ptr 4 0)::.any::.one (.hol (.sl 5 (Ty.int u8)))::.one (.ptr 7 0)::.one hI::.any::ai (ai (ai (ai (ai (b9 []))))))),[none,none,some [hI,hJ,hI,hK,hJ,.onl 75 aK 1036],none,some [hI,hI,hJ,hL,hI,hI,hI,hI,hK,hJ],none,none,some [hI,hJ,hI,hK,hJ,.onl 75 aK 3596]]⟩)]⟩
def KV:dz:=(0,(0,(0,(0,(0,([],()))))))
def jV (blk:LI)(f:Int):Nat→Nat→Int→List bf→Int×Int×Int×List bf
 |0,_,p,out=>(0,0,p,out)
 |n+1,i,p,out=>
  if (ak blk p).2.2≠0 then ((ak blk p).2.2,0,0,[])
  else if (be (ak blk p).1 (i:Int) f).2≠0 then (0,(be (ak blk p).1 (i:Int) f).2,0,[])
  else jV blk f n (i+1) (ak blk p).2.1 (out++[(be (ak blk p).1 (i:Int) f).1])
def Br (blk:LI)(z:dz)(info:wU)(b1 b2 b3 b4 b5:Int)(x:Int×Int×Int×List bf):Tr (am cW.xs):=
 .ite (decide (x.1≠0)) (.ret (.ret ((),((x.1,()),(KV,())))))
  (.ite (decide (x.2.1≠0)) (.ret (.pan (.ret ((),((x.2.1,()),(KV,()))))))
   (.ret (.pan (.pan (.ret ((),((blk,(x.2.2.1,())),(z,(info,((b1,(b2,(b3,(b4,(b5,(x.2.2.2,())))))),()))))))))))
def qy (d:cW.st.den):Tr (am cW.xs):=
 .ite (decide (d.1.2.2.2.1=0)&&(decide (d.2.2.2.1.2.2.2.2.2.1.length=0)&&(decide ((0:Int)≤d.1.2.2.1)&&decide (d.1.2.2.1≤(4294960000:Int)))))
  (Br d.1.1 d.2.1 d.2.2.1 d.2.2.2.1.1 d.2.2.2.1.2.1 d.2.2.2.1.2.2.1 d.2.2.2.1.2.2.2.1 d.2.2.2.1.2.2.2.2.1 (jV d.1.1 d.2.2.1.2.2.2.2.2.1 d.1.2.2.1.toNat 0 d.1.2.1 [])) .no
def v5:Lp:=cp [(11,aC cW qy)]
def kS {R:Type}(h1:LI)(h2 h3 h4 h5 h6 h7 h8 h9:Int)(h10:List aK.den)(h11 h12 h13:Int)(h14:Bool)(h15 h16 h17 h18 h19 h20 h21 h22 h23 h24 h25:Int)(h26:List aK.den)(next:LI→Int→Int→Int→Int→Int→Int→Int→Int→List aK.den→Int→Int→Int→Bool→Int→Int→Int→Int→Int→Int→Int→Int→Int→Int→Int→List aK.den→Option R)(out:am cW.xs→Option R):Option R:=bif decide (h4<h3) then bif (ak h1 h2).2.2 != 0 then out (.ret ((),(((ak h1 h2).2.2,()),((0,(0,(0,(0,(0,([],())))))),())))) else bif (be (ak h1 h2).1 h4 h16).2 != 0 then out (.pan (.ret ((),(((be (ak h1 h2).1 h4 h16).2,()),((0,(0,(0,(0,(0,([],())))))),()))))) else bif decide (h26.length+1≤4294967296) then next (h1) ((ak h1 h2).2.1) (h3) (i64.wrap (h4+1)) (h5) (h6) (h7) (h8) (h9) (h10) (h11) (h12) (h13) (h14) (h15) (h16) (h17) (h18) (h19) (h20) (h21) (h22) (h23) (h24) (h25) (h26++[(be (ak h1 h2).1 h4 h16).1]) else none else out (.pan (.pan (.ret ((),((h1,(h2,())),((h5,(h6,(h7,(h8,(h9,(h10,())))))),((h11,(h12,(h13,(h14,(h15,(h16,(h17,(h18,(h19,(h20,())))))))))),((h21,(h22,(h23,(h24,(h25,(h26,())))))),()))))))))
def oI (n:Nat)(h1:LI)(h2 h3 h4 h5 h6 h7 h8 h9:Int)(h10:List aK.den)(h11 h12 h13:Int)(h14:Bool)(h15 h16 h17 h18 h19 h20 h21 h22 h23 h24 h25:Int)(h26:List aK.den):Option (am cW.xs):=gO tt FO dr v5 0 Tryd.f9 (ct Tryd.f9 0) n (cW.st.mk' ((h1,(h2,(h3,(h4,())))),((h5,(h6,(h7,(h8,(h9,(h10,())))))),((h11,(h12,(h13,(h14,(h15,(h16,(h17,(h18,(h19,(h20,())))))))))),((h21,(h22,(h23,(h24,(h25,(h26,())))))),()))))) (bE cW.xs)
theorem uF (n:Nat)(h1:LI)(h2 h3 h4 h5 h6 h7 h8 h9:Int)(h10:List aK.den)(h11 h12 h13:Int)(h14:Bool)(h15 h16 h17 h18 h19 h20 h21 h22 h23 h24 h25:Int)(h26:List aK.den):oI (n+1) h1 h2 h3 h4 h5 h6 h7 h8 h9 h10 h11 h12 h13 h14 h15 h16 h17 h18 h19 h20 h21 h22 h23 h24 h25 h26=kS h1 h2 h3 h4 h5 h6 h7 h8 h9 h10 h11 h12 h13 h14 h15 h16 h17 h18 h19 h20 h21 h22 h23 h24 h25 h26 (oI n) some:=by kernel_rfl
theorem yg (blk:LI)(z1 z2 z3 z4 z5:Int)(z6:List bf)(i1 i2 i3:Int)(i4:Bool)(i5 i6 i7 i8 i9 i10 b1 b2 b3 b4 b5:Int):∀(n k i:Nat) (p:Int) (out:List bf),n<k→out.length=i→i+n≤4294960000→
  oI k blk p ((i+n:Nat):Int) i z1 z2 z3 z4 z5 z6 i1 i2 i3 i4 i5 i6 i7 i8 i9 i10 b1 b2 b3 b4 b5 out=(Br blk (z1,z2,z3,z4,z5,z6,()) (i1,i2,i3,i4,i5,i6,i7,i8,i9,i10,()) b1 b2 b3 b4 b5 (jV blk i6 n i p out)).val:=by
 intro n
 induction n with
 |zero=>
  intro k i p out h1 h2 h3
  obtain ⟨k,rfl⟩:∃j,k=j+1:=⟨k - 1,by omega⟩
  rw[uF]
  unfold kS
  refine bF (by simp) ?_
  rfl
 |succ n ih=>
  intro k i p out h1 h2 h3
  obtain ⟨k,rfl⟩:∃j,k=j+1:=⟨k - 1,by omega⟩
  rw[uF]
  unfold kS
  refine bT (decide_eq_true (by omega)) ?_
  have e:jV blk i6 (n+1) i p out=if (ak blk p).2.2≠0 then ((ak blk p).2.2,0,0,[]) else if (be (ak blk p).1 (i:Int) i6).2≠0 then (0,(be (ak blk p).1 (i:Int) i6).2,0,[]) else jV blk i6 n (i+1) (ak blk p).2.1 (out++[(be (ak blk p).1 (i:Int) i6).1]):=rfl
  rw[e]
  by_cases c1:(ak blk p).2.2=0
  ·refine bF (by simpa using c1) ?_
   rw[if_neg (aD c1)]
   by_cases c2:(be (ak blk p).1 (i:Int) i6).2=0
   ·refine bF (by simpa using c2) ?_
    rw[if_neg (aD c2)]
    refine bT (decide_eq_true (by omega)) ?_
    rw[af (n:=(i:Int)+1) (by omega) (by omega)]
    have:=ih k (i+1) (ak blk p).2.1 (out++[(be (ak blk p).1 (i:Int) i6).1]) (by omega) (by simp;omega) (by omega)
    rw[show i+1+n=i+(n+1) by omega] at this
    exact this
   ·refine bT (by simpa using c2) ?_
    rw[if_pos c2]
    unfold Br
    rw[Tr.val_ite,Tr.val_ite,if_neg (by simp),if_pos (decide_eq_true c2)]
    rfl
  ·refine bT (by simpa using c1) ?_
   rw[if_pos c1]
   unfold Br
   rw[Tr.val_ite,if_pos (decide_eq_true c1)]
   rfl
theorem pE (blk:LI)(f:Int):∀(n i:Nat) (p:Int) (out:List bf),(aH blk f n i p out).2.2=0→(aH blk f n i p out).1.length=out.length+n
 |0,_,_,_,_=>rfl
 |n+1,i,p,out,h=>by
  unfold aH at h ⊢
  split
  ·rename_i c;rw[if_pos c] at h;exact absurd h c
  rename_i c;rw[if_neg c] at h
  split
  ·rename_i c2;rw[if_pos c2] at h;cases h
  rename_i c2;rw[if_neg c2] at h
  split
  ·rename_i c3;rw[if_pos c3] at h;cases h
  rename_i c3;rw[if_neg c3] at h
  rw[pE blk f n (i+1) _ _ h]
  simp;omega
theorem C5 (blk:LI)(f:Int):∀(n i:Nat) (p:Int) (out:List bf),
  ((aH blk f n i p out).2.2=0→(jV blk f n i p out)=(0,0,(aH blk f n i p out).2.1,(aH blk f n i p out).1))∧
  ((aH blk f n i p out).2.2≠0→(jV blk f n i p out).1=(aH blk f n i p out).2.2∨(jV blk f n i p out).1=0∧(jV blk f n i p out).2.1=(aH blk f n i p out).2.2)
 |0,i,p,out=>⟨fun _=>rfl,fun h=>absurd rfl h⟩
 |n+1,i,p,out=>by
  have e:aH blk f (n+1) i p out=if (ak blk p).2.2≠0 then ([],0,(ak blk p).2.2) else if (ak blk p).1.2.1≠(i:Int) then ([],0,72) else if i=0∧(ak blk p).1.1≠0∨aN (f+(ak blk p).1.1)=false then ([],0,86)
    else aH blk f n (i+1) (ak blk p).2.1 (out++[(f+(ak blk p).1.1,(ak blk p).1.2.2.1,(ak blk p).1.2.2.2.1,(ak blk p).1.2.2.2.2.1,())]):=rfl
  have e2:jV blk f (n+1) i p out=if (ak blk p).2.2≠0 then ((ak blk p).2.2,0,0,[]) else if (be (ak blk p).1 (i:Int) f).2≠0 then (0,(be (ak blk p).1 (i:Int) f).2,0,[]) else jV blk f n (i+1) (ak blk p).2.1 (out++[(be (ak blk p).1 (i:Int) f).1]):=rfl
  have eO:be (ak blk p).1 (i:Int) f=if (ak blk p).1.2.1≠(i:Int) then (qt,72) else if (i:Int)=0∧(ak blk p).1.1≠0∨aN (f+(ak blk p).1.1)=false then (qt,86)
    else ((f+(ak blk p).1.1,(ak blk p).1.2.2.1,(ak blk p).1.2.2.2.1,(ak blk p).1.2.2.2.2.1,()),0):=rfl
  rw[e,e2]
  by_cases c1:(ak blk p).2.2=0
  rotate_left
  ·rw[if_pos c1,if_pos c1]
   exact ⟨fun h=>absurd h c1,fun _=>.inl rfl⟩
  rw[if_neg (aD c1),if_neg (aD c1)]
  by_cases c2:(ak blk p).1.2.1=(i:Int)
  rotate_left
  ·rw[if_pos c2,eO,if_pos c2,if_pos (by decide)]
   exact ⟨(fun h=>by cases h),fun _=>.inr ⟨rfl,rfl⟩⟩
  rw[if_neg (aD c2)]
  by_cases c3:i=0∧(ak blk p).1.1≠0∨aN (f+(ak blk p).1.1)=false
  ·have c3':(i:Int)=0∧(ak blk p).1.1≠0∨aN (f+(ak blk p).1.1)=false:=by
    rcases c3 with h | h
    ·exact .inl ⟨by omega,h.2⟩
    ·exact .inr h
   rw[if_pos c3,eO,if_neg (aD c2),if_pos c3',if_pos (by decide)]
   exact ⟨(fun h=>by cases h),fun _=>.inr ⟨rfl,rfl⟩⟩
  ·have c3':¬((i:Int)=0∧(ak blk p).1.1≠0∨aN (f+(ak blk p).1.1)=false):=by
    rintro (h | h)
    ·exact c3 (.inl ⟨by omega,h.2⟩)
    ·exact c3 (.inr h)
   rw[if_neg c3,eO,if_neg (aD c2),if_neg c3',if_neg (aD rfl)]
   exact C5 blk f n (i+1) _ _
theorem iT {b:LI}{sm:Bool}(h:bK b sm=0):61≤b.length∧(aj b 0).2=0∧(aj b 0).1=(b.length:Int)∧b.getD 16 0=2∧¬(sm=true∧fV b=false)∧bk (ay b 0 8)=false∧b.getD 21 0=0∧b.getD 22 0≤1∧bc (ay b 43 8) (ay b 51 2) (ay b 53 4)=false∧1≤ay b 57 4∧ay b 57 4≤256∧ay b 23 4=ay b 57 4 - 1:=by
 unfold bK at h
 split at h
 ·cases h
 split at h
 ·rename_i c;exact absurd h c
 rename_i h1 h2
 split at h
 ·cases h
 rename_i h3
 split at h
 ·cases h
 rename_i h4
 split at h
 ·cases h
 rename_i h5
 split at h
 ·cases h
 rename_i h6
 split at h
 ·cases h
 rename_i h7
 split at h
 ·cases h
 rename_i h8
 split at h
 ·cases h
 rename_i h9
 split at h
 ·cases h
 rename_i h10
 split at h
 ·cases h
 rename_i h11
 have h2:(aj b 0).2=0:=Classical.byContradiction h2
 have hm:=f5 h2
 refine ⟨by omega,h2,by omega,Classical.byContradiction h4,h5,by simpa using h6,?_,by omega,by simpa using h8,by omega,by omega,Classical.byContradiction h11⟩
 exact Classical.byContradiction fun h=>h7 (.inl h)
def w7 (a0:LI):Option iz.Res:=bif decide (a0.length≤4294960000) then bif (ao a0 true).2 != 0 then oR (((0,0,0,0,0,[],()),(ao a0 true).2,()),()) else bif decide (61≤a0.length)&&decide (a0.length≤4294960000) then bif (aJ a0 (ao a0 true).1.2.2.2.1).2 != 0 then oR (((0,0,0,0,0,[],()),(aJ a0 (ao a0 true).1.2.2.2.1).2,()),()) else (bif decide ((0:Int)=0)&&(decide (([]:List bf).length=0)&&(decide ((0:Int)≤(ao a0 true).1.2.2.2.2.1)&&decide ((ao a0 true).1.2.2.2.2.1≤(4294960000:Int)))) then (bif decide ((jV (aJ a0 (ao a0 true).1.2.2.2.1).1 (ao a0 true).1.2.2.2.2.2.1 ((ao a0 true).1.2.2.2.2.1).toNat 0 0 []).1≠0) then oR (((0,0,0,0,0,[],()),(jV (aJ a0 (ao a0 true).1.2.2.2.1).1 (ao a0 true).1.2.2.2.2.2.1 ((ao a0 true).1.2.2.2.2.1).toNat 0 0 []).1,()),()) else bif decide ((jV (aJ a0 (ao a0 true).1.2.2.2.1).1 (ao a0 true).1.2.2.2.2.2.1 ((ao a0 true).1.2.2.2.2.1).toNat 0 0 []).2.1≠0) then oR (((0,0,0,0,0,[],()),(jV (aJ a0 (ao a0 true).1.2.2.2.1).1 (ao a0 true).1.2.2.2.2.2.1 ((ao a0 true).1.2.2.2.2.1).toNat 0 0 []).2.1,()),()) else bif decide ((jV (aJ a0 (ao a0 true).1.2.2.2.1).1 (ao a0 true).1.2.2.2.2.2.1 ((ao a0 true).1.2.2.2.2.1).toNat 0 0 []).2.2.1<(↑(aJ a0 (ao a0 true).1.2.2.2.1).1.length:Int)) then oR (((0,0,0,0,0,[],()),2,()),()) else bif decide (1≤(jV (aJ a0 (ao a0 true).1.2.2.2.1).1 (ao a0 true).1.2.2.2.2.2.1 ((ao a0 true).1.2.2.2.2.1).toNat 0 0 []).2.2.2.length) then bif cq (jV (aJ a0 (ao a0 true).1.2.2.2.1).1 (ao a0 true).1.2.2.2.2.2.1 ((ao a0 true).1.2.2.2.2.1).toNat 0 0 []).2.2.2 != (ao a0 true).1.2.2.2.2.2.2.1 then oR (((0,0,0,0,0,[],()),86,()),()) else oR ((((ao a0 true).1.1,(ao a0 true).1.2.2.1,(ao a0 true).1.2.2.2.2.2.2.2.1,(ao a0 true).1.2.2.2.2.2.2.2.2.1,(ao a0 true).1.2.2.2.2.2.2.2.2.2.1,(jV (aJ a0 (ao a0 true).1.2.2.2.1).1 (ao a0 true).1.2.2.2.2.2.1 ((ao a0 true).1.2.2.2.2.1).toNat 0 0 []).2.2.2,()),0,()),()) else none) else none) else none else none
theorem Jo (a0:LI):Io.run tt FO dr v5 iz Tryd.f9 ((a0,()),())=w7 a0:=by kernel_rfl
theorem xP:HcsOk prog Fk:=.cons IV (.cons Gw (.cons Ku (.cons DT (.cons IW .nil))))
theorem AC:HcOk prog 9 (ah iz wT):=by
 refine cx xP (lp:=v5) (fn:=Tryd.f9) iz (.step (h0:=aC cW qy) (by kernel_rfl) (iB xP (lp:=v5) (fn:=Tryd.f9) (.done (by kernel_rfl)) cW qy ?_) (.done (by kernel_rfl))) wT ?_
 ·rintro ⟨⟨(blk:LI),(p:Int),(n:Int),(i:Int),⟨⟩⟩,⟨⟨(z1:Int),(z2:Int),(z3:Int),(z4:Int),(z5:Int),(z6:List bf),⟨⟩⟩,⟨(i1:Int),(i2:Int),(i3:Int),(i4:Bool),(i5:Int),(i6:Int),(i7:Int),(i8:Int),(i9:Int),(i10:Int),⟨⟩⟩,⟨(b1:Int),(b2:Int),(b3:Int),(b4:Int),(b5:Int),(out:List bf),⟨⟩⟩,⟨⟩⟩⟩ y hw hy
  obtain ⟨hg,hy⟩:=Tr.guard hy
  simp only[zA,zB] at hg
  obtain ⟨h1,h2,h3,h4⟩:=hg
  have h1:i=0:=h1
  have h2:out=[]:=List.length_eq_zero_iff.1 h2
  have h3:0≤n:=h3
  have h4:n≤(4294960000:Int):=h4
  subst h1 h2
  obtain ⟨n,rfl⟩:=au h3
  have:=yg blk z1 z2 z3 z4 z5 z6 i1 i2 i3 i4 i5 i6 i7 i8 i9 i10 b1 b2 b3 b4 b5 n (n+1) 0 p [] (by omega) rfl (by omega)
  rw[Nat.zero_add] at this
  exact ⟨n+1,this.trans hy⟩
 ·rintro ⟨⟨(b:LI),⟨⟩⟩,⟨⟩⟩ out hw ho
  obtain ⟨hg,ho⟩:=Tr.guard ho
  have hg2:b.length≤4294960000:=of_decide_eq_true hg
  clear hg
  cases ho
  refine (Jo b).trans ?_
  show _=oR (((an b).1,(an b).2,()),())
  have eE:gG b=if bK b true≠0 then ([],bK b true) else if (aJ b (decide (b.getD 22 0=1))).2≠0 then ([],(aJ b (decide (b.getD 22 0=1))).2) else wG (aJ b (decide (b.getD 22 0=1))).1 (ay b 27 8) (ay b 35 8) (ay b 57 4).toNat:=rfl
  have fin:∀e:Int,e≠0→(gG b).2=e→some (Out.ret ((KV,(e,())),()):iz.Res)=oR (((an b).1,(an b).2,()),()):=by
   intro e he h
   have:an b=(Da,e):=by unfold an;rw[h,if_pos he]
   rw[this]
   rfl
  unfold w7
  refine bT (decide_eq_true hg2) ?_
  by_cases h1:bK b true=0
  rotate_left
  ·have eh:ao b true=(da,bK b true):=by unfold ao;rw[if_pos h1]
   rw[eh]
   refine bT (by simpa using h1) ?_
   exact fin _ h1 (by rw[eE,if_pos h1])
  have eh:ao b true=(o5 b,0):=by unfold ao;rw[if_neg (aD h1)]
  rw[if_neg (aD h1)] at eE
  obtain ⟨k1,_,_,_,_,_,_,_,_,k2,k3,_⟩:=iT h1
  have hI:o5 b=(ay b 0 8,(b.length:Int),ay b 12 4,decide (b.getD 22 0=1),ay b 57 4,ay b 27 8,ay b 35 8,ay b 43 8,ay b 51 2,ay b 53 4,()):=rfl
  rw[eh,hI]
  dsimp only
  refine (ac rfl _ _).trans ?_
  refine bT (by simp only[zA,zB];exact ⟨k1,hg2⟩) ?_
  by_cases h2:(aJ b (decide (b.getD 22 0=1))).2=0
  rotate_left
  ·refine bT (by simpa using h2) ?_
   exact fin _ h2 (by rw[eE,if_pos h2])
  refine bF (by simpa using h2) ?_
  rw[if_neg (aD h2)] at eE
  generalize (aJ b (decide (b.getD 22 0=1))).1=blk at *
  refine bT (by simp only[zA,zB];exact ⟨trivial,rfl,show (0:Int)≤ay b 57 4 by omega,show ay b 57 4≤(4294960000:Int) by omega⟩) ?_
  have eR:wG blk (ay b 27 8) (ay b 35 8) (ay b 57 4).toNat=if (aH blk (ay b 27 8) (ay b 57 4).toNat 0 0 []).2.2≠0 then ([],(aH blk (ay b 27 8) (ay b 57 4).toNat 0 0 []).2.2)
    else if (aH blk (ay b 27 8) (ay b 57 4).toNat 0 0 []).2.1<(blk.length:Int) then ([],2)
    else if cq (aH blk (ay b 27 8) (ay b 57 4).toNat 0 0 []).1≠ay b 35 8 then ([],86) else ((aH blk (ay b 27 8) (ay b 57 4).toNat 0 0 []).1,0):=rfl
  have hlen:=pE blk (ay b 27 8) (ay b 57 4).toNat 0 0 []
  obtain ⟨x1,x2⟩:=C5 blk (ay b 27 8) (ay b 57 4).toNat 0 0 []
  rw[eR] at eE
  generalize aH blk (ay b 27 8) (ay b 57 4).toNat 0 0 []=r at *
  obtain ⟨rs,q,e⟩:=r
  simp only at eE hlen x1 x2
  by_cases h3:e=0
  rotate_left
  ·rw[if_pos h3] at eE
   rcases x2 h3 with x | ⟨x,x'⟩
   ·rw[x]
    refine bT (decide_eq_true h3) ?_
    exact fin e h3 (by rw[eE])
   ·rw[x,x']
    refine (ac rfl _ _).trans ?_
    refine bT (decide_eq_true h3) ?_
    exact fin e h3 (by rw[eE])
  rw[if_neg (aD h3)] at eE
  rw[x1 h3]
  have hlen:=hlen h3
  refine (ac rfl _ _).trans ?_
  refine (ac rfl _ _).trans ?_
  by_cases h4:q<(blk.length:Int)
  ·refine bT (decide_eq_true h4) ?_
   exact fin 2 (by decide) (by rw[eE,if_pos h4])
  refine bF (decide_eq_false h4) ?_
  refine bT (decide_eq_true (show 1≤rs.length by rw[hlen];simp;omega)) ?_
  rw[if_neg h4] at eE
  by_cases h5:cq rs=ay b 35 8
  ·refine bF (by simpa using h5) ?_
   rw[if_neg (aD h5)] at eE
   have:an b=((ay b 0 8,ay b 12 4,ay b 43 8,ay b 51 2,ay b 53 4,rs,()),0):=by unfold an;rw[eE,if_neg (aD rfl)]
   rw[this]
  ·refine bT (by simpa using h5) ?_
   exact fin 86 (by decide) (by rw[eE,if_pos h5])
end
end Go.Proofs.YthpcdhgpplmneaaDoor.Sym
namespace Go.Proofs.YthpcdhgpplmneaaDoor.Sym
open Go
noncomputable section
end
end Go.Proofs.YthpcdhgpplmneaaDoor.Sym
namespace Go.Proofs.YthpcdhgpplmneaaDoor.Sym
open Go
open Go.IntKind (i8 i16 i32 i64 u8 u16 u32 u64)
noncomputable section
abbrev ie:Io:=⟨[dd,LM,Kb],[],[],[dB],none⟩
def zY (d:ie.In):Tr ie.Res:=.ret (.ret ((!bc d.1.1 d.1.2.1 d.1.2.2.1,()),()))
abbrev BX:List (Nat×Hc):=[]
def IK:Hd:=b8 BX
def CI:Lp:=cp []
def tU (a0 a1 a2:Int):Option ie.Res:=bif decide (a0<0) then bif a0 == -1 then bif a1 == -1 then oR ((a2 == -1,()),()) else oR ((false,()),()) else oR ((false,()),()) else bif decide (0≤a1) then oR ((decide (0≤a2),()),()) else oR ((false,()),())
theorem Ht (a0 a1 a2:Int):Io.run tt IK dr CI ie Tryd.f82 ((a0,a1,a2,()),())=tU a0 a1 a2:=by kernel_rfl
theorem Jh:HcOk prog 82 (ah ie zY):=by
 refine cx (cs:=BX) HcsOk.nil (lp:=CI) (fn:=Tryd.f82) ie (.done (by kernel_rfl)) zY ?_
 rintro ⟨⟨(pid:Int),(ep:Int),(sq:Int),⟨⟩⟩,⟨⟩⟩ out hw ho
 cases ho
 refine (Ht pid ep sq).trans ?_
 show _=oR ((!(if pid = -1∧ep = -1∧sq = -1∨0≤pid∧0≤ep∧0≤sq then false else true),()),())
 have key:∀c:Prop,[Decidable c]→∀b:Bool,(b=true↔c)→some (Out.ret ((b,()),()):ie.Res)=oR ((!(if c then false else true),()),()):=by
  intro c _ b h
  by_cases hc:c
  ·rw[if_pos hc,h.2 hc];rfl
  ·rw[if_neg hc]
   cases b with
   |false=>rfl
   |true=>exact absurd (h.1 rfl) hc
 unfold tU
 by_cases h1:pid<0
 ·refine bT (decide_eq_true h1) ?_
  by_cases h2:pid = -1
  ·refine bT (by simp[h2]) ?_
   by_cases h3:ep = -1
   ·refine bT (by simp[h3]) ?_
    exact key _ _ (by simp;omega)
   ·refine bF (by simp[h3]) ?_
    exact key _ _ (by simp;omega)
  ·refine bF (by simp[h2]) ?_
   exact key _ _ (by simp;omega)
 ·refine bF (decide_eq_false h1) ?_
  by_cases h2:0≤ep
  ·refine bT (decide_eq_true h2) ?_
   exact key _ _ (by simp;omega)
  ·refine bF (decide_eq_false h2) ?_
   exact key _ _ (by simp;omega)
def cr (a b:Int):Int×Bool:=if aN (a - b)=true then (a - b,true) else (0,false)
abbrev fT:Io:=⟨[dd,dd],[],[],[dd,dB],none⟩
def zZ (d:fT.In):Tr fT.Res:=.ret (.ret (((cr d.1.1 d.1.2.1).1,(cr d.1.1 d.1.2.1).2,()),()))
abbrev BZ:List (Nat×Hc):=[]
def IL:Hd:=b8 BZ
def CJ:Lp:=cp []
def tW (a0 a1:Int):Option fT.Res:=bif decide (0≤a1) then bif decide (a0<i64.wrap (-9223372036854775808+a1)) then oR ((0,false,()),()) else bif decide (a1<0) then bif decide (i64.wrap (9223372036854775807+a1)<a0) then oR ((0,false,()),()) else oR ((i64.wrap (a0 - a1),true,()),()) else oR ((i64.wrap (a0 - a1),true,()),()) else bif decide (a1<0) then bif decide (i64.wrap (9223372036854775807+a1)<a0) then oR ((0,false,()),()) else oR ((i64.wrap (a0 - a1),true,()),()) else oR ((i64.wrap (a0 - a1),true,()),())
theorem Hv (a0 a1:Int):Io.run tt IL dr CJ fT Tryd.f83 ((a0,a1,()),())=tW a0 a1:=by kernel_rfl
theorem Ji:HcOk prog 83 (ah fT zZ):=by
 refine cx (cs:=BZ) HcsOk.nil (lp:=CJ) (fn:=Tryd.f83) fT (.done (by kernel_rfl)) zZ ?_
 rintro ⟨⟨(a:Int),(b:Int),⟨⟩⟩,⟨⟩⟩ out hw ho
 cases ho
 refine (Hv a b).trans ?_
 have ha:bu .i64 a:=hw.1.1
 have hb:bu .i64 b:=hw.1.2.1
 have ha:=oE ha
 have hb:=oE hb
 show _=oR (((cr a b).1,(cr a b).2,()),())
 unfold tW
 have fin:aN (a - b)=true→some (Out.ret ((i64.wrap (a - b),true,()),()):fT.Res)=oR (((cr a b).1,(cr a b).2,()),()):=by
  intro h
  have e:cr a b=(a - b,true):=by unfold cr;rw[if_pos h]
  rw[e,af (gS.1 h).1 (gS.1 h).2]
 have fin2:aN (a - b)=false→some (Out.ret ((0,false,()),()):fT.Res)=oR (((cr a b).1,(cr a b).2,()),()):=by
  intro h
  have e:cr a b=(0,false):=by unfold cr;rw[if_neg (by rw[h];exact fun h=>by cases h)]
  rw[e]
 have fy:(-9223372036854775808≤a - b∧a - b≤9223372036854775807)→aN (a - b)=true:=fun h=>gS.2 h
 have fn:¬(-9223372036854775808≤a - b∧a - b≤9223372036854775807)→aN (a - b)=false:=fun h=>by
  cases h2:aN (a - b) with
  |false=>rfl
  |true=>exact absurd (gS.1 h2) h
 by_cases h0:0≤b
 ·refine bT (decide_eq_true h0) ?_
  rw[af (n:=-9223372036854775808+b) (by omega) (by omega)]
  by_cases h1:a < -9223372036854775808+b
  ·exact (aa (decide_eq_true h1) _ _).trans (fin2 (fn (by omega)))
  ·refine bF (decide_eq_false h1) ?_
   exact (ac (decide_eq_false (by omega)) _ _).trans (fin (fy (by omega)))
 ·refine bF (decide_eq_false h0) ?_
  refine bT (decide_eq_true (show b<0 by omega)) ?_
  rw[af (n:=9223372036854775807+b) (by omega) (by omega)]
  by_cases h1:9223372036854775807+b<a
  ·exact (aa (decide_eq_true h1) _ _).trans (fin2 (fn (by omega)))
  ·exact (ac (decide_eq_false h1) _ _).trans (fin (fy (by omega)))
abbrev fB:Io:=⟨[JX],[],[],[dd],none⟩
def p5 (d:fB.In):Tr fB.Res:=.ret (.ret ((cq d.1.1,()),()))
abbrev rp:List (Nat×Hc):=[]
def ya:Hd:=b8 rp
abbrev cO:Lo:=⟨⟨(.one (.hol (.sl 75 aK))::bN (.one hI::.one hI::.any::ai (bN []))),[]⟩,[(.exit 0,⟨(.any::bN (.one hI::ai (b9 []))),[]⟩)]⟩
def iR (d:cO.st.den):Tr (am cO.xs):=.ite (decide (d.1.2.2.1=(0:Int))) (.ret (.ret ((),((aZ d.1.1 d.1.2.1,()),())))) .no
def nw:Lp:=cp [(4,aC cO iR)]
def n7 {R:Type}(h1:List aK.den)(h2 h3:Int)(next:List aK.den→Int→Int→Option R)(out:am cO.xs→Option R):Option R:=bif decide (h3<(↑h1.length:Int)) then bif decide (0≤h3)&&decide (h3<(↑h1.length:Int)) then bif decide (h2<(h1.getD h3.toNat (0,(false,[],()),(false,[],()),[],())).1) then bif decide (0≤h3)&&decide (h3<(↑h1.length:Int)) then next (h1) ((h1.getD h3.toNat (0,(false,[],()),(false,[],()),[],())).1) (i64.wrap (h3+1)) else none else next (h1) (h2) (i64.wrap (h3+1)) else none else out (.ret ((),((h2,()),())))
def mA (n:Nat)(h1:List aK.den)(h2 h3:Int):Option (am cO.xs):=gO tt ya dr nw 0 Tryd.f11 (ct Tryd.f11 0) n (cO.st.mk' ((h1,(h2,(h3,()))),())) (bE cO.xs)
theorem A9 (n:Nat)(h1:List aK.den)(h2 h3:Int):mA (n+1) h1 h2 h3=n7 h1 h2 h3 (mA n) some:=by kernel_rfl
theorem vV (rs:List bf)(hl:rs.length≤maxLen):∀(k i:Nat) (t:Int),rs.length<i+k→i≤rs.length→mA k rs t i=some (.ret ((),((aZ (rs.drop i) t,()),()))):=by
 intro k
 induction k with
 |zero=>intro i t h;omega
 |succ k ih=>
  intro i t h1 h2
  rw[A9]
  unfold n7
  by_cases hi:i<rs.length
  ·refine bT (by simpa using hi) ?_
   refine bT (by simpa using hi) ?_
   have e:List.getD rs (i:Int).toNat (0,(false,[],()),(false,[],()),[],())=rs[i]:=by simp only[zG,aA hi]
   rw[e,bH hi hl,zE hi]
   have e2:aZ (rs[i]::rs.drop (i+1)) t=aZ (rs.drop (i+1)) (cz t rs[i].1):=rfl
   rw[e2]
   unfold cz
   by_cases hc:t<rs[i].1
   ·refine bT (decide_eq_true hc) ?_
    refine bT (by simpa using hi) ?_
    rw[if_pos hc]
    exact ih (i+1) _ (by omega) (by omega)
   ·refine bF (decide_eq_false hc) ?_
    rw[if_neg hc]
    exact ih (i+1) _ (by omega) (by omega)
  ·refine bF (by simp;omega) ?_
   rw[zI (by omega)]
   rfl
def rg (a0:List aK.den):Option fB.Res:=(iR ((a0,(-9223372036854775808,(0,()))),())).run fun y=>match y with | .ret ((),((x11,()),()))=>(oR ((x11,()),()))
theorem Em (a0:List aK.den):Io.run tt ya dr nw fB Tryd.f11 ((a0,()),())=rg a0:=by kernel_rfl
theorem yG:HcOk prog 11 (ah fB p5):=by
 refine cx (cs:=rp) HcsOk.nil (lp:=nw) (fn:=Tryd.f11) fB (.step (h0:=aC cO iR) (by kernel_rfl) (iB (cs:=rp) HcsOk.nil (lp:=nw) (fn:=Tryd.f11) (.done (by kernel_rfl)) cO iR ?_) (.done (by kernel_rfl))) p5 ?_
 ·rintro ⟨⟨(rs:List bf),(t:Int),(i:Int),⟨⟩⟩,⟨⟩⟩ y hw hy
  obtain ⟨hg,hy⟩:=Tr.guard hy
  have h1:i=0:=of_decide_eq_true hg
  subst h1
  refine ⟨rs.length+1,(vV rs hw.1.1.1 (rs.length+1) 0 t (by omega) (by omega)).trans ?_⟩
  rw[← hy];rfl
 ·rintro ⟨⟨(rs:List bf),⟨⟩⟩,⟨⟩⟩ out hw ho
  cases ho
  refine (Em rs).trans ?_
  show _=oR ((cq rs,()),())
  unfold rg iR
  refine (aa rfl _ _).trans ?_
  cases rs with
  |nil=>rfl
  |cons r rs=>
   have hr:bu .i64 r.1:=(hw.1.1.2 r (by simp)).1
   have hr:=oE hr
   have e:aZ (r::rs) (-9223372036854775808)=aZ rs r.1:=by
    show aZ rs (cz (-9223372036854775808) r.1)=_
    unfold cz
    by_cases h:r.1 > -9223372036854775808
    ·rw[if_pos h]
    ·rw[if_neg h]
     have:r.1 = -9223372036854775808:=by omega
     rw[this]
   exact congrArg (fun x=>oR ((x,()),())) e
end
end Go.Proofs.YthpcdhgpplmneaaDoor.Sym
namespace Go.Proofs.YthpcdhgpplmneaaDoor.Sym
open Go
noncomputable section
end
end Go.Proofs.YthpcdhgpplmneaaDoor.Sym
namespace Go.Proofs.YthpcdhgpplmneaaDoor.Sym
open Go
open Go.IntKind (i8 i16 i32 i64 u8 u16 u32 u64)
noncomputable section
theorem Cg {n:Int}(h : -9223372036854775808≤n)(h':n≤9223372036854775807):bu .i64 n:=by simp[bu,IntKind.min,IntKind.max,IntKind.signed,IntKind.bits];omega
theorem HI (m:Nat)(t:Int)(b:LI)(p:Int):0≤(ab m t b p).1∧(ab m t b p).1<18446744073709551616:=by
 unfold ab
 split
 ·exact ⟨by decide,by decide⟩
 split
 ·simp only;omega
 ·simp only;omega
theorem HP (b:LI):bu .i64 (bv b).1.1∧bu .i32 (bv b).1.2.1:=by
 have h0:bu .i64 aY.1∧bu .i32 aY.2.1:=⟨Cg (n:=0) (by omega) (by omega),(⟨by decide,by decide⟩:bu .i32 0)⟩
 have hz:=HI 10 1 b 1
 have h1:bu .i64 (al (ab 10 1 b 1).1):=by
  unfold al
  split
  ·exact Cg (by omega) (by omega)
  ·exact Cg (by omega) (by omega)
 have h2:bu .i32 (ag b (ab 10 1 b 1).2.1).1:=bJ _ _
 unfold bv
 repeat' split
 all_goals first | exact h0 | exact ⟨h1,h2⟩
theorem HO (b:LI)(p:Int):bu .i64 (ak b p).1.1∧bu .i32 (ak b p).1.2.1:=by
 have h0:bu .i64 aY.1∧bu .i32 aY.2.1:=⟨Cg (n:=0) (by omega) (by omega),(⟨by decide,by decide⟩:bu .i32 0)⟩
 unfold ak
 repeat' split
 all_goals first | exact h0 | exact HP _
end
end Go.Proofs.YthpcdhgpplmneaaDoor.Sym
namespace Go.Proofs.YthpcdhgpplmneaaDoor.Sym
open Go
noncomputable section
theorem zb (b:LI):(ci b).1.length≤32768:=by
 unfold ci
 repeat' split
 all_goals first | (simp;done) | skip
 rw[fD]
 have h:=sr (al (ab 10 1 b 0).1)
 have:=uH ((b.drop (ab 10 1 b 0).2.1.toNat).length+1) (b.drop (ab 10 1 b 0).2.1.toNat) [] (aV (al (ab 10 1 b 0).1)) h.1
 simp only
 omega
end
end Go.Proofs.YthpcdhgpplmneaaDoor.Sym
namespace Go.Proofs.YthpcdhgpplmneaaDoor.Sym
open Go
open Go.IntKind (i8 i16 i32 i64 u8 u16 u32 u64)
noncomputable section
abbrev ml:Io:=⟨[Fx],[],[],[dB],none⟩
def E2 (d:ml.In):Tr ml.Res:=.ret (.ret ((eC d.1.1,()),()))
abbrev Ft:List (Nat×Hc):=[]
def Kj:Hd:=b8 Ft
def Gn:Lp:=cp []
def Fe (a0:Bool)(a1:LI):Option ml.Res:=bif a0 then oR ((decide (0<(↑a1.length:Int)),()),()) else oR ((false,()),())
theorem Jz (a0:Bool)(a1:LI):Io.run tt Kj dr Gn ml Tryd.f121 (((a0,a1,()),()),())=Fe a0 a1:=by kernel_rfl
theorem KA:HcOk prog 121 (ah ml E2):=by
 refine cx (cs:=Ft) .nil (lp:=Gn) (fn:=Tryd.f121) ml (.done (by kernel_rfl)) E2 ?_
 rintro ⟨⟨⟨(n:Bool),(b:LI),⟨⟩⟩,⟨⟩⟩,⟨⟩⟩ out hw ho
 cases ho
 refine (Jz n b).trans ?_
 cases n <;> rfl
abbrev gB:Io:=⟨[Fx],[],[],[dO],none⟩
def vh (d:gB.In):Tr gB.Res:=.ite (decide ((bm d.1.1).length≤4294967296)) (.ret (.ret ((bm d.1.1,()),()))) .no
abbrev xG:List (Nat×Hc):=[(86,ah iA te),(13,ah ku zn)]
def F3:Hd:=b8 xG
def yz:Lp:=cp []
def rf (a0:Bool)(a1:LI):Option gB.Res:=bif a0 then oR ((ar (ap (-1)),()),()) else bif decide ((ar (ap (↑a1.length:Int))).length+a1.length≤4294967296) then oR ((ar (ap (↑a1.length:Int))++a1,()),()) else none
theorem El (a0:Bool)(a1:LI):Io.run tt F3 dr yz gB Tryd.f123 (((a0,a1,()),()),())=rf a0 a1:=by kernel_rfl
theorem GN:HcOk prog 123 (ah gB vh):=by
 refine cx (cs:=xG) (.cons wm (.cons yD .nil)) (lp:=yz) (fn:=Tryd.f123) gB (.done (by kernel_rfl)) vh ?_
 rintro ⟨⟨⟨(n:Bool),(b:LI),⟨⟩⟩,⟨⟩⟩,⟨⟩⟩ out hw ho
 obtain ⟨hg,ho⟩:=Tr.guard ho
 have hg:(bm (n,b,())).length≤4294967296:=of_decide_eq_true hg
 cases ho
 refine (El n b).trans ?_
 show _=oR ((bm (n,b,()),()),())
 unfold rf
 cases n with
 |true=>rfl
 |false=>
  have e:bm (false,b,())=ar (ap b.length)++b:=rfl
  rw[e] at hg ⊢
  simp only[zH] at hg
  rw[ac rfl,aa (by simp;omega)]
abbrev gZ:Io:=⟨[Dw],[],[],[dO],none⟩
def vd (d:gZ.In):Tr gZ.Res:=.ite (fm d.1.1) (.ret (.ret ((bR d.1.1,()),()))) .no
abbrev qa:List (Nat×Hc):=[(86,ah iA te),(13,ah ku zn),(123,ah gB vh)]
def Ce:Hd:=b8 qa
abbrev dn:Lo:=⟨⟨(.any::.one (.ptr 1 0)::.any::.one (.onl 5 (Ty.int u8) 7)::.one hI::ai (ai (ai (dZ (b9 []))))),[none,some [hI,hJ,hL,.hol (.sl 5 (Ty.int u8)),hL,.hol (.sl 5 (Ty.int u8)),.hol (.sl 149 (Ty.str.prod ((Ty.bool.prod ((Ty.sl 5 (Ty.int u8)).prod Ty.unit)).prod Ty.unit)))]]⟩,[(.exit 0,⟨(.any::bN (.one (.onl 5 (Ty.int u8) 7)::.any::ai (ai (ai (dZ (b9 [])))))),[]⟩)]⟩
def ki (d:dn.st.den):Tr (am dn.xs):=
 .ite (decide (d.1.2.1=(0:Int))&&decide (d.1.1.length+(bM d.2.1.2.2.2.2.2.2.1).length≤4294967296)) (.ret (.ret ((),((d.1.1++bM d.2.1.2.2.2.2.2.2.1,()),())))) .no
def qn:Lp:=cp [(8,aC dn ki)]
def pO {R:Type}(h7:LI)(h8 h9 h10:Int)(h11:Bool)(h12:LI)(h13:Bool)(h14:LI)(h15:List eY.den)(next:LI→Int→Int→Int→Bool→LI→Bool→LI→List eY.den→Option R)(out:am dn.xs→Option R):Option R:=bif decide (h8<(↑h15.length:Int)) then bif decide (0≤h8)&&decide (h8<(↑h15.length:Int)) then bif decide (h7.length+(ar (ap (↑(List.length (h15.getD h8.toNat ([],(false,[],()),())).1):Int))).length≤4294967296) then bif decide (List.length (h7++ar (ap (↑(List.length (h15.getD h8.toNat ([],(false,[],()),())).1):Int)))+List.length (h15.getD h8.toNat ([],(false,[],()),())).1≤4294967296) then bif decide (0≤h8)&&decide (h8<(↑h15.length:Int)) then bif decide ((bm ((h15.getD h8.toNat ([],(false,[],()),())).2.1.1,(h15.getD h8.toNat ([],(false,[],()),())).2.1.2.1,())).length≤4294967296) then bif decide (List.length (h7++ar (ap (↑(List.length (h15.getD h8.toNat ([],(false,[],()),())).1):Int))++(h15.getD h8.toNat ([],(false,[],()),())).1)+(bm ((h15.getD h8.toNat ([],(false,[],()),())).2.1.1,(h15.getD h8.toNat ([],(false,[],()),())).2.1.2.1,())).length≤4294967296) then next (h7++ar (ap (↑(List.length (h15.getD h8.toNat ([],(false,[],()),())).1):Int))++(h15.getD h8.toNat ([],(false,[],()),())).1++bm ((h15.getD h8.toNat ([],(false,[],()),())).2.1.1,(h15.getD h8.toNat ([],(false,[],()),())).2.1.2.1,())) (i64.wrap (h8+1)) (h9) (h10) (h11) (h12) (h13) (h14) (h15) else none else none else none else none else none else none else out (.ret ((),((h7,()),())))
def oQ (n:Nat)(h7:LI)(h8 h9 h10:Int)(h11:Bool)(h12:LI)(h13:Bool)(h14:LI)(h15:List eY.den):Option (am dn.xs):=gO tt Ce dr qn 0 Tryd.f105 (ct Tryd.f105 0) n (dn.st.mk' ((h7,(h8,())),((h9,(h10,(h11,(h12,(h13,(h14,(h15,()))))))),()))) (bE dn.xs)
theorem Ew (n:Nat)(h7:LI)(h8 h9 h10:Int)(h11:Bool)(h12:LI)(h13:Bool)(h14:LI)(h15:List eY.den):oQ (n+1) h7 h8 h9 h10 h11 h12 h13 h14 h15=pO h7 h8 h9 h10 h11 h12 h13 h14 h15 (oQ n) some:=by kernel_rfl
theorem DO (h9 h10:Int)(h11:Bool)(h12:LI)(h13:Bool)(h14:LI)(hs:List d0)(hm:hs.length≤maxLen):∀(k i:Nat) (o:LI),i≤hs.length→hs.length<i+k→o.length+(bM (hs.drop i)).length≤4294967296→
  oQ k o (i:Int) h9 h10 h11 h12 h13 h14 hs=some (.ret ((),((o++bM (hs.drop i),()),()))):=by
 intro k
 induction k with
 |zero=>intro i o h1 h2;omega
 |succ k ih=>
  intro i o h1 h2 h3
  rw[Ew]
  unfold pO
  by_cases h4:i<hs.length
  ·have e:(hs.getD (i:Int).toNat ([],(false,[],()),()):d0)=hs[i]:=aA h4
   rw[zE h4,← e] at h3 ⊢
   rw[bH h4 hm]
   generalize (hs.getD (i:Int).toNat ([],(false,[],()),()):d0)=x at *
   obtain ⟨x1,⟨x2,x3,⟨⟩⟩,⟨⟩⟩:=x
   have eW:bM ((x1,(x2,x3,()),())::hs.drop (i+1))=ar (ap x1.length)++(x1++bm (x2,x3,()))++bM (hs.drop (i+1)):=by simp[bM,wH]
   rw[eW] at h3 ⊢
   simp only[zH] at h3
   rw[aa (by simpa using h4),aa (by simp[h4]),aa (by simp;omega),aa (by simp;omega),aa (by simp[h4]),aa (by simp;omega),aa (by simp;omega)]
   refine (ih (i+1) _ h4 (by omega) (by simp only[zH];omega)).trans ?_
   simp only[zK]
  ·rw[zI (by omega)]
   rw[ac (by simpa using h4)]
   simp[bM]
def tK (a0 a1:Int)(a2:Bool)(a3:LI)(a4:Bool)(a5:LI)(a6:List eY.den):Option gZ.Res:=bif decide ([0].length+(ar (ap a0)).length≤4294967296) then bif decide (List.length ([0]++ar (ap a0))+(ar (ap (i64.wrap a1))).length≤4294967296) then bif decide ((bm (a2,a3,())).length≤4294967296) then bif decide (List.length ([0]++ar (ap a0)++ar (ap (i64.wrap a1)))+(bm (a2,a3,())).length≤4294967296) then bif decide ((bm (a4,a5,())).length≤4294967296) then bif decide (List.length ([0]++ar (ap a0)++ar (ap (i64.wrap a1))++bm (a2,a3,()))+(bm (a4,a5,())).length≤4294967296) then bif decide (List.length ([0]++ar (ap a0)++ar (ap (i64.wrap a1))++bm (a2,a3,())++bm (a4,a5,()))+(ar (ap (↑a6.length:Int))).length≤4294967296) then (ki (([0]++ar (ap a0)++ar (ap (i64.wrap a1))++bm (a2,a3,())++bm (a4,a5,())++ar (ap (↑a6.length:Int)),(0,())),((a0,(a1,(a2,(a3,(a4,(a5,(a6,()))))))),()))).run fun y=>match y with | .ret ((),((x26,()),()))=>(oR ((x26,()),())) else none else none else none else none else none else none else none
theorem Hh (a0 a1:Int)(a2:Bool)(a3:LI)(a4:Bool)(a5:LI)(a6:List eY.den):Io.run tt Ce dr qn gZ Tryd.f105 (((a0,a1,(a2,a3,()),(a4,a5,()),a6,()),()),())=tK a0 a1 a2 a3 a4 a5 a6:=by kernel_rfl
theorem CR:HcOk prog 105 (ah gZ vd):=by
 have hcs:HcsOk prog qa:=.cons wm (.cons yD (.cons GN .nil))
 refine cx (cs:=qa) hcs (lp:=qn) (fn:=Tryd.f105) gZ
  (.step (h0:=aC dn ki) (by kernel_rfl) (iB (cs:=qa) hcs (lp:=qn) (fn:=Tryd.f105) (.done (by kernel_rfl)) dn ki ?_) (.done (by kernel_rfl))) vd ?_
 ·rintro ⟨⟨(o:LI),(i:Int),⟨⟩⟩,⟨(h9:Int),(h10:Int),(h11:Bool),(h12:LI),(h13:Bool),(h14:LI),(hs:List d0),⟨⟩⟩,⟨⟩⟩ y hw hy
  obtain ⟨hg,hy⟩:=Tr.guard hy
  simp only[zA,zB] at hg
  obtain ⟨hi,hl⟩:=hg
  have hi:i=0:=hi
  subst hi
  refine ⟨hs.length+1,(DO h9 h10 h11 h12 h13 h14 hs hw.2.1.2.2.2.2.2.2.1.1 _ 0 o (by omega) (by omega) hl).trans ?_⟩
  rw[← hy]
  rfl
 ·rintro ⟨⟨⟨(a0:Int),(a1:Int),⟨(a2:Bool),(a3:LI),⟨⟩⟩,⟨(a4:Bool),(a5:LI),⟨⟩⟩,(a6:List d0),⟨⟩⟩,⟨⟩⟩,⟨⟩⟩ out hw ho
  obtain ⟨hg,ho⟩:=Tr.guard ho
  cases ho
  refine (Hh a0 a1 a2 a3 a4 a5 a6).trans ?_
  have ha1:bu .i32 a1:=hw.1.1.2.1
  have ha1 : -2147483648≤a1∧a1≤2147483647:=by simpa [bu,IntKind.min,IntKind.max,IntKind.signed,IntKind.bits] using ha1
  have hg:(bR (a0,a1,(a2,a3,()),(a4,a5,()),a6,())).length≤4294967000:=of_decide_eq_true hg
  show _=oR ((bR (a0,a1,(a2,a3,()),(a4,a5,()),a6,()),()),())
  have eb:bR (a0,a1,(a2,a3,()),(a4,a5,()),a6,())=[0]++ar (ap a0)++ar (ap a1)++bm (a2,a3,())++bm (a4,a5,())++ar (ap a6.length)++bM a6:=by
   simp[bR]
  rw[eb] at hg ⊢
  simp only[zH] at hg
  unfold tK
  rw[af (n:=a1) (by omega) (by omega),aa (by simp;omega),aa (by simp;omega),aa (by simp;omega),aa (by simp;omega),aa (by simp;omega),aa (by simp;omega),aa (by simp;omega)]
  unfold ki
  simp only[Tr.run_ite,Tr.run_ret]
  rw[if_pos (by simp;omega)]
abbrev gz:Io:=⟨[Dw],[],[],[dI],none⟩
def vc (d:gz.In):Tr gz.Res:=.ite (fm d.1.1) (.ret (.ret ((aS d.1.1,()),()))) .no
abbrev nd:List (Nat×Hc):=[(121,ah ml E2),(122,ah mi E0),(105,ah gZ vd)]
def xZ:Hd:=b8 nd
abbrev cN:Lo:=⟨⟨(.any::.one (.ptr 1 0)::.any::.one hI::ai (ai (ai []))),[none,some [hI,hJ,hL,.hol (.sl 5 (Ty.int u8)),hL,.hol (.sl 5 (Ty.int u8)),.hol (.sl 149 (Ty.str.prod ((Ty.bool.prod ((Ty.sl 5 (Ty.int u8)).prod Ty.unit)).prod Ty.unit)))]]⟩,[(.ret,⟨(bN (.one hI::.any::ai (ai (ai [])))),[]⟩),(.exit 0,⟨(.any::.one (.ptr 1 0)::ai (ai (ai (bN [])))),[none,some [hI,hJ,hL,.hol (.sl 5 (Ty.int u8)),hL,.hol (.sl 5 (Ty.int u8)),.hol (.sl 149 (Ty.str.prod ((Ty.bool.prod ((Ty.sl 5 (Ty.int u8)).prod Ty.unit)).prod Ty.unit)))]]⟩)]⟩
def iQ (d:cN.st.den):Tr (am cN.xs):=
 .ite (decide (d.1.1=(0:Int))) (.ite (decide (cS d.2.1.2.2.2.2.2.2.1=(0:Int))) (.ret (.pan (.ret ((),((),(d.2.1,())))))) (.ret (.ret ((),((cS d.2.1.2.2.2.2.2.2.1,()),()))))) .no
def nv:Lp:=cp [(9,aC cN iQ)]
def n6 {R:Type}(h7 h8 h9:Int)(h10:Bool)(h11:LI)(h12:Bool)(h13:LI)(h14:List eY.den)(next:Int→Int→Int→Bool→LI→Bool→LI→List eY.den→Option R)(out:am cN.xs→Option R):Option R:=bif decide (h7<(↑h14.length:Int)) then bif decide (0≤h7)&&decide (h7<(↑h14.length:Int)) then bif !(cw (h14.getD h7.toNat ([],(false,[],()),())).1).2 then out (.ret ((),((6,()),()))) else bif decide (0≤h7)&&decide (h7<(↑h14.length:Int)) then bif eC ((h14.getD h7.toNat ([],(false,[],()),())).2.1.1,(h14.getD h7.toNat ([],(false,[],()),())).2.1.2.1,()) then out (.ret ((),((70,()),()))) else next (i64.wrap (h7+1)) (h8) (h9) (h10) (h11) (h12) (h13) (h14) else none else none else out (.pan (.ret ((),((),((h8,(h9,(h10,(h11,(h12,(h13,(h14,()))))))),())))))
def mz (n:Nat)(h7 h8 h9:Int)(h10:Bool)(h11:LI)(h12:Bool)(h13:LI)(h14:List eY.den):Option (am cN.xs):=gO tt xZ dr nv 0 Tryd.f104 (ct Tryd.f104 0) n (cN.st.mk' ((h7,()),((h8,(h9,(h10,(h11,(h12,(h13,(h14,()))))))),()))) (bE cN.xs)
theorem A8 (n:Nat)(h7 h8 h9:Int)(h10:Bool)(h11:LI)(h12:Bool)(h13:LI)(h14:List eY.den):mz (n+1) h7 h8 h9 h10 h11 h12 h13 h14=n6 h7 h8 h9 h10 h11 h12 h13 h14 (mz n) some:=by kernel_rfl
theorem Ay (h8 h9:Int)(h10:Bool)(h11:LI)(h12:Bool)(h13:LI)(hs:List d0)(hm:hs.length≤maxLen):∀(k i:Nat),i≤hs.length→hs.length<i+k→
  mz k (i:Int) h8 h9 h10 h11 h12 h13 hs=if cS (hs.drop i)=0 then some (.pan (.ret ((),((),((h8,(h9,(h10,(h11,(h12,(h13,(hs,()))))))),()))))) else some (.ret ((),((cS (hs.drop i),()),()))):=by
 intro k
 induction k with
 |zero=>intro i h1 h2;omega
 |succ k ih=>
  intro i h1 h2
  rw[A8]
  unfold n6
  by_cases h3:i<hs.length
  ·have e:(hs.getD (i:Int).toNat ([],(false,[],()),()):d0)=hs[i]:=aA h3
   rw[zE h3,← e,bH h3 hm]
   generalize (hs.getD (i:Int).toNat ([],(false,[],()),()):d0)=x
   obtain ⟨x1,⟨x2,x3,⟨⟩⟩,⟨⟩⟩:=x
   rw[aa (by simpa using h3),aa (by simp[h3])]
   by_cases h4:(cw x1).2=false
   ·have eE:cS ((x1,(x2,x3,()),())::hs.drop (i+1))=6:=by unfold cS;rw[if_pos h4]
    rw[eE,aa (by simpa using h4)]
    rfl
   ·rw[ac (by simpa using h4),aa (by simp[h3])]
    by_cases h5:eC (x2,x3,())=true
    ·have eE:cS ((x1,(x2,x3,()),())::hs.drop (i+1))=70:=by unfold cS;rw[if_neg h4,if_pos h5]
     rw[eE,aa h5]
     rfl
    ·have eE:cS ((x1,(x2,x3,()),())::hs.drop (i+1))=cS (hs.drop (i+1)):=by rw[cS,if_neg h4,if_neg h5]
     rw[eE,ac (by simpa using h5)]
     exact ih (i+1) h3 (by omega)
  ·rw[zI (by omega)]
   rw[ac (by simpa using h3)]
   rfl
def rc (a0 a1:Int)(a2:Bool)(a3:LI)(a4:Bool)(a5:LI)(a6:List eY.den):Option gz.Res:=bif decide (a1<0) then oR ((72,()),()) else bif eC (a2,a3,()) then oR ((70,()),()) else bif eC (a4,a5,()) then oR ((70,()),()) else bif decide (16<(↑a6.length:Int)) then oR ((9,()),()) else (iQ ((0,()),((a0,(a1,(a2,(a3,(a4,(a5,(a6,()))))))),()))).run fun y=>match y with | .ret ((),((x32,()),()))=>(oR ((x32,()),())) | .pan (.ret ((),((),(x33,x34,x35,x36,x37,x38,x39,()),())))=>(bif fm (x33,x34,(x35,x36,()),(x37,x38,()),x39,()) then bif decide (16384<(↑(bR (x33,x34,(x35,x36,()),(x37,x38,()),x39,())).length:Int)) then oR ((4,()),()) else oR ((0,()),()) else none)
theorem Ei (a0 a1:Int)(a2:Bool)(a3:LI)(a4:Bool)(a5:LI)(a6:List eY.den):Io.run tt xZ dr nv gz Tryd.f104 (((a0,a1,(a2,a3,()),(a4,a5,()),a6,()),()),())=rc a0 a1 a2 a3 a4 a5 a6:=by kernel_rfl
theorem GL:HcOk prog 104 (ah gz vc):=by
 have hcs:HcsOk prog nd:=.cons KA (.cons Ky (.cons CR .nil))
 refine cx (cs:=nd) hcs (lp:=nv) (fn:=Tryd.f104) gz
  (.step (h0:=aC cN iQ) (by kernel_rfl) (iB (cs:=nd) hcs (lp:=nv) (fn:=Tryd.f104) (.done (by kernel_rfl)) cN iQ ?_) (.done (by kernel_rfl))) vc ?_
 ·rintro ⟨⟨(i:Int),⟨⟩⟩,⟨(h8:Int),(h9:Int),(h10:Bool),(h11:LI),(h12:Bool),(h13:LI),(hs:List d0),⟨⟩⟩,⟨⟩⟩ y hw hy
  obtain ⟨hg,hy⟩:=Tr.guard hy
  have hi:i=0:=of_decide_eq_true hg
  subst hi
  refine ⟨hs.length+1,(Ay h8 h9 h10 h11 h12 h13 hs hw.2.1.2.2.2.2.2.2.1.1 _ 0 (by omega) (by omega)).trans ?_⟩
  rw[← hy]
  simp only[Tr.val_ite,zB,Tr.val_ret,List.drop_zero]
 ·rintro ⟨⟨⟨(a0:Int),(a1:Int),⟨(a2:Bool),(a3:LI),⟨⟩⟩,⟨(a4:Bool),(a5:LI),⟨⟩⟩,(a6:List d0),⟨⟩⟩,⟨⟩⟩,⟨⟩⟩ out hw ho
  obtain ⟨hg,ho⟩:=Tr.guard ho
  cases ho
  refine (Ei a0 a1 a2 a3 a4 a5 a6).trans ?_
  have hg:fm (a0,a1,(a2,a3,()),(a4,a5,()),a6,())=true:=hg
  unfold rc iQ
  show _=oR ((aS (a0,a1,(a2,a3,()),(a4,a5,()),a6,()),()),())
  simp only[Tr.run_ite,Tr.run_ret]
  have eS:qu (a0,a1,(a2,a3,()),(a4,a5,()),a6,())=if a1<0 then 72 else if eC (a2,a3,())=true∨eC (a4,a5,())=true then 70 else if 16<(a6.length:Int) then 9 else cS a6:=rfl
  by_cases h1:a1<0
  ·rw[if_pos h1] at eS
   rw[aa (by simpa using h1)]
   unfold aS
   rw[eS]
   rfl
  rw[if_neg h1] at eS
  rw[ac (by simpa using h1)]
  by_cases h2:eC (a2,a3,())=true
  ·rw[if_pos (.inl h2)] at eS
   rw[aa h2]
   unfold aS
   rw[eS]
   rfl
  rw[ac (by simpa using h2)]
  by_cases h3:eC (a4,a5,())=true
  ·rw[if_pos (.inr h3)] at eS
   rw[aa h3]
   unfold aS
   rw[eS]
   rfl
  rw[if_neg (show ¬(eC (a2,a3,())=true∨eC (a4,a5,())=true) from fun h=>h.elim h2 h3)] at eS
  rw[ac (by simpa using h3)]
  by_cases h4:16<(a6.length:Int)
  ·rw[if_pos h4] at eS
   rw[aa (by simpa using h4)]
   unfold aS
   rw[eS]
   rfl
  rw[if_neg h4] at eS
  rw[ac (by simpa using h4),if_pos (by simp)]
  by_cases h5:cS a6=0
  ·rw[if_pos (decide_eq_true h5)]
   rw[aa hg]
   unfold aS
   rw[if_neg (aD (eS.trans h5))]
   simp only[cond_eq_ite,zB]
   split
   ·rfl
   ·rfl
  ·rw[if_neg (by simpa using h5)]
   unfold aS
   rw[eS,if_pos h5]
abbrev jx:Io:=⟨[Dw],[],[],[dL,dI],none⟩
def zR (d:jx.In):Tr jx.Res:=.ite (fm d.1.1) (.ret (.ret (((bS d.1.1).1,(bS d.1.1).2,()),()))) .no
abbrev BL:List (Nat×Hc):=[(104,ah gz vc),(105,ah gZ vd),(86,ah iA te),(13,ah ku zn)]
def Iz:Hd:=b8 BL
def Cx:Lp:=cp []
def tJ (a0 a1:Int)(a2:Bool)(a3:LI)(a4:Bool)(a5:LI)(a6:List eY.den):Option jx.Res:=bif fm (a0,a1,(a2,a3,()),(a4,a5,()),a6,()) then bif aS (a0,a1,(a2,a3,()),(a4,a5,()),a6,()) != 0 then oR (([],aS (a0,a1,(a2,a3,()),(a4,a5,()),a6,()),()),()) else bif fm (a0,a1,(a2,a3,()),(a4,a5,()),a6,()) then bif decide ((ar (ap (↑(bR (a0,a1,(a2,a3,()),(a4,a5,()),a6,())).length:Int))).length+(bR (a0,a1,(a2,a3,()),(a4,a5,()),a6,())).length≤4294967296) then oR ((ar (ap (↑(bR (a0,a1,(a2,a3,()),(a4,a5,()),a6,())).length:Int))++bR (a0,a1,(a2,a3,()),(a4,a5,()),a6,()),0,()),()) else none else none else none
theorem Hg (a0 a1:Int)(a2:Bool)(a3:LI)(a4:Bool)(a5:LI)(a6:List eY.den):Io.run tt Iz dr Cx jx Tryd.f84 (((a0,a1,(a2,a3,()),(a4,a5,()),a6,()),()),())=tJ a0 a1 a2 a3 a4 a5 a6:=by kernel_rfl
theorem I8:HcOk prog 84 (ah jx zR):=by
 refine cx (cs:=BL) (.cons GL (.cons CR (.cons wm (.cons yD .nil)))) (lp:=Cx) (fn:=Tryd.f84) jx (.done (by kernel_rfl)) zR ?_
 rintro ⟨⟨⟨(a0:Int),(a1:Int),⟨(a2:Bool),(a3:LI),⟨⟩⟩,⟨(a4:Bool),(a5:LI),⟨⟩⟩,(a6:List d0),⟨⟩⟩,⟨⟩⟩,⟨⟩⟩ out hw ho
 obtain ⟨hg,ho⟩:=Tr.guard ho
 cases ho
 refine (Hg a0 a1 a2 a3 a4 a5 a6).trans ?_
 show _=oR (((bS (a0,a1,(a2,a3,()),(a4,a5,()),a6,())).1,(bS (a0,a1,(a2,a3,()),(a4,a5,()),a6,())).2,()),())
 have hg:fm (a0,a1,(a2,a3,()),(a4,a5,()),a6,())=true:=hg
 unfold tJ
 generalize ((a0,a1,(a2,a3,()),(a4,a5,()),a6,()):mT)=r at *
 have hl:(bR r).length≤4294967000:=of_decide_eq_true hg
 rw[aa hg,aa hg]
 by_cases h1:aS r=0
 ·have e2:bS r=(ar (ap (bR r).length)++bR r,0):=by unfold bS;rw[if_pos h1]
  have:=lw (ap (bR r).length)
  rw[e2,ac (by simpa using h1),aa (by simp;omega)]
 ·have e2:bS r=([],aS r):=by unfold bS;rw[if_neg h1]
  rw[e2,aa (by simpa using h1)]
end
end Go.Proofs.YthpcdhgpplmneaaDoor.Sym
namespace Go.Proofs.YthpcdhgpplmneaaDoor.Sym
open Go
noncomputable section
end
end Go.Proofs.YthpcdhgpplmneaaDoor.Sym
namespace Go.Proofs.YthpcdhgpplmneaaDoor.Sym
open Go
open Go.IntKind (i8 i16 i32 i64 u8 u16 u32 u64)
noncomputable section
def Can:Bool→LI→Prop
 |_,[]=>False
 |f,[c]=>0≤c∧c<128∧(f=true→c≠0)
 |_,c::d::l=>128≤c∧c≤255∧Can true (d::l)
theorem Can.pos:∀{l:LI},Can true l→1≤aU l
 |[],h=>h.elim
 |[c],h=>by
  obtain ⟨h1,h2,h3⟩:=h
  have:=h3 rfl
  simp only[aU]
  omega
 |c::d::l,h=>by
  have:=Can.pos h.2.2
  rw[aU]
  omega
theorem Can.dig:∀{l:LI} (n:Nat) (f:Bool),Can f l→l.length≤n+1→eM n (aU l)++[fI n (aU l)]=l
 |[],n,f,h,hl=>h.elim
 |[c],n,f,h,hl=>by
  obtain ⟨h1,h2,h3⟩:=h
  have e:aU [c]=c:=by simp only[aU];omega
  rw[e]
  cases n with
  |zero=>rfl
  |succ n=>
   have:¬ 127<c:=by omega
   simp[eM,fI,this]
 |c::d::l,n,f,h,hl=>by
  obtain ⟨h1,h2,h3⟩:=h
  have hp:=h3.pos
  cases n with
  |zero=>simp at hl
  |succ n=>
   have ih:=Can.dig n true h3 (by simpa using hl)
   have e:aU (c::d::l)=c % 128+128*aU (d::l):=rfl
   have e1:(c % 128+128*aU (d::l)) / 128=aU (d::l):=by omega
   have e2:(c % 128+128*aU (d::l)) % 128+128=c:=by omega
   have e3:127<c % 128+128*aU (d::l):=by omega
   rw[e,eM,fI,if_pos e3,if_pos e3,e1,e2,List.cons_append,ih]
theorem sc:∀j:Nat,(1:Int)≤128 ^ j
 |0=>by simp
 |j+1=>by
  have:=sc j
  rw[Int.pow_succ]
  omega
theorem y8 (most:Nat)(top:Int)(h0:0≤top)(ht:top<128):∀(l:LI) (i:Nat),(∀c∈l,0≤c∧c≤255)→i<most→(cX most top l i).2=0→
  ∃m:Nat,(cX most top l i).1=i+m∧m<l.length∧i+m<most∧Can (decide (0<i)) (l.take (m+1))∧aU (l.take (m+1))<128 ^ (most - 1 - i)*(top+1)
 |[],i,hc,hi,h=>by simp[cX] at h
 |c::l,i,hc,hi,h=>by
  have hcc:=hc c (by simp)
  simp only[cX] at h ⊢
  split at h
  ·cases h
  rename_i h1
  rw[if_neg h1]
  split at h
  ·rename_i h2
   rw[if_pos h2]
   split at h
   ·cases h
   rename_i h3
   rw[if_neg h3]
   refine ⟨0,by simp,by simp,by omega,?_,?_⟩
   ·refine ⟨hcc.1,h2,fun hf hz=>h3 ⟨hz,by simpa using hf⟩⟩
   ·have e:aU ((c::l).take (0+1))=c:=by simp only[List.take_succ_cons,List.take_zero,aU];omega
    rw[e]
    by_cases hm:i+1=most
    ·rw[show most - 1 - i=0 by omega]
     have:¬ top<c:=fun h=>h1 ⟨hm,h⟩
     simp;omega
    ·obtain ⟨j,hj⟩:∃j,most - 1 - i=j+1:=⟨most - 2 - i,by omega⟩
     rw[hj,Int.pow_succ]
     have hp:(1:Int)≤128 ^ j:=sc j
     have:(1:Int)*128*1≤128 ^ j*128*(top+1):=Int.mul_le_mul (Int.mul_le_mul_of_nonneg_right hp (by omega)) (by omega) (by omega) (Int.mul_nonneg (by omega) (by omega))
     omega
  ·rename_i h2
   rw[if_neg h2]
   have hne:i+1<most:=by
    rcases Nat.lt_or_ge (i+1) most with h | h'
    ·exact h
    ·exact absurd ⟨by omega,by omega⟩ h1
   obtain ⟨m,g1,g2,g3,g4,g5⟩:=y8 most top h0 ht l (i+1) (fun c hc'=>hc c (by simp[hc'])) hne h
   refine ⟨m+1,by rw[g1];push_cast;omega,by simp;omega,by omega,?_,?_⟩
   ·obtain ⟨d,l',rfl⟩:∃d l',l=d::l':=by
     cases l with
     |nil=>simp at g2
     |cons d l'=>exact ⟨d,l',rfl⟩
    rw[List.take_succ_cons,List.take_succ_cons] at *
    refine ⟨by omega,hcc.2,?_⟩
    simpa using g4
   ·rw[List.take_succ_cons,aU]
    obtain ⟨j,hj⟩:∃j,most - 1 - i=j+1:=⟨most - 2 - i,by omega⟩
    rw[show most - 1 - (i+1)=j by omega] at g5
    rw[hj,Int.pow_succ]
    have e:(128:Int) ^ j*128*(top+1)=128*(128 ^ j*(top+1)):=by
     rw[Int.mul_comm (128 ^ j) 128,Int.mul_assoc]
    rw[e]
    omega
def pc (b:LI)(p q:Int):LI:=(b.take q.toNat).drop p.toNat
theorem iC {b:LI}{p q r:Int}(h0:0≤p)(h1:p≤q)(h2:q≤r):pc b p q++pc b q r=pc b p r:=by
 unfold pc
 obtain ⟨P,rfl⟩:=au h0
 obtain ⟨Q,rfl⟩:=au (show 0≤q by omega)
 obtain ⟨R,rfl⟩:=au (show 0≤r by omega)
 simp only[zG]
 have e:b.take Q=(b.take R).take Q:=by rw[List.take_take,Nat.min_eq_left (by omega)]
 rw[e,List.drop_take]
 have e2:(b.take R).drop Q=((b.take R).drop P).drop (Q - P):=by rw[List.drop_drop,show P+(Q - P)=Q by omega]
 rw[e2,List.take_append_drop]
theorem CY {b:LI}{q n:Int}(h0:0≤q)(h1:0≤n):(b.drop q.toNat).take n.toNat=pc b q (q+n):=by
 unfold pc
 rw[List.drop_take,show (q+n).toNat - q.toNat=n.toNat by omega]
theorem GO {b:LI}{p q:Int}(h0:0≤p)(h1:p≤q)(h2:q≤b.length):((pc b p q).length:Int)=q - p:=by
 unfold pc
 simp only[List.length_drop,List.length_take]
 omega
def aR (b:LI):Prop:=∀c∈b,0≤c∧c≤255
theorem uI {most:Nat}{top:Int}(h0:0≤top)(ht:top<128)(hm:0<most)(hm':most≤10)(hB:128 ^ (most - 1)*(top+1)≤18446744073709551616){b:LI}(hb:aR b){p:Int}(h:(ab most top b p).2.2=0):
  ar (ab most top b p).1=pc b p (ab most top b p).2.1∧0≤(ab most top b p).1∧(ab most top b p).1<128 ^ (most - 1)*(top+1):=by
 obtain ⟨k1,k2,k3⟩:=nM h
 unfold ab at h k2 k3 ⊢
 by_cases hp:p<0∨(b.length:Int)<p
 ·rw[if_pos hp] at h;cases h
 rw[if_neg hp] at h k2 k3 ⊢
 by_cases hr:(cX most top (b.drop p.toNat) 0).2=0
 rotate_left
 ·rw[if_neg hr] at h;exact absurd h hr
 rw[if_pos hr] at k2 k3 ⊢
 obtain ⟨m,g1,g2,g3,g4,g5⟩:=y8 most top h0 ht (b.drop p.toNat) 0 (fun c hc=>hb c (List.mem_of_mem_drop hc)) hm hr
 rw[g1] at k2 k3 ⊢
 simp only at k2 k3 ⊢
 have e1:((((0:Nat):Int)+(m:Int))+1).toNat=m+1:=by omega
 rw[e1]
 have hpos:=(sL ((b.drop p.toNat).take (m+1))).1
 rw[Nat.sub_zero] at g5
 rw[Int.emod_eq_of_lt hpos (by omega)]
 refine ⟨?_,hpos,g5⟩
 have hd:=Can.dig 10 _ g4 (by rw[List.length_take];omega)
 unfold ar
 rw[hd]
 unfold pc
 rw[List.drop_take,show (p+(((0:Nat):Int)+m)+1).toNat - p.toNat=m+1 by omega]
theorem IQ {n:Int}:bu .i32 n↔-2147483648≤n∧n≤2147483647:=by simp[bu,IntKind.min,IntKind.max,IntKind.signed,IntKind.bits]
theorem Di {u:Int}(h:0≤u):ap (al u)=u:=by
 unfold ap al
 split <;> split <;> omega
theorem jc {b:LI}(hb:aR b){p:Int}(h:(ag b p).2.2=0):ar (ap (ag b p).1)=pc b p (ag b p).2.1:=by
 obtain ⟨h1,h2,h3⟩:=uI (most:=5) (top:=15) (by decide) (by decide) (by decide) (by decide) (by decide) hb (show (ab 5 15 b p).2.2=0 from h)
 have h3:(ab 5 15 b p).1<4294967296:=h3
 have e:(ag b p).1=al (ab 5 15 b p).1:=by
  show IntKind.wrap .i32 (al (ab 5 15 b p).1)=_
  refine bG (k:=.i32) (IQ.2 ?_)
  unfold al
  split <;> omega
 rw[e,Di h2]
 exact h1
theorem Bc {b:LI}(hb:aR b){p:Int}(h:(ab 10 1 b p).2.2=0):ar (ap (al (ab 10 1 b p).1))=pc b p (ab 10 1 b p).2.1:=by
 obtain ⟨h1,h2,h3⟩:=uI (most:=10) (top:=1) (by decide) (by decide) (by decide) (by decide) (by decide) hb h
 rw[Di h2]
 exact h1
theorem EF {b:LI}{p l:Int}(hl : -1≤l)(h:(ae b p l).2.2=0):(ag b p).2.2=0∧
  ((l<0∧(ag b p).1 = -1∧ae b p l=((true,[],()),(ag b p).2.1,0)) ∨
   (0≤(ag b p).1∧(ag b p).2.1+(ag b p).1≤b.length∧ae b p l=((false,pc b (ag b p).2.1 ((ag b p).2.1+(ag b p).1),()),(ag b p).2.1+(ag b p).1,0))):=by
 unfold ae at h ⊢
 by_cases h0:(ag b p).2.2=0
 rotate_left
 ·rw[if_pos h0] at h;exact absurd h h0
 have hk:=eD h0
 rw[if_neg (aD h0)] at h ⊢
 by_cases h1:(ag b p).1<l
 ·rw[if_pos h1] at h;cases h
 rw[if_neg h1] at h ⊢
 by_cases h2:(ag b p).1<0
 ·rw[if_pos h2]
  exact ⟨h0,.inl ⟨by omega,by omega,rfl⟩⟩
 rw[if_neg h2] at h ⊢
 by_cases h3:(b.length:Int) - (ag b p).2.1<(ag b p).1
 ·rw[if_pos h3] at h;cases h
 rw[if_neg h3,CY (by omega) (by omega)]
 exact ⟨h0,.inr ⟨by omega,by omega,rfl⟩⟩
theorem ir {b:LI}(hb:aR b){p l:Int}(hl : -1≤l)(h:(ae b p l).2.2=0):
  bm (ae b p l).1=pc b p (ae b p l).2.1∧eC (ae b p l).1=false∧0≤p∧p<(ae b p l).2.1∧(ae b p l).2.1≤b.length∧(0≤l→(ae b p l).1.1=false):=by
 obtain ⟨h0,h1 | h1⟩:=EF hl h
 ·obtain ⟨h1,h2,e⟩:=h1
  have hk:=eD h0
  have hd:=jc hb h0
  rw[e]
  refine ⟨?_,by simp[eC],hk.1,hk.2.1,hk.2.2,fun h=>by omega⟩
  rw[h2] at hd
  exact hd
 ·obtain ⟨h1,h2,e⟩:=h1
  have hk:=eD h0
  have hd:=jc hb h0
  rw[e]
  refine ⟨?_,by simp[eC],hk.1,by simp only;omega,by simpa using h2,fun _=>rfl⟩
  show ar (ap ((pc b (ag b p).2.1 ((ag b p).2.1+(ag b p).1)).length:Int))++pc b (ag b p).2.1 ((ag b p).2.1+(ag b p).1)=_
  rw[GO (by omega) (by omega) h2,show (ag b p).2.1+(ag b p).1 - (ag b p).2.1=(ag b p).1 by omega,hd,iC hk.1 (by omega) (by omega)]
theorem lM {b:LI}(hb:aR b):∀(n:Nat) (o:List d0) (p:Int),0≤p→p≤b.length→(aX b n o p).2.2=0→
  ∃hs:List d0,(aX b n o p).1=o++hs∧hs.length=n∧bM hs=pc b p (aX b n o p).2.1∧cS hs=0∧p≤(aX b n o p).2.1∧(aX b n o p).2.1≤b.length
 |0,o,p,h0,h1,h=>by
  refine ⟨[],by simp[aX],rfl,?_,rfl,Int.le_refl _,h1⟩
  show []=pc b p p
  unfold pc
  rw[zI (by simp;omega)]
 |n+1,o,p,h0,h1,h=>by
  rw[lN] at h ⊢
  by_cases hH:(aL b p).2.2=0
  rotate_left
  ·rw[if_pos hH] at h;exact absurd h hH
  rw[if_neg (aD hH)] at h ⊢
  unfold aL at hH
  by_cases a1:(ae b p 0).2.2=0
  rotate_left
  ·rw[if_pos a1] at hH;exact absurd hH a1
  rw[if_neg (aD a1)] at hH
  by_cases a2:(cw (ae b p 0).1.2.1).2=false
  ·rw[if_pos a2] at hH;cases hH
  rw[if_neg a2] at hH
  have hH:(ae b (ae b p 0).2.1 (-1)).2.2=0:=hH
  have eH:aL b p=(((ae b p 0).1.2.1,(ae b (ae b p 0).2.1 (-1)).1,()),(ae b (ae b p 0).2.1 (-1)).2.1,(ae b (ae b p 0).2.1 (-1)).2.2):=by
   unfold aL;rw[if_neg (aD a1),if_neg a2]
  rw[eH] at h ⊢
  simp only at h ⊢
  obtain ⟨k1,k2,k3,k4,k5,k6⟩:=ir hb (by decide) a1
  obtain ⟨q1,q2,q3,q4,q5,q6⟩:=ir hb (by decide) hH
  have k6:=k6 (Int.le_refl 0)
  obtain ⟨hs,g1,g2,g3,g4,g5,g6⟩:=lM hb n _ _ (show 0≤(ae b (ae b p 0).2.1 (-1)).2.1 by omega) q5 h
  refine ⟨((ae b p 0).1.2.1,(ae b (ae b p 0).2.1 (-1)).1,())::hs,by rw[g1];simp,by simp[g2],?_,?_,by omega,g6⟩
  ·have e1:bM (((ae b p 0).1.2.1,(ae b (ae b p 0).2.1 (-1)).1,())::hs)=(ar (ap (ae b p 0).1.2.1.length)++(ae b p 0).1.2.1)++bm (ae b (ae b p 0).2.1 (-1)).1++bM hs:=by
    simp[bM,wH]
   have e2:ar (ap (ae b p 0).1.2.1.length)++(ae b p 0).1.2.1=pc b p (ae b p 0).2.1:=by
    rw[← k1]
    unfold bm
    rw[if_neg (by rw[k6];decide)]
   rw[e1,e2,q1,g3,iC k3 (by omega) (by omega),iC k3 (by omega) (by omega)]
  ·unfold cS
   rw[if_neg a2,if_neg (by rw[q2];decide)]
   exact g4
theorem wE {b:LI}(hb:aR b){p:Int}(h:(aO b p).2.2=0):
  ar (ap (aO b p).1.length)++bM (aO b p).1=pc b p (aO b p).2.1∧cS (aO b p).1=0∧((aO b p).1.length:Int)≤16∧0≤p∧p<(aO b p).2.1∧(aO b p).2.1≤b.length:=by
 unfold aO at h ⊢
 by_cases c5:(ag b p).2.2=0
 rotate_left
 ·rw[if_pos c5] at h;exact absurd h c5
 rw[if_neg (aD c5)] at h ⊢
 by_cases c6:(ag b p).1<0
 ·rw[if_pos c6] at h;cases h
 rw[if_neg c6] at h ⊢
 by_cases c7:16<(ag b p).1
 ·rw[if_pos c7] at h;cases h
 rw[if_neg c7] at h ⊢
 have hk:=eD c5
 obtain ⟨hs,g1,g2,g3,g4,g5,g6⟩:=lM hb (ag b p).1.toNat [] (ag b p).2.1 (by omega) hk.2.2 h
 rw[List.nil_append] at g1
 have hl:(hs.length:Int)=(ag b p).1:=by omega
 rw[g1,hl,jc hb c5,g3,iC hk.1 (by omega) g5]
 exact ⟨rfl,g4,by omega,hk.1,by omega,g6⟩
theorem Bf {b:LI}(hb:aR b)(h:(bv b).2=0):bR (bv b).1=b∧qu (bv b).1=0:=by
 unfold bv at h ⊢
 by_cases h0:b.length=0
 ·rw[if_pos h0] at h;cases h
 rw[if_neg h0] at h ⊢
 by_cases h1:b.getD 0 0=0
 rotate_left
 ·rw[if_pos h1] at h;cases h
 rw[if_neg (aD h1)] at h ⊢
 by_cases h2:(ab 10 1 b 1).2.2=0
 rotate_left
 ·rw[if_pos h2] at h;exact absurd h h2
 rw[if_neg (aD h2)] at h ⊢
 have d1:=Bc hb h2
 have k1:=nM h2
 generalize al (ab 10 1 b 1).1=v1 at *
 generalize (ab 10 1 b 1).2.1=q1 at *
 by_cases c1:(ag b q1).2.2=0
 rotate_left
 ·rw[if_pos c1] at h;exact absurd h c1
 rw[if_neg (aD c1)] at h ⊢
 by_cases c2:(ag b q1).1<0
 ·rw[if_pos c2] at h;cases h
 rw[if_neg c2] at h ⊢
 have d2:=jc hb c1
 have k2:=eD c1
 generalize (ag b q1).1=v2 at *
 generalize (ag b q1).2.1=q2 at *
 by_cases c3:(ae b q2 (-1)).2.2=0
 rotate_left
 ·rw[if_pos c3] at h;exact absurd h c3
 rw[if_neg (aD c3)] at h ⊢
 obtain ⟨d3,b3,k3⟩:=ir hb (by decide) c3
 generalize (ae b q2 (-1)).1=B1 at *
 generalize (ae b q2 (-1)).2.1=q3 at *
 by_cases c4:(ae b q3 (-1)).2.2=0
 rotate_left
 ·rw[if_pos c4] at h;exact absurd h c4
 rw[if_neg (aD c4)] at h ⊢
 obtain ⟨d4,b4,k4⟩:=ir hb (by decide) c4
 generalize (ae b q3 (-1)).1=B2 at *
 generalize (ae b q3 (-1)).2.1=q4 at *
 by_cases c5:(aO b q4).2.2=0
 rotate_left
 ·rw[if_pos c5] at h;exact absurd h c5
 rw[if_neg (aD c5)] at h ⊢
 obtain ⟨d5,e5,n5,k5⟩:=wE hb c5
 generalize (aO b q4).1=hs at *
 generalize (aO b q4).2.1=q5 at *
 by_cases c6:q5<(b.length:Int)
 ·rw[if_pos c6] at h;cases h
 rw[if_neg c6]
 refine ⟨?_,?_⟩
 ·show 0::(ar (ap v1)++(ar (ap v2)++(bm B1++(bm B2++(ar (ap hs.length)++bM hs)))))=b
  rw[d1,d2,d3,d4,d5,iC (by omega) (by omega) (by omega),iC (by omega) (by omega) (by omega),iC (by omega) (by omega) (by omega),iC (by omega) (by omega) (by omega),show q5=b.length by omega]
  unfold pc
  rw[zG,List.take_length]
  obtain ⟨c,l,rfl⟩:∃c l,b=c::l:=by
   cases b with
   |nil=>exact absurd rfl h0
   |cons c l=>exact ⟨c,l,rfl⟩
  have h1:c=0:=h1
  rw[h1]
  rfl
 ·show (if v2<0 then 72 else if eC B1=true∨eC B2=true then 70 else if 16<(hs.length:Int) then 9 else cS hs)=0
  rw[if_neg c2,if_neg (by rw[b3,b4];simp),if_neg (by omega),e5]
theorem Bd {b:LI}(hb:aR b){p:Int}(h:(ak b p).2.2=0):
  0≤p∧p<(ak b p).2.1∧(ak b p).2.1≤b.length∧aS (ak b p).1=0∧bS (ak b p).1=(pc b p (ak b p).2.1,0)∧fm (ak b p).1=true:=by
 unfold ak at h ⊢
 by_cases c1:(ag b p).2.2=0
 rotate_left
 ·rw[if_pos c1] at h;exact absurd h c1
 rw[if_neg (aD c1)] at h ⊢
 by_cases c2:(ag b p).1<0
 ·rw[if_pos c2] at h;cases h
 rw[if_neg c2] at h ⊢
 by_cases c3:16384<(ag b p).1
 ·rw[if_pos c3] at h;cases h
 rw[if_neg c3] at h ⊢
 by_cases c4:(b.length:Int) - (ag b p).2.1<(ag b p).1
 ·rw[if_pos c4] at h;cases h
 rw[if_neg c4] at h ⊢
 have d1:=jc hb c1
 have k1:=eD c1
 generalize (ag b p).1=n at *
 generalize (ag b p).2.1=q at *
 rw[CY (by omega) (by omega)] at h ⊢
 by_cases c5:(bv (pc b q (q+n))).2=0
 rotate_left
 ·rw[if_pos c5] at h;exact absurd h c5
 rw[if_neg (aD c5)] at h ⊢
 have hb2:aR (pc b q (q+n)):=fun c hc=>hb c (List.mem_of_mem_take (List.mem_of_mem_drop hc))
 obtain ⟨e1,e2⟩:=Bf hb2 c5
 have hl:=GO (b:=b) (p:=q) (q:=q+n) (by omega) (by omega) (by omega)
 generalize (bv (pc b q (q+n))).1=r at *
 have hbl:((bR r).length:Int)=n:=by rw[e1];omega
 have hc:aS r=0:=by
  unfold aS
  rw[if_neg (aD e2),if_neg (by omega)]
 refine ⟨k1.1,by simp only;omega,by simp only;omega,hc,?_,?_⟩
 ·unfold bS
  rw[if_pos hc,hbl,d1,e1,iC k1.1 (by omega) (by omega)]
 ·unfold fm
  rw[zB]
  omega
theorem bytesOf {b:LI}(h:Ty.wf bs b):aR b:=fun c hc=>by
 have:=h.2 c hc
 exact F8.1 this
end
end Go.Proofs.YthpcdhgpplmneaaDoor.Sym
namespace Go.Proofs.YthpcdhgpplmneaaDoor.Sym
open Go
noncomputable section
theorem B0:∀(n:Nat) (u:Int) (f:Bool),0≤u→u<128 ^ (n+1)→(f=true→1≤u)→Can f (eM n u++[fI n u])∧aU (eM n u++[fI n u])=u∧(eM n u++[fI n u]).length≤n+1
 |0,u,f,h0,h1,hf=>by
  have h1:u<128:=h1
  refine ⟨⟨h0,h1,fun h=>by have:=hf h;show u≠0;omega⟩,?_,by simp[eM]⟩
  show u % 128+128*0=u
  omega
 |n+1,u,f,h0,h1,hf=>by
  by_cases h:127<u
  ·rw[Int.pow_succ] at h1
   obtain ⟨g1,g2,g3⟩:=B0 n (u / 128) true (by omega) (Int.ediv_lt_of_lt_mul (by omega) h1) (fun _=>by omega)
   have e:eM (n+1) u++[fI (n+1) u]=(u % 128+128)::(eM n (u / 128)++[fI n (u / 128)]):=by
    rw[eM,fI,if_pos h,if_pos h,List.cons_append]
   rw[e]
   obtain ⟨d,l,hl⟩:∃d l,eM n (u / 128)++[fI n (u / 128)]=d::l:=by
    cases hx:eM n (u / 128)++[fI n (u / 128)] with
    |nil=>simp at hx
    |cons d l=>exact ⟨d,l,rfl⟩
   rw[hl] at g1 g2 g3 ⊢
   refine ⟨⟨by omega,by omega,g1⟩,?_,by simp at g3 ⊢;omega⟩
   show (u % 128+128) % 128+128*aU (d::l)=u
   rw[g2]
   omega
  ·have e:eM (n+1) u++[fI (n+1) u]=[u]:=by
    rw[eM,fI,if_neg h,if_neg h];rfl
   rw[e]
   refine ⟨⟨h0,by omega,fun h=>by have:=hf h;omega⟩,?_,by simp⟩
   show u % 128+128*0=u
   omega
theorem EA {u:Int}(h0:0≤u)(h:u<18446744073709551616):Can false (ar u)∧aU (ar u)=u∧0<(ar u).length:=
 have g:=B0 10 u false h0 (Int.lt_of_lt_of_le h (by decide)) (fun h=>by cases h)
 ⟨g.1,g.2.1,by simp[ar]⟩
theorem pD (most:Nat)(top:Int)(ht:top<128):∀(l rest:LI) (i:Nat),Can (decide (0<i)) l→i<most→aU l<128 ^ (most - 1 - i)*(top+1)→cX most top (l++rest) i=(((i+l.length - 1:Nat):Int),0)
 |[],rest,i,hc,_,_=>hc.elim
 |[c],rest,i,hc,hi,hv=>by
  obtain ⟨h1,h2,h3⟩:=hc
  have e:aU [c]=c:=by simp only[aU];omega
  rw[e] at hv
  simp only[List.cons_append,List.nil_append,cX]
  have hn:¬(i+1=most∧top<c):=by
   rintro ⟨h4,h5⟩
   rw[show most - 1 - i=0 by omega] at hv
   simp at hv
   omega
  have hz:¬(c=0∧0<i):=fun h=>h3 (by simpa using h.2) h.1
  rw[if_neg hn,if_pos h2,if_neg hz]
  simp
 |c::d::l,rest,i,hc,hi,hv=>by
  obtain ⟨h1,h2,h3⟩:=hc
  have hp:=h3.pos
  have e:aU (c::d::l)=c % 128+128*aU (d::l):=rfl
  rw[e] at hv
  have hne:i+1<most:=by
   rcases Nat.lt_or_ge (i+1) most with h | h
   ·exact h
   ·rw[show most - 1 - i=0 by omega] at hv
    simp at hv
    omega
  obtain ⟨j,hj⟩:∃j,most - 1 - i=j+1:=⟨most - 2 - i,by omega⟩
  rw[hj,Int.pow_succ] at hv
  have e2:(128:Int) ^ j*128*(top+1)=128*(128 ^ j*(top+1)):=by rw[Int.mul_comm (128 ^ j) 128,Int.mul_assoc]
  rw[e2] at hv
  have ih:=pD most top ht (d::l) rest (i+1) (by simpa using h3) hne (by rw[show most - 1 - (i+1)=j by omega];omega)
  rw[List.cons_append,cX,if_neg (fun h=>by omega),if_neg (by omega),ih]
  simp only[zN,zD,and_true]
  congr 1
  omega
def Has (b:LI)(p:Int)(X:LI):Prop:=0≤p∧p≤b.length∧∃rest,b.drop p.toNat=X++rest
theorem Has.left {b:LI}{p:Int}{X Y:LI}(h:Has b p (X++Y)):Has b p X:=by
 obtain ⟨h0,h1,rest,h2⟩:=h
 exact ⟨h0,h1,Y++rest,by rw[h2,zK]⟩
theorem Has.len {b:LI}{p:Int}{X:LI}(h:Has b p X):p+X.length≤b.length:=by
 obtain ⟨h0,h1,rest,h2⟩:=h
 have:=congrArg List.length h2
 simp only[List.length_drop,zH] at this
 omega
theorem Has.right {b:LI}{p:Int}{X Y:LI}(h:Has b p (X++Y)):Has b (p+X.length) Y:=by
 have hl:=h.left.len
 obtain ⟨h0,h1,rest,h2⟩:=h
 refine ⟨by omega,hl,rest,?_⟩
 rw[show (p+X.length).toNat=p.toNat+X.length by omega,← List.drop_drop,h2,zK,List.drop_left]
theorem Has.take {b:LI}{p:Int}{X:LI}(h:Has b p X):(b.drop p.toNat).take X.length=X:=by
 obtain ⟨h0,h1,rest,h2⟩:=h
 rw[h2,List.take_left]
theorem HH {most:Nat}{top:Int}(ht:top<128)(hm:0<most)(hB:128 ^ (most - 1)*(top+1)≤18446744073709551616){b:LI}{p u:Int}(h0:0≤u)(hu:u<128 ^ (most - 1)*(top+1))(h:Has b p (ar u)):
  ab most top b p=(u,p+(ar u).length,0):=by
 obtain ⟨hp,hl,rest,hd⟩:=h
 obtain ⟨c1,c2,c3⟩:=EA h0 (by omega)
 have hr:=pD most top ht (ar u) rest 0 c1 hm (by rw[c2];simpa using hu)
 have e1:((0+(ar u).length - 1:Nat):Int)=(ar u).length - 1:=by omega
 rw[e1] at hr
 unfold ab
 rw[if_neg (by omega),hd,hr,if_pos rfl]
 simp only
 rw[show ((ar u).length - 1+1:Int).toNat=(ar u).length by omega,List.take_left,c2,Int.emod_eq_of_lt h0 (by omega),show p+((ar u).length - 1)+1=p+(ar u).length by omega]
theorem JP {v:Int}:al (ap v)=v:=by
 unfold ap al
 split <;> split <;> omega
theorem EB {b:LI}{p v:Int}(h1 : -9223372036854775808≤v)(h2:v≤9223372036854775807)(h:Has b p (ar (ap v))):ab 10 1 b p=(ap v,p+(ar (ap v)).length,0):=by
 have hz:0≤ap v∧ap v<18446744073709551616:=by unfold ap;split <;> omega
 exact HH (most:=10) (top:=1) (by decide) (by decide) (by decide) hz.1 hz.2 h
end
end Go.Proofs.YthpcdhgpplmneaaDoor.Sym
namespace Go.Proofs.YthpcdhgpplmneaaDoor.Sym
open Go
open Go.IntKind (i8 i16 i32 i64 u8 u16 u32 u64)
noncomputable section
theorem ja (x k:Int):∀(n m:Nat),m≤n→aI (x+256 ^ n*k) m=aI x m
 |_,0,_=>rfl
 |n,m+1,h=>by
  rw[aI,aI,ja x k n m (by omega)]
  congr 1
  have hp:(256:Int) ^ n=256 ^ m*(256*256 ^ (n - m - 1)):=by
   rw[← Int.pow_succ',← Int.pow_add]
   congr 1;omega
  have hq:(256:Int) ^ m≠0:=Int.ne_of_gt (Int.pow_pos (by decide))
  rw[hp,Int.mul_assoc,Int.add_mul_ediv_left _ _ hq,Int.mul_assoc,Int.add_mul_emod_self_left]
theorem FJ (l:LI):∀v:Int,l.foldl (fun v c=>v*256+c) v=v*256 ^ l.length+aB l:=by
 induction l with
 |nil=>intro v;simp[aB]
 |cons c l ih=>
  intro v
  unfold aB
  rw[List.foldl_cons,List.foldl_cons,ih,ih (0*256+c),zN,Int.pow_succ,Int.add_mul,Int.zero_mul,Int.zero_add,Int.mul_assoc,Int.mul_comm 256]
  omega
theorem nE:∀{l:LI},byteR l→aI (aB l) l.length=l
 |[],_=>rfl
 |c::l,h=>by
  have hc:=h c (by simp)
  have hl:byteR l:=fun d hd=>h d (by simp[hd])
  have hb:=pA l fun d hd=>⟨(hl d hd).1,by have:=(hl d hd).2;omega⟩
  have e:aB (c::l)=aB l+256 ^ l.length*c:=by
   have:=FJ l (0*256+c)
   unfold aB
   rw[List.foldl_cons,this,Int.zero_mul,Int.zero_add,Int.mul_comm]
   unfold aB;omega
  have hq:(0:Int)<256 ^ l.length:=Int.pow_pos (by decide)
  rw[zN,aI,e,ja _ _ _ _ (Nat.le_refl _),nE hl,Int.add_mul_ediv_left _ _ (Int.ne_of_gt hq),Int.ediv_eq_zero_of_lt hb.1 hb.2]
  congr 1
  omega
theorem KS {l:LI}(h:byteR l)(hl:l.length=2):aI (i16.wrap (aB l)) 2=l:=by
 have key:∃t,i16.wrap (aB l)=aB l+256 ^ 2*t:=⟨(i16.wrap (aB l) - aB l) / 65536,by simp[IntKind.wrap,IntKind.min,IntKind.max,IntKind.signed,IntKind.bits];omega⟩
 obtain ⟨t,e⟩:=key
 rw[e,ja _ _ _ _ (Nat.le_refl _)]
 have:=nE h;rw[hl] at this;exact this
theorem KT {l:LI}(h:byteR l)(hl:l.length=4):aI (i32.wrap (aB l)) 4=l:=by
 have key:∃t,i32.wrap (aB l)=aB l+256 ^ 4*t:=⟨(i32.wrap (aB l) - aB l) / 4294967296,by simp[IntKind.wrap,IntKind.min,IntKind.max,IntKind.signed,IntKind.bits];omega⟩
 obtain ⟨t,e⟩:=key
 rw[e,ja _ _ _ _ (Nat.le_refl _)]
 have:=nE h;rw[hl] at this;exact this
theorem KU {l:LI}(h:byteR l)(hl:l.length=8):aI (i64.wrap (aB l)) 8=l:=by
 have key:∃t,i64.wrap (aB l)=aB l+256 ^ 8*t:=⟨(i64.wrap (aB l) - aB l) / 18446744073709551616,by simp[IntKind.wrap,IntKind.min,IntKind.max,IntKind.signed,IntKind.bits];omega⟩
 obtain ⟨t,e⟩:=key
 rw[e,ja _ _ _ _ (Nat.le_refl _)]
 have:=nE h;rw[hl] at this;exact this
theorem Jk (b:LI)(p:Int):pc b p p=[]:=by
 unfold pc
 exact List.drop_eq_nil_of_le (by rw[List.length_take];omega)
theorem sd {blk:LI}(hb:aR blk)(f:Int):∀(n i:Nat) (p:Int) (out:List bf),(aH blk f n i p out).2.2=0→0≤p→p≤blk.length→
  ∃rs:List bf,(aH blk f n i p out).1=out++rs∧rs.length=n∧p≤(aH blk f n i p out).2.1∧(aH blk f n i p out).2.1≤blk.length∧
   (∀acc,aW f rs i acc=(acc++pc blk p (aH blk f n i p out).2.1,0))∧b7 f rs i=true∧(i=0→0<n→ax rs=f)∧∀r∈rs,bu .i64 r.1
 |0,i,p,out,h,h0,h1=>⟨[],(List.append_nil out).symm,rfl,Int.le_refl p,h1,fun acc=>by
   show (acc,(0:Int))=(acc++pc blk p p,0)
   rw[Jk,List.append_nil],rfl,fun _ h=>by omega,fun r h=>by cases h⟩
 |n+1,i,p,out,h,h0,h1=>by
  have e:aH blk f (n+1) i p out=if (ak blk p).2.2≠0 then ([],0,(ak blk p).2.2) else if (ak blk p).1.2.1≠(i:Int) then ([],0,72) else if i=0∧(ak blk p).1.1≠0∨aN (f+(ak blk p).1.1)=false then ([],0,86)
    else aH blk f n (i+1) (ak blk p).2.1 (out++[(f+(ak blk p).1.1,(ak blk p).1.2.2.1,(ak blk p).1.2.2.2.1,(ak blk p).1.2.2.2.2.1,())]):=rfl
  rw[e] at h ⊢
  by_cases c1:(ak blk p).2.2=0
  rotate_left
  ·rw[if_pos c1] at h;exact absurd h c1
  rw[if_neg (aD c1)] at h ⊢
  by_cases c2:(ak blk p).1.2.1=(i:Int)
  rotate_left
  ·rw[if_pos c2] at h;cases h
  rw[if_neg (aD c2)] at h ⊢
  by_cases c3:i=0∧(ak blk p).1.1≠0∨aN (f+(ak blk p).1.1)=false
  ·rw[if_pos c3] at h;cases h
  rw[if_neg c3] at h ⊢
  obtain ⟨k1,k2,k3,k4,k5,k6⟩:=Bd hb c1
  obtain ⟨b1,b2⟩:=HO blk p
  obtain ⟨rs,r1,r2,r3,r4,r5,r6,r7,r8⟩:=sd hb f n (i+1) _ _ h (by omega) k3
  generalize ak blk p=x at *
  obtain ⟨⟨d,o,K,V,hs,⟨⟩⟩,q,er⟩:=x
  simp only at k1 k2 k3 k4 k5 k6 b1 b2 r1 r3 r4 r5 c2 c3 h ⊢
  subst c2
  generalize aH blk f n (i+1) q (out++[(f+d,K,V,hs,())])=y at *
  have eR:ch f i (f+d,K,V,hs,())=(d,(i:Int),K,V,hs,()):=by
   unfold ch
   simp only
   rw[show f+d - f=d by omega]
  refine ⟨(f+d,K,V,hs,())::rs,by rw[r1];simp,by simp[r2],by omega,r4,fun acc=>?_,?_,fun hi _=>?_,fun r hr=>?_⟩
  ·have e2:aW f ((f+d,K,V,hs,())::rs) i acc=if aN (f+d - f)=false then ([],86) else if aS (ch f i (f+d,K,V,hs,()))≠0 then ([],aS (ch f i (f+d,K,V,hs,()))) else aW f rs (i+1) (acc++(bS (ch f i (f+d,K,V,hs,()))).1):=rfl
   rw[e2,eR,show f+d - f=d by omega,if_neg (by rw[gS.2 (oE b1)];decide),if_neg (aD k4),k5,r5]
   simp only
   rw[zK,iC k1 (by omega) r3]
  ·show (fm (ch f i (f+d,K,V,hs,()))&&b7 f rs (i+1))=true
   rw[eR,k6,r6];rfl
  ·show f+d=f
   have:d=0:=Classical.byContradiction fun hd=>c3 (.inl ⟨hi,hd⟩)
   omega
  ·rcases List.mem_cons.1 hr with rfl | hr
   ·have hft:aN (f+d)=true:=by
     cases hh:aN (f+d) with
     |true=>rfl
     |false=>exact absurd (.inr hh) c3
    have:=gS.1 hft
    show bu .i64 (f+d)
    simp[bu,IntKind.min,IntKind.max,IntKind.signed,IntKind.bits];omega
   ·exact r8 r hr
theorem ri {b:LI}(h:aR b)(i:Nat):0≤b.getD i 0∧b.getD i 0≤255:=by
 rw[List.getD_eq_getElem?_getD]
 cases e:b[i]? with
 |none=>exact ⟨by decide,by decide⟩
 |some x=>exact h x (List.mem_of_getElem? e)
theorem tX {a b:LI}(ha:aR a)(hb:aR b):aR (a++b):=fun c hc=>by
 rcases List.mem_append.1 hc with h | h
 ·exact ha c h
 ·exact hb c h
theorem cV:aR []:=fun c h=>by cases h
theorem nI (d:Nat):∀(n:Nat) (out:LI),aR out→aR (cR d n out)
 |0,_,h=>h
 |n+1,out,h=>nI d n _ (tX h fun c hc=>by
   have:=ri h (out.length - d)
   simp only[List.mem_singleton] at hc
   rw[hc];exact this)
theorem y7 {b:LI}(hb:aR b):aR (bd b).1.1:=by
 unfold bd
 split
 ·split
  ·exact cV
  ·exact fun c hc=>hb c (List.mem_of_mem_drop (List.mem_of_mem_take hc))
 ·split
  ·exact cV
  ·split <;> exact cV
theorem nK:∀(k:Nat) (b out:LI) (m:Int),aR b→aR out→aR (bX k b out m).1
 |0,_,_,_,_,h=>h
 |k+1,b,out,m,hb,h=>by
  unfold bX
  split
  ·exact h
  split
  ·exact cV
  split
  ·exact cV
  rename_i h3
  refine nK k _ _ _ (fun c hc=>hb c (List.mem_of_mem_drop hc)) ?_
  unfold bw at h3 ⊢
  split
  ·exact cV
  split
  ·exact cV
  exact nI _ _ _ (tX h (y7 hb))
theorem sJ {b:LI}(hb:aR b):aR (ci b).1:=by
 unfold ci
 repeat' split
 all_goals first | exact cV | skip
 rw[fD]
 exact nK _ _ _ _ (fun c hc=>hb c (List.mem_of_mem_drop hc)) cV
theorem s9 {b:LI}(hb:aR b)(pk:Bool):aR (aJ b pk).1:=by
 unfold aJ
 split
 ·exact sJ fun c hc=>hb c (List.mem_of_mem_drop hc)
 split
 ·exact cV
 exact fun c hc=>hb c (List.mem_of_mem_drop hc)
theorem Bb (b:LI)(pk:Bool):(aJ b pk).1.length≤32768:=by
 unfold aJ
 split
 ·exact zb _
 split
 ·simp
 simp only
 omega
structure DecOk (b blk:LI) (rs:List bf):Prop where
 head:bK b true=0
 body:aJ b (decide (b.getD 22 0=1))=(blk,0)
 rows:dy rs=(blk,0)
 len:(rs.length:Int)=ay b 57 4
 first:ax rs=ay b 27 8
 last:cq rs=ay b 35 8
 room:b7 (ax rs) rs 0=true
 times:∀r∈rs,bu .i64 r.1
theorem Dy {b:LI}(hb:aR b){rs:List bf}(h:gG b=(rs,0)):∃blk,DecOk b blk rs:=by
 unfold gG at h
 by_cases c1:bK b true=0
 rotate_left
 ·rw[if_pos c1] at h;exact absurd (congrArg Prod.snd h) c1
 rw[if_neg (aD c1)] at h
 by_cases c2:(aJ b (decide (b.getD 22 0=1))).2=0
 rotate_left
 ·rw[if_pos c2] at h;exact absurd (congrArg Prod.snd h) c2
 rw[if_neg (aD c2)] at h
 have hby:=s9 hb (decide (b.getD 22 0=1))
 have hle:=Bb b (decide (b.getD 22 0=1))
 have hbk:aJ b (decide (b.getD 22 0=1))=((aJ b (decide (b.getD 22 0=1))).1,0):=Prod.ext rfl c2
 generalize (aJ b (decide (b.getD 22 0=1))).1=blk at *
 obtain ⟨k1,_,_,_,_,_,_,_,_,k2,k3,_⟩:=iT c1
 unfold wG at h
 by_cases c3:(aH blk (ay b 27 8) (ay b 57 4).toNat 0 0 []).2.2=0
 rotate_left
 ·rw[if_pos c3] at h;exact absurd (congrArg Prod.snd h) c3
 rw[if_neg (aD c3)] at h
 obtain ⟨rs',r1,r2,r3,r4,r5,r6,r7,r8⟩:=sd hby (ay b 27 8) _ 0 0 [] c3 (Int.le_refl 0) (by omega)
 rw[List.nil_append] at r1
 rw[r1] at h
 by_cases c4:(aH blk (ay b 27 8) (ay b 57 4).toNat 0 0 []).2.1<(blk.length:Int)
 ·rw[if_pos c4] at h;cases congrArg Prod.snd h
 rw[if_neg c4] at h
 have hq:(aH blk (ay b 27 8) (ay b 57 4).toNat 0 0 []).2.1=(blk.length:Int):=by omega
 rw[hq] at r5
 by_cases c5:cq rs'=ay b 35 8
 rotate_left
 ·rw[if_pos c5] at h;cases congrArg Prod.snd h
 rw[if_neg (aD c5)] at h
 obtain rfl:rs'=rs:=congrArg Prod.fst h
 have hF:=r7 rfl (by omega)
 have hp:pc blk 0 (blk.length:Int)=blk:=by
  unfold pc
  rw[zG,List.take_length];rfl
 have h5:=r5 []
 rw[hp,List.nil_append] at h5
 refine ⟨blk,c1,hbk,?_,by omega,hF,c5,by rw[hF];exact r6,r8⟩
 unfold dy
 rw[hF,h5,if_neg (aD rfl),if_neg (by simp only;omega)]
theorem rh {b:LI}(h:aR b):byteR b:=fun c hc=>⟨(h c hc).1,by have:=(h c hc).2;omega⟩
theorem p6 {b:LI}(h:aR b){p:Nat}(hp:p+8≤b.length):aI (ay b p 8) 8=(b.drop p).take 8:=by
 unfold ay
 have h1:=dH h p 8
 rw[← wy h1 (cT hp)]
 exact KU (rh h1) (cT hp)
theorem m6 {b:LI}(h:aR b){p:Nat}(hp:p+4≤b.length):aI (ay b p 4) 4=(b.drop p).take 4:=by
 unfold ay
 have h1:=dH h p 4
 rw[← nC h1 (cT hp)]
 exact KT (rh h1) (cT hp)
theorem Ib {b:LI}(h:aR b){p:Nat}(hp:p+2≤b.length):aI (ay b p 2) 2=(b.drop p).take 2:=by
 unfold ay
 have h1:=dH h p 2
 rw[← wx h1 (cT hp)]
 exact KS (rh h1) (cT hp)
theorem ou (b:LI)(p n:Nat):(b.drop p).take n++b.drop (p+n)=b.drop p:=by
 rw[← List.drop_drop,List.take_append_drop]
structure BatR (x:dz):Prop where
 w1:bu .i64 x.1
 w2:bu .i32 x.2.1
 w3:bu .i64 x.2.2.1
 w4:bu .i16 x.2.2.2.1
 w5:bu .i32 x.2.2.2.2.1
 w6:∀r∈x.2.2.2.2.2.1,bu .i64 r.1
theorem BatR.of {x:dz}(hx:Ty.wf td x):BatR x:=⟨hx.1,hx.2.1,hx.2.2.1,hx.2.2.2.1,hx.2.2.2.2.1,fun r hr=>(hx.2.2.2.2.2.1.2 r hr).1⟩
theorem C8 {b:LI}(h:aR b){p:Nat}(hp:p+8≤b.length):bu .i64 (ay b p 8):=by
 unfold ay
 rw[← wy (dH h p 8) (cT hp)]
 exact bJ _ _
theorem C7 {b:LI}(h:aR b){p:Nat}(hp:p+4≤b.length):bu .i32 (ay b p 4):=by
 unfold ay
 rw[← nC (dH h p 4) (cT hp)]
 exact bJ _ _
theorem JH {b:LI}(h:aR b){p:Nat}(hp:p+2≤b.length):bu .i16 (ay b p 2):=by
 unfold ay
 rw[← wx (dH h p 2) (cT hp)]
 exact bJ _ _
theorem Ap {b:LI}(hb:aR b){x:dz}(h:an b=(x,0)):∃blk,DecOk b blk x.2.2.2.2.2.1∧cU x=0∧oY x (b.getD 22 0) (b.drop 61)=b∧BatR x:=by
 unfold an at h
 by_cases c1:(gG b).2=0
 rotate_left
 ·rw[if_pos c1] at h;exact absurd (congrArg Prod.snd h) c1
 rw[if_neg (aD c1)] at h
 have hE:gG b=((gG b).1,0):=by rw[← c1]
 generalize (gG b).1=rs at *
 obtain rfl:=congrArg Prod.fst h
 obtain ⟨blk,D⟩:=Dy hb hE
 refine ⟨blk,D,?_,?_,?_⟩
 ·obtain ⟨k1,_,_,_,_,k5,_,_,k8,k9,k10,_⟩:=iT D.head
  have hl:=D.len
  have e:cU (ay b 0 8,ay b 12 4,ay b 43 8,ay b 51 2,ay b 53 4,rs,())=if bk (ay b 0 8)=true then 80 else if bc (ay b 43 8) (ay b 51 2) (ay b 53 4)=true then 84 else if rs=[] then 85 else if 256<(rs.length:Int) then 9 else (dy rs).2:=rfl
  rw[e,if_neg (by rw[k5];decide),if_neg (by rw[k8];decide),if_neg (fun h=>by rw[h] at hl;simp at hl;omega),if_neg (by omega),D.rows]
 ·obtain ⟨k1,k2,k3,k4,k4',k5,k6,k7,k8,k9,k10,k11⟩:=iT D.head
  have hl:(rs.length:Int)=ay b 57 4:=D.len
  have hF:ax rs=ay b 27 8:=D.first
  have hL:cq rs=ay b 35 8:=D.last
  have hS:fV b=true:=by
   cases h:fV b with
   |true=>rfl
   |false=>exact absurd ⟨rfl,h⟩ k4'
  have hS:(b.drop 17).take 4=aI (cC 0 (b.drop 21)) 4:=by
   unfold fV at hS
   split at hS
   ·assumption
   ·cases hS
  have hM:ay b 8 4=49+((b.drop 61).length:Int):=by
   unfold aj at k2 k3
   split at k2
   ·cases k2
   rename_i m1
   rw[if_neg m1] at k3
   split at k2
   ·cases k2
   rename_i m2
   rw[if_neg m2] at k3
   split at k2
   ·cases k2
   rename_i m3
   rw[if_neg m3] at k3
   split at k2
   ·cases k2
   rename_i m4
   rw[if_neg m4] at k3
   split at k2
   ·cases k2
   rename_i m5
   rw[if_neg m5] at k3
   have k3:ay b 8 4+12=(b.length:Int):=k3
   rw[List.length_drop]
   omega
  have e22:=ri hb 22
  have h21:aI (b.getD 22 0) 2=(b.drop 21).take 2:=by
   rw[J8 (by omega),k6]
   rcases (by omega:b.getD 22 0=0∨b.getD 22 0=1) with h | h <;> rw[h] <;> rfl
  have t57:aI (rs.length:Int) 4++b.drop 61=b.drop 57:=by rw[hl,m6 hb (by omega),ou b 57 4]
  have t53:aI (ay b 53 4) 4++b.drop 57=b.drop 53:=by rw[m6 hb (by omega),ou b 53 4]
  have t51:aI (ay b 51 2) 2++b.drop 53=b.drop 51:=by rw[Ib hb (by omega),ou b 51 2]
  have t43:aI (ay b 43 8) 8++b.drop 51=b.drop 43:=by rw[p6 hb (by omega),ou b 43 8]
  have t35:aI (cq rs) 8++b.drop 43=b.drop 35:=by rw[hL,p6 hb (by omega),ou b 35 8]
  have t27:aI (ax rs) 8++b.drop 35=b.drop 27:=by rw[hF,p6 hb (by omega),ou b 27 8]
  have t23:aI ((rs.length:Int) - 1) 4++b.drop 27=b.drop 23:=by rw[hl,← k11,m6 hb (by omega),ou b 23 4]
  have t21:aI (b.getD 22 0) 2++b.drop 23=b.drop 21:=by rw[h21,ou b 21 2]
  have t17:aI (cC 0 (b.drop 21)) 4++b.drop 21=b.drop 17:=by rw[← hS,ou b 17 4]
  have t16:[2]++b.drop 17=b.drop 16:=by rw[← k4,← HX (by omega),ou b 16 1]
  have t12:aI (ay b 12 4) 4++b.drop 16=b.drop 12:=by rw[m6 hb (by omega),ou b 12 4]
  have t8:aI (49+((b.drop 61).length:Int)) 4++b.drop 12=b.drop 8:=by rw[← hM,m6 hb (by omega),ou b 8 4]
  have t0:aI (ay b 0 8) 8++b.drop 8=b:=by
   have:=p6 hb (p:=0) (by omega)
   rw[this];exact ou b 0 8
  have hT:dw (ay b 0 8,ay b 12 4,ay b 43 8,ay b 51 2,ay b 53 4,rs,()) (b.getD 22 0) (b.drop 61)=b.drop 21:=by
   show aI (b.getD 22 0) 2++(aI ((rs.length:Int) - 1) 4++(aI (ax rs) 8++(aI (cq rs) 8++(aI (ay b 43 8) 8++(aI (ay b 51 2) 2++(aI (ay b 53 4) 4++(aI (rs.length:Int) 4++b.drop 61)))))))=_
   rw[t57,t53,t51,t43,t35,t27,t23,t21]
  show aI (ay b 0 8) 8++(aI (49+((b.drop 61).length:Int)) 4++(aI (ay b 12 4) 4++([2]++(aI (cC 0 (dw (ay b 0 8,ay b 12 4,ay b 43 8,ay b 51 2,ay b 53 4,rs,()) (b.getD 22 0) (b.drop 61))) 4++dw (ay b 0 8,ay b 12 4,ay b 43 8,ay b 51 2,ay b 53 4,rs,()) (b.getD 22 0) (b.drop 61)))))=b
  rw[hT,t17,t16,t12,t8,t0]
 ·obtain ⟨k1,_⟩:=iT D.head
  exact ⟨C8 hb (by omega),C7 hb (by omega),C8 hb (by omega),JH hb (by omega),C7 hb (by omega),D.times⟩
theorem om {x:dz}(h:cU x=0):bk x.1=false∧bc x.2.2.1 x.2.2.2.1 x.2.2.2.2.1=false∧1≤x.2.2.2.2.2.1.length∧x.2.2.2.2.2.1.length≤256∧(dy x.2.2.2.2.2.1).2=0:=by
 unfold cU at h
 split at h
 ·cases h
 rename_i h1
 split at h
 ·cases h
 rename_i h2
 split at h
 ·cases h
 rename_i h3
 split at h
 ·cases h
 rename_i h4
 exact ⟨by simpa using h1,by simpa using h2,List.length_pos_iff.2 h3,by omega,h⟩
theorem Fb {rs:List bf}(h:(dy rs).2=0):(aW (ax rs) rs 0 []).2=0∧(dy rs).1=(aW (ax rs) rs 0 []).1∧(dy rs).1.length≤32768:=by
 unfold dy at h ⊢
 by_cases c1:(aW (ax rs) rs 0 []).2=0
 rotate_left
 ·rw[if_pos c1] at h;exact absurd h c1
 rw[if_neg (aD c1)] at h ⊢
 by_cases c2:32768<((aW (ax rs) rs 0 []).1.length:Int)
 ·rw[if_pos c2] at h;cases h
 rw[if_neg c2] at h ⊢
 exact ⟨c1,rfl,by simp only;omega⟩
theorem E8 (x:dz)(a:Int)(raw:LI):(oY x a raw).length=61+raw.length:=by
 unfold oY dw
 simp only[zH,so,List.length_singleton]
 omega
abbrev ca:Ty:=.prod (.int .i64) (.prod (.int .i64) (.prod (.int .i64) (.prod (.int .i64) (.prod (.int .i64) (.prod (.int .i64) (.prod (.int .i16) (.prod (.int .i32) .unit)))))))
abbrev bx:Type:=Int×Int×Int×Int×Int×Int×Int×Int×Unit
abbrev HU:Ty:=.sl 32 ca
abbrev Ly:Ty:=.prod HU (.prod (.int .i64) (.prod (.int .i64) (.prod (.int .i64) .unit)))
abbrev K3:Type:=List bx×Int×Int×Int×Unit
abbrev La:Sh:=.dat ca true false
abbrev Lb:Sh:=.dat HU false false
abbrev Ka:Sh:=.dat HU false true
abbrev Lf:Sh:=.dat Ly true false
abbrev Ig:Sh:=.dat (.sl 35 td) false false
def C6 (x:dz)(p n:Int):bx:=(x.1,(x.2.2.2.2.2.1.length:Int),p,n,cq x.2.2.2.2.2.1,x.2.2.1,x.2.2.2.1,x.2.2.2.2.1,())
def br (b:LI):Nat→Int→Int→List (bx×dz)×Int×Int×Int
 |0,p,q=>([],p,q,0)
 |k+1,p,q=>
  if (b.length:Int)≤p then ([],p,q,0)
  else if (aj b p).2≠0 then ([],p,q,(aj b p).2)
  else if (an ((b.drop p.toNat).take (aj b p).1.toNat)).2≠0 then ([],p,q,(an ((b.drop p.toNat).take (aj b p).1.toNat)).2)
  else if (an ((b.drop p.toNat).take (aj b p).1.toNat)).1.1≠q then ([],p,q,190)
  else ((C6 (an ((b.drop p.toNat).take (aj b p).1.toNat)).1 p (aj b p).1,(an ((b.drop p.toNat).take (aj b p).1.toNat)).1) ::
    (br b k (p+(aj b p).1) (q+((an ((b.drop p.toNat).take (aj b p).1.toNat)).1.2.2.2.2.2.1.length:Int))).1,
   (br b k (p+(aj b p).1) (q+((an ((b.drop p.toNat).take (aj b p).1.toNat)).1.2.2.2.2.2.1.length:Int))).2)
def aG (b:LI)(base:Int):List (bx×dz)×Int×Int×Int:=br b (b.length+1) 0 base
def az (b:LI)(base:Int):K3:=((aG b base).1.map (·.1),(aG b base).2.1,(aG b base).2.2.1,(aG b base).2.2.2,())
def bp (time base:Int):List bf→Nat→Int×Int×Bool→Int×Int×Bool
 |[],_,f=>f
 |r::rs,i,f=>bp time base rs (i+1) (if f.2.2=false∧time≤r.1 then (base+i,r.1,true) else f)
def bo (time:Int)(xs:List (bx×dz))(f:Int×Int×Bool):Int×Int×Bool:=xs.foldl (fun f x=>bp time x.2.1 x.2.2.2.2.2.2.1 0 f) f
def o4 (b:LI)(base time:Int):Int×Int×Bool:=bo time (aG b base).1 (0,0,false)
def aM (from_:Int)(es:List bx):Nat:=(es.takeWhile fun e=>decide (e.1≤from_)).length
def dD (at_ most:Int):List bx→Int→Int
 |[],e=>e
 |x::xs,e=>if most<x.2.2.1+x.2.2.2.1 - at_ then e else dD at_ most xs (x.2.2.1+x.2.2.2.1)
def eF:List bx→Bool
 |[]=>true
 |x::xs=>(match xs with
  |[]=>true
  |y::_=>decide (x.1≤y.1))&&eF xs
def nF (x:dz):Bool:=decide (0≤x.1)&&(decide (x.1≤4611686018427387648)&&decide (x.2.2.2.2.2.1.length≤256))
def jX:bx:=(0,0,0,0,0,0,0,0,())
def mG (b:LI)(base from_ most:Int):LI×Int:=
 if from_<base∨(aG b base).2.2.1<from_ then ([],221)
 else if from_=(aG b base).2.2.1 then ([],0)
 else
  (let es:=(aG b base).1.map (·.1)
   let f:=es.getD (aM from_ es - 1) jX
   ((b.take (dD f.2.2.1 most (es.drop (aM from_ es)) (f.2.2.1+f.2.2.2.1)).toNat).drop f.2.2.1.toNat,0))
def nJ (es:List bx):Bool:=es.all fun e=>decide (0≤e.2.2.1)&&(decide (e.2.2.1≤4294960000)&&(decide (0≤e.2.2.2.1)&&decide (e.2.2.2.1≤4294960000)))
def Tiles (len:Int):List bx→Int→Int→Int→Int→Prop
 |[],p,q,p',q'=>p=p'∧q=q'
 |e::es,p,q,p',q'=>(e.1=q∧e.2.2.1=p∧61≤e.2.2.2.1∧e.2.2.2.1≤36000∧p+e.2.2.2.1≤len∧1≤e.2.1∧e.2.1≤256∧0≤q∧q≤4611686018427387648)∧Tiles len es (p+e.2.2.2.1) (q+e.2.1) p' q'
theorem kZ {b:LI}(hb:aR b)(p n:Nat):aR ((b.drop p).take n):=fun c hc=>hb c (List.mem_of_mem_drop (List.mem_of_mem_take hc))
theorem jf {p:LI}(hp:aR p)(h:(an p).2=0):0≤(an p).1.1∧(an p).1.1≤4611686018427387648∧1≤(an p).1.2.2.2.2.2.1.length∧(an p).1.2.2.2.2.2.1.length≤256:=by
 have hx:an p=((an p).1,0):=Prod.ext rfl h
 obtain ⟨blk,D,h1,h2,hR⟩:=Ap hp hx
 obtain ⟨g1,g2,g3,g4,g5⟩:=om h1
 unfold bk at g1
 simp only[Bool.or_eq_false_iff,decide_eq_false_iff_not] at g1
 exact ⟨by omega,by omega,g3,g4⟩
theorem sU {b:LI}(hb:aR b):∀(k:Nat) (p q:Int),0≤p→p≤b.length→Tiles b.length ((br b k p q).1.map (·.1)) p q (br b k p q).2.1 (br b k p q).2.2.1∧p≤(br b k p q).2.1∧(br b k p q).2.1≤b.length
 |0,p,q,h0,h1=>⟨⟨rfl,rfl⟩,Int.le_refl p,h1⟩
 |k+1,p,q,h0,h1=>by
  unfold br
  split
  ·exact ⟨⟨rfl,rfl⟩,Int.le_refl p,h1⟩
  split
  ·exact ⟨⟨rfl,rfl⟩,Int.le_refl p,h1⟩
  rename_i c2
  split
  ·exact ⟨⟨rfl,rfl⟩,Int.le_refl p,h1⟩
  rename_i c3
  split
  ·exact ⟨⟨rfl,rfl⟩,Int.le_refl p,h1⟩
  rename_i c4
  have c2:(aj b p).2=0:=Classical.byContradiction c2
  have c3:=Classical.byContradiction c3
  have c4:=Classical.byContradiction c4
  have hm:=f5 c2
  have hx:=jf (kZ hb p.toNat (aj b p).1.toNat) c3
  obtain ⟨g1,g2,g3⟩:=sU hb k (p+(aj b p).1) (q+((an ((b.drop p.toNat).take (aj b p).1.toNat)).1.2.2.2.2.2.1.length:Int)) (by omega) (by omega)
  rw[c4] at hx
  refine ⟨⟨⟨c4,rfl,hm.1,hm.2.1,hm.2.2.1,?_,?_,hx.1,hx.2.1⟩,g1⟩,Int.le_trans (b:=p+(aj b p).1) (by omega) g2,g3⟩
  ·show (1:Int)≤((an ((b.drop p.toNat).take (aj b p).1.toNat)).1.2.2.2.2.2.1.length:Int);omega
  ·show ((an ((b.drop p.toNat).take (aj b p).1.toNat)).1.2.2.2.2.2.1.length:Int)≤256;omega
theorem zj {b:LI}(hb:aR b)(base:Int):Tiles b.length ((aG b base).1.map (·.1)) 0 base (aG b base).2.1 (aG b base).2.2.1∧0≤(aG b base).2.1∧(aG b base).2.1≤b.length:=sU hb _ 0 base (Int.le_refl 0) (by omega)
theorem Tiles.ok {len:Int}(hl:len≤4294950000):∀{es:List bx} {p q p' q':Int},0≤p→Tiles len es p q p' q'→nJ es=true∧eF es=true∧q≤q'∧p≤p'∧(∀e∈es,q≤e.1∧e.1+e.2.1≤q'∧p≤e.2.2.1∧e.2.2.1+e.2.2.2.1≤len∧61≤e.2.2.2.1∧e.2.2.1+e.2.2.2.1≤p')∧(es=[]→q=q')
 |[],p,q,p',q',_,h=>⟨rfl,rfl,by rw[h.2];exact Int.le_refl _,by rw[h.1];exact Int.le_refl _,fun e he=>(by cases he),fun _=>h.2⟩
 |e::es,p,q,p',q',h0,⟨⟨e1,e2,e3,e4,e5,e6,e7,e8,e9⟩,h⟩=>by
  obtain ⟨g1,g2,g3,g4,g5,g6⟩:=Tiles.ok hl (by omega) h
  refine ⟨?_,?_,by omega,by omega,fun x hx=>?_,fun h=>by cases h⟩
  ·unfold nJ
   rw[List.all_cons,zA]
   refine ⟨?_,g1⟩
   simp only[zA,zB]
   omega
  ·unfold eF
   rw[zA]
   refine ⟨?_,g2⟩
   cases es with
   |nil=>rfl
   |cons y ys=>
    have:=(g5 y (by simp)).1
    exact decide_eq_true (by omega)
  ·rcases List.mem_cons.1 hx with rfl | hx
   ·omega
   ·have:=g5 x hx;omega
theorem Tiles.len {len:Int}:∀{es:List bx} {p q p' q':Int},p≤len→Tiles len es p q p' q'→61*(es.length:Int)≤len - p
 |[],p,q,p',q',h,_=>by simp;omega
 |e::es,p,q,p',q',h,⟨⟨e1,e2,e3,e4,e5,e6,e7,e8,e9⟩,ht⟩=>by
  have:=Tiles.len (by omega) ht
  rw[zN]
  push_cast
  omega
theorem wC:∀{es:List bx},eF es=true→∀(i j:Nat) (hi:i≤j) (hj:j<es.length),(es[i]'(by omega)).1≤(es[j]).1
 |[],_,i,j,_,hj=>by simp at hj
 |x::xs,h,i,j,hi,hj=>by
  unfold eF at h
  rw[zA] at h
  cases j with
  |zero=>
   have:i=0:=by omega
   subst this;exact Int.le_refl _
  |succ j=>
   cases i with
   |succ i=>exact wC h.2 i j (by omega) (by simpa using hj)
   |zero=>
    cases xs with
    |nil=>simp at hj
    |cons y ys=>
     have h1:x.1≤y.1:=of_decide_eq_true h.1
     have h2:=wC h.2 0 j (Nat.zero_le _) (by simpa using hj)
     exact Int.le_trans h1 h2
theorem qw (f:Int):∀es:List bx,aM f es≤es.length
 |[]=>Nat.le_refl 0
 |x::xs=>by
  have:=qw f xs
  unfold aM at this ⊢
  rw[List.takeWhile_cons]
  split
  ·rw[zN,zN];omega
  ·exact Nat.zero_le _
theorem De {f:Int}:∀{es:List bx} {i:Nat} (hi:i<aM f es),(es[i]'(Nat.lt_of_lt_of_le hi (qw f es))).1≤f
 |[],i,hi=>by simp[aM] at hi
 |x::xs,i,hi=>by
  have e:aM f (x::xs)=if x.1≤f then aM f xs+1 else 0:=by
   unfold aM
   rw[List.takeWhile_cons]
   by_cases c:x.1≤f
   ·rw[if_pos (decide_eq_true c),if_pos c];rfl
   ·rw[if_neg (by simpa using c),if_neg c];rfl
  rw[e] at hi
  by_cases c:x.1≤f
  ·rw[if_pos c] at hi
   cases i with
   |zero=>exact c
   |succ i=>exact De (es:=xs) (by omega)
  ·rw[if_neg c] at hi;omega
theorem Dd {f:Int}:∀{es:List bx},eF es=true→∀{i:Nat} (hi:i<es.length),aM f es≤i→f<(es[i]).1
 |[],_,i,hi,_=>by simp at hi
 |x::xs,hs,i,hi,h=>by
  have e:aM f (x::xs)=if x.1≤f then aM f xs+1 else 0:=by
   unfold aM
   rw[List.takeWhile_cons]
   by_cases c:x.1≤f
   ·rw[if_pos (decide_eq_true c),if_pos c];rfl
   ·rw[if_neg (by simpa using c),if_neg c];rfl
  rw[e] at h
  by_cases c:x.1≤f
  ·rw[if_pos c] at h
   cases i with
   |zero=>omega
   |succ i=>
    unfold eF at hs
    rw[zA] at hs
    exact Dd hs.2 (by simpa using hi) (by omega)
  ·have:=wC hs 0 i (Nat.zero_le _) hi
   have h0:((x::xs)[0]).1=x.1:=rfl
   omega
theorem Tiles.drop {len:Int}:∀{es:List bx} {p q p' q':Int},Tiles len es p q p' q'→∀(i:Nat) (hi:i<es.length),Tiles len (es.drop (i+1)) ((es[i]).2.2.1+(es[i]).2.2.2.1) ((es[i]).1+(es[i]).2.1) p' q'
 |[],_,_,_,_,_,i,hi=>by simp at hi
 |e::es,p,q,p',q',⟨⟨e1,e2,_⟩,h⟩,0,_=>by
  show Tiles len es (e.2.2.1+e.2.2.2.1) (e.1+e.2.1) p' q'
  rw[e1,e2];exact h
 |e::es,p,q,p',q',⟨_,h⟩,i+1,hi=>h.drop i (by simpa using hi)
theorem B3 {a m lo hi:Int}:∀(es:List bx) (e:Int),lo≤e→e≤hi→(∀x∈es,lo≤x.2.2.1+x.2.2.2.1∧x.2.2.1+x.2.2.2.1≤hi)→lo≤dD a m es e∧dD a m es e≤hi
 |[],e,h1,h2,_=>⟨h1,h2⟩
 |x::xs,e,h1,h2,h=>by
  unfold dD
  split
  ·exact ⟨h1,h2⟩
  ·obtain ⟨h3,h4⟩:=h x (by simp)
   exact B3 xs _ h3 h4 fun y hy=>h y (by simp[hy])
theorem H1 {f:Int}{es:List bx}(h:0<es.length)(h0:(es[0]).1≤f):1≤aM f es:=by
 cases es with
 |nil=>simp at h
 |cons x xs=>
  have h0:x.1≤f:=h0
  unfold aM
  rw[List.takeWhile_cons,if_pos (decide_eq_true h0),zN]
  omega
theorem JD {b:LI}(hb:aR b)(hl:b.length≤4294950000){base f:Int}(most:Int)(h1:base≤f)(h2:f<(aG b base).2.2.1){es:List bx}(hes:es=(aG b base).1.map (·.1)):∃u:Nat,aM f es=u+1∧∃hu:u<es.length,
  0≤(es[u]).2.2.1∧(es[u]).2.2.1≤(b.length:Int)∧(es[u]).2.2.1≤dD (es[u]).2.2.1 most (es.drop (u+1)) ((es[u]).2.2.1+(es[u]).2.2.2.1)∧dD (es[u]).2.2.1 most (es.drop (u+1)) ((es[u]).2.2.1+(es[u]).2.2.2.1)≤(b.length:Int)∧0≤(es[u]).2.2.2.1∧(es[u]).2.2.2.1≤36000:=by
 obtain ⟨ht,hp0,hp1⟩:=zj hb base
 rw[← hes] at ht
 obtain ⟨g1,g2,g3,g4,g5,g6⟩:=ht.ok (by omega) (Int.le_refl 0)
 have hne:0<es.length:=by
  rcases Nat.eq_zero_or_pos es.length with h | h
  ·have:=g6 (List.length_eq_zero_iff.1 h);omega
  ·exact h
 have h0:(es[0]).1=base:=by
  cases es with
  |nil=>simp at hne
  |cons x xs=>exact ht.1.1
 have hu1:=H1 (f:=f) hne (by omega)
 have hu2:=qw f es
 obtain ⟨u,hu⟩:∃u,aM f es=u+1:=⟨_,(Nat.sub_add_cancel hu1).symm⟩
 have hlt:u<es.length:=by omega
 refine ⟨u,hu,hlt,?_⟩
 have hx:=g5 (es[u]) (List.getElem_mem hlt)
 have hxx:es[u].2.2.2.1≤36000:=by
  have key:∀{es:List bx} {p q p' q':Int},Tiles b.length es p q p' q'→∀(i:Nat) (hi:i<es.length),(es[i]).2.2.2.1≤36000:=by
   intro es
   induction es with
   |nil=>intro p q p' q' h i hi;simp at hi
   |cons e es ih=>
    intro p q p' q' h i hi
    cases i with
    |zero=>exact h.1.2.2.2.1
    |succ i=>exact ih h.2 i (by simpa using hi)
  exact key ht u hlt
 have hd:=ht.drop u hlt
 obtain ⟨_,_,_,_,k5,_⟩:=hd.ok (by omega) (by omega)
 have he:=B3 (a:=(es[u]).2.2.1) (m:=most) (lo:=(es[u]).2.2.1) (hi:=(b.length:Int)) (es.drop (u+1)) ((es[u]).2.2.1+(es[u]).2.2.2.1) (by omega) (by omega) fun x hx'=>by
  have:=k5 x hx'
  omega
 exact ⟨by omega,by omega,he.1,he.2,by omega,hxx⟩
abbrev J3:List Sh:=[Ka,dI,dd,dI]
abbrev Gu:List Sh:=[Lb,dI,dd,dI]
abbrev gp:Io:=⟨[La,Ao,.ptr 0 0],[J3],[],[],none⟩
def uU (d:gp.In):Tr gp.Res:=.ite (decide (d.2.1.1.length≤4294960000)) (.ret (.ret ((),((d.2.1.1++[d.1.1],d.2.1.2),())))) .no
abbrev xu:List (Nat×Hc):=[]
def FT:Hd:=b8 xu
def yu:Lp:=cp []
def qT (a0 a1 a2 a3 a4 a5 a6 a7 a8 a9 a10 a11 a12:Int)(a13:List aK.den)(a14:List ca.den)(a15 a16 a17:Int):Option gp.Res:=bif decide (a14.length+1≤4294967296) then oR ((),(a14++[(a0,a1,a2,a3,a4,a5,a6,a7,())],a15,a16,a17,()),()) else none
theorem D8 (a0 a1 a2 a3 a4 a5 a6 a7 a8 a9 a10 a11 a12:Int)(a13:List aK.den)(a14:List ca.den)(a15 a16 a17:Int):Io.run tt FT dr yu gp Tryd.f26 (((a0,a1,a2,a3,a4,a5,a6,a7,()),(a8,a9,a10,a11,a12,a13,()),(),()),(a14,a15,a16,a17,()),())=qT a0 a1 a2 a3 a4 a5 a6 a7 a8 a9 a10 a11 a12 a13 a14 a15 a16 a17:=by kernel_rfl
theorem GB:HcOk prog 26 (ah gp uU):=by
 refine cx (cs:=xu) HcsOk.nil (lp:=yu) (fn:=Tryd.f26) gp (.done (by kernel_rfl)) uU ?_
 rintro ⟨⟨⟨(a0:Int),(a1:Int),(a2:Int),(a3:Int),(a4:Int),(a5:Int),(a6:Int),(a7:Int),⟨⟩⟩,⟨(x1:Int),(x2:Int),(x3:Int),(x4:Int),(x5:Int),(rs:List bf),⟨⟩⟩,⟨⟩,⟨⟩⟩,⟨⟨(es:List bx),(l:Int),(n:Int),(w:Int),⟨⟩⟩,⟨⟩⟩⟩ out hw ho
 obtain ⟨hg,ho⟩:=Tr.guard ho
 have hg:es.length≤4294960000:=of_decide_eq_true hg
 cases ho
 refine (D8 a0 a1 a2 a3 a4 a5 a6 a7 x1 x2 x3 x4 x5 rs es l n w).trans ?_
 unfold qT
 exact aa (decide_eq_true (by show es.length+1≤4294967296;omega)) _ _
abbrev gr:Io:=⟨[dL,dd,.fnc 26 false [0]],[J3],[],[dI,dd,dI],none⟩
def uW (d:gr.In):Tr gr.Res:=
 .ite (decide (d.1.1.length≤4294950000)&&decide (d.2.1.1.length=0)) (.ret (.ret (((aG d.1.1 d.1.2.1).2.1,((aG d.1.1 d.1.2.1).2.2.1,((aG d.1.1 d.1.2.1).2.2.2,()))),(((aG d.1.1 d.1.2.1).1.map (·.1),d.2.1.2),())))) .no
abbrev xx:List (Nat×Hc):=[(39,ah fQ qz),(9,ah iz wT),(26,ah gp uU)]
def rD:Hd:=b8 xx
abbrev cd:Lo:=⟨⟨[.one (.hol (.sl 5 (Ty.int u8))),.any,.one (.fnp 26 false [0]),.any,.any,.any,.one hI,.one hI,.any,.one hI,.any,.one (.ptr 12 0),.one hI,.any,.any,.any,.any,.any,.any,.any,.any,.any,.any,.any,.any,.any,.any,.any,.any,.any,.any,.any,.any,.any,.any,.any,.any,.any,.any,.any,.any,.any,.any,.any,.any,.any,.any,.any,.any,.any,.any,.any,.any,.any,.any,.any,.any,.any,.one (.hol (.sl 75 aK)),.one hI,.one hI,.any,.any,.any,.any,.any,.any,.any,.any,.any,.any,.any,.any,.any,.any,.any,.any,.any,.any,.any,.any,.any,.any,.any,.any,.any,.any,.any,.any,.any,.any,.any,.any,.any,.any,.any,.any],[some [.onl 32 ca 2,hI,hI,hI],none,none,none,none,none,none,none,none,none,none,none,some [hI,hJ,hI,hK,hJ,.hol (.sl 75 aK)]]⟩,[(.exit 2,⟨[.one (.hol (.sl 5 (Ty.int u8))),.any,.one (.fnp 26 false [0]),.any,.any,.any,.one hI,.one hI,.any,.one hI,.any,.one (.ptr 12 0),.one hI,.any,.any,.any,.any,.any,.any,.any,.any,.any,.any,.any,.any,.any,.any,.any,.any,.any,.any,.any,.any,.any,.any,.any,.any,.any,.any,.any,.any,.any,.any,.any,.any,.any,.any,.any,.any,.any,.any,.any,.any,.any,.any,.any,.any,.any,.any,.any,.any,.any,.any,.any,.any,.any,.any,.any,.any,.any,.any,.any,.any,.any,.any,.any,.any,.any,.any,.any,.any,.any,.any,.any,.any,.any,.any,.any,.any,.any,.any,.any,.any,.any,.any,.any,.any],[some [.onl 32 ca 2,hI,hI,hI],none,none,none,none,none,none,none,none,none,none,none,some [hI,hJ,hI,hK,hJ,.hol (.sl 75 aK)]]⟩)]⟩
abbrev co:Lo:=⟨⟨[.one (.hol (.sl 5 (Ty.int u8))),.any,.one (.fnp 26 false [0]),.any,.any,.any,.one hI,.one hI,.any,.any,.any,.any,.any,.any,.any,.any,.any,.any,.any,.any,.any,.any,.any,.any,.any,.any,.any,.any,.any,.any,.any,.any,.any,.any,.any,.any,.any,.any,.any,.any,.any,.any,.any,.any,.any,.any,.any,.any,.any,.any,.any,.any,.any,.any,.any,.any,.any,.any,.any,.any,.any,.any,.any,.any,.any,.any,.any,.any,.any,.any,.any,.any,.any,.any,.any,.any,.any,.any,.any,.any,.any,.any,.any,.any,.any,.any,.any,.any,.any,.any,.any,.any,.any,.any,.any,.any,.any],[some [.onl 32 ca 2,hI,hI,hI]]⟩,[(.ret,⟨(b9 (bN (.one hI::.one hI::.one hI::ai (ai (ai (ai (ai (dZ [])))))))),[some [.onl 32 ca 2,hI,hI,hI]]⟩),(.exit 0,⟨(b9 (bN (.one hI::.one hI::.any::ai (ai (ai (ai (ai (dZ [])))))))),[some [.onl 32 ca 2,hI,hI,hI]]⟩)]⟩
def gd (d:cd.st.den):Tr (am cd.xs):=
 .ite (decide (d.1.2.2.2.2.2.2.1=(d.1.2.2.2.2.2.1.length:Int))&&(decide (d.1.2.2.2.2.2.2.2.1=0)&&decide (d.1.2.2.2.2.2.1.length≤256)))
  (.ret (.ret ((),((d.1.1,(d.1.2.1,(d.1.2.2.1,(d.1.2.2.2.1,(aZ d.1.2.2.2.2.2.1 d.1.2.2.2.2.1,()))))),d.2)))) .no
def dv (W:List (bx×dz)×Int×Int×Int)(es:List bx)(l n w:Int):am co.xs:=
 if W.2.2.2=0 then .pan (.ret ((),((W.2.1,(W.2.2.1,())),((es++(W).1.map (·.1),(l,(n,(w,())))),())))) else .ret ((),((W.2.1,(W.2.2.1,(W.2.2.2,()))),((es++(W).1.map (·.1),(l,(n,(w,())))),())))
def iK (d:co.st.den):Tr (am co.xs):=
 .ite (decide (d.1.2.1=0)&&(decide (d.1.1.length≤4294950000)&&decide (d.2.1.1.length=0))) (.ite (decide ((aG d.1.1 d.1.2.2.1).2.2.2=0)) (.ret (.pan (.ret ((),(((aG d.1.1 d.1.2.2.1).2.1,((aG d.1.1 d.1.2.2.1).2.2.1,())),((d.2.1.1++(aG d.1.1 d.1.2.2.1).1.map (·.1),d.2.1.2),())))))) (.ret (.ret ((),(((aG d.1.1 d.1.2.2.1).2.1,((aG d.1.1 d.1.2.2.1).2.2.1,((aG d.1.1 d.1.2.2.1).2.2.2,()))),((d.2.1.1++(aG d.1.1 d.1.2.2.1).1.map (·.1),d.2.1.2),())))))) .no
def iV:Lp:=cp [(3,aC co iK),(14,aC cd gd)]
def lR {R:Type}(h34:LI)(h35 h36 h37 h38:Int)(h39:List aK.den)(h40 h41:Int)(h42:List ca.den)(h43 h44 h45 h46 h47 h48 h49 h50:Int)(h51:List aK.den)(next:LI→Int→Int→Int→Int→List aK.den→Int→Int→List ca.den→Int→Int→Int→Int→Int→Int→Int→Int→List aK.den→Option R)(out:am cd.xs→Option R):Option R:=bif decide (h41<h40) then bif decide (0≤h41)&&decide (h41<(↑h39.length:Int)) then next (h34) (h35) (h36) (h37) (cz h38 (h39.getD h41.toNat (0,(false,[],()),(false,[],()),[],())).1) (h39) (h40) (i64.wrap (h41+1)) (h42) (h43) (h44) (h45) (h46) (h47) (h48) (h49) (h50) (h51) else none else out (.ret ((),((h34,(h35,(h36,(h37,(h38,()))))),((h42,(h43,(h44,(h45,())))),((h46,(h47,(h48,(h49,(h50,(h51,())))))),())))))
def kz (n:Nat)(h34:LI)(h35 h36 h37 h38:Int)(h39:List aK.den)(h40 h41:Int)(h42:List ca.den)(h43 h44 h45 h46 h47 h48 h49 h50:Int)(h51:List aK.den):Option (am cd.xs):=gO tt rD dr iV 1 Tryd.f25 (EL Tryd.f25 (ct Tryd.f25 0) 0) n (cd.st.mk' ((h34,(h35,(h36,(h37,(h38,(h39,(h40,(h41,())))))))),((h42,(h43,(h44,(h45,())))),((h46,(h47,(h48,(h49,(h50,(h51,())))))),())))) (bE cd.xs)
theorem yV (n:Nat)(h34:LI)(h35 h36 h37 h38:Int)(h39:List aK.den)(h40 h41:Int)(h42:List ca.den)(h43 h44 h45 h46 h47 h48 h49 h50:Int)(h51:List aK.den):kz (n+1) h34 h35 h36 h37 h38 h39 h40 h41 h42 h43 h44 h45 h46 h47 h48 h49 h50 h51=lR h34 h35 h36 h37 h38 h39 h40 h41 h42 h43 h44 h45 h46 h47 h48 h49 h50 h51 (kz n) some:=by kernel_rfl
def nU {R:Type}(h6:LI)(h7 h8:Int)(h9:List ca.den)(h10 h11 h12:Int)(next:LI→Int→Int→List ca.den→Int→Int→Int→Option R)(out:am co.xs→Option R):Option R:=bif decide (h7<(↑h6.length:Int)) then bif decide (h6.length≤4294960000) then bif (aj h6 h7).2 != 0 then out (.ret ((),((h7,(h8,((aj h6 h7).2,()))),((h9,(h10,(h11,(h12,())))),())))) else bif decide (0≤h7)&&(decide (h7≤i64.wrap (h7+(aj h6 h7).1))&&decide (i64.wrap (h7+(aj h6 h7).1)≤(↑h6.length:Int))) then bif decide ((List.drop h7.toNat (List.take (i64.wrap (h7+(aj h6 h7).1)).toNat h6)).length≤4294960000) then bif (an (List.drop h7.toNat (List.take (i64.wrap (h7+(aj h6 h7).1)).toNat h6))).2 != 0 then out (.ret ((),((h7,(h8,((an (List.drop h7.toNat (List.take (i64.wrap (h7+(aj h6 h7).1)).toNat h6))).2,()))),((h9,(h10,(h11,(h12,())))),())))) else bif (an (List.drop h7.toNat (List.take (i64.wrap (h7+(aj h6 h7).1)).toNat h6))).1.1 != h8 then out (.ret ((),((h7,(h8,(190,()))),((h9,(h10,(h11,(h12,())))),())))) else bif decide (0≤0)&&decide (0<(↑(List.length (an (List.drop h7.toNat (List.take (i64.wrap (h7+(aj h6 h7).1)).toNat h6))).1.2.2.2.2.2.1):Int)) then (gd ((h6,(h7,(h8,((aj h6 h7).1,((List.getD (an (List.drop h7.toNat (List.take (i64.wrap (h7+(aj h6 h7).1)).toNat h6))).1.2.2.2.2.2.1 (Int.toNat 0) (0,(false,[],()),(false,[],()),[],())).1,((an (List.drop h7.toNat (List.take (i64.wrap (h7+(aj h6 h7).1)).toNat h6))).1.2.2.2.2.2.1,((↑(List.length (an (List.drop h7.toNat (List.take (i64.wrap (h7+(aj h6 h7).1)).toNat h6))).1.2.2.2.2.2.1):Int),(0,())))))))),((h9,(h10,(h11,(h12,())))),(((an (List.drop h7.toNat (List.take (i64.wrap (h7+(aj h6 h7).1)).toNat h6))).1.1,((an (List.drop h7.toNat (List.take (i64.wrap (h7+(aj h6 h7).1)).toNat h6))).1.2.1,((an (List.drop h7.toNat (List.take (i64.wrap (h7+(aj h6 h7).1)).toNat h6))).1.2.2.1,((an (List.drop h7.toNat (List.take (i64.wrap (h7+(aj h6 h7).1)).toNat h6))).1.2.2.2.1,((an (List.drop h7.toNat (List.take (i64.wrap (h7+(aj h6 h7).1)).toNat h6))).1.2.2.2.2.1,((an (List.drop h7.toNat (List.take (i64.wrap (h7+(aj h6 h7).1)).toNat h6))).1.2.2.2.2.2.1,())))))),())))).run fun y=>match y with | .ret ((),((x85,x86,x87,x88,x89,()),(x90,x91,x92,x93,()),(x94,x95,x96,x97,x98,x99,()),()))=>(bif decide (x90.length≤4294960000) then next (x85) (i64.wrap (x86+x88)) (i64.wrap (x87+(↑x99.length:Int))) (x90++[(x94,(↑x99.length:Int),x86,x88,x89,x96,x97,x98,())]) (x91) (x92) (x93) else none) else none else none else none else none else out (.pan (.ret ((),((h7,(h8,())),((h9,(h10,(h11,(h12,())))),())))))
def jI (n:Nat)(h6:LI)(h7 h8:Int)(h9:List ca.den)(h10 h11 h12:Int):Option (am co.xs):=gO tt rD dr iV 1 Tryd.f25 (ct Tryd.f25 0) n (co.st.mk' ((h6,(h7,(h8,()))),((h9,(h10,(h11,(h12,())))),()))) (bE co.xs)
theorem AX (n:Nat)(h6:LI)(h7 h8:Int)(h9:List ca.den)(h10 h11 h12:Int):jI (n+1) h6 h7 h8 h9 h10 h11 h12=nU h6 h7 h8 h9 h10 h11 h12 (jI n) some:=by kernel_rfl
theorem sj (p q:Int)(es:List bx)(l n w:Int):dv ([],p,q,0) es l n w=.pan (.ret ((),((p,(q,())),((es,(l,(n,(w,())))),())))):=by
 unfold dv;rw[if_pos rfl];simp
theorem gE {w':Int}(h:w'≠0)(p q:Int)(es:List bx)(l n w:Int):dv ([],p,q,w') es l n w=.ret ((),((p,(q,(w',()))),((es,(l,(n,(w,())))),()))):=by
 unfold dv;rw[if_neg h];simp
theorem si (e:bx)(x:dz)(W:List (bx×dz)×Int×Int×Int)(es:List bx)(l n w:Int):dv ((e,x)::W.1,W.2) es l n w=dv W (es++[e]) l n w:=by
 unfold dv;simp
theorem s3 (b:LI)(p q m:Int)(rs:List bf)(hl:rs.length≤256)(es:List bx)(l n w x1 x2 x3 x4 x5:Int)(xs:List bf):∀(k i:Nat) (t:Int),rs.length<i+k→i≤rs.length→
  kz k b p q m t rs (rs.length:Int) i es l n w x1 x2 x3 x4 x5 xs=some (.ret ((),((b,(p,(q,(m,(aZ (rs.drop i) t,()))))),((es,(l,(n,(w,())))),((x1,(x2,(x3,(x4,(x5,(xs,())))))),()))))):=by
 intro k
 induction k with
 |zero=>intro i t h;omega
 |succ k ih=>
  intro i t h1 h2
  rw[yV]
  unfold lR
  by_cases hi:i<rs.length
  rotate_left
  ·refine bF (decide_eq_false (by omega)) ?_
   rw[zI (by omega)]
   rfl
  refine bT (decide_eq_true (by omega)) ?_
  refine bT (by simpa using hi) ?_
  have e:List.getD rs (i:Int).toNat (0,(false,[],()),(false,[],()),[],())=rs[i]:=by rw[zG,aA hi]
  rw[e,zE hi,af (n:=(i:Int)+1) (by omega) (by omega)]
  exact ih (i+1) _ (by omega) (by omega)
theorem vN (b:LI)(hb:aR b)(hl:b.length≤4294950000):∀(k:Nat) (p q:Int) (es:List bx) (l n w:Int),0≤p→p≤b.length→(b.length:Int)<p+k→61*(es.length:Int)≤p→
  jI k b p q es l n w=some (dv (br b k p q) es l n w):=by
 intro k
 induction k with
 |zero=>intro p q es l n w h0 h1 h2;omega
 |succ k ih=>
  intro p q es l n w h0 h1 h2 h3
  rw[AX]
  unfold nU br
  by_cases c1:p<b.length
  rotate_left
  ·refine bF (decide_eq_false c1) ?_
   rw[if_pos (by omega),sj]
  refine bT (decide_eq_true c1) ?_
  refine bT (decide_eq_true (by omega)) ?_
  rw[if_neg (by omega:¬(b.length:Int)≤p)]
  by_cases c2:(aj b p).2=0
  rotate_left
  ·refine bT (by simpa using c2) ?_
   rw[if_pos c2,gE c2]
  refine bF (by rw[c2];rfl) ?_
  rw[if_neg (fun h=>h c2)]
  have hm:=f5 c2
  have hx:=jf (kZ hb p.toNat (aj b p).1.toNat)
  generalize (aj b p).1=m at *
  have hd:List.drop p.toNat (List.take (p+m).toNat b)=(b.drop p.toNat).take m.toNat:=by
   rw[List.drop_take,show (p+m).toNat - p.toNat=m.toNat by omega]
  rw[af (n:=p+m) (by omega) (by omega),hd]
  refine bT (by simp only[zA,zB];omega) ?_
  refine bT (decide_eq_true (by rw[List.length_take,List.length_drop];omega)) ?_
  generalize an ((b.drop p.toNat).take m.toNat)=D at *
  obtain ⟨⟨(x1:Int),(x2:Int),(x3:Int),(x4:Int),(x5:Int),(rs:List bf),⟨⟩⟩,(z:Int)⟩:=D
  by_cases c3:z=0
  rotate_left
  ·refine bT (by simpa using c3) ?_
   rw[if_pos c3,gE c3]
  refine bF (by simpa using c3) ?_
  rw[if_neg (fun h=>h c3)]
  obtain ⟨y1,y2,y3,y4⟩:=hx c3
  have y1:0≤x1:=y1
  have y2:x1≤4611686018427387648:=y2
  have y3:1≤rs.length:=y3
  have y4:rs.length≤256:=y4
  by_cases c4:x1=q
  rotate_left
  ·refine bT (by simpa using c4) ?_
   rw[if_pos c4,gE (show (190:Int)≠0 by decide)]
  refine bF (by simpa using c4) ?_
  rw[if_neg (fun h=>h c4)]
  refine bT (by simp only[zA,zB];exact ⟨by decide,by show 0<(rs.length:Int);omega⟩) ?_
  unfold gd
  refine bT (by simp only[zA,zB];exact ⟨trivial,trivial,y4⟩) ?_
  have eL:aZ rs (List.getD rs (Int.toNat 0) (0,(false,[],()),(false,[],()),[],())).1=cq rs:=by
   cases rs with
   |nil=>simp at y3
   |cons r l=>
    show aZ l (cz r.1 r.1)=aZ l r.1
    have:cz r.1 r.1=r.1:=by unfold cz;split <;> rfl
    rw[this]
  show (bif decide (es.length≤4294960000) then jI k b (i64.wrap (p+m)) (i64.wrap (q+(rs.length:Int))) (es++[(x1,((rs.length:Int),(p,(m,(aZ rs (List.getD rs (Int.toNat 0) (0,(false,[],()),(false,[],()),[],())).1,(x3,(x4,(x5,()))))))))]) l n w else none)=_
  refine bT (decide_eq_true (by omega)) ?_
  rw[eL,af (n:=p+m) (by omega) (by omega),af (n:=q+(rs.length:Int)) (by omega) (by omega)]
  refine (ih (p+m) (q+(rs.length:Int)) _ l n w (by omega) (by omega) (by omega) (by rw[zH,List.length_singleton];push_cast;omega)).trans ?_
  exact congrArg some (si _ _ _ es l n w).symm
def qV (a0:LI)(a1:Int)(a2:List ca.den)(a3 a4 a5:Int):Option gr.Res:=(iK ((a0,(0,(a1,()))),((a2,(a3,(a4,(a5,())))),()))).run fun y=>match y with | .ret ((),((x113,x114,x115,()),(x116,x117,x118,x119,()),()))=>(oR ((x113,x114,x115,()),(x116,x117,x118,x119,()),())) | .pan (.ret ((),((x120,x121,()),(x122,x123,x124,x125,()),())))=>(oR ((x120,x121,0,()),(x122,x123,x124,x125,()),()))
theorem Ea (a0:LI)(a1:Int)(a2:List ca.den)(a3 a4 a5:Int):Io.run tt rD dr iV gr Tryd.f25 ((a0,a1,(),()),(a2,a3,a4,a5,()),())=qV a0 a1 a2 a3 a4 a5:=by kernel_rfl
theorem l9:HcsOk prog xx:=.cons wj (.cons AC (.cons GB .nil))
theorem GD:HcOk prog 25 (ah gr uW):=by
 refine cx l9 (lp:=iV) (fn:=Tryd.f25) gr (.step (h0:=aC co iK) (by kernel_rfl) (iB l9 (lp:=iV) (fn:=Tryd.f25) (.step (h0:=aC cd gd) (by kernel_rfl) (iB l9 (lp:=iV) (fn:=Tryd.f25) (.done (by kernel_rfl)) cd gd ?_) (.done (by kernel_rfl))) co iK ?_) (.done (by kernel_rfl))) uW ?_
 ·rintro ⟨⟨(b:LI),(p:Int),(q:Int),(m:Int),(t:Int),(rs:List bf),(j:Int),(i:Int),⟨⟩⟩,⟨⟨(es:List bx),(l:Int),(n:Int),(w:Int),⟨⟩⟩,⟨(x1:Int),(x2:Int),(x3:Int),(x4:Int),(x5:Int),(xs:List bf),⟨⟩⟩,⟨⟩⟩⟩ y hw hy
  obtain ⟨hg,hy⟩:=Tr.guard hy
  simp only[zA,zB] at hg
  obtain ⟨h1,h2,h3⟩:=hg
  have h1:j=(rs.length:Int):=h1
  have h2:i=0:=h2
  have h3:rs.length≤256:=h3
  subst h1 h2
  refine ⟨rs.length+1,(s3 b p q m rs h3 es l n w x1 x2 x3 x4 x5 xs (rs.length+1) 0 t (by omega) (Nat.zero_le _)).trans ?_⟩
  rw[← hy,List.drop_zero];rfl
 ·rintro ⟨⟨(b:LI),(p:Int),(q:Int),⟨⟩⟩,⟨⟨(es:List bx),(l:Int),(n:Int),(w:Int),⟨⟩⟩,⟨⟩⟩⟩ y hw hy
  obtain ⟨hg,hy⟩:=Tr.guard hy
  simp only[zA,zB] at hg
  obtain ⟨h1,h2,h3⟩:=hg
  have h3:es.length=0:=h3
  have h1:p=0:=h1
  have h2:b.length≤4294950000:=h2
  subst h1
  refine ⟨b.length+1,(vN b (bytesOf hw.1.1) h2 (b.length+1) 0 q es l n w (by omega) (by omega) (by omega) (by omega)).trans ?_⟩
  unfold dv
  show some (if (aG b q).2.2.2=0 then _ else _)=_
  by_cases c:(aG b q).2.2.2=0
  ·rw[if_pos c]
   exact ((aa (decide_eq_true c) _ _).symm.trans hy)
  ·rw[if_neg c]
   exact ((ac (decide_eq_false c) _ _).symm.trans hy)
 ·rintro ⟨⟨(b:LI),(q:Int),⟨⟩,⟨⟩⟩,⟨⟨(es:List bx),(l:Int),(n:Int),(w:Int),⟨⟩⟩,⟨⟩⟩⟩ out hw ho
  obtain ⟨hg,ho⟩:=Tr.guard ho
  rw[zA] at hg
  obtain ⟨h2,h3⟩:=hg
  have h2:b.length≤4294950000:=of_decide_eq_true h2
  have h3:es.length=0:=of_decide_eq_true h3
  have h3:es=[]:=zF h3
  subst h3
  have h2':b.length≤4294950000:=of_decide_eq_true h2
  clear h2
  cases ho
  refine (Ea b q [] l n w).trans ?_
  unfold qV iK
  refine bT (by simp only[zA,zB];exact ⟨trivial,h2',rfl⟩) ?_
  by_cases c:(aG b q).2.2.2=0
  ·refine bT (decide_eq_true c) ?_
   show _=oR (((aG b q).2.1,((aG b q).2.2.1,((aG b q).2.2.2,()))),(((aG b q).1.map (·.1),(l,(n,(w,())))),()))
   rw[c];rfl
  ·exact ac (decide_eq_false c) _ _
abbrev fR:Io:=⟨[dL,dd],[],[],[Lf],none⟩
def qB (d:fR.In):Tr fR.Res:=.ite (decide (d.1.1.length≤4294950000)) (.ret (.ret ((az d.1.1 d.1.2.1,()),()))) .no
abbrev BE:List (Nat×Hc):=[(25,ah gr uW)]
def It:Hd:=b8 BE
def Cr:Lp:=cp []
def tA (a0:LI)(a1:Int):Option fR.Res:=bif decide (a0.length≤4294950000)&&decide (([]:List bx).length=0) then oR (((List.map (fun (x:bx×dz)=>x.1) (aG a0 a1).1,(aG a0 a1).2.1,(aG a0 a1).2.2.1,(aG a0 a1).2.2.2,()),()),()) else none
theorem G5 (a0:LI)(a1:Int):Io.run tt It dr Cr fR Tryd.f7 ((a0,a1,()),())=tA a0 a1:=by kernel_rfl
theorem wk:HcOk prog 7 (ah fR qB):=by
 refine cx (cs:=BE) (.cons GD .nil) (lp:=Cr) (fn:=Tryd.f7) fR (.done (by kernel_rfl)) qB ?_
 rintro ⟨⟨(b:LI),(base:Int),⟨⟩⟩,⟨⟩⟩ out hw ho
 obtain ⟨hg,ho⟩:=Tr.guard ho
 cases ho
 refine (G5 b base).trans ?_
 unfold tA
 exact aa (by rw[zA];exact ⟨hg,rfl⟩) _ _
abbrev gm:Io:=⟨[La,Ao,.ptr 0 0,.ptr 1 0,.ptr 2 0,.ptr 3 0],[[dB],[dd],[dd],[dd]],[],[],none⟩
def uS (d:gm.In):Tr gm.Res:=.ite (nF d.1.2.1) (.ret (.ret ((),(((bp d.2.2.1.1 d.1.2.1.1 d.1.2.1.2.2.2.2.2.1 0 (d.2.2.2.1.1,d.2.2.2.2.1.1,d.2.1.1)).2.2,()),(d.2.2.1,(((bp d.2.2.1.1 d.1.2.1.1 d.1.2.1.2.2.2.2.2.1 0 (d.2.2.2.1.1,d.2.2.2.2.1.1,d.2.1.1)).1,()),(((bp d.2.2.1.1 d.1.2.1.1 d.1.2.1.2.2.2.2.2.1 0 (d.2.2.2.1.1,d.2.2.2.2.1.1,d.2.1.1)).2.1,()),()))))))) .no
abbrev rl:List (Nat×Hc):=[]
def xU:Hd:=b8 rl
abbrev cF:Lo:=⟨⟨(bN (.one (.ptr 0 0)::.one (.ptr 1 0)::.one (.ptr 2 0)::.one (.ptr 3 0)::.any::.one (.ptr 11 0)::.any::bN (.one (.hol (.sl 75 aK))::.one hI::.one hI::.any::ai (bN [])))),[some [hL],some [hI],some [hI],some [hI],none,none,none,none,none,none,none,some [hI,hJ,hI,hK,hJ,.hol (.sl 75 aK)]]⟩,[(.exit 0,⟨(.any::ai (ai ([]))),[some [hL],some [hI],some [hI],some [hI]]⟩)]⟩
def iH (d:cF.st.den):Tr (am cF.xs):=
 .ite (decide (d.1.2.1=(d.1.1.length:Int))&&(decide (d.1.2.2.1=0)&&(decide (d.1.1.length≤256)&&(decide (0≤d.2.2.2.2.2.1.1)&&decide (d.2.2.2.2.2.1.1≤(4611686018427387648:Int))))))
  (.ret (.ret ((),((),(((bp d.2.2.1.1 d.2.2.2.2.2.1.1 d.1.1 0 (d.2.2.2.1.1,d.2.2.2.2.1.1,d.2.1.1)).2.2,()),(d.2.2.1,(((bp d.2.2.1.1 d.2.2.2.2.2.1.1 d.1.1 0 (d.2.2.2.1.1,d.2.2.2.2.1.1,d.2.1.1)).1,()),(((bp d.2.2.1.1 d.2.2.2.2.2.1.1 d.1.1 0 (d.2.2.2.1.1,d.2.2.2.2.1.1,d.2.1.1)).2.1,()),())))))))) .no
def nm:Lp:=cp [(3,aC cF iH)]
def nR {R:Type}(h18:List aK.den)(h19 h20:Int)(h21:Bool)(h22 h23 h24 h25 h26 h27 h28 h29:Int)(h30:List aK.den)(next:List aK.den→Int→Int→Bool→Int→Int→Int→Int→Int→Int→Int→Int→List aK.den→Option R)(out:am cF.xs→Option R):Option R:=bif decide (h20<h19) then bif decide (0≤h20)&&decide (h20<(↑h18.length:Int)) then bif !h21 then bif decide (h22≤(h18.getD h20.toNat (0,(false,[],()),(false,[],()),[],())).1) then next (h18) (h19) (i64.wrap (h20+1)) (true) (h22) (i64.wrap (h25+h20)) ((h18.getD h20.toNat (0,(false,[],()),(false,[],()),[],())).1) (h25) (h26) (h27) (h28) (h29) (h30) else next (h18) (h19) (i64.wrap (h20+1)) (h21) (h22) (h23) (h24) (h25) (h26) (h27) (h28) (h29) (h30) else next (h18) (h19) (i64.wrap (h20+1)) (h21) (h22) (h23) (h24) (h25) (h26) (h27) (h28) (h29) (h30) else none else out (.ret ((),((),((h21,()),((h22,()),((h23,()),((h24,()),())))))))
def mp (n:Nat)(h18:List aK.den)(h19 h20:Int)(h21:Bool)(h22 h23 h24 h25 h26 h27 h28 h29:Int)(h30:List aK.den):Option (am cF.xs):=gO tt xU dr nm 4 Tryd.f45 (ct Tryd.f45 0) n (cF.st.mk' ((h18,(h19,(h20,()))),((h21,()),((h22,()),((h23,()),((h24,()),((h25,(h26,(h27,(h28,(h29,(h30,())))))),()))))))) (bE cF.xs)
theorem AU (n:Nat)(h18:List aK.den)(h19 h20:Int)(h21:Bool)(h22 h23 h24 h25 h26 h27 h28 h29:Int)(h30:List aK.den):mp (n+1) h18 h19 h20 h21 h22 h23 h24 h25 h26 h27 h28 h29 h30=nR h18 h19 h20 h21 h22 h23 h24 h25 h26 h27 h28 h29 h30 (mp n) some:=by kernel_rfl
theorem vK (rs:List bf)(hl:rs.length≤256)(time base:Int)(hb0:0≤base)(hb1:base≤4611686018427387648)(x1 x2 x3 x4:Int)(xs:List bf):∀(k i:Nat) (fd:Bool) (of wh:Int),rs.length<i+k→i≤rs.length→
  mp k rs (rs.length:Int) i fd time of wh base x1 x2 x3 x4 xs=some (.ret ((),((),(((bp time base (rs.drop i) i (of,wh,fd)).2.2,()),((time,()),(((bp time base (rs.drop i) i (of,wh,fd)).1,()),(((bp time base (rs.drop i) i (of,wh,fd)).2.1,()),()))))))):=by
 intro k
 induction k with
 |zero=>intro i fd of wh h;omega
 |succ k ih=>
  intro i fd of wh h1 h2
  rw[AU]
  unfold nR
  by_cases hi:i<rs.length
  rotate_left
  ·refine bF (decide_eq_false (by omega)) ?_
   rw[zI (by omega)]
   rfl
  refine bT (decide_eq_true (by omega)) ?_
  refine bT (by simpa using hi) ?_
  have e:List.getD rs (i:Int).toNat (0,(false,[],()),(false,[],()),[],())=rs[i]:=by rw[zG,aA hi]
  rw[e,zE hi,af (n:=(i:Int)+1) (by omega) (by omega),af (n:=base+(i:Int)) (by omega) (by omega)]
  have e2:bp time base (rs[i]::rs.drop (i+1)) i (of,wh,fd)=bp time base (rs.drop (i+1)) (i+1) (if fd=false∧time≤rs[i].1 then (base+i,rs[i].1,true) else (of,wh,fd)):=rfl
  rw[e2]
  cases fd with
  |true=>
   refine (ac rfl _ _).trans ?_
   rw[if_neg (fun h=>by cases h.1)]
   exact ih (i+1) true of wh (by omega) (by omega)
  |false=>
   refine (aa rfl _ _).trans ?_
   by_cases c:time≤rs[i].1
   ·refine bT (decide_eq_true c) ?_
    rw[if_pos ⟨rfl,c⟩]
    exact ih (i+1) true _ _ (by omega) (by omega)
   ·refine bF (decide_eq_false c) ?_
    rw[if_neg (fun h=>c h.2)]
    exact ih (i+1) false of wh (by omega) (by omega)
def qR (a0 a1 a2 a3 a4 a5 a6 a7 a8 a9 a10 a11 a12:Int)(a13:List aK.den)(a14:Bool)(a15 a16 a17:Int):Option gm.Res:=(iH ((a13,((↑a13.length:Int),(0,()))),((a14,()),((a15,()),((a16,()),((a17,()),((a8,(a9,(a10,(a11,(a12,(a13,())))))),()))))))).run fun y=>match y with | .ret ((),((),(x74,()),(x75,()),(x76,()),(x77,()),()))=>(oR ((),(x74,()),(x75,()),(x76,()),(x77,()),()))
theorem D6 (a0 a1 a2 a3 a4 a5 a6 a7 a8 a9 a10 a11 a12:Int)(a13:List aK.den)(a14:Bool)(a15 a16 a17:Int):Io.run tt xU dr nm gm Tryd.f45 (((a0,a1,a2,a3,a4,a5,a6,a7,()),(a8,a9,a10,a11,a12,a13,()),(),(),(),(),()),(a14,()),(a15,()),(a16,()),(a17,()),())=qR a0 a1 a2 a3 a4 a5 a6 a7 a8 a9 a10 a11 a12 a13 a14 a15 a16 a17:=by kernel_rfl
theorem Gz:HcOk prog 45 (ah gm uS):=by
 refine cx (cs:=rl) HcsOk.nil (lp:=nm) (fn:=Tryd.f45) gm (.step (h0:=aC cF iH) (by kernel_rfl) (iB (cs:=rl) HcsOk.nil (lp:=nm) (fn:=Tryd.f45) (.done (by kernel_rfl)) cF iH ?_) (.done (by kernel_rfl))) uS ?_
 ·rintro ⟨⟨(rs:List bf),(m:Int),(i:Int),⟨⟩⟩,⟨⟨(fd:Bool),⟨⟩⟩,⟨(time:Int),⟨⟩⟩,⟨(of:Int),⟨⟩⟩,⟨(wh:Int),⟨⟩⟩,⟨(base:Int),(x1:Int),(x2:Int),(x3:Int),(x4:Int),(xs:List bf),⟨⟩⟩,⟨⟩⟩⟩ y hw hy
  obtain ⟨hg,hy⟩:=Tr.guard hy
  simp only[zA,zB] at hg
  obtain ⟨h1,h2,h3,h4,h5⟩:=hg
  have h1:m=(rs.length:Int):=h1
  have h2:i=0:=h2
  have h3:rs.length≤256:=h3
  have h4:0≤base:=h4
  have h5:base≤4611686018427387648:=h5
  subst h1 h2
  refine ⟨rs.length+1,(vK rs h3 time base h4 h5 x1 x2 x3 x4 xs (rs.length+1) 0 fd of wh (by omega) (Nat.zero_le _)).trans ?_⟩
  rw[← hy,List.drop_zero];rfl
 ·rintro ⟨⟨⟨(a0:Int),(a1:Int),(a2:Int),(a3:Int),(a4:Int),(a5:Int),(a6:Int),(a7:Int),⟨⟩⟩,⟨(x1:Int),(x2:Int),(x3:Int),(x4:Int),(x5:Int),(rs:List bf),⟨⟩⟩,⟨⟩,⟨⟩,⟨⟩,⟨⟩,⟨⟩⟩,⟨⟨(fd:Bool),⟨⟩⟩,⟨(time:Int),⟨⟩⟩,⟨(of:Int),⟨⟩⟩,⟨(wh:Int),⟨⟩⟩,⟨⟩⟩⟩ out hw ho
  obtain ⟨hg,ho⟩:=Tr.guard ho
  have hg:(decide (0≤x1)&&(decide (x1≤4611686018427387648)&&decide (rs.length≤256)))=true:=hg
  simp only[zA,zB] at hg
  obtain ⟨h1,h2,h3⟩:=hg
  cases ho
  refine (D6 a0 a1 a2 a3 a4 a5 a6 a7 x1 x2 x3 x4 x5 rs fd time of wh).trans ?_
  unfold qR iH
  refine bT (by simp only[zA,zB];exact ⟨trivial,trivial,h3,h1,h2⟩) ?_
  rfl
abbrev gq:Io:=⟨[dL,dd,.fnc 45 false [0,1,2,3]],[[dB],[dd],[dd],[dd]],[],[dI,dd,dI],none⟩
def uV (d:gq.In):Tr gq.Res:=
 .ite (decide (d.1.1.length≤4294950000)) (.ret (.ret (((aG d.1.1 d.1.2.1).2.1,((aG d.1.1 d.1.2.1).2.2.1,((aG d.1.1 d.1.2.1).2.2.2,()))),
  (((bo d.2.2.1.1 (aG d.1.1 d.1.2.1).1 (d.2.2.2.1.1,d.2.2.2.2.1.1,d.2.1.1)).2.2,()),(d.2.2.1,(((bo d.2.2.1.1 (aG d.1.1 d.1.2.1).1 (d.2.2.2.1.1,d.2.2.2.2.1.1,d.2.1.1)).1,()),(((bo d.2.2.1.1 (aG d.1.1 d.1.2.1).1 (d.2.2.2.1.1,d.2.2.2.2.1.1,d.2.1.1)).2.1,()),()))))))) .no
abbrev xw:List (Nat×Hc):=[(39,ah fQ qz),(9,ah iz wT),(45,ah gm uS)]
def rC:Hd:=b8 xw
abbrev cc:Lo:=⟨⟨[.one (.hol (.sl 5 (Ty.int u8))),.any,.one (.fnp 45 false [0,1,2,3]),.any,.any,.any,.one hI,.one hI,.any,.one hI,.any,.one (.ptr 15 0),.one hI,.any,.any,.any,.any,.any,.any,.any,.any,.any,.any,.any,.any,.any,.any,.any,.any,.any,.any,.any,.any,.any,.any,.any,.any,.any,.any,.any,.any,.any,.any,.any,.any,.any,.any,.any,.any,.any,.any,.any,.any,.any,.any,.any,.any,.any,.one (.hol (.sl 75 aK)),.one hI,.one hI,.any,.any,.any,.any,.any,.any,.any,.any,.any,.any,.any,.any,.any,.any,.any,.any,.any,.any,.any,.any,.any,.any,.any,.any,.any,.any,.any,.any,.any,.any,.any,.any,.any,.any,.any,.any],[some [hL],some [hI],some [hI],some [hI],none,none,none,none,none,none,none,none,none,none,none,some [hI,hJ,hI,hK,hJ,.hol (.sl 75 aK)]]⟩,[(.exit 2,⟨[.one (.hol (.sl 5 (Ty.int u8))),.any,.one (.fnp 45 false [0,1,2,3]),.any,.any,.any,.one hI,.one hI,.any,.one hI,.any,.one (.ptr 15 0),.one hI,.any,.any,.any,.any,.any,.any,.any,.any,.any,.any,.any,.any,.any,.any,.any,.any,.any,.any,.any,.any,.any,.any,.any,.any,.any,.any,.any,.any,.any,.any,.any,.any,.any,.any,.any,.any,.any,.any,.any,.any,.any,.any,.any,.any,.any,.any,.any,.any,.any,.any,.any,.any,.any,.any,.any,.any,.any,.any,.any,.any,.any,.any,.any,.any,.any,.any,.any,.any,.any,.any,.any,.any,.any,.any,.any,.any,.any,.any,.any,.any,.any,.any,.any,.any],[some [hL],some [hI],some [hI],some [hI],none,none,none,none,none,none,none,none,none,none,none,some [hI,hJ,hI,hK,hJ,.hol (.sl 75 aK)]]⟩)]⟩
abbrev cn:Lo:=⟨⟨[.one (.hol (.sl 5 (Ty.int u8))),.any,.one (.fnp 45 false [0,1,2,3]),.any,.any,.any,.one hI,.one hI,.any,.any,.any,.any,.any,.any,.any,.any,.any,.any,.any,.any,.any,.any,.any,.any,.any,.any,.any,.any,.any,.any,.any,.any,.any,.any,.any,.any,.any,.any,.any,.any,.any,.any,.any,.any,.any,.any,.any,.any,.any,.any,.any,.any,.any,.any,.any,.any,.any,.any,.any,.any,.any,.any,.any,.any,.any,.any,.any,.any,.any,.any,.any,.any,.any,.any,.any,.any,.any,.any,.any,.any,.any,.any,.any,.any,.any,.any,.any,.any,.any,.any,.any,.any,.any,.any,.any,.any,.any],[some [hL],some [hI],some [hI],some [hI]]⟩,[(.ret,⟨(b9 (bN (.one hI::.one hI::.one hI::ai (ai (ai (ai (ai (dZ [])))))))),[some [hL],some [hI],some [hI],some [hI]]⟩),(.exit 0,⟨(b9 (bN (.one hI::.one hI::.any::ai (ai (ai (ai (ai (dZ [])))))))),[some [hL],some [hI],some [hI],some [hI]]⟩)]⟩
def gb (d:cc.st.den):Tr (am cc.xs):=
 .ite (decide (d.1.2.2.2.2.2.2.1=(d.1.2.2.2.2.2.1.length:Int))&&(decide (d.1.2.2.2.2.2.2.2.1=0)&&decide (d.1.2.2.2.2.2.1.length≤256)))
  (.ret (.ret ((),((d.1.1,(d.1.2.1,(d.1.2.2.1,(d.1.2.2.2.1,(aZ d.1.2.2.2.2.2.1 d.1.2.2.2.2.1,()))))),d.2)))) .no
def du (W:List (bx×dz)×Int×Int×Int)(fd:Bool)(time of wh:Int):am cn.xs:=
 if W.2.2.2=0 then .pan (.ret ((),((W.2.1,(W.2.2.1,())),(((bo time (W).1 (of,wh,fd)).2.2,()),((time,()),(((bo time (W).1 (of,wh,fd)).1,()),(((bo time (W).1 (of,wh,fd)).2.1,()),()))))))) else .ret ((),((W.2.1,(W.2.2.1,(W.2.2.2,()))),(((bo time (W).1 (of,wh,fd)).2.2,()),((time,()),(((bo time (W).1 (of,wh,fd)).1,()),(((bo time (W).1 (of,wh,fd)).2.1,()),()))))))
def iJ (d:cn.st.den):Tr (am cn.xs):=
 .ite (decide (d.1.2.1=0)&&decide (d.1.1.length≤4294950000)) (.ite (decide ((aG d.1.1 d.1.2.2.1).2.2.2=0)) (.ret (.pan (.ret ((),(((aG d.1.1 d.1.2.2.1).2.1,((aG d.1.1 d.1.2.2.1).2.2.1,())),(((bo d.2.2.1.1 (aG d.1.1 d.1.2.2.1).1 (d.2.2.2.1.1,d.2.2.2.2.1.1,d.2.1.1)).2.2,()),(d.2.2.1,(((bo d.2.2.1.1 (aG d.1.1 d.1.2.2.1).1 (d.2.2.2.1.1,d.2.2.2.2.1.1,d.2.1.1)).1,()),(((bo d.2.2.1.1 (aG d.1.1 d.1.2.2.1).1 (d.2.2.2.1.1,d.2.2.2.2.1.1,d.2.1.1)).2.1,()),()))))))))) (.ret (.ret ((),(((aG d.1.1 d.1.2.2.1).2.1,((aG d.1.1 d.1.2.2.1).2.2.1,((aG d.1.1 d.1.2.2.1).2.2.2,()))),(((bo d.2.2.1.1 (aG d.1.1 d.1.2.2.1).1 (d.2.2.2.1.1,d.2.2.2.2.1.1,d.2.1.1)).2.2,()),(d.2.2.1,(((bo d.2.2.1.1 (aG d.1.1 d.1.2.2.1).1 (d.2.2.2.1.1,d.2.2.2.2.1.1,d.2.1.1)).1,()),(((bo d.2.2.1.1 (aG d.1.1 d.1.2.2.1).1 (d.2.2.2.1.1,d.2.2.2.2.1.1,d.2.1.1)).2.1,()),()))))))))) .no
def iU:Lp:=cp [(3,aC cn iJ),(14,aC cc gb)]
def lQ {R:Type}(h34:LI)(h35 h36 h37 h38:Int)(h39:List aK.den)(h40 h41:Int)(h42:Bool)(h43 h44 h45 h46 h47 h48 h49 h50:Int)(h51:List aK.den)(next:LI→Int→Int→Int→Int→List aK.den→Int→Int→Bool→Int→Int→Int→Int→Int→Int→Int→Int→List aK.den→Option R)(out:am cc.xs→Option R):Option R:=bif decide (h41<h40) then bif decide (0≤h41)&&decide (h41<(↑h39.length:Int)) then next (h34) (h35) (h36) (h37) (cz h38 (h39.getD h41.toNat (0,(false,[],()),(false,[],()),[],())).1) (h39) (h40) (i64.wrap (h41+1)) (h42) (h43) (h44) (h45) (h46) (h47) (h48) (h49) (h50) (h51) else none else out (.ret ((),((h34,(h35,(h36,(h37,(h38,()))))),((h42,()),((h43,()),((h44,()),((h45,()),((h46,(h47,(h48,(h49,(h50,(h51,())))))),()))))))))
def ky (n:Nat)(h34:LI)(h35 h36 h37 h38:Int)(h39:List aK.den)(h40 h41:Int)(h42:Bool)(h43 h44 h45 h46 h47 h48 h49 h50:Int)(h51:List aK.den):Option (am cc.xs):=gO tt rC dr iU 4 Tryd.f25 (EL Tryd.f25 (ct Tryd.f25 0) 0) n (cc.st.mk' ((h34,(h35,(h36,(h37,(h38,(h39,(h40,(h41,())))))))),((h42,()),((h43,()),((h44,()),((h45,()),((h46,(h47,(h48,(h49,(h50,(h51,())))))),()))))))) (bE cc.xs)
theorem yU (n:Nat)(h34:LI)(h35 h36 h37 h38:Int)(h39:List aK.den)(h40 h41:Int)(h42:Bool)(h43 h44 h45 h46 h47 h48 h49 h50:Int)(h51:List aK.den):ky (n+1) h34 h35 h36 h37 h38 h39 h40 h41 h42 h43 h44 h45 h46 h47 h48 h49 h50 h51=lQ h34 h35 h36 h37 h38 h39 h40 h41 h42 h43 h44 h45 h46 h47 h48 h49 h50 h51 (ky n) some:=by kernel_rfl
def nT {R:Type}(h6:LI)(h7 h8:Int)(h9:Bool)(h10 h11 h12:Int)(next:LI→Int→Int→Bool→Int→Int→Int→Option R)(out:am cn.xs→Option R):Option R:=bif decide (h7<(↑h6.length:Int)) then bif decide (h6.length≤4294960000) then bif (aj h6 h7).2 != 0 then out (.ret ((),((h7,(h8,((aj h6 h7).2,()))),((h9,()),((h10,()),((h11,()),((h12,()),()))))))) else bif decide (0≤h7)&&(decide (h7≤i64.wrap (h7+(aj h6 h7).1))&&decide (i64.wrap (h7+(aj h6 h7).1)≤(↑h6.length:Int))) then bif decide ((List.drop h7.toNat (List.take (i64.wrap (h7+(aj h6 h7).1)).toNat h6)).length≤4294960000) then bif (an (List.drop h7.toNat (List.take (i64.wrap (h7+(aj h6 h7).1)).toNat h6))).2 != 0 then out (.ret ((),((h7,(h8,((an (List.drop h7.toNat (List.take (i64.wrap (h7+(aj h6 h7).1)).toNat h6))).2,()))),((h9,()),((h10,()),((h11,()),((h12,()),()))))))) else bif (an (List.drop h7.toNat (List.take (i64.wrap (h7+(aj h6 h7).1)).toNat h6))).1.1 != h8 then out (.ret ((),((h7,(h8,(190,()))),((h9,()),((h10,()),((h11,()),((h12,()),()))))))) else bif decide (0≤0)&&decide (0<(↑(List.length (an (List.drop h7.toNat (List.take (i64.wrap (h7+(aj h6 h7).1)).toNat h6))).1.2.2.2.2.2.1):Int)) then (gb ((h6,(h7,(h8,((aj h6 h7).1,((List.getD (an (List.drop h7.toNat (List.take (i64.wrap (h7+(aj h6 h7).1)).toNat h6))).1.2.2.2.2.2.1 (Int.toNat 0) (0,(false,[],()),(false,[],()),[],())).1,((an (List.drop h7.toNat (List.take (i64.wrap (h7+(aj h6 h7).1)).toNat h6))).1.2.2.2.2.2.1,((↑(List.length (an (List.drop h7.toNat (List.take (i64.wrap (h7+(aj h6 h7).1)).toNat h6))).1.2.2.2.2.2.1):Int),(0,())))))))),((h9,()),((h10,()),((h11,()),((h12,()),(((an (List.drop h7.toNat (List.take (i64.wrap (h7+(aj h6 h7).1)).toNat h6))).1.1,((an (List.drop h7.toNat (List.take (i64.wrap (h7+(aj h6 h7).1)).toNat h6))).1.2.1,((an (List.drop h7.toNat (List.take (i64.wrap (h7+(aj h6 h7).1)).toNat h6))).1.2.2.1,((an (List.drop h7.toNat (List.take (i64.wrap (h7+(aj h6 h7).1)).toNat h6))).1.2.2.2.1,((an (List.drop h7.toNat (List.take (i64.wrap (h7+(aj h6 h7).1)).toNat h6))).1.2.2.2.2.1,((an (List.drop h7.toNat (List.take (i64.wrap (h7+(aj h6 h7).1)).toNat h6))).1.2.2.2.2.2.1,())))))),()))))))).run fun y=>match y with | .ret ((),((x85,x86,x87,x88,x89,()),(x90,()),(x91,()),(x92,()),(x93,()),(x94,x95,x96,x97,x98,x99,()),()))=>(bif nF (x94,x95,x96,x97,x98,x99,()) then next (x85) (i64.wrap (x86+x88)) (i64.wrap (x87+(↑x99.length:Int))) ((bp x91 x94 x99 0 (x92,x93,x90)).2.2) (x91) ((bp x91 x94 x99 0 (x92,x93,x90)).1) ((bp x91 x94 x99 0 (x92,x93,x90)).2.1) else none) else none else none else none else none else out (.pan (.ret ((),((h7,(h8,())),((h9,()),((h10,()),((h11,()),((h12,()),()))))))))
def jH (n:Nat)(h6:LI)(h7 h8:Int)(h9:Bool)(h10 h11 h12:Int):Option (am cn.xs):=gO tt rC dr iU 4 Tryd.f25 (ct Tryd.f25 0) n (cn.st.mk' ((h6,(h7,(h8,()))),((h9,()),((h10,()),((h11,()),((h12,()),())))))) (bE cn.xs)
theorem AW (n:Nat)(h6:LI)(h7 h8:Int)(h9:Bool)(h10 h11 h12:Int):jH (n+1) h6 h7 h8 h9 h10 h11 h12=nT h6 h7 h8 h9 h10 h11 h12 (jH n) some:=by kernel_rfl
theorem sh (p q:Int)(fd:Bool)(time of wh:Int):du ([],p,q,0) fd time of wh=.pan (.ret ((),((p,(q,())),((fd,()),((time,()),((of,()),((wh,()),()))))))):=by
 unfold du;rw[if_pos rfl];rfl
theorem gD {w':Int}(h:w'≠0)(p q:Int)(fd:Bool)(time of wh:Int):du ([],p,q,w') fd time of wh=.ret ((),((p,(q,(w',()))),((fd,()),((time,()),((of,()),((wh,()),())))))):=by
 unfold du;rw[if_neg h];rfl
theorem sg (e:bx)(x:dz)(W:List (bx×dz)×Int×Int×Int)(fd:Bool)(time of wh:Int):du ((e,x)::W.1,W.2) fd time of wh=du W (bp time x.1 x.2.2.2.2.2.1 0 (of,wh,fd)).2.2 time (bp time x.1 x.2.2.2.2.2.1 0 (of,wh,fd)).1 (bp time x.1 x.2.2.2.2.2.1 0 (of,wh,fd)).2.1:=by
 unfold du;rfl
theorem s0 (b:LI)(p q m:Int)(rs:List bf)(hl:rs.length≤256)(fd:Bool)(time of wh x1 x2 x3 x4 x5:Int)(xs:List bf):∀(k i:Nat) (t:Int),rs.length<i+k→i≤rs.length→
  ky k b p q m t rs (rs.length:Int) i fd time of wh x1 x2 x3 x4 x5 xs=some (.ret ((),((b,(p,(q,(m,(aZ (rs.drop i) t,()))))),((fd,()),((time,()),((of,()),((wh,()),((x1,(x2,(x3,(x4,(x5,(xs,())))))),())))))))):=by
 intro k
 induction k with
 |zero=>intro i t h;omega
 |succ k ih=>
  intro i t h1 h2
  rw[yU]
  unfold lQ
  by_cases hi:i<rs.length
  rotate_left
  ·refine bF (decide_eq_false (by omega)) ?_
   rw[zI (by omega)]
   rfl
  refine bT (decide_eq_true (by omega)) ?_
  refine bT (by simpa using hi) ?_
  have e:List.getD rs (i:Int).toNat (0,(false,[],()),(false,[],()),[],())=rs[i]:=by rw[zG,aA hi]
  rw[e,zE hi,af (n:=(i:Int)+1) (by omega) (by omega)]
  exact ih (i+1) _ (by omega) (by omega)
theorem vM (b:LI)(hb:aR b)(hl:b.length≤4294950000):∀(k:Nat) (p q:Int) (fd:Bool) (time of wh:Int),0≤p→p≤b.length→(b.length:Int)<p+k→
  jH k b p q fd time of wh=some (du (br b k p q) fd time of wh):=by
 intro k
 induction k with
 |zero=>intro p q fd time of wh h0 h1 h2;omega
 |succ k ih=>
  intro p q fd time of wh h0 h1 h2
  rw[AW]
  unfold nT br
  by_cases c1:p<b.length
  rotate_left
  ·refine bF (decide_eq_false c1) ?_
   rw[if_pos (by omega),sh]
  refine bT (decide_eq_true c1) ?_
  refine bT (decide_eq_true (by omega)) ?_
  rw[if_neg (by omega:¬(b.length:Int)≤p)]
  by_cases c2:(aj b p).2=0
  rotate_left
  ·refine bT (by simpa using c2) ?_
   rw[if_pos c2,gD c2]
  refine bF (by rw[c2];rfl) ?_
  rw[if_neg (fun h=>h c2)]
  have hm:=f5 c2
  have hx:=jf (kZ hb p.toNat (aj b p).1.toNat)
  generalize (aj b p).1=m at *
  have hd:List.drop p.toNat (List.take (p+m).toNat b)=(b.drop p.toNat).take m.toNat:=by
   rw[List.drop_take,show (p+m).toNat - p.toNat=m.toNat by omega]
  rw[af (n:=p+m) (by omega) (by omega),hd]
  refine bT (by simp only[zA,zB];omega) ?_
  refine bT (decide_eq_true (by rw[List.length_take,List.length_drop];omega)) ?_
  generalize an ((b.drop p.toNat).take m.toNat)=D at *
  obtain ⟨⟨(x1:Int),(x2:Int),(x3:Int),(x4:Int),(x5:Int),(rs:List bf),⟨⟩⟩,(z:Int)⟩:=D
  by_cases c3:z=0
  rotate_left
  ·refine bT (by simpa using c3) ?_
   rw[if_pos c3,gD c3]
  refine bF (by simpa using c3) ?_
  rw[if_neg (fun h=>h c3)]
  obtain ⟨y1,y2,y3,y4⟩:=hx c3
  have y1:0≤x1:=y1
  have y2:x1≤4611686018427387648:=y2
  have y3:1≤rs.length:=y3
  have y4:rs.length≤256:=y4
  by_cases c4:x1=q
  rotate_left
  ·refine bT (by simpa using c4) ?_
   rw[if_pos c4,gD (show (190:Int)≠0 by decide)]
  refine bF (by simpa using c4) ?_
  rw[if_neg (fun h=>h c4)]
  refine bT (by simp only[zA,zB];exact ⟨by decide,by show 0<(rs.length:Int);omega⟩) ?_
  unfold gb
  refine bT (by simp only[zA,zB];exact ⟨trivial,trivial,y4⟩) ?_
  have eL:aZ rs (List.getD rs (Int.toNat 0) (0,(false,[],()),(false,[],()),[],())).1=cq rs:=by
   cases rs with
   |nil=>simp at y3
   |cons r l=>
    show aZ l (cz r.1 r.1)=aZ l r.1
    have:cz r.1 r.1=r.1:=by unfold cz;split <;> rfl
    rw[this]
  have hB:nF (x1,(x2,(x3,(x4,(x5,(rs,()))))))=true:=by
   unfold nF
   simp only[zA,zB]
   exact ⟨y1,y2,y4⟩
  refine (aa hB _ _).trans ?_
  show jH k b (i64.wrap (p+m)) (i64.wrap (q+(rs.length:Int))) (bp time x1 rs 0 (of,wh,fd)).2.2 time (bp time x1 rs 0 (of,wh,fd)).1 (bp time x1 rs 0 (of,wh,fd)).2.1=_
  rw[af (n:=p+m) (by omega) (by omega),af (n:=q+(rs.length:Int)) (by omega) (by omega)]
  refine (ih (p+m) (q+(rs.length:Int)) _ time _ _ (by omega) (by omega) (by omega)).trans ?_
  exact congrArg some (sg _ (x1,(x2,(x3,(x4,(x5,(rs,())))))) _ fd time of wh).symm
def qU (a0:LI)(a1:Int)(a2:Bool)(a3 a4 a5:Int):Option gq.Res:=(iJ ((a0,(0,(a1,()))),((a2,()),((a3,()),((a4,()),((a5,()),())))))).run fun y=>match y with | .ret ((),((x113,x114,x115,()),(x116,()),(x117,()),(x118,()),(x119,()),()))=>(oR ((x113,x114,x115,()),(x116,()),(x117,()),(x118,()),(x119,()),())) | .pan (.ret ((),((x120,x121,()),(x122,()),(x123,()),(x124,()),(x125,()),())))=>(oR ((x120,x121,0,()),(x122,()),(x123,()),(x124,()),(x125,()),()))
theorem D9 (a0:LI)(a1:Int)(a2:Bool)(a3 a4 a5:Int):Io.run tt rC dr iU gq Tryd.f25 ((a0,a1,(),()),(a2,()),(a3,()),(a4,()),(a5,()),())=qU a0 a1 a2 a3 a4 a5:=by kernel_rfl
theorem l8:HcsOk prog xw:=.cons wj (.cons AC (.cons Gz .nil))
theorem GC:HcOk prog 25 (ah gq uV):=by
 refine cx l8 (lp:=iU) (fn:=Tryd.f25) gq (.step (h0:=aC cn iJ) (by kernel_rfl) (iB l8 (lp:=iU) (fn:=Tryd.f25) (.step (h0:=aC cc gb) (by kernel_rfl) (iB l8 (lp:=iU) (fn:=Tryd.f25) (.done (by kernel_rfl)) cc gb ?_) (.done (by kernel_rfl))) cn iJ ?_) (.done (by kernel_rfl))) uV ?_
 ·rintro ⟨⟨(b:LI),(p:Int),(q:Int),(m:Int),(t:Int),(rs:List bf),(j:Int),(i:Int),⟨⟩⟩,⟨⟨(fd:Bool),⟨⟩⟩,⟨(time:Int),⟨⟩⟩,⟨(of:Int),⟨⟩⟩,⟨(wh:Int),⟨⟩⟩,⟨(x1:Int),(x2:Int),(x3:Int),(x4:Int),(x5:Int),(xs:List bf),⟨⟩⟩,⟨⟩⟩⟩ y hw hy
  obtain ⟨hg,hy⟩:=Tr.guard hy
  simp only[zA,zB] at hg
  obtain ⟨h1,h2,h3⟩:=hg
  have h1:j=(rs.length:Int):=h1
  have h2:i=0:=h2
  have h3:rs.length≤256:=h3
  subst h1 h2
  refine ⟨rs.length+1,(s0 b p q m rs h3 fd time of wh x1 x2 x3 x4 x5 xs (rs.length+1) 0 t (by omega) (Nat.zero_le _)).trans ?_⟩
  rw[← hy,List.drop_zero];rfl
 ·rintro ⟨⟨(b:LI),(p:Int),(q:Int),⟨⟩⟩,⟨⟨(fd:Bool),⟨⟩⟩,⟨(time:Int),⟨⟩⟩,⟨(of:Int),⟨⟩⟩,⟨(wh:Int),⟨⟩⟩,⟨⟩⟩⟩ y hw hy
  obtain ⟨hg,hy⟩:=Tr.guard hy
  simp only[zA,zB] at hg
  obtain ⟨h1,h2⟩:=hg
  have h1:p=0:=h1
  have h2:b.length≤4294950000:=h2
  subst h1
  refine ⟨b.length+1,(vM b (bytesOf hw.1.1) h2 (b.length+1) 0 q fd time of wh (by omega) (by omega) (by omega)).trans ?_⟩
  unfold du
  show some (if (aG b q).2.2.2=0 then _ else _)=_
  by_cases c:(aG b q).2.2.2=0
  ·rw[if_pos c]
   exact ((aa (decide_eq_true c) _ _).symm.trans hy)
  ·rw[if_neg c]
   exact ((ac (decide_eq_false c) _ _).symm.trans hy)
 ·rintro ⟨⟨(b:LI),(q:Int),⟨⟩,⟨⟩⟩,⟨⟨(fd:Bool),⟨⟩⟩,⟨(time:Int),⟨⟩⟩,⟨(of:Int),⟨⟩⟩,⟨(wh:Int),⟨⟩⟩,⟨⟩⟩⟩ out hw ho
  obtain ⟨hg,ho⟩:=Tr.guard ho
  have h2:b.length≤4294950000:=of_decide_eq_true hg
  cases ho
  refine (D9 b q fd time of wh).trans ?_
  unfold qU iJ
  refine bT (by simp only[zA,zB];exact ⟨trivial,h2⟩) ?_
  by_cases c:(aG b q).2.2.2=0
  ·refine bT (decide_eq_true c) ?_
   show _=oR (((aG b q).2.1,((aG b q).2.2.1,((aG b q).2.2.2,()))),(((bo time (aG b q).1 (of,wh,fd)).2.2,()),((time,()),(((bo time (aG b q).1 (of,wh,fd)).1,()),(((bo time (aG b q).1 (of,wh,fd)).2.1,()),())))))
   rw[c];rfl
  ·exact ac (decide_eq_false c) _ _
abbrev jq:Io:=⟨[dL,dd,dd],[],[],[dd,dd,dB],none⟩
def zv (d:jq.In):Tr jq.Res:=.ite (decide (d.1.1.length≤4294950000)) (.ret (.ret (((o4 d.1.1 d.1.2.1 d.1.2.2.1).1,((o4 d.1.1 d.1.2.1 d.1.2.2.1).2.1,((o4 d.1.1 d.1.2.1 d.1.2.2.1).2.2,()))),()))) .no
abbrev BC:List (Nat×Hc):=[(25,ah gq uV)]
def Is:Hd:=b8 BC
def Cq:Lp:=cp []
def tw (a0:LI)(a1 a2:Int):Option jq.Res:=bif decide (a0.length≤4294950000) then oR (((bo a2 (aG a0 a1).1 (0,0,false)).1,(bo a2 (aG a0 a1).1 (0,0,false)).2.1,(bo a2 (aG a0 a1).1 (0,0,false)).2.2,()),()) else none
theorem GZ (a0:LI)(a1 a2:Int):Io.run tt Is dr Cq jq Tryd.f24 ((a0,a1,a2,()),())=tw a0 a1 a2:=by kernel_rfl
theorem I0:HcOk prog 24 (ah jq zv):=by
 refine cx (cs:=BC) (.cons GC .nil) (lp:=Cq) (fn:=Tryd.f24) jq (.done (by kernel_rfl)) zv ?_
 rintro ⟨⟨(b:LI),(base:Int),(time:Int),⟨⟩⟩,⟨⟩⟩ out hw ho
 obtain ⟨hg,ho⟩:=Tr.guard ho
 cases ho
 refine (GZ b base time).trans ?_
 unfold tw
 exact aa hg _ _
abbrev gn:Io:=⟨[dI,.ptr 0 0,.ptr 1 0],[Gu,[dd]],[],[dB],none⟩
def uT (d:gn.In):Tr gn.Res:=.ite (decide ((0:Int)≤d.1.1)&&decide (d.1.1<(d.2.1.1.length:Int))) (.ret (.ret ((decide (d.2.2.1.1<(d.2.1.1.getD d.1.1.toNat jX).1),()),d.2))) .no
abbrev xt:List (Nat×Hc):=[]
def FS:Hd:=b8 xt
def yt:Lp:=cp []
def qS (a0:Int)(a1:List ca.den)(a2 a3 a4 a5:Int):Option gn.Res:=bif decide (0≤a0)&&decide (a0<(↑a1.length:Int)) then oR ((decide (a5<(a1.getD a0.toNat (0,0,0,0,0,0,0,0,())).1),()),(a1,a2,a3,a4,()),(a5,()),()) else none
theorem D7 (a0:Int)(a1:List ca.den)(a2 a3 a4 a5:Int):Io.run tt FS dr yt gn Tryd.f44 ((a0,(),(),()),(a1,a2,a3,a4,()),(a5,()),())=qS a0 a1 a2 a3 a4 a5:=by kernel_rfl
theorem GA:HcOk prog 44 (ah gn uT):=by
 refine cx (cs:=xt) HcsOk.nil (lp:=yt) (fn:=Tryd.f44) gn (.done (by kernel_rfl)) uT ?_
 rintro ⟨⟨(i:Int),⟨⟩,⟨⟩,⟨⟩⟩,⟨⟨(es:List bx),(l:Int),(n:Int),(w:Int),⟨⟩⟩,⟨(f:Int),⟨⟩⟩,⟨⟩⟩⟩ out hw ho
 obtain ⟨hg,ho⟩:=Tr.guard ho
 cases ho
 refine (D7 i es l n w f).trans ?_
 unfold qS
 exact aa hg _ _
abbrev fa:Io:=⟨[dI,.fnc 44 false [0,1]],[Gu,[dd]],[],[dI],none⟩
def qC (d:fa.In):Tr fa.Res:=.ite (decide (d.1.1=(d.2.1.1.length:Int))&&(decide (d.2.1.1.length≤4294960000)&&eF d.2.1.1)) (.ret (.ret (((aM d.2.2.1.1 d.2.1.1:Int),()),d.2))) .no
abbrev t7:List (Nat×Hc):=[(44,ah gn uT)]
def up:Hd:=b8 t7
abbrev cb:Lo:=⟨⟨[.any,.one (.fnp 44 false [0,1]),.any,.any,.any,.one hI,.one hI,.any,.any,.any,.any,.any,.any,.any,.any,.any,.any,.any,.any,.any,.any,.any,.any,.any,.any,.any],[some [.hol (.sl 32 ca),hI,hI,hI],some [hI]]⟩,[(.exit 0,⟨(.any::b9 (.one hI::ai (b9 []))),[some [.hol (.sl 32 ca),hI,hI,hI],some [hI]]⟩)]⟩
def ga (d:cb.st.den):Tr (am cb.xs):=
 .ite (decide (d.1.1=0)&&(decide (d.1.2.1=(d.2.1.1.length:Int))&&(decide (d.2.1.1.length≤4294960000)&&eF d.2.1.1))) (.ret (.ret ((),(((aM d.2.2.1.1 d.2.1.1:Int),()),d.2)))) .no
def lh:Lp:=cp [(3,aC cb ga)]
def lP {R:Type}(h6 h7:Int)(h8:List ca.den)(h9 h10 h11 h12:Int)(next:Int→Int→List ca.den→Int→Int→Int→Int→Option R)(out:am cb.xs→Option R):Option R:=bif decide (h6<h7) then bif decide (0≤i64.wrap (eX u64 (u64.wrap (i64.wrap (h6+h7))) 1))&&decide (i64.wrap (eX u64 (u64.wrap (i64.wrap (h6+h7))) 1)<(↑h8.length:Int)) then bif !decide (h12<(h8.getD (i64.wrap (eX u64 (u64.wrap (i64.wrap (h6+h7))) 1)).toNat (0,0,0,0,0,0,0,0,())).1) then next (i64.wrap (i64.wrap (eX u64 (u64.wrap (i64.wrap (h6+h7))) 1)+1)) (h7) (h8) (h9) (h10) (h11) (h12) else next (h6) (i64.wrap (eX u64 (u64.wrap (i64.wrap (h6+h7))) 1)) (h8) (h9) (h10) (h11) (h12) else none else out (.ret ((),((h6,()),((h8,(h9,(h10,(h11,())))),((h12,()),())))))
def kx (n:Nat)(h6 h7:Int)(h8:List ca.den)(h9 h10 h11 h12:Int):Option (am cb.xs):=gO tt up dr lh 2 Tryd.f43 (ct Tryd.f43 0) n (cb.st.mk' ((h6,(h7,())),((h8,(h9,(h10,(h11,())))),((h12,()),())))) (bE cb.xs)
theorem yS (n:Nat)(h6 h7:Int)(h8:List ca.den)(h9 h10 h11 h12:Int):kx (n+1) h6 h7 h8 h9 h10 h11 h12=lP h6 h7 h8 h9 h10 h11 h12 (kx n) some:=by kernel_rfl
theorem Hy {x:Int}(h0:0≤x)(h1:x≤9223372036854775807):i64.wrap (eX u64 (u64.wrap (i64.wrap x)) 1)=x / 2:=by
 have e1:u64.wrap x=x:=bG (by simp[bu,IntKind.min,IntKind.max,IntKind.signed,IntKind.bits];omega)
 have e2:eX u64 x 1=u64.wrap (x.fdiv 2):=rfl
 rw[af (n:=x) (by omega) h1,e1,e2,Int.fdiv_eq_ediv_of_nonneg _ (by decide)]
 have e3:u64.wrap (x / 2)=x / 2:=bG (by simp[bu,IntKind.min,IntKind.max,IntKind.signed,IntKind.bits];omega)
 rw[e3,af (by omega) (by omega)]
theorem sZ (es:List bx)(l n w f:Int)(hl:es.length≤4294960000)(hs:eF es=true):∀(k i j:Nat),j<i+k→i≤aM f es→aM f es≤j→j≤es.length→
  kx k i j es l n w f=some (.ret ((),(((aM f es:Int),()),((es,(l,(n,(w,())))),((f,()),()))))):=by
 intro k
 induction k with
 |zero=>intro i j h1 h2 h3 h4;omega
 |succ k ih=>
  intro i j h1 h2 h3 h4
  rw[yS]
  unfold lP
  by_cases c:i<j
  rotate_left
  ·refine bF (decide_eq_false (by omega)) ?_
   rw[show i=aM f es by omega]
  refine bT (decide_eq_true (by omega)) ?_
  rw[Hy (x:=(i:Int)+(j:Int)) (by omega) (by omega)]
  have hh:((i:Int)+(j:Int)) / 2=(((i+j) / 2:Nat):Int):=by omega
  rw[hh]
  have m1:i≤(i+j) / 2:=by omega
  have m2:(i+j) / 2<j:=by omega
  generalize (i+j) / 2=m at *
  have hm:m<es.length:=by omega
  refine bT (by simpa using hm) ?_
  rw[zG,aA hm,af (n:=(m:Int)+1) (by omega) (by omega)]
  by_cases c2:f<es[m].1
  ·refine bF (by rw[decide_eq_true c2];rfl) ?_
   refine ih i m (by omega) h2 ?_ (by omega)
   rcases Nat.lt_or_ge m (aM f es) with h | h
   ·exact absurd (De h) (by omega)
   ·exact h
  ·refine bT (by rw[decide_eq_false c2];rfl) ?_
   refine ih (m+1) j (by omega) ?_ h3 h4
   rcases Nat.lt_or_ge m (aM f es) with h | h
   ·exact h
   ·exact absurd (Dd hs hm h) c2
def pg (a0:Int)(a1:List ca.den)(a2 a3 a4 a5:Int):Option fa.Res:=(ga ((0,(a0,())),((a1,(a2,(a3,(a4,())))),((a5,()),())))).run fun y=>match y with | .ret ((),((x33,()),(x34,x35,x36,x37,()),(x38,()),()))=>(oR ((x33,()),(x34,x35,x36,x37,()),(x38,()),()))
theorem AJ (a0:Int)(a1:List ca.den)(a2 a3 a4 a5:Int):Io.run tt up dr lh fa Tryd.f43 ((a0,(),()),(a1,a2,a3,a4,()),(a5,()),())=pg a0 a1 a2 a3 a4 a5:=by kernel_rfl
theorem pw:HcsOk prog t7:=.cons GA .nil
theorem DU:HcOk prog 43 (ah fa qC):=by
 refine cx pw (lp:=lh) (fn:=Tryd.f43) fa (.step (h0:=aC cb ga) (by kernel_rfl) (iB pw (lp:=lh) (fn:=Tryd.f43) (.done (by kernel_rfl)) cb ga ?_) (.done (by kernel_rfl))) qC ?_
 ·rintro ⟨⟨(i:Int),(j:Int),⟨⟩⟩,⟨⟨(es:List bx),(l:Int),(n:Int),(w:Int),⟨⟩⟩,⟨(f:Int),⟨⟩⟩,⟨⟩⟩⟩ y hw hy
  obtain ⟨hg,hy⟩:=Tr.guard hy
  simp only[zA,zB] at hg
  obtain ⟨h1,h2,h3,h4⟩:=hg
  have h1:i=((0:Nat):Int):=h1
  have h2:j=(es.length:Int):=h2
  have h3:es.length≤4294960000:=h3
  subst h1 h2
  refine ⟨es.length+1,(sZ es l n w f h3 h4 (es.length+1) 0 es.length (by omega) (Nat.zero_le _) (qw f es) (Nat.le_refl _)).trans ?_⟩
  rw[← hy];rfl
 ·rintro ⟨⟨(m:Int),⟨⟩,⟨⟩⟩,⟨⟨(es:List bx),(l:Int),(n:Int),(w:Int),⟨⟩⟩,⟨(f:Int),⟨⟩⟩,⟨⟩⟩⟩ out hw ho
  obtain ⟨hg,ho⟩:=Tr.guard ho
  simp only[zA,zB] at hg
  obtain ⟨h1,h2,h3⟩:=hg
  cases ho
  refine (AJ m es l n w f).trans ?_
  unfold pg ga
  refine bT (by simp only[zA,zB];exact ⟨trivial,h1,h2,h3⟩) ?_
  rfl
abbrev jr:Io:=⟨[dL,dd,dd,dI],[],[],[dO,dI],none⟩
def zw (d:jr.In):Tr jr.Res:=.ite (decide (d.1.1.length≤4294950000)) (.ret (.ret (((mG d.1.1 d.1.2.1 d.1.2.2.1 d.1.2.2.2.1).1,((mG d.1.1 d.1.2.1 d.1.2.2.1 d.1.2.2.2.1).2,())),()))) .no
abbrev BD:List (Nat×Hc):=[(7,ah fR qB),(43,ah fa qC),(40,ah dF mP)]
def Ca:Hd:=b8 BD
abbrev cG:Lo:=⟨⟨(.one (.hol (.sl 5 (Ty.int u8)))::bN (.one hI::dZ (.one hI::.one hI::ai (ai (dZ (b9 (.one (.hol (.sl 32 ca))::.one hI::.one hI::.any::ai (b9 (bN []))))))))),[]⟩,[(.exit 1,⟨(.one (.hol (.sl 5 (Ty.int u8)))::.any::dZ (bN (.one hI::.one hI::ai (ai (ai (ai (b9 (bN [])))))))),[]⟩)]⟩
def iI (d:cG.st.den):Tr (am cG.xs):=
 .ite (decide (d.1.2.2.2.2.2.1=(d.1.2.2.2.2.1.length:Int))&&(decide (d.1.2.2.2.2.2.2.1=0)&&(decide ((0:Int)≤d.1.2.2.1)&&(decide (d.1.2.2.1≤(4294960000:Int))&&nJ d.1.2.2.2.2.1))))
  (.ret (.ret ((),((d.1.1,(d.1.2.2.1,(dD d.1.2.2.1 d.1.2.1 d.1.2.2.2.2.1 d.1.2.2.2.1,()))),())))) .no
def qj:Lp:=cp [(11,aC cG iI)]
def nS {R:Type}(h4:LI)(h5 h6 h7:Int)(h8:List ca.den)(h9 h10:Int)(next:LI→Int→Int→Int→List ca.den→Int→Int→Option R)(out:am cG.xs→Option R):Option R:=bif decide (h10<h9) then bif decide (0≤h10)&&decide (h10<(↑h8.length:Int)) then bif decide (h5<i64.wrap (i64.wrap ((h8.getD h10.toNat (0,0,0,0,0,0,0,0,())).2.2.1+(h8.getD h10.toNat (0,0,0,0,0,0,0,0,())).2.2.2.1) - h6)) then out (.ret ((),((h4,(h6,(h7,()))),()))) else next (h4) (h5) (h6) (i64.wrap ((h8.getD h10.toNat (0,0,0,0,0,0,0,0,())).2.2.1+(h8.getD h10.toNat (0,0,0,0,0,0,0,0,())).2.2.2.1)) (h8) (h9) (i64.wrap (h10+1)) else none else out (.ret ((),((h4,(h6,(h7,()))),())))
def mq (n:Nat)(h4:LI)(h5 h6 h7:Int)(h8:List ca.den)(h9 h10:Int):Option (am cG.xs):=gO tt Ca dr qj 0 Tryd.f23 (ct Tryd.f23 0) n (cG.st.mk' ((h4,(h5,(h6,(h7,(h8,(h9,(h10,()))))))),())) (bE cG.xs)
theorem AV (n:Nat)(h4:LI)(h5 h6 h7:Int)(h8:List ca.den)(h9 h10:Int):mq (n+1) h4 h5 h6 h7 h8 h9 h10=nS h4 h5 h6 h7 h8 h9 h10 (mq n) some:=by kernel_rfl
theorem vL (b:LI)(most a:Int)(ha:0≤a)(ha2:a≤4294960000)(es:List bx)(hl:es.length≤maxLen)(hk:nJ es=true):∀(k i:Nat) (e:Int),es.length<i+k→i≤es.length→
  mq k b most a e es (es.length:Int) i=some (.ret ((),((b,(a,(dD a most (es.drop i) e,()))),()))):=by
 intro k
 induction k with
 |zero=>intro i e h;omega
 |succ k ih=>
  intro i e h1 h2
  rw[AV]
  unfold nS
  by_cases hi:i<es.length
  rotate_left
  ·refine bF (decide_eq_false (by omega)) ?_
   rw[zI (by omega)]
   rfl
  refine bT (decide_eq_true (by omega)) ?_
  refine bT (by simpa using hi) ?_
  have e1:List.getD es (i:Int).toNat (0,0,0,0,0,0,0,0,())=es[i]:=by rw[zG,aA hi]
  have hx:=List.all_eq_true.1 hk es[i] (List.getElem_mem hi)
  simp only[zA,zB] at hx
  obtain ⟨x1,x2,x3,x4⟩:=hx
  rw[e1,bH hi hl,af (n:=es[i].2.2.1+es[i].2.2.2.1) (by omega) (by omega),af (n:=es[i].2.2.1+es[i].2.2.2.1 - a) (by omega) (by omega),zE hi]
  have e2:dD a most (es[i]::es.drop (i+1)) e=if most<es[i].2.2.1+es[i].2.2.2.1 - a then e else dD a most (es.drop (i+1)) (es[i].2.2.1+es[i].2.2.2.1):=rfl
  rw[e2]
  by_cases c:most<es[i].2.2.1+es[i].2.2.2.1 - a
  ·refine bT (decide_eq_true c) ?_
   rw[if_pos c]
  ·refine bF (decide_eq_false c) ?_
   rw[if_neg c]
   exact ih (i+1) _ (by omega) (by omega)
def tz (a0:LI)(a1 a2 a3:Int):Option jr.Res:=bif decide (a0.length≤4294950000) then bif decide (a2<a1) then oR (([],221,()),()) else bif decide ((az a0 a1).2.2.1<a2) then oR (([],221,()),()) else bif a2 == (az a0 a1).2.2.1 then oR (([],0,()),()) else bif decide ((↑(List.length (az a0 a1).1):Int)=(↑(List.length (az a0 a1).1):Int))&&(decide (List.length (az a0 a1).1≤4294960000)&&eF (az a0 a1).1) then bif decide (0≤i64.wrap ((↑(aM a2 (az a0 a1).1):Int) - 1))&&decide (i64.wrap ((↑(aM a2 (az a0 a1).1):Int) - 1)<(↑(List.length (az a0 a1).1):Int)) then bif decide (0≤i64.wrap ((↑(aM a2 (az a0 a1).1):Int) - 1))&&decide (i64.wrap ((↑(aM a2 (az a0 a1).1):Int) - 1)<(↑(List.length (az a0 a1).1):Int)) then bif decide (0≤i64.wrap (i64.wrap ((↑(aM a2 (az a0 a1).1):Int) - 1)+1))&&(decide (i64.wrap (i64.wrap ((↑(aM a2 (az a0 a1).1):Int) - 1)+1)≤(↑(List.length (az a0 a1).1):Int))&&decide ((↑(List.length (az a0 a1).1):Int)≤(↑(List.length (az a0 a1).1):Int))) then (iI ((a0,(a3,((List.getD (az a0 a1).1 (i64.wrap ((↑(aM a2 (az a0 a1).1):Int) - 1)).toNat (0,0,0,0,0,0,0,0,())).2.2.1,(i64.wrap ((List.getD (az a0 a1).1 (i64.wrap ((↑(aM a2 (az a0 a1).1):Int) - 1)).toNat (0,0,0,0,0,0,0,0,())).2.2.1+(List.getD (az a0 a1).1 (i64.wrap ((↑(aM a2 (az a0 a1).1):Int) - 1)).toNat (0,0,0,0,0,0,0,0,())).2.2.2.1),(List.drop (i64.wrap (i64.wrap ((↑(aM a2 (az a0 a1).1):Int) - 1)+1)).toNat (List.take (↑(List.length (az a0 a1).1):Int).toNat (az a0 a1).1),((↑(List.drop (i64.wrap (i64.wrap ((↑(aM a2 (az a0 a1).1):Int) - 1)+1)).toNat (List.take (↑(List.length (az a0 a1).1):Int).toNat (az a0 a1).1)).length:Int),(0,()))))))),())).run fun y=>match y with | .ret ((),((x24,x25,x26,()),()))=>(bif decide (0≤x25)&&(decide (x25≤x26)&&decide (x26≤(↑x24.length:Int))) then bif decide ((List.drop x25.toNat (List.take x26.toNat x24)).length≤4294967296) then oR ((List.drop x25.toNat (List.take x26.toNat x24),0,()),()) else none else none) else none else none else none else none else none
theorem G4 (a0:LI)(a1 a2 a3:Int):Io.run tt Ca dr qj jr Tryd.f23 ((a0,a1,a2,a3,()),())=tz a0 a1 a2 a3:=by kernel_rfl
theorem um:HcsOk prog BD:=.cons wk (.cons DU (.cons rT .nil))
theorem I1:HcOk prog 23 (ah jr zw):=by
 refine cx um (lp:=qj) (fn:=Tryd.f23) jr (.step (h0:=aC cG iI) (by kernel_rfl) (iB um (lp:=qj) (fn:=Tryd.f23) (.done (by kernel_rfl)) cG iI ?_) (.done (by kernel_rfl))) zw ?_
 ·rintro ⟨⟨(b:LI),(most:Int),(a:Int),(e:Int),(es:List bx),(m:Int),(i:Int),⟨⟩⟩,⟨⟩⟩ y hw hy
  obtain ⟨hg,hy⟩:=Tr.guard hy
  simp only[zA,zB] at hg
  obtain ⟨h1,h2,h3,h4,h5⟩:=hg
  have h1:m=(es.length:Int):=h1
  have h2:i=0:=h2
  subst h1 h2
  refine ⟨es.length+1,(vL b most a h3 h4 es hw.1.2.2.2.2.1.1 h5 (es.length+1) 0 e (by omega) (Nat.zero_le _)).trans ?_⟩
  rw[← hy,List.drop_zero];rfl
 ·rintro ⟨⟨(b:LI),(base:Int),(f:Int),(most:Int),⟨⟩⟩,⟨⟩⟩ out hw ho
  obtain ⟨hg,ho⟩:=Tr.guard ho
  have hg2:b.length≤4294950000:=of_decide_eq_true hg
  cases ho
  have hb:aR b:=bytesOf hw.1.1
  refine (G4 b base f most).trans ?_
  show _=oR (((mG b base f most).1,((mG b base f most).2,())),())
  unfold tz
  refine (aa hg _ _).trans ?_
  have hN:(az b base).2.2.1=(aG b base).2.2.1:=rfl
  have hE:(az b base).1=(aG b base).1.map (·.1):=rfl
  have eS:mG b base f most=if f<base∨(aG b base).2.2.1<f then ([],221) else if f=(aG b base).2.2.1 then ([],0) else ((b.take (dD ((((aG b base).1.map (·.1)).getD (aM f ((aG b base).1.map (·.1)) - 1) jX).2.2.1) most (((aG b base).1.map (·.1)).drop (aM f ((aG b base).1.map (·.1)))) (((((aG b base).1.map (·.1)).getD (aM f ((aG b base).1.map (·.1)) - 1) jX).2.2.1)+((((aG b base).1.map (·.1)).getD (aM f ((aG b base).1.map (·.1)) - 1) jX).2.2.2.1))).toNat).drop ((((aG b base).1.map (·.1)).getD (aM f ((aG b base).1.map (·.1)) - 1) jX).2.2.1).toNat,0):=rfl
  rw[eS,hN,hE]
  by_cases c1:f<base
  ·refine bT (decide_eq_true c1) ?_
   rw[if_pos (.inl c1)]
  refine bF (decide_eq_false c1) ?_
  by_cases c2:(aG b base).2.2.1<f
  ·refine bT (decide_eq_true c2) ?_
   rw[if_pos (.inr c2)]
  refine bF (decide_eq_false c2) ?_
  rw[if_neg (by omega)]
  by_cases c3:f=(aG b base).2.2.1
  ·refine bT (by simpa using c3) ?_
   rw[if_pos c3]
  refine bF (by simpa using c3) ?_
  rw[if_neg c3]
  obtain ⟨ht,_,_⟩:=zj hb base
  obtain ⟨g1,g2,_,_,_,_⟩:=ht.ok (by omega) (Int.le_refl 0)
  have hlen:=ht.len (by omega)
  obtain ⟨u,k1,k2,k3,k4,k5,k6,k7,k8⟩:=JD hb hg2 most (by omega) (show f<(aG b base).2.2.1 by omega) rfl
  have g3:nJ (((aG b base).1.map (·.1)).drop (u+1))=true:=List.all_eq_true.2 fun x hx=>List.all_eq_true.1 g1 x (List.mem_of_mem_drop hx)
  generalize (aG b base).1.map (·.1)=es at *
  rw[k1]
  have hz:List.getD es (u+1 - 1) jX=es[u]:=by rw[Nat.add_sub_cancel];exact aA k2
  rw[hz]
  refine bT (by simp only[zA,zB];exact ⟨trivial,by omega,g2⟩) ?_
  rw[af (n:=((u+1:Nat):Int) - 1) (by omega) (by omega),show (((u+1:Nat):Int) - 1)=(u:Int) by omega,af (n:=(u:Int)+1) (by omega) (by omega),show ((u:Int)+1).toNat=u+1 by omega,zG,zG,List.take_length,aA k2]
  refine bT (by simp only[zA,zB];omega) ?_
  refine bT (by simp only[zA,zB];omega) ?_
  refine bT (by simp only[zA,zB];omega) ?_
  rw[af (n:=es[u].2.2.1+es[u].2.2.2.1) (by omega) (by omega)]
  unfold iI
  refine bT (by simp only[zA,zB];exact ⟨trivial,trivial,k3,(by show es[u].2.2.1≤(4294960000:Int);omega),g3⟩) ?_
  show (bif decide (0≤es[u].2.2.1)&&(decide (es[u].2.2.1≤dD es[u].2.2.1 most (es.drop (u+1)) (es[u].2.2.1+es[u].2.2.2.1))&&decide (dD es[u].2.2.1 most (es.drop (u+1)) (es[u].2.2.1+es[u].2.2.2.1)≤(b.length:Int))) then bif decide ((List.drop es[u].2.2.1.toNat (List.take (dD es[u].2.2.1 most (es.drop (u+1)) (es[u].2.2.1+es[u].2.2.2.1)).toNat b)).length≤4294967296) then oR ((List.drop es[u].2.2.1.toNat (List.take (dD es[u].2.2.1 most (es.drop (u+1)) (es[u].2.2.1+es[u].2.2.2.1)).toNat b),0,()),()) else none else none)=_
  refine bT (by simp only[zA,zB];omega) ?_
  exact aa (decide_eq_true (by rw[List.length_drop,List.length_take];omega)) _ _
abbrev ig:Io:=⟨[Ao],[],[],[dO,dI],none⟩
def vj (d:ig.In):Tr ig.Res:=.ite (b7 (ax d.1.1.2.2.2.2.2.1) d.1.1.2.2.2.2.2.1 0&&decide (d.1.1.2.2.2.2.2.1.length≤256)) (.ret (.ret (((dy d.1.1.2.2.2.2.2.1).1,(dy d.1.1.2.2.2.2.2.1).2,()),()))) .no
abbrev BY:List (Nat×Hc):=[(83,ah fT zZ),(84,ah jx zR)]
def vB:Hd:=b8 BY
abbrev cP:Lo:=⟨⟨(.any::.one (.ptr 1 0)::bN (.one (.onl 5 (Ty.int u8) 9)::.one hI::.any::bN (.one (.hol (.sl 5 (Ty.int u8)))::.any::.one hI::ai (ai (ai (ai (dZ []))))))),[none,some [hI,hJ,hI,hK,hJ,.hol (.sl 75 aK)]]⟩,[(.exit 2,⟨(.any::.one (.ptr 1 0)::bN (.one (.onl 5 (Ty.int u8) 9)::.one hI::ai (ai (ai (ai (dZ (b9 (bN [])))))))),[none,some [hI,hJ,hI,hK,hJ,.hol (.sl 75 aK)]]⟩)]⟩
abbrev dq:Lo:=⟨⟨(.any::.one (.ptr 1 0)::bN (.one (.onl 5 (Ty.int u8) 9)::.one hI::ai (ai (ai (ai (dZ (b9 (bN [])))))))),[none,some [hI,hJ,hI,hK,hJ,.hol (.sl 75 aK)]]⟩,[(.ret,⟨(bN (.one (.onl 5 (Ty.int u8) 5)::.one hI::ai (ai (ai (ai (ai [])))))),[]⟩),(.exit 0,⟨(b9 (.one (.onl 5 (Ty.int u8) 9)::.any::ai (ai (ai (ai (dZ (b9 (bN [])))))))),[]⟩)]⟩
def iS (d:cP.st.den):Tr (am cP.xs):=
 .ite (decide (d.1.2.2.2.1=0)&&decide (d.1.1.length+d.1.2.2.1.length≤4294967296)) (.ret (.ret ((),((d.1.1++d.1.2.2.1,(d.1.2.1,())),(d.2.1,()))))) .no
def kk (d:dq.st.den):Tr (am dq.xs):=
 .ite (decide (d.1.2.1=0)&&(decide (d.1.1.length=0)&&(decide (d.2.1.2.2.2.2.2.1.length≤256)&&b7 (ax d.2.1.2.2.2.2.2.1) d.2.1.2.2.2.2.2.1 0)))
  (.ite (decide ((aW (ax d.2.1.2.2.2.2.2.1) d.2.1.2.2.2.2.2.1 0 []).2=0)) (.ret (.pan (.ret ((),(((aW (ax d.2.1.2.2.2.2.2.1) d.2.1.2.2.2.2.2.1 0 []).1,()),()))))) (.ret (.ret ((),(([],(aW (ax d.2.1.2.2.2.2.2.1) d.2.1.2.2.2.2.2.1 0 []).2,()),()))))) .no
def lj:Lp:=cp [(4,aC dq kk),(14,aC cP iS)]
def n9 {R:Type}(h18:LI)(h19:Int)(h20:LI)(h21 h22 h23 h24 h25 h26:Int)(h27:List aK.den)(next:LI→Int→LI→Int→Int→Int→Int→Int→Int→List aK.den→Option R)(out:am cP.xs→Option R):Option R:=bif decide (h21<(↑h20.length:Int)) then bif decide (0≤h21)&&decide (h21<(↑h20.length:Int)) then bif decide (h18.length+1≤4294967296) then next (h18++[h20.getD h21.toNat 0]) (h19) (h20) (i64.wrap (h21+1)) (h22) (h23) (h24) (h25) (h26) (h27) else none else none else out (.ret ((),((h18,(h19,())),((h22,(h23,(h24,(h25,(h26,(h27,())))))),()))))
def mB (n:Nat)(h18:LI)(h19:Int)(h20:LI)(h21 h22 h23 h24 h25 h26:Int)(h27:List aK.den):Option (am cP.xs):=gO tt vB dr lj 0 Tryd.f60 (EL Tryd.f60 (ct Tryd.f60 0) 0) n (cP.st.mk' ((h18,(h19,(h20,(h21,())))),((h22,(h23,(h24,(h25,(h26,(h27,())))))),()))) (bE cP.xs)
theorem Ba (n:Nat)(h18:LI)(h19:Int)(h20:LI)(h21 h22 h23 h24 h25 h26:Int)(h27:List aK.den):mB (n+1) h18 h19 h20 h21 h22 h23 h24 h25 h26 h27=n9 h18 h19 h20 h21 h22 h23 h24 h25 h26 h27 (mB n) some:=by kernel_rfl
def pQ {R:Type}(h6:LI)(h7 h8 h9 h10 h11 h12:Int)(h13:List aK.den)(next:LI→Int→Int→Int→Int→Int→Int→List aK.den→Option R)(out:am dq.xs→Option R):Option R:=bif decide (h7<(↑h13.length:Int)) then bif decide (0≤h7)&&decide (h7<(↑h13.length:Int)) then bif decide (0≤0)&&decide (0<(↑h13.length:Int)) then bif !(cr (h13.getD h7.toNat (0,(false,[],()),(false,[],()),[],())).1 (h13.getD (Int.toNat 0) (0,(false,[],()),(false,[],()),[],())).1).2 then out (.ret ((),(([],(86,())),()))) else bif decide (0≤h7)&&decide (h7<(↑h13.length:Int)) then bif decide (0≤h7)&&decide (h7<(↑h13.length:Int)) then bif decide (0≤h7)&&decide (h7<(↑h13.length:Int)) then bif fm ((cr (h13.getD h7.toNat (0,(false,[],()),(false,[],()),[],())).1 (h13.getD (Int.toNat 0) (0,(false,[],()),(false,[],()),[],())).1).1,i32.wrap h7,(h13.getD h7.toNat (0,(false,[],()),(false,[],()),[],())).2) then bif (bS ((cr (h13.getD h7.toNat (0,(false,[],()),(false,[],()),[],())).1 (h13.getD (Int.toNat 0) (0,(false,[],()),(false,[],()),[],())).1).1,i32.wrap h7,(h13.getD h7.toNat (0,(false,[],()),(false,[],()),[],())).2)).2 != 0 then out (.ret ((),(([],((bS ((cr (h13.getD h7.toNat (0,(false,[],()),(false,[],()),[],())).1 (h13.getD (Int.toNat 0) (0,(false,[],()),(false,[],()),[],())).1).1,i32.wrap h7,(h13.getD h7.toNat (0,(false,[],()),(false,[],()),[],())).2)).2,())),()))) else (iS ((h6,(h7,((bS ((cr (h13.getD h7.toNat (0,(false,[],()),(false,[],()),[],())).1 (h13.getD (Int.toNat 0) (0,(false,[],()),(false,[],()),[],())).1).1,i32.wrap h7,(h13.getD h7.toNat (0,(false,[],()),(false,[],()),[],())).2)).1,(0,())))),((h8,(h9,(h10,(h11,(h12,(h13,())))))),()))).run fun y=>match y with | .ret ((),((x46,x47,()),(x48,x49,x50,x51,x52,x53,()),()))=>(next (x46) (i64.wrap (x47+1)) (x48) (x49) (x50) (x51) (x52) (x53)) else none else none else none else none else none else none else out (.pan (.ret ((),((h6,()),()))))
def lf (n:Nat)(h6:LI)(h7 h8 h9 h10 h11 h12:Int)(h13:List aK.den):Option (am dq.xs):=gO tt vB dr lj 0 Tryd.f60 (ct Tryd.f60 0) n (dq.st.mk' ((h6,(h7,())),((h8,(h9,(h10,(h11,(h12,(h13,())))))),()))) (bE dq.xs)
theorem Ez (n:Nat)(h6:LI)(h7 h8 h9 h10 h11 h12:Int)(h13:List aK.den):lf (n+1) h6 h7 h8 h9 h10 h11 h12 h13=pQ h6 h7 h8 h9 h10 h11 h12 h13 (lf n) some:=by kernel_rfl
theorem vW (P:LI)(hP:P.length≤4294967296)(i b1 b2 b3 b4 b5:Int)(rs:List bf):∀(k j:Nat) (out:LI),P.length<j+k→j≤P.length→out.length+(P.length - j)≤4294967296→
  mB k out i P j b1 b2 b3 b4 b5 rs=some (.ret ((),((out++P.drop j,(i,())),((b1,(b2,(b3,(b4,(b5,(rs,())))))),())))):=by
 intro k
 induction k with
 |zero=>intro j out h;omega
 |succ k ih=>
  intro j out h1 h2 h3
  rw[Ba]
  unfold n9
  by_cases hj:j<P.length
  ·refine bT (by simpa using hj) ?_
   refine bT (by simpa using hj) ?_
   refine bT (decide_eq_true (by omega)) ?_
   rw[af (n:=(j:Int)+1) (by omega) (by omega)]
   have:=ih (j+1) (out++[P.getD (j:Int).toNat 0]) (by omega) (by omega) (by simp;omega)
   refine this.trans ?_
   rw[zG,aA hj,zK,zE hj]
   rfl
  ·refine bF (by simpa using hj) ?_
   rw[zI (by omega),List.append_nil]
theorem yo (b1 b2 b3 b4 b5:Int)(rs:List bf){f:Int}(hf0:ax rs=f)(hl:rs.length≤256):∀(k i:Nat) (out:LI),rs.length<i+k→i≤rs.length→b7 f (rs.drop i) i=true→out.length≤i*17000→
  lf k out i b1 b2 b3 b4 b5 rs=if (aW f (rs.drop i) i out).2=0 then some (.pan (.ret ((),(((aW f (rs.drop i) i out).1,()),())))) else some (.ret ((),(([],((aW f (rs.drop i) i out).2,())),()))):=by
 intro k
 induction k with
 |zero=>intro i out h;omega
 |succ k ih=>
  intro i out h1 h2 h3 h4
  rw[Ez]
  unfold pQ
  by_cases hi:i<rs.length
  ·rw[zE hi] at h3 ⊢
   have e0:(rs.getD (Int.toNat 0) (0,(false,[],()),(false,[],()),[],())).1=f:=by
    rw[← hf0]
    cases rs with
    |nil=>simp at hi
    |cons r l=>rfl
   have e1:List.getD rs (i:Int).toNat (0,(false,[],()),(false,[],()),[],())=rs[i]:=by rw[zG,aA hi]
   rw[e0,e1]
   generalize rs[i]=r at *
   simp only[b7,zA] at h3
   obtain ⟨h5,h6⟩:=h3
   have q1:(decide ((0:Int)≤(i:Int))&&decide ((i:Int)<(rs.length:Int)))=true:=by simpa using hi
   refine bT (by simpa using hi) ?_
   refine (aa q1 _ _).trans ?_
   refine bT (by simp;omega) ?_
   have eL:aW f (r::rs.drop (i+1)) i out=if aN (r.1 - f)=false then ([],86) else if aS (ch f i r)≠0 then ([],aS (ch f i r)) else aW f (rs.drop (i+1)) (i+1) (out++(bS (ch f i r)).1):=rfl
   rw[eL]
   cases h7:aN (r.1 - f) with
   |false=>
    have eS:cr r.1 f=(0,false):=by unfold cr;rw[h7,if_neg (by decide)]
    rw[eS]
    refine (aa rfl _ _).trans ?_
    rw[if_pos rfl,if_neg (show (86:Int)≠0 by decide)]
   |true=>
    have eS:cr r.1 f=(r.1 - f,true):=by unfold cr;rw[h7,if_pos rfl]
    rw[eS]
    refine (ac rfl _ _).trans ?_
    rw[if_neg (show ¬ true=false by decide)]
    refine (aa q1 _ _).trans ?_
    refine (aa q1 _ _).trans ?_
    refine (aa q1 _ _).trans ?_
    have eR:((r.1 - f,i32.wrap (i:Int),r.2):mT)=ch f i r:=by
     rw[bG (k:=.i32) (by simp[bu,IntKind.min,IntKind.max,IntKind.signed,IntKind.bits];omega)]
     rfl
    rw[eR]
    refine (aa h5 _ _).trans ?_
    by_cases h9:aS (ch f i r)=0
    ·obtain ⟨p1,p2⟩:=EE h9
     refine bF (by simpa using p1) ?_
     rw[if_neg (aD h9)]
     unfold iS
     refine bT (by simp only[zA,zB];exact ⟨trivial,show out.length+(bS (ch f i r)).1.length≤4294967296 by omega⟩) ?_
     show lf k (out++(bS (ch f i r)).1) (i64.wrap ((i:Int)+1)) b1 b2 b3 b4 b5 rs=_
     rw[af (n:=(i:Int)+1) (by omega) (by omega)]
     exact ih (i+1) _ (by omega) (by omega) h6 (by simp;omega)
    ·refine bT (by rw[sG h9];simpa using h9) ?_
     rw[if_pos h9,sG h9]
     rw[if_neg h9]
  ·refine bF (by simp;omega) ?_
   rw[zI (by omega)]
   rfl
def tV (a0 a1 a2 a3 a4:Int)(a5:List aK.den):Option ig.Res:=(kk (([],(0,())),((a0,(a1,(a2,(a3,(a4,(a5,())))))),()))).run fun y=>match y with | .ret ((),((x63,x64,()),()))=>(oR ((x63,x64,()),())) | .pan (.ret ((),((x65,()),())))=>(bif decide (32768<(↑x65.length:Int)) then oR (([],4,()),()) else oR ((x65,0,()),()))
theorem Hu (a0 a1 a2 a3 a4:Int)(a5:List aK.den):Io.run tt vB dr lj ig Tryd.f60 (((a0,a1,a2,a3,a4,a5,()),()),())=tV a0 a1 a2 a3 a4 a5:=by kernel_rfl
theorem oB:HcsOk prog BY:=.cons Ji (.cons I8 .nil)
theorem CV:HcOk prog 60 (ah ig vj):=by
 refine cx oB (lp:=lj) (fn:=Tryd.f60) ig (.step (h0:=aC dq kk) (by kernel_rfl) (iB oB (lp:=lj) (fn:=Tryd.f60) (.step (h0:=aC cP iS) (by kernel_rfl) (iB oB (lp:=lj) (fn:=Tryd.f60) (.done (by kernel_rfl)) cP iS ?_) (.done (by kernel_rfl))) dq kk ?_) (.done (by kernel_rfl))) vj ?_
 ·rintro ⟨⟨(out:LI),(i:Int),(P:LI),(j:Int),⟨⟩⟩,⟨⟨(b1:Int),(b2:Int),(b3:Int),(b4:Int),(b5:Int),(rs:List bf),⟨⟩⟩,⟨⟩⟩⟩ y hw hy
  obtain ⟨hg,hy⟩:=Tr.guard hy
  simp only[zA,zB] at hg
  obtain ⟨h1,h2⟩:=hg
  have h1:j=0:=h1
  have h2:out.length+P.length≤4294967296:=h2
  subst h1
  refine ⟨P.length+1,(vW P (by omega) i b1 b2 b3 b4 b5 rs (P.length+1) 0 out (by omega) (by omega) (by omega)).trans ?_⟩
  rw[← hy];rfl
 ·rintro ⟨⟨(out:LI),(i:Int),⟨⟩⟩,⟨⟨(b1:Int),(b2:Int),(b3:Int),(b4:Int),(b5:Int),(rs:List bf),⟨⟩⟩,⟨⟩⟩⟩ y hw hy
  obtain ⟨hg,hy⟩:=Tr.guard hy
  simp only[zA,zB] at hg
  obtain ⟨h1,h3,h6,h7⟩:=hg
  have h1:i=0:=h1
  have h3:out=[]:=List.length_eq_zero_iff.1 h3
  have h6:rs.length≤256:=h6
  subst h1 h3
  refine ⟨rs.length+1,(yo b1 b2 b3 b4 b5 rs rfl h6 (rs.length+1) 0 [] (by omega) (by omega) h7 (by simp)).trans ?_⟩
  rw[← hy]
  simp only[Tr.val_ite,zB,Tr.val_ret,List.drop_zero]
 ·rintro ⟨⟨⟨(b1:Int),(b2:Int),(b3:Int),(b4:Int),(b5:Int),(rs:List bf),⟨⟩⟩,⟨⟩⟩,⟨⟩⟩ out hw ho
  obtain ⟨hg,ho⟩:=Tr.guard ho
  simp only[zA,zB] at hg
  have hg1:b7 (ax rs) rs 0=true:=hg.1
  have hg2:rs.length≤256:=hg.2
  cases ho
  refine (Hu b1 b2 b3 b4 b5 rs).trans ?_
  show _=oR (((dy rs).1,(dy rs).2,()),())
  unfold tV kk
  refine bT (by simp only[zA,zB];exact ⟨trivial,rfl,hg2,hg1⟩) ?_
  show (bif decide ((aW (ax rs) rs 0 []).2=0) then (bif decide (32768<((aW (ax rs) rs 0 []).1.length:Int)) then oR (([],4,()),()) else oR (((aW (ax rs) rs 0 []).1,0,()),())) else oR (([],(aW (ax rs) rs 0 []).2,()),()))=_
  unfold dy
  by_cases h5:(aW (ax rs) rs 0 []).2=0
  ·refine bT (decide_eq_true h5) ?_
   rw[if_neg (aD h5)]
   by_cases h6:32768<((aW (ax rs) rs 0 []).1.length:Int)
   ·refine bT (decide_eq_true h6) ?_
    rw[if_pos h6]
   ·refine bF (decide_eq_false h6) ?_
    rw[if_neg h6]
  ·refine bF (decide_eq_false h5) ?_
   rw[if_pos h5]
abbrev mo:Io:=⟨[Ao],[],[],[dI],none⟩
def E3 (d:mo.In):Tr mo.Res:=.ite (b7 (ax d.1.1.2.2.2.2.2.1) d.1.1.2.2.2.2.2.1 0) (.ret (.ret ((cU d.1.1,()),()))) .no
abbrev Fv:List (Nat×Hc):=[(82,ah ie zY),(60,ah ig vj)]
def Kl:Hd:=b8 Fv
def Gq:Lp:=cp []
def xk (a0 a1 a2 a3 a4:Int)(a5:List aK.den):Option mo.Res:=bif decide (a0<0) then oR ((80,()),()) else bif decide (4611686018427387648<a0) then oR ((80,()),()) else bif !!bc a2 a3 a4 then oR ((84,()),()) else bif (↑a5.length:Int) == 0 then oR ((85,()),()) else bif decide (256<(↑a5.length:Int)) then oR ((9,()),()) else bif b7 (ax a5) a5 0&&decide (a5.length≤256) then oR (((dy a5).2,()),()) else none
theorem JB (a0 a1 a2 a3 a4:Int)(a5:List aK.den):Io.run tt Kl dr Gq mo Tryd.f59 (((a0,a1,a2,a3,a4,a5,()),()),())=xk a0 a1 a2 a3 a4 a5:=by kernel_rfl
theorem KC:HcOk prog 59 (ah mo E3):=by
 refine cx (cs:=Fv) (.cons Jh (.cons CV .nil)) (lp:=Gq) (fn:=Tryd.f59) mo (.done (by kernel_rfl)) E3 ?_
 rintro ⟨⟨⟨(b1:Int),(b2:Int),(b3:Int),(b4:Int),(b5:Int),(rs:List bf),⟨⟩⟩,⟨⟩⟩,⟨⟩⟩ out hw ho
 obtain ⟨hg,ho⟩:=Tr.guard ho
 have hg:b7 (ax rs) rs 0=true:=hg
 cases ho
 refine (JB b1 b2 b3 b4 b5 rs).trans ?_
 show _=oR ((cU (b1,b2,b3,b4,b5,rs,()),()),())
 have e:cU (b1,b2,b3,b4,b5,rs,())=if bk b1=true then 80 else if bc b3 b4 b5=true then 84 else if rs=[] then 85 else if 256<(rs.length:Int) then 9 else (dy rs).2:=rfl
 have hB:bk b1=(decide (b1<0) || decide (4611686018427387648<b1)):=rfl
 unfold xk
 by_cases h1:b1<0
 ·refine bT (decide_eq_true h1) ?_
  rw[e,if_pos (by rw[hB,decide_eq_true h1];rfl)]
 refine bF (decide_eq_false h1) ?_
 by_cases h2:4611686018427387648<b1
 ·refine bT (decide_eq_true h2) ?_
  rw[e,if_pos (by rw[hB,decide_eq_true h2,Bool.or_true])]
 refine bF (decide_eq_false h2) ?_
 rw[e,if_neg (by rw[hB,decide_eq_false h1,decide_eq_false h2];decide)]
 cases h3:bc b3 b4 b5 with
 |true=>
  refine (aa rfl _ _).trans ?_
  rw[if_pos rfl]
 |false=>
 refine (ac rfl _ _).trans ?_
 rw[if_neg (by decide)]
 by_cases h4:rs=[]
 ·refine bT (by simp[h4]) ?_
  rw[if_pos h4]
 refine bF (by simp[h4]) ?_
 rw[if_neg h4]
 by_cases h5:256<(rs.length:Int)
 ·refine bT (decide_eq_true h5) ?_
  rw[if_pos h5]
 refine bF (decide_eq_false h5) ?_
 rw[if_neg h5]
 exact aa (by rw[zA];exact ⟨hg,decide_eq_true (show rs.length≤256 by omega)⟩) _ _
end
end Go.Proofs.YthpcdhgpplmneaaDoor.Sym
namespace Go.Proofs.YthpcdhgpplmneaaDoor.Sym
open Go
noncomputable section
abbrev J6:Ty:=.sl 173 dc
abbrev JY:Sh:=.dat J6 false false
abbrev Fy:Sh:=.dat J6 false true
def bL:LI→LI→Nat→Nat
 |x::xs,y::ys,k+1=>if x=y then bL xs ys k+1 else 0
 |_,_,_=>0
def eU (b:LI)(i:Nat)(depth:Int):Nat→Int→Int→Int→Int×Int
 |0,d,m,_=>(d,m)
 |q+1,d,m,s=>
  if (i:Int) - (q:Int)≤4096∧s<depth then
   (if 4≤bL (b.drop q) (b.drop i) 131 then (if m<(bL (b.drop q) (b.drop i) 131:Int) then eU b i depth q ((i:Int) - q) (bL (b.drop q) (b.drop i) 131) (s+1) else eU b i depth q d m (s+1))
    else eU b i depth q d m s)
  else (d,m)
def aw (b:LI)(i:Nat)(depth:Int):Int×Int:=eU b i depth i 0 0 0
def aP:Nat→LI→List fJ
 |0,_=>[]
 |_+1,[]=>[]
 |k+1,c::l=>((c::l).take 128,0,0,())::aP k ((c::l).drop 128)
def bD (b:LI)(lo hi:Nat):List fJ:=aP (hi - lo) ((b.take hi).drop lo)
def dQ (b:LI)(depth:Int):Nat→Nat→Nat→List fJ→List fJ
 |0,lo,i,ts=>ts++bD b lo i
 |k+1,lo,i,ts=>
  if i<b.length then
   (if (aw b i depth).2=0 then dQ b depth k lo (i+1) ts
    else dQ b depth k (i+(aw b i depth).2.toNat) (i+(aw b i depth).2.toNat) (ts++bD b lo i++[([],(aw b i depth).1,(aw b i depth).2,())]))
  else ts++bD b lo i
def bg (b:LI)(depth:Int):Nat→Nat→Nat→List fJ→List fJ×Nat×Nat
 |0,lo,i,ts=>(ts,lo,i)
 |k+1,lo,i,ts=>
  if i<b.length then
   (if (aw b i depth).2=0 then bg b depth k lo (i+1) ts
    else bg b depth k (i+(aw b i depth).2.toNat) (i+(aw b i depth).2.toNat) (ts++bD b lo i++[([],(aw b i depth).1,(aw b i depth).2,())]))
  else (ts,lo,i)
def dE (b:LI):List fJ:=dQ b 8 (b.length+1) 0 0 []
def db (t:fJ):LI:=if t.2.2.1=0 then ((t.1.length:Int) - 1)::t.1 else [124+t.2.2.1,t.2.1 / 256,t.2.1 % 256]
def av (ts:List fJ):LI:=ts.flatMap db
def fk (b:LI):LI×Int:=if 32768<(b.length:Int) then ([],4) else (ar (ap b.length)++av (dE b),0)
def eG (b:LI):List fJ×Int:=if 32768<(b.length:Int) then ([],4) else (dE b,0)
def kR (ts:List fJ):Bool:=ts.all fun t=>sA t || o3 t
def pb (t:fJ):Prop:=(t.2.1=0∧t.2.2.1=0∧1≤t.1.length∧t.1.length≤128)∨(t.1=[]∧1≤t.2.1∧t.2.1≤4096∧4≤t.2.2.1∧t.2.2.1≤131)
theorem sw:∀(xs ys:LI) (k:Nat),bL xs ys k≤k∧bL xs ys k≤xs.length∧bL xs ys k≤ys.length
 |[],_,_=>by simp[bL]
 |_::_,[],_=>by simp[bL]
 |_::_,_::_,0=>by simp[bL]
 |x::xs,y::ys,k+1=>by
  unfold bL
  obtain ⟨h1,h2,h3⟩:=sw xs ys k
  split
  ·simp only[zN];omega
  ·simp
theorem y5:∀(xs ys:LI) (k j:Nat),j<bL xs ys k→xs[j]?=ys[j]?
 |[],_,_,_,h=>by simp[bL] at h
 |_::_,[],_,_,h=>by simp[bL] at h
 |_::_,_::_,0,_,h=>by simp[bL] at h
 |x::xs,y::ys,k+1,j,h=>by
  unfold bL at h
  split at h
  ·rename_i e
   cases j with
   |zero=>simp[e]
   |succ j=>simpa using y5 xs ys k j (by omega)
  ·simp at h
theorem nG {b:LI}{i:Nat}(hi:i<b.length){depth:Int}:∀(q:Nat) (d m s:Int),q≤i→(m=0∧d=0∨4≤m∧m≤131∧1≤d∧d≤4096∧d≤i∧i+m≤b.length∧∀j:Nat,(j:Int)<m→b[i - d.toNat+j]?=b[i+j]?)→
  ((eU b i depth q d m s).2=0∧(eU b i depth q d m s).1=0∨4≤(eU b i depth q d m s).2∧(eU b i depth q d m s).2≤131∧1≤(eU b i depth q d m s).1∧(eU b i depth q d m s).1≤4096∧(eU b i depth q d m s).1≤i∧i+(eU b i depth q d m s).2≤b.length∧
   ∀j:Nat,(j:Int)<(eU b i depth q d m s).2→b[i - (eU b i depth q d m s).1.toNat+j]?=b[i+j]?)
 |0,d,m,s,_,h=>h
 |q+1,d,m,s,hq,h=>by
  unfold eU
  obtain ⟨c1,c2,c3⟩:=sw (b.drop q) (b.drop i) 131
  split
  ·rename_i h1
   split
   ·rename_i h2
    split
    ·rename_i h3
     refine nG hi q _ _ _ (by omega) (.inr ⟨by omega,by omega,by omega,by omega,by omega,?_,fun j hj=>?_⟩)
     ·rw[List.length_drop] at c3;omega
     ·have e:=y5 (b.drop q) (b.drop i) 131 j (by omega)
      rw[List.getElem?_drop,List.getElem?_drop] at e
      rw[show i - ((i:Int) - (q:Int)).toNat=q by omega]
      exact e
    ·exact nG hi q _ _ _ (by omega) h
   ·exact nG hi q _ _ _ (by omega) h
  ·exact h
theorem f4 {b:LI}{i:Nat}(hi:i<b.length)(depth:Int):(aw b i depth).2=0∧(aw b i depth).1=0∨4≤(aw b i depth).2∧(aw b i depth).2≤131∧1≤(aw b i depth).1∧(aw b i depth).1≤4096∧(aw b i depth).1≤i∧i+(aw b i depth).2≤b.length∧
   ∀j:Nat,(j:Int)<(aw b i depth).2→b[i - (aw b i depth).1.toNat+j]?=b[i+j]?:=
 nG hi i 0 0 0 (Nat.le_refl i) (.inl ⟨rfl,rfl⟩)
theorem il:∀(k:Nat) (l:LI),∀t∈aP k l,pb t
 |0,_,t,h=>by cases h
 |_+1,[],t,h=>by cases h
 |k+1,c::l,t,h=>by
  unfold aP at h
  rcases List.mem_cons.1 h with rfl | h
  ·exact .inl ⟨rfl,rfl,by first | (simp;done) | (simp;omega),by first | (simp;done) | (simp;omega)⟩
  ·exact il k _ t h
theorem o7 (b:LI)(depth:Int):∀(k lo i:Nat) (ts:List fJ),(∀t∈ts,pb t)→∀t∈dQ b depth k lo i ts,pb t
 |0,lo,i,ts,h,t,ht=>by
  unfold dQ at ht
  rcases List.mem_append.1 ht with h1 | h1
  ·exact h t h1
  ·exact il _ _ t h1
 |k+1,lo,i,ts,h,t,ht=>by
  unfold dQ at ht
  split at ht
  ·rename_i hi
   split at ht
   ·exact o7 b depth k _ _ _ h t ht
   ·rename_i hn
    refine o7 b depth k _ _ _ (fun t ht=>?_) t ht
    rcases List.mem_append.1 ht with h1 | h1
    ·rcases List.mem_append.1 h1 with h2 | h2
     ·exact h t h2
     ·exact il _ _ t h2
    ·simp only[List.mem_singleton] at h1
     subst h1
     rcases f4 hi depth with h3 | h3
     ·exact absurd h3.1 hn
     ·exact .inr ⟨rfl,h3.2.2.1,h3.2.2.2.1,h3.1,h3.2.1⟩
  ·rcases List.mem_append.1 ht with h1 | h1
   ·exact h t h1
   ·exact il _ _ t h1
theorem lL:∀(k j:Nat) (l:LI),l.length≤k→l.length≤j→aP k l=aP j l
 |0,0,_,_,_=>rfl
 |0,_+1,[],_,_=>rfl
 |0,_+1,_::_,h,_=>by simp at h
 |_+1,0,[],_,_=>rfl
 |_+1,0,_::_,_,h=>by simp at h
 |_+1,_+1,[],_,_=>rfl
 |k+1,j+1,c::l,h1,h2=>by
  unfold aP
  rw[lL k j _ (by simp at h1 ⊢;omega) (by simp at h2 ⊢;omega)]
theorem y6 {b:LI}{lo hi:Nat}(h1:lo<hi)(h2:hi≤b.length):bD b lo hi=(((b.take hi).drop lo).take 128,0,0,())::bD b (lo+(((b.take hi).drop lo).take 128).length) hi:=by
 have hl:((b.take hi).drop lo).length=hi - lo:=by rw[List.length_drop,List.length_take,Nat.min_eq_left h2]
 have hd:((b.take hi).drop lo).drop 128=(b.take hi).drop (lo+(((b.take hi).drop lo).take 128).length):=by
  rw[List.length_take,hl]
  by_cases h:128≤hi - lo
  ·rw[Nat.min_eq_left h,List.drop_drop]
  ·rw[Nat.min_eq_right (by omega),zI (by omega),zI (by rw[List.length_take];omega)]
 have hl2:((b.take hi).drop (lo+(((b.take hi).drop lo).take 128).length)).length=hi - (lo+(((b.take hi).drop lo).take 128).length):=by rw[List.length_drop,List.length_take,Nat.min_eq_left h2]
 unfold bD
 obtain ⟨k,hk⟩:∃k,hi - lo=k+1:=⟨hi - lo - 1,by omega⟩
 rw[hk]
 have e:∀l:LI,l≠[]→aP (k+1) l=(l.take 128,0,0,())::aP k (l.drop 128):=by
  intro l hne
  cases l with
  |nil=>exact absurd rfl hne
  |cons c l=>rfl
 rw[e _ (fun h=>by rw[h] at hl;simp at hl;omega),hd]
 congr 1
 refine lL _ _ _ ?_ (by rw[hl2];exact Nat.le_refl _)
 rw[hl2,List.length_take,hl]
 omega
theorem o8 (b:LI)(depth:Int):∀(k lo i:Nat) (ts:List fJ),dQ b depth k lo i ts=(bg b depth k lo i ts).1++bD b (bg b depth k lo i ts).2.1 (bg b depth k lo i ts).2.2
 |0,_,_,_=>rfl
 |k+1,lo,i,ts=>by
  unfold dQ bg
  split
  ·split
   ·exact o8 b depth k _ _ _
   ·exact o8 b depth k _ _ _
  ·rfl
theorem nH:∀(k:Nat) (l:LI),(aP k l).length≤l.length
 |0,l=>by simp[aP]
 |_+1,[]=>by simp[aP]
 |k+1,c::l=>by
  have:=nH k ((c::l).drop 128)
  unfold aP
  simp only[zN,List.length_drop] at this ⊢
  omega
theorem sC {b:LI}{lo hi:Nat}(h1:lo≤hi)(h2:hi≤b.length):(bD b lo hi).length≤hi - lo:=by
 have:=nH (hi - lo) ((b.take hi).drop lo)
 rw[List.length_drop,List.length_take,Nat.min_eq_left h2] at this
 exact this
theorem o9 (b:LI)(depth:Int):∀(k lo i:Nat) (ts:List fJ),lo≤i→i≤b.length→ts.length≤lo→
  (bg b depth k lo i ts).2.1≤(bg b depth k lo i ts).2.2∧(bg b depth k lo i ts).2.2≤b.length∧(bg b depth k lo i ts).1.length≤(bg b depth k lo i ts).2.1
 |0,_,_,_,h1,h2,h3=>⟨h1,h2,h3⟩
 |k+1,lo,i,ts,h1,h2,h3=>by
  unfold bg
  split
  ·rename_i hi
   split
   ·exact o9 b depth k _ _ _ (by omega) (by omega) h3
   ·rename_i hn
    rcases f4 hi depth with h4 | ⟨g1,g2,g3,g4,g5,g6,g7⟩
    ·exact absurd h4.1 hn
    refine o9 b depth k _ _ _ (Nat.le_refl _) (by omega) ?_
    have:=sC h1 h2
    simp only[zH,List.length_singleton]
    omega
  ·exact ⟨h1,h2,h3⟩
def cy:List fJ→LI→LI
 |[],out=>out
 |t::ts,out=>cy ts (cR t.2.1.toNat t.2.2.1.toNat (out++t.1))
theorem dM:∀(xs ys:List fJ) (out:LI),cy (xs++ys) out=cy ys (cy xs out)
 |[],_,_=>rfl
 |x::xs,ys,out=>dM xs ys _
theorem kO {b:LI}{d:Nat}(hd:1≤d):∀(n i:Nat),d≤i→i+n≤b.length→(∀j,j<n→b[i - d+j]?=b[i+j]?)→cR d n (b.take i)=b.take (i+n)
 |0,i,_,_,_=>rfl
 |n+1,i,h1,h2,h=>by
  unfold cR
  have hl:(b.take i).length=i:=by rw[List.length_take];omega
  have e:b.take i++[(b.take i).getD ((b.take i).length - d) 0]=b.take (i+1):=by
   have h0:=h 0 (by omega)
   rw[Nat.add_zero,Nat.add_zero] at h0
   rw[hl,List.getD_eq_getElem?_getD,List.getElem?_take,if_pos (by omega),h0,List.take_add_one,List.getElem?_eq_getElem (by omega)]
   rfl
  rw[e,kO hd n (i+1) (by omega) (by omega) (fun j hj=>by
   have:=h (j+1) (by omega)
   rw[show i+1 - d+j=i - d+(j+1) by omega,show i+1+j=i+(j+1) by omega]
   exact this),show i+1+n=i+(n+1) by omega]
theorem lO:∀(k:Nat) (l out:LI),l.length≤k→cy (aP k l) out=out++l
 |0,[],out,_=>by simp[aP,cy]
 |0,_::_,_,h=>by simp at h
 |_+1,[],out,_=>by simp[aP,cy]
 |k+1,c::l,out,h=>by
  unfold aP cy
  show cy (aP k ((c::l).drop 128)) (out++(c::l).take 128)=_
  rw[lO k _ _ (by simp at h ⊢;omega),zK,List.take_append_drop]
theorem ip {b:LI}{lo hi:Nat}(h1:lo≤hi)(h2:hi≤b.length):cy (bD b lo hi) (b.take lo)=b.take hi:=by
 unfold bD
 rw[lO _ _ _ (by simp;omega)]
 have:b.take lo=(b.take hi).take lo:=by rw[List.take_take,Nat.min_eq_left h1]
 rw[this,List.take_append_drop]
theorem kP (b:LI)(depth:Int):∀(k lo i:Nat) (ts:List fJ),b.length<i+k→lo≤i→i≤b.length→cy ts []=b.take lo→cy (dQ b depth k lo i ts) []=b
 |0,lo,i,ts,h,h1,h2,h3=>by omega
 |k+1,lo,i,ts,h,h1,h2,h3=>by
  unfold dQ
  split
  ·rename_i hi
   split
   ·exact kP b depth k _ _ _ (by omega) (by omega) (by omega) h3
   ·rename_i hn
    rcases f4 hi depth with h4 | ⟨g1,g2,g3,g4,g5,g6,g7⟩
    ·exact absurd h4.1 hn
    refine kP b depth k _ _ _ (by omega) (Nat.le_refl _) (by omega) ?_
    rw[dM,dM,h3,ip h1 h2]
    show cR (aw b i depth).1.toNat (aw b i depth).2.toNat (b.take i++[])=_
    rw[List.append_nil]
    exact kO (by omega) _ i (by omega) (by omega) fun j hj=>g7 j (by omega)
  ·rw[dM,h3,ip h1 h2,List.take_of_length_le (by omega)]
theorem pB (b:LI):cy (dE b) []=b:=kP b 8 _ 0 0 [] (by omega) (Nat.le_refl 0) (Nat.zero_le _) rfl
theorem sE:∀(ts:List fJ) (out:LI),out.length≤(cy ts out).length
 |[],_=>Nat.le_refl _
 |t::ts,out=>by
  unfold cy
  have:=sE ts (cR t.2.1.toNat t.2.2.1.toNat (out++t.1))
  rw[jU,zH] at this
  omega
def mK:List fJ→LI→Prop
 |[],_=>True
 |t::ts,out=>t.2.1≤out.length∧mK ts (cR t.2.1.toNat t.2.2.1.toNat (out++t.1))
theorem iF:∀(xs ys:List fJ) (out:LI),mK xs out→mK ys (cy xs out)→mK (xs++ys) out
 |[],_,_,_,h=>h
 |x::xs,ys,out,h,h'=>⟨h.1,iF xs ys _ h.2 h'⟩
theorem fK:∀(k:Nat) (l out:LI),mK (aP k l) out
 |0,_,_=>trivial
 |_+1,[],_=>trivial
 |k+1,c::l,out=>⟨by show (0:Int)≤_;omega,fK k _ _⟩
theorem lV (b:LI)(depth:Int):∀(k lo i:Nat) (ts:List fJ),lo≤i→i≤b.length→cy ts []=b.take lo→mK ts []→mK (dQ b depth k lo i ts) []
 |0,lo,i,ts,h1,h2,h3,h4=>iF _ _ _ h4 (fK _ _ _)
 |k+1,lo,i,ts,h1,h2,h3,h4=>by
  unfold dQ
  split
  ·rename_i hi
   split
   ·exact lV b depth k _ _ _ (by omega) (by omega) h3 h4
   ·rename_i hn
    rcases f4 hi depth with h5 | ⟨g1,g2,g3,g4,g5,g6,g7⟩
    ·exact absurd h5.1 hn
    refine lV b depth k _ _ _ (Nat.le_refl _) (by omega) ?_ ?_
    ·rw[dM,dM,h3,ip h1 h2]
     show cR (aw b i depth).1.toNat (aw b i depth).2.toNat (b.take i++[])=_
     rw[List.append_nil]
     exact kO (by omega) _ i (by omega) (by omega) fun j hj=>g7 j (by omega)
    ·refine iF _ _ _ (iF _ _ _ h4 (fK _ _ _)) ⟨?_,trivial⟩
     rw[dM,h3,ip h1 h2,List.length_take]
     show (aw b i depth).1≤_
     omega
  ·exact iF _ _ _ h4 (fK _ _ _)
theorem zl (b:LI):mK (dE b) []:=lV b 8 _ 0 0 [] (Nat.le_refl 0) (Nat.zero_le _) rfl trivial
theorem HL {t:fJ}(h:pb t)(rest:LI):bd (db t++rest)=(t,((db t).length:Int),0)∧2≤(db t).length:=by
 obtain ⟨lit,d,n,⟨⟩⟩:=t
 rcases h with ⟨h1,h2,h3,h4⟩ | ⟨h1,h2,h3,h4,h5⟩
 ·have h1:d=0:=h1
  have h2:n=0:=h2
  have h3:1≤lit.length:=h3
  have h4:lit.length≤128:=h4
  subst h1 h2
  have e:db (lit,0,0,())=((lit.length:Int) - 1)::lit:=rfl
  rw[e]
  refine ⟨?_,by simp;omega⟩
  unfold bd
  have e0:(((lit.length:Int) - 1)::lit++rest).getD 0 0=(lit.length:Int) - 1:=rfl
  rw[e0,if_pos (by omega),if_neg (by simp only[List.cons_append,zN,zH];omega)]
  have e1:((((lit.length:Int) - 1)::lit++rest).drop 1).take ((lit.length:Int) - 1+1).toNat=lit:=by
   show (lit++rest).take _=lit
   rw[show ((lit.length:Int) - 1+1).toNat=lit.length by omega,List.take_left]
  rw[e1,show (lit.length:Int) - 1+2=((((lit.length:Int) - 1)::lit).length:Int) by simp only[zN];omega]
 ·have h1:lit=[]:=h1
  have h2:1≤d:=h2
  have h3:d≤4096:=h3
  have h4:4≤n:=h4
  have h5:n≤131:=h5
  subst h1
  have e:db ([],d,n,())=[124+n,d / 256,d % 256]:=by
   unfold db
   rw[if_neg (show ¬ n=0 by omega)]
  rw[e]
  refine ⟨?_,by simp⟩
  unfold bd
  have e0:([124+n,d / 256,d % 256]++rest).getD 0 0=124+n:=rfl
  have e1:([124+n,d / 256,d % 256]++rest).getD 1 0=d / 256:=rfl
  have e2:([124+n,d / 256,d % 256]++rest).getD 2 0=d % 256:=rfl
  rw[e0,e1,e2,if_neg (by omega),if_neg (by simp;omega),if_neg (by omega),show d / 256*256+d % 256=d by omega,show 124+n - 124=n by omega]
  rfl
theorem HK {t:fJ}(h:pb t):im t=false:=by
 obtain ⟨lit,d,n,⟨⟩⟩:=t
 have e:im (lit,d,n,())=if j1 (lit,d,n,())=true then decide (0<lit.length) || (decide (d<1) || (decide (4096<d) || (decide (n<4) || decide (131<n)))) else decide (lit.length<1) || decide (128<lit.length):=rfl
 have e2:j1 (lit,d,n,())=if d≠0 then true else decide (n≠0):=rfl
 rcases h with ⟨h1,h2,h3,h4⟩ | ⟨h1,h2,h3,h4,h5⟩
 ·have h1:d=0:=h1
  have h2:n=0:=h2
  have h3:1≤lit.length:=h3
  have h4:lit.length≤128:=h4
  subst h1 h2
  rw[e,e2,if_neg (by decide),decide_eq_false (by omega),decide_eq_false (by omega)];rfl
 ·have h1:lit=[]:=h1
  have h2:1≤d:=h2
  have h3:d≤4096:=h3
  have h4:4≤n:=h4
  have h5:n≤131:=h5
  subst h1
  rw[e,e2,if_pos (show d≠0 by omega),if_pos rfl,decide_eq_false (by simp),decide_eq_false (by omega),decide_eq_false (by omega),decide_eq_false (by omega),decide_eq_false (by omega)];rfl
theorem uG (m:Int):∀(ts:List fJ) (k:Nat) (out:LI),(∀t∈ts,pb t)→mK ts out→((cy ts out).length:Int)≤m→(av ts).length<k→bX k (av ts) out m=(cy ts out,0)
 |[],k,out,_,_,_,hk=>by
  cases k with
  |zero=>rfl
  |succ k=>
   unfold bX
   exact if_pos rfl
 |t::ts,k,out,hT,hB,hm,hk=>by
  obtain ⟨h1,h2⟩:=HL (hT t (by simp)) (av ts)
  have e:av (t::ts)=db t++av ts:=rfl
  rw[e] at hk ⊢
  rw[zH] at hk
  obtain ⟨k,rfl⟩:∃j,k=j+1:=⟨k - 1,by omega⟩
  unfold bX
  rw[if_neg (by
   intro h0
   have:=congrArg List.length h0
   rw[zH,List.length_nil] at this
   omega),h1]
  have hlen:=sE ts (cR t.2.1.toNat t.2.2.1.toNat (out++t.1))
  rw[jU,zH] at hlen
  have hm:((cy ts (cR t.2.1.toNat t.2.2.1.toNat (out++t.1))).length:Int)≤m:=hm
  have hn:0≤t.2.2.1:=by
   rcases hT t (by simp) with h | h
   ·rw[h.2.1];decide
   ·have:=h.2.2.2.1;omega
  have hc:bw out t m=(cR t.2.1.toNat t.2.2.1.toNat (out++t.1),0):=by
   unfold bw
   rw[HK (hT t (by simp)),if_neg (by
    rintro (h | h)
    ·cases h
    ·have:=hB.1;omega),if_neg (by omega)]
  simp only
  rw[hc,if_neg (by decide),if_neg (fun h=>h rfl),zG,List.drop_left]
  exact uG m ts k _ (fun t ht=>hT t (by simp[ht])) hB.2 hm (by omega)
end
end Go.Proofs.YthpcdhgpplmneaaDoor.Sym
