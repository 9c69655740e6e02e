/- Numbers as bytes: written and read back. -/
import Derived.Test.YtcbcbjdobbgddaaDoorTie
import Derived.Test.YtcbcbjdobbgddaaDoorCards
import Derived.ProofKit
import Derived.LaidMore
import Derived.OpenShut
import Derived.Stop.Joined
import Derived.Test.YtcbcbjdobbgddaaDoorQ5

set_option linter.unusedVariables false
set_option linter.unusedSimpArgs false
namespace Go.Proofs.YtcbcbjdobbgddaaDoor.Sym
open Go
open Go.IntKind (i8 i16 i32 i64 u8 u16 u32 u64)
noncomputable section
theorem vU (x:Int):∀(n:Nat) (v:Int),(ap x n).foldl (fun v c=>v*256+c) v=v*256 ^ n+x % 256 ^ n
 |0,v=>by simp[ap]
 |n+1,v=>by
  rw[ap,List.foldl_cons,vU x n]
  have h1:x % 256 ^ (n+1)=x % 256 ^ n+256 ^ n*((x / 256 ^ n) % 256):=by
   have hq:(0:Int)<256 ^ n:=Int.pow_pos (by decide)
   rw[Int.pow_succ]
   have hx:=Int.emod_add_mul_ediv x (256 ^ n)
   have hy:=Int.emod_add_mul_ediv (x / 256 ^ n) 256
   have h1:=Int.emod_nonneg x (Int.ne_of_gt hq)
   have h2:=Int.emod_lt_of_pos x hq
   have h3:0≤(x / 256 ^ n) % 256:=Int.emod_nonneg _ (by decide)
   have h4:(x / 256 ^ n) % 256<256:=Int.emod_lt_of_pos _ (by decide)
   generalize x % 256 ^ n=r at hx h1 h2 ⊢
   generalize hd:x / 256 ^ n=d at hx hy h3 h4 ⊢
   generalize d % 256=c at hy h3 h4 ⊢
   generalize d / 256=e at hy
   generalize (256:Int) ^ n=q at hq hx h2 ⊢
   refine ((Int.ediv_emod_unique (q:=e) (by omega)).2 ⟨?_,?_,?_⟩).2
   ·rw[← hx,← hy,Int.mul_add,Int.mul_assoc];omega
   ·have:=Int.mul_nonneg (Int.le_of_lt hq) h3;omega
   ·have:q*c≤q*255:=Int.mul_le_mul_of_nonneg_left (by omega) (Int.le_of_lt hq);omega
  rw[h1,Int.pow_succ,Int.add_mul,Int.mul_assoc,Int.mul_comm 256 (256 ^ n),Int.mul_comm ((x / 256 ^ n) % 256)]
  omega
theorem qE (x:Int)(n:Nat):aC (ap x n)=x % 256 ^ n:=by
 unfold aC
 rw[vU];omega
theorem y4 {x:Int}(h:aS .i16 x):i16.wrap (aC (ap x 2))=x:=by
 rw[qE]
 simp only[aS,IntKind.min,IntKind.max,IntKind.signed,IntKind.bits] at h
 simp at h
 simp[IntKind.wrap,IntKind.min,IntKind.max,IntKind.signed,IntKind.bits]
 omega
theorem y5 {x:Int}(h:aS .i32 x):i32.wrap (aC (ap x 4))=x:=by
 rw[qE]
 simp only[aS,IntKind.min,IntKind.max,IntKind.signed,IntKind.bits] at h
 simp at h
 simp[IntKind.wrap,IntKind.min,IntKind.max,IntKind.signed,IntKind.bits]
 omega
theorem y6 {x:Int}(h:aS .i64 x):i64.wrap (aC (ap x 8))=x:=by
 rw[qE]
 simp only[aS,IntKind.min,IntKind.max,IntKind.signed,IntKind.bits] at h
 simp at h
 simp[IntKind.wrap,IntKind.min,IntKind.max,IntKind.signed,IntKind.bits]
 omega
theorem j4 (x k:Int):∀(n m:Nat),m≤n→ap (x+256 ^ n*k) m=ap x m
 |_,0,_=>rfl
 |n,m+1,h=>by
  rw[ap,ap,j4 x k n m (by omega)]
  congr 1
  have hp:(256:Int) ^ n=256 ^ m*(256*256 ^ (n - m - 1)):=by
   rw[← Int.pow_succ',← Int.pow_add]
   congr 1;omega
  have hq:(256:Int) ^ m≠0:=Int.ne_of_gt (Int.pow_pos (by decide))
  rw[hp,Int.mul_assoc,Int.add_mul_ediv_left _ _ hq,Int.mul_assoc,Int.add_mul_emod_self_left]
theorem D5 (l:LI):∀v:Int,l.foldl (fun v c=>v*256+c) v=v*256 ^ l.length+aC l:=by
 induction l with
 |nil=>intro v;simp[aC]
 |cons c l ih=>
  intro v
  unfold aC
  rw[List.foldl_cons,List.foldl_cons,ih,ih (0*256+c),zN,Int.pow_succ,Int.add_mul,Int.zero_mul,Int.zero_add,Int.mul_assoc,Int.mul_comm 256]
  omega
theorem mK:∀{l:LI},byteR l→ap (aC l) l.length=l
 |[],_=>rfl
 |c::l,h=>by
  have hc:=h c (by simp)
  have hl:byteR l:=fun d hd=>h d (by simp[hd])
  have hb:=od l fun d hd=>⟨(hl d hd).1,by have:=(hl d hd).2;omega⟩
  have e:aC (c::l)=aC l+256 ^ l.length*c:=by
   have:=D5 l (0*256+c)
   unfold aC
   rw[List.foldl_cons,this,Int.zero_mul,Int.zero_add,Int.mul_comm]
   unfold aC;omega
  have hq:(0:Int)<256 ^ l.length:=Int.pow_pos (by decide)
  rw[zN,ap,e,j4 _ _ _ _ (Nat.le_refl _),mK hl,Int.add_mul_ediv_left _ _ (Int.ne_of_gt hq),Int.ediv_eq_zero_of_lt hb.1 hb.2]
  congr 1
  omega
theorem JY {l:LI}(h:byteR l)(hl:l.length=2):ap (i16.wrap (aC l)) 2=l:=by
 have key:∃t,i16.wrap (aC l)=aC l+256 ^ 2*t:=⟨(i16.wrap (aC l) - aC l) / 65536,by simp[IntKind.wrap,IntKind.min,IntKind.max,IntKind.signed,IntKind.bits];omega⟩
 obtain ⟨t,e⟩:=key
 rw[e,j4 _ _ _ _ (Nat.le_refl _)]
 have:=mK h;rw[hl] at this;exact this
theorem JZ {l:LI}(h:byteR l)(hl:l.length=4):ap (i32.wrap (aC l)) 4=l:=by
 have key:∃t,i32.wrap (aC l)=aC l+256 ^ 4*t:=⟨(i32.wrap (aC l) - aC l) / 4294967296,by simp[IntKind.wrap,IntKind.min,IntKind.max,IntKind.signed,IntKind.bits];omega⟩
 obtain ⟨t,e⟩:=key
 rw[e,j4 _ _ _ _ (Nat.le_refl _)]
 have:=mK h;rw[hl] at this;exact this
theorem J0 {l:LI}(h:byteR l)(hl:l.length=8):ap (i64.wrap (aC l)) 8=l:=by
 have key:∃t,i64.wrap (aC l)=aC l+256 ^ 8*t:=⟨(i64.wrap (aC l) - aC l) / 18446744073709551616,by simp[IntKind.wrap,IntKind.min,IntKind.max,IntKind.signed,IntKind.bits];omega⟩
 obtain ⟨t,e⟩:=key
 rw[e,j4 _ _ _ _ (Nat.le_refl _)]
 have:=mK h;rw[hl] at this;exact this
theorem HF (b:LI)(p:Int):pc b p p=[]:=by
 unfold pc
 exact List.drop_eq_nil_of_le (by rw[List.length_take];omega)
theorem qy {blk:LI}(hb:bx blk)(f:Int):∀(n i:Nat) (p:Int) (out:List bd),(aD blk f n i p out).2.2=0→0≤p→p≤blk.length→
  ∃rs:List bd,(aD blk f n i p out).1=out++rs∧rs.length=n∧p≤(aD blk f n i p out).2.1∧(aD blk f n i p out).2.1≤blk.length∧
   (∀acc,ay f rs i acc=(acc++pc blk p (aD blk f n i p out).2.1,0))∧aU f rs i=true∧(i=0→0<n→aj rs=f)∧∀r∈rs,aS .i64 r.1
 |0,i,p,out,h,h0,h1=>⟨[],(List.append_nil out).symm,rfl,Int.le_refl p,h1,fun acc=>by
   show (acc,(0:Int))=(acc++pc blk p p,0)
   rw[HF,List.append_nil],rfl,fun _ h=>by omega,fun r h=>by cases h⟩
 |n+1,i,p,out,h,h0,h1=>by
  have e:aD blk f (n+1) i p out=if (ak blk p).2.2≠0 then ([],0,(ak blk p).2.2) else if (ak blk p).1.2.1≠(i:Int) then ([],0,72) else if i=0∧(ak blk p).1.1≠0∨aB (f+(ak blk p).1.1)=false then ([],0,86)
    else aD blk f n (i+1) (ak blk p).2.1 (out++[(f+(ak blk p).1.1,(ak blk p).1.2.2.1,(ak blk p).1.2.2.2.1,(ak blk p).1.2.2.2.2.1,())]):=rfl
  rw[e] at h ⊢
  by_cases c1:(ak blk p).2.2=0
  rotate_left
  ·rw[if_pos c1] at h;exact absurd h c1
  rw[if_neg (av c1)] at h ⊢
  by_cases c2:(ak blk p).1.2.1=(i:Int)
  rotate_left
  ·rw[if_pos c2] at h;cases h
  rw[if_neg (av c2)] at h ⊢
  by_cases c3:i=0∧(ak blk p).1.1≠0∨aB (f+(ak blk p).1.1)=false
  ·rw[if_pos c3] at h;cases h
  rw[if_neg c3] at h ⊢
  obtain ⟨k1,k2,k3,k4,k5,k6⟩:=yO hb c1
  obtain ⟨b1,b2⟩:=Gb blk p
  obtain ⟨rs,r1,r2,r3,r4,r5,r6,r7,r8⟩:=qy hb f n (i+1) _ _ h (by omega) k3
  generalize ak blk p=x at *
  obtain ⟨⟨d,o,K,V,hs,⟨⟩⟩,q,er⟩:=x
  simp only at k1 k2 k3 k4 k5 k6 b1 b2 r1 r3 r4 r5 c2 c3 h ⊢
  subst c2
  generalize aD blk f n (i+1) q (out++[(f+d,K,V,hs,())])=y at *
  have eR:aM f i (f+d,K,V,hs,())=(d,(i:Int),K,V,hs,()):=by
   unfold aM
   simp only
   rw[show f+d - f=d by omega]
  refine ⟨(f+d,K,V,hs,())::rs,by rw[r1];simp,by simp[r2],by omega,r4,fun acc=>?_,?_,fun hi _=>?_,fun r hr=>?_⟩
  ·have e2:ay f ((f+d,K,V,hs,())::rs) i acc=if aB (f+d - f)=false then ([],86) else if au (aM f i (f+d,K,V,hs,()))≠0 then ([],au (aM f i (f+d,K,V,hs,()))) else ay f rs (i+1) (acc++(aK (aM f i (f+d,K,V,hs,()))).1):=rfl
   rw[e2,eR,show f+d - f=d by omega,if_neg (by rw[dQ.2 (jG b1)];decide),if_neg (av k4),k5,r5]
   simp only
   rw[zK,gT k1 (by omega) r3]
  ·show (cS (aM f i (f+d,K,V,hs,()))&&aU f rs (i+1))=true
   rw[eR,k6,r6];rfl
  ·show f+d=f
   have:d=0:=Classical.byContradiction fun hd=>c3 (.inl ⟨hi,hd⟩)
   omega
  ·rcases List.mem_cons.1 hr with rfl | hr
   ·have hft:aB (f+d)=true:=by
     cases hh:aB (f+d) with
     |true=>rfl
     |false=>exact absurd (.inr hh) c3
    have:=dQ.1 hft
    show aS .i64 (f+d)
    simp[aS,IntKind.min,IntKind.max,IntKind.signed,IntKind.bits];omega
   ·exact r8 r hr
theorem kU {b:LI}(h:bx b)(i:Nat):0≤b.getD i 0∧b.getD i 0≤255:=by
 rw[List.getD_eq_getElem?_getD]
 cases e:b[i]? with
 |none=>exact ⟨by decide,by decide⟩
 |some x=>exact h x (List.mem_of_getElem? e)
theorem sa {a b:LI}(ha:bx a)(hb:bx b):bx (a++b):=fun c hc=>by
 rcases List.mem_append.1 hc with h | h
 ·exact ha c h
 ·exact hb c h
theorem cv:bx []:=fun c h=>by cases h
theorem mM (d:Nat):∀(n:Nat) (out:LI),bx out→bx (jb d n out)
 |0,_,h=>h
 |n+1,out,h=>mM d n _ (sa h fun c hc=>by
   have:=kU h (out.length - d)
   simp only[List.mem_singleton] at hc
   rw[hc];exact this)
theorem xc {b:LI}(hb:bx b):bx (bC b).1.1:=by
 unfold bC
 split
 ·split
  ·exact cv
  ·exact fun c hc=>hb c (List.mem_of_mem_drop (List.mem_of_mem_take hc))
 ·split
  ·exact cv
  ·split <;> exact cv
theorem mN:∀(k:Nat) (b out:LI) (m:Int),bx b→bx out→bx (cw k b out m).1
 |0,_,_,_,_,h=>h
 |k+1,b,out,m,hb,h=>by
  unfold cw
  split
  ·exact h
  split
  ·exact cv
  split
  ·exact cv
  rename_i h3
  refine mN k _ _ _ (fun c hc=>hb c (List.mem_of_mem_drop hc)) ?_
  unfold bR at h3 ⊢
  split
  ·exact cv
  split
  ·exact cv
  exact mM _ _ _ (sa h (xc hb))
theorem qM {b:LI}(hb:bx b):bx (cO b).1:=by
 unfold cO
 repeat' split
 all_goals first | exact cv | skip
 rw[gH]
 exact mN _ _ _ _ (fun c hc=>hb c (List.mem_of_mem_drop hc)) cv
theorem rl {b:LI}(hb:bx b)(pk:Bool):bx (aF b pk).1:=by
 unfold aF
 split
 ·exact qM fun c hc=>hb c (List.mem_of_mem_drop hc)
 split
 ·exact cv
 exact fun c hc=>hb c (List.mem_of_mem_drop hc)
theorem yM (b:LI)(pk:Bool):(aF b pk).1.length≤32768:=by
 unfold aF
 split
 ·exact xh _
 split
 ·simp
 simp only
 omega
structure DecOk (b blk:LI) (rs:List bd):Prop where
 head:bh b true=0
 body:aF b (decide (b.getD 22 0=1))=(blk,0)
 rows:aE rs=(blk,0)
 len:(rs.length:Int)=aw b 57 4
 first:aj rs=aw b 27 8
 last:cR rs=aw b 35 8
 room:aU (aj rs) rs 0=true
 times:∀r∈rs,aS .i64 r.1
theorem BP {b:LI}(hb:bx b){rs:List bd}(h:eY b=(rs,0)):∃blk,DecOk b blk rs:=by
 unfold eY at h
 by_cases c1:bh b true=0
 rotate_left
 ·rw[if_pos c1] at h;exact absurd (congrArg Prod.snd h) c1
 rw[if_neg (av c1)] at h
 by_cases c2:(aF b (decide (b.getD 22 0=1))).2=0
 rotate_left
 ·rw[if_pos c2] at h;exact absurd (congrArg Prod.snd h) c2
 rw[if_neg (av c2)] at h
 have hby:=rl hb (decide (b.getD 22 0=1))
 have hle:=yM b (decide (b.getD 22 0=1))
 have hbk:aF b (decide (b.getD 22 0=1))=((aF b (decide (b.getD 22 0=1))).1,0):=Prod.ext rfl c2
 generalize (aF b (decide (b.getD 22 0=1))).1=blk at *
 obtain ⟨k1,_,_,_,_,_,_,_,_,k2,k3,_⟩:=eK c1
 unfold qK at h
 by_cases c3:(aD blk (aw b 27 8) (aw b 57 4).toNat 0 0 []).2.2=0
 rotate_left
 ·rw[if_pos c3] at h;exact absurd (congrArg Prod.snd h) c3
 rw[if_neg (av c3)] at h
 obtain ⟨rs',r1,r2,r3,r4,r5,r6,r7,r8⟩:=qy hby (aw b 27 8) _ 0 0 [] c3 (Int.le_refl 0) (by omega)
 rw[List.nil_append] at r1
 rw[r1] at h
 by_cases c4:(aD blk (aw b 27 8) (aw b 57 4).toNat 0 0 []).2.1<(blk.length:Int)
 ·rw[if_pos c4] at h;cases congrArg Prod.snd h
 rw[if_neg c4] at h
 have hq:(aD blk (aw b 27 8) (aw b 57 4).toNat 0 0 []).2.1=(blk.length:Int):=by omega
 rw[hq] at r5
 by_cases c5:cR rs'=aw b 35 8
 rotate_left
 ·rw[if_pos c5] at h;cases congrArg Prod.snd h
 rw[if_neg (av c5)] at h
 obtain rfl:rs'=rs:=congrArg Prod.fst h
 have hF:=r7 rfl (by omega)
 have hp:pc blk 0 (blk.length:Int)=blk:=by
  unfold pc
  rw[zG,List.take_length];rfl
 have h5:=r5 []
 rw[hp,List.nil_append] at h5
 refine ⟨blk,c1,hbk,?_,by omega,hF,c5,by rw[hF];exact r6,r8⟩
 unfold aE
 rw[hF,h5,if_neg (av rfl),if_neg (by simp only;omega)]
theorem pU {b:LI}(h:bx b):byteR b:=fun c hc=>⟨(h c hc).1,by have:=(h c hc).2;omega⟩
theorem oU {b:LI}(h:bx b){p:Nat}(hp:p+8≤b.length):ap (aw b p 8) 8=(b.drop p).take 8:=by
 unfold aw
 have h1:=dw h p 8
 rw[← pp h1 (cM hp)]
 exact J0 (pU h1) (cM hp)
theorem ma {b:LI}(h:bx b){p:Nat}(hp:p+4≤b.length):ap (aw b p 4) 4=(b.drop p).take 4:=by
 unfold aw
 have h1:=dw h p 4
 rw[← kw h1 (cM hp)]
 exact JZ (pU h1) (cM hp)
theorem Gy {b:LI}(h:bx b){p:Nat}(hp:p+2≤b.length):ap (aw b p 2) 2=(b.drop p).take 2:=by
 unfold aw
 have h1:=dw h p 2
 rw[← po h1 (cM hp)]
 exact JY (pU h1) (cM hp)
theorem nh (b:LI)(p n:Nat):(b.drop p).take n++b.drop (p+n)=b.drop p:=by
 rw[← List.drop_drop,List.take_append_drop]
theorem me (v:Int):∀n,bx (ap v n)
 |0=>cv
 |n+1=>fun c hc=>by
  rw[ap] at hc
  rcases List.mem_cons.1 hc with h | h
  ·rw[h];omega
  ·exact me v n c h
theorem tJ (b:LI)(p:Nat):b.getD p 0=(b.drop p).getD 0 0:=(BU b p 0).symm
structure BatR (x:dm):Prop where
 w1:aS .i64 x.1
 w2:aS .i32 x.2.1
 w3:aS .i64 x.2.2.1
 w4:aS .i16 x.2.2.2.1
 w5:aS .i32 x.2.2.2.2.1
 w6:∀r∈x.2.2.2.2.2.1,aS .i64 r.1
theorem BatR.of {x:dm}(hx:Ty.wf KE x):BatR x:=⟨hx.1,hx.2.1,hx.2.2.1,hx.2.2.2.1,hx.2.2.2.2.1,fun r hr=>(hx.2.2.2.2.2.1.2 r hr).1⟩
theorem Bw {b:LI}(h:bx b){p:Nat}(hp:p+8≤b.length):aS .i64 (aw b p 8):=by
 unfold aw
 rw[← pp (dw h p 8) (cM hp)]
 exact bL _ _
theorem Bv {b:LI}(h:bx b){p:Nat}(hp:p+4≤b.length):aS .i32 (aw b p 4):=by
 unfold aw
 rw[← kw (dw h p 4) (cM hp)]
 exact bL _ _
theorem Ih {b:LI}(h:bx b){p:Nat}(hp:p+2≤b.length):aS .i16 (aw b p 2):=by
 unfold aw
 rw[← po (dw h p 2) (cM hp)]
 exact bL _ _
theorem v7 {b:LI}(h:bh b true=0):bh b false=0:=by
 obtain ⟨k1,k2,k3,k4,k4',k5,k6,k7,k8,k9,k10,k11⟩:=eK h
 unfold bh
 rw[if_neg (by omega),if_neg (av k2),if_neg (by omega),if_neg (av k4),if_neg (fun h=>by cases h.1),if_neg (by rw[k5];decide),if_neg (by omega),if_neg (by rw[k8];decide),if_neg (by omega),if_neg (by omega),if_neg (av k11)]
theorem DW {b:LI}(h:(aH b).2≠0):(aH b).1=pr:=by
 unfold aH at h ⊢
 split
 ·rfl
 ·rename_i c
  rw[if_neg c] at h
  exact absurd rfl h
theorem pZ {b:LI}(hb:bx b){x:dm}(h:aH b=(x,0)):∃blk,DecOk b blk x.2.2.2.2.2.1∧ar x=0∧bY x (b.getD 22 0) (b.drop 61)=b∧BatR x:=by
 unfold aH at h
 by_cases c1:(eY b).2=0
 rotate_left
 ·rw[if_pos c1] at h;exact absurd (congrArg Prod.snd h) c1
 rw[if_neg (av c1)] at h
 have hE:eY b=((eY b).1,0):=by rw[← c1]
 generalize (eY b).1=rs at *
 obtain rfl:=congrArg Prod.fst h
 obtain ⟨blk,D⟩:=BP hb hE
 refine ⟨blk,D,?_,?_,?_⟩
 ·obtain ⟨k1,_,_,_,_,k5,_,_,k8,k9,k10,_⟩:=eK D.head
  have hl:=D.len
  have e:ar (aw b 0 8,aw b 12 4,aw b 43 8,aw b 51 2,aw b 53 4,rs,())=if aY (aw b 0 8)=true then 80 else if aQ (aw b 43 8) (aw b 51 2) (aw b 53 4)=true then 84 else if rs=[] then 85 else if 256<(rs.length:Int) then 9 else (aE rs).2:=rfl
  rw[e,if_neg (by rw[k5];decide),if_neg (by rw[k8];decide),if_neg (fun h=>by rw[h] at hl;simp at hl;omega),if_neg (by omega),D.rows]
 ·obtain ⟨k1,k2,k3,k4,k4',k5,k6,k7,k8,k9,k10,k11⟩:=eK D.head
  have hl:(rs.length:Int)=aw b 57 4:=D.len
  have hF:aj rs=aw b 27 8:=D.first
  have hL:cR rs=aw b 35 8:=D.last
  have hS:ez b=true:=by
   cases h:ez b with
   |true=>rfl
   |false=>exact absurd ⟨rfl,h⟩ k4'
  have hS:(b.drop 17).take 4=ap (cX 0 (b.drop 21)) 4:=by
   unfold ez at hS
   split at hS
   ·assumption
   ·cases hS
  have hM:aw b 8 4=49+((b.drop 61).length:Int):=by
   unfold aP at k2 k3
   split at k2
   ·cases k2
   rename_i m1
   rw[if_neg m1] at k3
   split at k2
   ·cases k2
   rename_i m2
   rw[if_neg m2] at k3
   split at k2
   ·cases k2
   rename_i m3
   rw[if_neg m3] at k3
   split at k2
   ·cases k2
   rename_i m4
   rw[if_neg m4] at k3
   split at k2
   ·cases k2
   rename_i m5
   rw[if_neg m5] at k3
   have k3:aw b 8 4+12=(b.length:Int):=k3
   rw[List.length_drop]
   omega
  have e22:=kU hb 22
  have h21:ap (b.getD 22 0) 2=(b.drop 21).take 2:=by
   rw[IP (by omega),k6]
   rcases (by omega:b.getD 22 0=0∨b.getD 22 0=1) with h | h <;> rw[h] <;> rfl
  have t57:ap (rs.length:Int) 4++b.drop 61=b.drop 57:=by rw[hl,ma hb (by omega),nh b 57 4]
  have t53:ap (aw b 53 4) 4++b.drop 57=b.drop 53:=by rw[ma hb (by omega),nh b 53 4]
  have t51:ap (aw b 51 2) 2++b.drop 53=b.drop 51:=by rw[Gy hb (by omega),nh b 51 2]
  have t43:ap (aw b 43 8) 8++b.drop 51=b.drop 43:=by rw[oU hb (by omega),nh b 43 8]
  have t35:ap (cR rs) 8++b.drop 43=b.drop 35:=by rw[hL,oU hb (by omega),nh b 35 8]
  have t27:ap (aj rs) 8++b.drop 35=b.drop 27:=by rw[hF,oU hb (by omega),nh b 27 8]
  have t23:ap ((rs.length:Int) - 1) 4++b.drop 27=b.drop 23:=by rw[hl,← k11,ma hb (by omega),nh b 23 4]
  have t21:ap (b.getD 22 0) 2++b.drop 23=b.drop 21:=by rw[h21,nh b 21 2]
  have t17:ap (cX 0 (b.drop 21)) 4++b.drop 21=b.drop 17:=by rw[← hS,nh b 17 4]
  have t16:[2]++b.drop 17=b.drop 16:=by rw[← k4,← Gj (by omega),nh b 16 1]
  have t12:ap (aw b 12 4) 4++b.drop 16=b.drop 12:=by rw[ma hb (by omega),nh b 12 4]
  have t8:ap (49+((b.drop 61).length:Int)) 4++b.drop 12=b.drop 8:=by rw[← hM,ma hb (by omega),nh b 8 4]
  have t0:ap (aw b 0 8) 8++b.drop 8=b:=by
   have:=oU hb (p:=0) (by omega)
   rw[this];exact nh b 0 8
  have hT:ba (aw b 0 8,aw b 12 4,aw b 43 8,aw b 51 2,aw b 53 4,rs,()) (b.getD 22 0) (b.drop 61)=b.drop 21:=by
   show ap (b.getD 22 0) 2++(ap ((rs.length:Int) - 1) 4++(ap (aj rs) 8++(ap (cR rs) 8++(ap (aw b 43 8) 8++(ap (aw b 51 2) 2++(ap (aw b 53 4) 4++(ap (rs.length:Int) 4++b.drop 61)))))))=_
   rw[t57,t53,t51,t43,t35,t27,t23,t21]
  show ap (aw b 0 8) 8++(ap (49+((b.drop 61).length:Int)) 4++(ap (aw b 12 4) 4++([2]++(ap (cX 0 (ba (aw b 0 8,aw b 12 4,aw b 43 8,aw b 51 2,aw b 53 4,rs,()) (b.getD 22 0) (b.drop 61))) 4++ba (aw b 0 8,aw b 12 4,aw b 43 8,aw b 51 2,aw b 53 4,rs,()) (b.getD 22 0) (b.drop 61)))))=b
  rw[hT,t17,t16,t12,t8,t0]
 ·obtain ⟨k1,_⟩:=eK D.head
  exact ⟨Bw hb (by omega),Bv hb (by omega),Bw hb (by omega),Ih hb (by omega),Bv hb (by omega),D.times⟩
theorem xW {b:LI}(hb:bx b){x:dm}(h:aH b=(x,0))(hp:b.getD 22 0≠1):bY x 0 (aE x.2.2.2.2.2.1).1=b:=by
 obtain ⟨blk,D,h1,h2,_⟩:=pZ hb h
 obtain ⟨_,_,_,_,_,_,_,k7,_⟩:=eK D.head
 have e22:=kU hb 22
 have h0:b.getD 22 0=0:=by omega
 have hk:=D.body
 rw[decide_eq_false hp] at hk
 have hk2:aF b false=if 32768<((b.drop 61).length:Int) then ([],4) else (b.drop 61,0):=rfl
 rw[hk2] at hk
 split at hk
 ·cases congrArg Prod.snd hk
 have:blk=b.drop 61:=(congrArg Prod.fst hk).symm
 rw[D.rows,this]
 rw[h0] at h2
 exact h2
theorem wO {blk:LI}{f:Int}:∀(rs:List bd) (i:Nat) (acc:LI),(ay f rs i acc).2=0→∃X,(ay f rs i acc).1=acc++X∧
  ∀(p:Int) (out:List bd),Has blk p X→(∀r∈rs,aS .i64 r.1)→i+rs.length≤2147483647→(i=0→aj rs=f)→aD blk f rs.length i p out=(out++rs,p+X.length,0)
 |[],i,acc,_=>⟨[],(List.append_nil acc).symm,fun p out _ _ _ _=>by
   show (out,p,(0:Int))=(out++[],p+((([]:LI).length:Nat):Int),0)
   rw[List.append_nil];simp⟩
 |r::rs,i,acc,h=>by
  have e2:ay f (r::rs) i acc=if aB (r.1 - f)=false then ([],86) else if au (aM f i r)≠0 then ([],au (aM f i r)) else ay f rs (i+1) (acc++(aK (aM f i r)).1):=rfl
  rw[e2] at h ⊢
  cases c1:aB (r.1 - f) with
  |false=>rw[c1,if_pos rfl] at h;cases h
  |true=>
  rw[c1,if_neg (by decide)] at h
  rw[if_neg (by decide)]
  by_cases c2:au (aM f i r)=0
  rotate_left
  ·rw[if_pos c2] at h;exact absurd h c2
  rw[if_neg (av c2)] at h ⊢
  obtain ⟨X,hX,ih⟩:=wO rs (i+1) _ h
  refine ⟨(aK (aM f i r)).1++X,by rw[hX,zK],fun p out H hr hi hF=>?_⟩
  have hr0:=jG (hr r (by simp))
  have hf:=dQ.1 c1
  have hi':i+(rs.length+1)≤2147483647:=hi
  have R:RowOk (aM f i r):=⟨hf,by show -2147483648≤(i:Int)∧(i:Int)≤2147483647;omega⟩
  have hrec:=Ga R c2 H.left
  have e:aD blk f (rs.length+1) i p out=if (ak blk p).2.2≠0 then ([],0,(ak blk p).2.2) else if (ak blk p).1.2.1≠(i:Int) then ([],0,72) else if i=0∧(ak blk p).1.1≠0∨aB (f+(ak blk p).1.1)=false then ([],0,86)
    else aD blk f rs.length (i+1) (ak blk p).2.1 (out++[(f+(ak blk p).1.1,(ak blk p).1.2.2.1,(ak blk p).1.2.2.2.1,(ak blk p).1.2.2.2.2.1,())]):=rfl
  show aD blk f (rs.length+1) i p out=_
  rw[e,hrec]
  have a1:(aM f i r).1=r.1 - f:=rfl
  have a2:(aM f i r).2.1=(i:Int):=rfl
  simp only[a1,a2]
  rw[if_neg (by decide),if_neg (av rfl),if_neg (by
   rintro (⟨h1,h2⟩ | h2)
   ·have:r.1=f:=hF h1
    omega
   ·rw[show f+(r.1 - f)=r.1 by omega,dQ.2 hr0] at h2;cases h2),show f+(r.1 - f)=r.1 by omega]
  have hrr:((r.1,(aM f i r).2.2.1,(aM f i r).2.2.2.1,(aM f i r).2.2.2.2.1,()):bd)=r:=by
   obtain ⟨r1,r2,r3,r4,⟨⟩⟩:=r
   rfl
  rw[hrr,ih _ _ H.right (fun r' h'=>hr r' (by simp[h'])) (by omega) (fun h=>by omega)]
  simp only[zK,zM,zH,zD,and_true,true_and]
  push_cast
  omega
theorem fR {W A R:LI}{p n:Nat}(h:W.drop p=A++R)(hA:A.length=n):W.drop (p+n)=R∧(W.drop p).take n=A:=by
 rw[← List.drop_drop,h,← hA]
 exact ⟨List.drop_left,List.take_left⟩
theorem pn {v:Int}(h:aS .i64 v):dK (ap v 8)=v:=by rw[← pp (me v 8) (be v 8)];exact y6 h
theorem mJ {v:Int}(h:aS .i32 v):dK (ap v 4)=v:=by rw[← kw (me v 4) (be v 4)];exact y5 h
theorem Ie {v:Int}(h:aS .i16 v):dK (ap v 2)=v:=by rw[← po (me v 2) (be v 2)];exact y4 h
theorem p9 {v:Int}(h1 : -2147483648≤v)(h2:v≤2147483647):aS .i32 v:=by simp[aS,IntKind.min,IntKind.max,IntKind.signed,IntKind.bits];omega
theorem sC:∀(rs:List bd) (t:Int),aS .i64 t→(∀r∈rs,aS .i64 r.1)→aS .i64 (gI rs t)
 |[],t,h,_=>h
 |r::rs,t,h,hr=>sC rs _ (by
   show aS .i64 (eJ t r.1)
   unfold eJ
   split
   ·exact hr r (by simp)
   ·exact h) (fun r' h'=>hr r' (by simp[h']))
theorem Ey (rs:List bd)(hr:∀r∈rs,aS .i64 r.1):aS .i64 (cR rs):=by
 cases rs with
 |nil=>exact ⟨by decide,by decide⟩
 |cons r rs=>exact sC rs r.1 (hr r (by simp)) (fun r' h'=>hr r' (by simp[h']))
theorem BS (rs:List bd)(hr:∀r∈rs,aS .i64 r.1):aS .i64 (aj rs):=by
 cases rs with
 |nil=>exact ⟨by decide,by decide⟩
 |cons r rs=>exact hr r (by simp)
theorem nf {x:dm}(h:ar x=0):aY x.1=false∧aQ x.2.2.1 x.2.2.2.1 x.2.2.2.2.1=false∧1≤x.2.2.2.2.2.1.length∧x.2.2.2.2.2.1.length≤256∧(aE x.2.2.2.2.2.1).2=0:=by
 unfold ar at h
 split at h
 ·cases h
 rename_i h1
 split at h
 ·cases h
 rename_i h2
 split at h
 ·cases h
 rename_i h3
 split at h
 ·cases h
 rename_i h4
 exact ⟨by simpa using h1,by simpa using h2,List.length_pos_iff.2 h3,by omega,h⟩
theorem xL {rs:List bd}(h:(aE rs).2=0):(ay (aj rs) rs 0 []).2=0∧(aE rs).1=(ay (aj rs) rs 0 []).1∧(aE rs).1.length≤32768:=by
 unfold aE at h ⊢
 by_cases c1:(ay (aj rs) rs 0 []).2=0
 rotate_left
 ·rw[if_pos c1] at h;exact absurd h c1
 rw[if_neg (av c1)] at h ⊢
 by_cases c2:32768<((ay (aj rs) rs 0 []).1.length:Int)
 ·rw[if_pos c2] at h;cases h
 rw[if_neg c2] at h ⊢
 exact ⟨c1,rfl,by simp only;omega⟩
def F8 (x:dm)(pk:Bool)(n:Nat):rq:=(x.1,((61+n:Nat):Int),x.2.1,pk,(x.2.2.2.2.2.1.length:Int),aj x.2.2.2.2.2.1,cR x.2.2.2.2.2.1,x.2.2.1,x.2.2.2.1,x.2.2.2.2.1,())
theorem uX (x:dm)(a:Int)(raw:LI):(bY x a raw).length=61+raw.length:=by
 unfold bY ba
 simp only[zH,be,List.length_singleton]
 omega
theorem BG {x:dm}(hx:BatR x)(he:ar x=0)(pk:Bool){raw:LI}(hl:raw.length≤35939):
  (∀rest:LI,aP (bY x (bif pk then 1 else 0) raw++rest) 0=(((61+raw.length:Nat):Int),0))∧(∀sm,al (bY x (bif pk then 1 else 0) raw) sm=(F8 x pk raw.length,0))∧
  (aF (bY x (bif pk then 1 else 0) raw) pk=((aE x.2.2.2.2.2.1).1,0)→aH (bY x (bif pk then 1 else 0) raw)=(x,0))∧(bY x (bif pk then 1 else 0) raw).drop 61=raw:=by
 obtain ⟨x1,x2,x3,x4,x5,rs,⟨⟩⟩:=x
 obtain ⟨g1,g2,g3,g4,g5⟩:=nf he
 have g1:aY x1=false:=g1
 have g2:aQ x3 x4 x5=false:=g2
 have g3:1≤rs.length:=g3
 have g4:rs.length≤256:=g4
 have g5:(aE rs).2=0:=g5
 have w1:aS .i64 x1:=hx.w1
 have w2:aS .i32 x2:=hx.w2
 have w3:aS .i64 x3:=hx.w3
 have w4:aS .i16 x4:=hx.w4
 have w5:aS .i32 x5:=hx.w5
 have w6:∀r∈rs,aS .i64 r.1:=hx.w6
 have hlen:=uX (x1,x2,x3,x4,x5,rs,()) (bif pk then 1 else 0) raw
 have d0:∀W:LI,(∃rest,W=bY (x1,x2,x3,x4,x5,rs,()) (bif pk then 1 else 0) raw++rest)→aw W 8 4=49+(raw.length:Int):=by
  rintro W ⟨rest,rfl⟩
  have e0:∃R,(bY (x1,x2,x3,x4,x5,rs,()) (bif pk then 1 else 0) raw++rest).drop 0=ap x1 8++(ap (49+(raw.length:Int)) 4++R):=⟨_,by
   rw[List.drop_zero]
   show (ap x1 8++(ap (49+(raw.length:Int)) 4++(ap x2 4++([2]++(ap (cX 0 (ba (x1,x2,x3,x4,x5,rs,()) (bif pk then 1 else 0) raw)) 4++ba (x1,x2,x3,x4,x5,rs,()) (bif pk then 1 else 0) raw)))))++rest=_
   rw[zK,zK]⟩
  obtain ⟨R,e0⟩:=e0
  have e8:=(fR e0 (be _ 8)).1
  have:=(fR e8 (be _ 4)).2
  unfold aw
  rw[show (0+8:Nat)=8 from rfl] at this
  rw[this]
  exact mJ (p9 (by omega) (by omega))
 have meas:∀W:LI,(∃rest,W=bY (x1,x2,x3,x4,x5,rs,()) (bif pk then 1 else 0) raw++rest)→aP W 0=(((61+raw.length:Nat):Int),0):=by
  intro W hW
  have h8:=d0 W hW
  have hWl:61+raw.length≤W.length:=by
   obtain ⟨rest,rfl⟩:=hW
   rw[zH,hlen];omega
  have h8':aw W ((0:Int).toNat+8) 4=49+(raw.length:Int):=h8
  unfold aP
  rw[h8',if_neg (by omega),if_neg (by omega),if_neg (by omega),if_neg (by omega),if_neg (by omega)]
  congr 1
  push_cast
  omega
 refine ⟨fun rest=>meas _ ⟨rest,rfl⟩,?_⟩
 have hmeas:=meas _ ⟨[],(List.append_nil _).symm⟩
 have e0:(bY (x1,x2,x3,x4,x5,rs,()) (bif pk then 1 else 0) raw).drop 0=ap x1 8++(ap (49+(raw.length:Int)) 4++(ap x2 4++([2]++(ap (cX 0 (ba (x1,x2,x3,x4,x5,rs,()) (bif pk then 1 else 0) raw)) 4++ba (x1,x2,x3,x4,x5,rs,()) (bif pk then 1 else 0) raw)))):=rfl
 have eT:ba (x1,x2,x3,x4,x5,rs,()) (bif pk then 1 else 0) raw=ap (bif pk then 1 else 0) 2++(ap ((rs.length:Int) - 1) 4++(ap (aj rs) 8++(ap (cR rs) 8++(ap x3 8++(ap x4 2++(ap x5 4++(ap (rs.length:Int) 4++raw))))))):=rfl
 generalize hTT:ba (x1,x2,x3,x4,x5,rs,()) (bif pk then 1 else 0) raw=T at *
 generalize bY (x1,x2,x3,x4,x5,rs,()) (bif pk then 1 else 0) raw=W at *
 obtain ⟨e8,f0⟩:=fR e0 (be _ 8)
 obtain ⟨e12,f8⟩:=fR e8 (be _ 4)
 obtain ⟨e16,f12⟩:=fR e12 (be _ 4)
 obtain ⟨e17,f16⟩:=fR e16 (n:=1) rfl
 obtain ⟨e21,f17⟩:=fR e17 (be _ 4)
 have e21':=e21
 rw[eT] at e21
 obtain ⟨e23,f21⟩:=fR e21 (be _ 2)
 obtain ⟨e27,f23⟩:=fR e23 (be _ 4)
 obtain ⟨e35,f27⟩:=fR e27 (be _ 8)
 obtain ⟨e43,f35⟩:=fR e35 (be _ 8)
 obtain ⟨e51,f43⟩:=fR e43 (be _ 8)
 obtain ⟨e53,f51⟩:=fR e51 (be _ 2)
 obtain ⟨e57,f53⟩:=fR e53 (be _ 4)
 obtain ⟨e61,f57⟩:=fR e57 (be _ 4)
 simp only[Nat.zero_add,Nat.reduceAdd] at e8 e12 e16 e17 e21' e21 e23 e27 e35 e43 e51 e53 e57 e61 f0 f8 f12 f16 f17 f21 f23 f27 f35 f43 f51 f53 f57
 have i0:aw W 0 8=x1:=by unfold aw;rw[f0];exact pn w1
 have i12:aw W 12 4=x2:=by unfold aw;rw[f12];exact mJ w2
 have i23:aw W 23 4=(rs.length:Int) - 1:=by unfold aw;rw[f23];exact mJ (p9 (by omega) (by omega))
 have i27:aw W 27 8=aj rs:=by unfold aw;rw[f27];exact pn (BS rs w6)
 have i35:aw W 35 8=cR rs:=by unfold aw;rw[f35];exact pn (Ey rs w6)
 have i43:aw W 43 8=x3:=by unfold aw;rw[f43];exact pn w3
 have i51:aw W 51 2=x4:=by unfold aw;rw[f51];exact Ie w4
 have i53:aw W 53 4=x5:=by unfold aw;rw[f53];exact mJ w5
 have i57:aw W 57 4=(rs.length:Int):=by unfold aw;rw[f57];exact mJ (p9 (by omega) (by omega))
 have b16:W.getD 16 0=2:=by rw[tJ,e16];rfl
 have b21:W.getD 21 0=0:=by
  rw[tJ,e21]
  cases pk <;> rfl
 have b22:W.getD 22 0=bif pk then 1 else 0:=by
  have:W.drop 22=(W.drop 21).drop 1:=by rw[List.drop_drop]
  rw[tJ,this,e21]
  cases pk <;> rfl
 have hpk:decide (W.getD 22 0=1)=pk:=by
  rw[b22]
  cases pk <;> rfl
 have hE:∀sm,bh W sm=0:=by
  intro sm
  have hS:ez W=true:=by
   unfold ez
   rw[f17,e21',if_pos rfl]
  unfold bh
  rw[hmeas,i0,i43,i51,i53,i57,i23,b16,b21,b22,hS,g1,g2]
  rw[if_neg (by omega),if_neg (av rfl),if_neg (by simp only;omega),if_neg (by decide),if_neg (fun h=>by cases h.2),if_neg (by decide),if_neg (by cases pk <;> decide),if_neg (by decide),if_neg (by omega),if_neg (by omega),if_neg (by omega)]
 refine ⟨fun sm=>?_,fun hB=>?_,e61⟩
 ·unfold al
  rw[hE sm,if_neg (by decide)]
  have hI:gW W=(aw W 0 8,(W.length:Int),aw W 12 4,decide (W.getD 22 0=1),aw W 57 4,aw W 27 8,aw W 35 8,aw W 43 8,aw W 51 2,aw W 53 4,()):=rfl
  rw[hI,i0,hlen,i12,hpk,i57,i27,i35,i43,i51,i53]
  rfl
 ·have hB:aF W pk=((aE rs).1,0):=hB
  obtain ⟨q1,q2,q3⟩:=xL g5
  obtain ⟨X,hX,hrd⟩:=wO (blk:=(aE rs).1) (f:=aj rs) rs 0 [] q1
  rw[List.nil_append,← q2] at hX
  have hH:Has (aE rs).1 0 X:=⟨Int.le_refl 0,by omega,[],by rw[← hX,List.append_nil];rfl⟩
  have hR:=hrd 0 [] hH w6 (by omega) (fun _=>rfl)
  rw[List.nil_append,← hX,Int.zero_add] at hR
  have hD:eY W=(rs,0):=by
   unfold eY
   rw[hE true,if_neg (by decide),hpk,hB,if_neg (av rfl),i27,i35,i57,zG]
   unfold qK
   rw[hR,if_neg (av rfl),if_neg (by simp),if_neg (by simp)]
  unfold aH
  rw[hD,if_neg (av rfl),i0,i12,i43,i51,i53]
theorem xI {x:dm}(hx:BatR x)(he:ar x=0):aH (bY x 0 (aE x.2.2.2.2.2.1).1)=(x,0):=by
 obtain ⟨_,_,h3⟩:=xL (nf he).2.2.2.2
 obtain ⟨_,_,h,h61⟩:=BG hx he false (raw:=(aE x.2.2.2.2.2.1).1) (by omega)
 refine h ?_
 have hk2:∀b:LI,aF b false=if 32768<((b.drop 61).length:Int) then ([],4) else (b.drop 61,0):=fun _=>rfl
 rw[hk2,h61,if_neg (by omega)]
end
end Go.Proofs.YtcbcbjdobbgddaaDoor.Sym
namespace Go.Proofs.YtcbcbjdobbgddaaDoor.Sym
open Go
noncomputable section
abbrev gy:Io:=⟨[dL],[],[],[dB],none⟩
def ta (d:gy.In):Tr gy.Res:=.ite (decide (d.1.1.length≤4294950000)) (.ret (.ret ((true,()),()))) .no
abbrev zS:List (Nat×Hc):=[(5,ah fY s9),(13,ah iD uT),(12,ah iE za),(14,ah dW oT),(15,ah lC Dd),(16,ah lc C0),(9,ah qa IR),(17,ah fV zb),(18,ah jH y9)]
def GU:Hd:=bV zS
def AK:Lp:=cb []
def rK (a0:LI):Option gy.Res:=bif decide (a0.length≤4294967296) then bif decide (a0.length≤4294960000) then bif (aH a0).2 != 0 then oR ((cd (aH a0).1 (0,0,0,0,0,[],()),()),()) else bif aU (aj (aH a0).1.2.2.2.2.2.1) (aH a0).1.2.2.2.2.2.1 0 then bif ar (aH a0).1 != 0 then oR ((false,()),()) else bif aU (aj (aH a0).1.2.2.2.2.2.1) (aH a0).1.2.2.2.2.2.1 0 then bif ar (aH a0).1 != 0 then oR ((false,()),()) else bif decide (a0.length≤4294967296) then bif decide (a0.length≤4294960000) then bif aU (aj (aH a0).1.2.2.2.2.2.1) (aH a0).1.2.2.2.2.2.1 0 then bif (al a0 false).2 != 0 then oR ((false,()),()) else bif (dq (aH a0).1).2 != 0 then oR ((false,()),()) else bif !(al a0 false).1.2.2.2.1 then oR ((decide ((dq (aH a0).1).1=a0),()),()) else bif decide ((dq (aH a0).1).1.length≤4294960000) then bif (aH (dq (aH a0).1).1).2 == 0 then oR ((cd (aH (dq (aH a0).1).1).1 (aH a0).1,()),()) else oR ((false,()),()) else none else none else none else none else none else none else none else none
theorem FA (a0:LI):Io.run tt GU dr AK gy Tryd.f4 ((a0,()),())=rK a0:=by kernel_rfl
theorem Hq:HcOk prog 4 (ah gy ta):=by
 refine cq (cs:=zS) (.cons Fb (.cons yo (.cons E4 (.cons wH (.cons JG (.cons Jh (.cons Ku (.cons E6 (.cons E2 .nil))))))))) (lp:=AK) (fn:=Tryd.f4) gy (.done (by kernel_rfl)) ta ?_
 rintro ⟨⟨(b:LI),⟨⟩⟩,⟨⟩⟩ out hw ho
 obtain ⟨hg,ho⟩:=Tr.guard ho
 have hg:b.length≤4294950000:=of_decide_eq_true hg
 cases ho
 have hb:bx b:=bytesOf hw.1.1
 refine (FA b).trans ?_
 unfold rK
 have g1:decide (b.length≤4294967296)=true:=decide_eq_true (by omega)
 have g2:decide (b.length≤4294960000)=true:=decide_eq_true (by omega)
 refine (aa g1 _ _).trans ?_
 refine (aa g2 _ _).trans ?_
 by_cases h:(aH b).2=0
 rotate_left
 ·refine bT (by simpa using h) ?_
  rw[DW h,show cd pr (0,0,0,0,0,[],())=true from fe.2 rfl]
 refine bF (by simpa using h) ?_
 have hx:aH b=((aH b).1,0):=Prod.ext rfl h
 obtain ⟨blk,D,h1,h2,hR⟩:=pZ hb hx
 have hp:=xW hb hx
 generalize (aH b).1=x at *
 have hH:al b false=(gW b,0):=by unfold al;rw[v7 D.head,if_neg (av rfl)]
 have hE:dq x=(bY x 0 (aE x.2.2.2.2.2.1).1,0):=by unfold dq;rw[if_neg (av h1)]
 have hr:=D.room
 refine (aa hr _ _).trans ?_
 refine bF (by simpa using h1) ?_
 refine (aa hr _ _).trans ?_
 refine bF (by simpa using h1) ?_
 refine (aa g1 _ _).trans ?_
 refine (aa g2 _ _).trans ?_
 refine (aa hr _ _).trans ?_
 rw[hH,hE]
 refine (ab rfl _ _).trans ?_
 refine (ab rfl _ _).trans ?_
 have hI:(gW b).2.2.2.1=decide (b.getD 22 0=1):=rfl
 show (bif !(gW b).2.2.2.1 then _ else _)=_
 rw[hI]
 by_cases c:b.getD 22 0=1
 ·refine bF (by rw[decide_eq_true c];rfl) ?_
  have hl:=uX x 0 (aE x.2.2.2.2.2.1).1
  obtain ⟨_,_,h3⟩:=xL (nf h1).2.2.2.2
  refine bT (decide_eq_true (by show (bY x 0 (aE x.2.2.2.2.2.1).1).length≤_;omega)) ?_
  rw[xI hR h1]
  refine (aa rfl _ _).trans ?_
  rw[show cd x x=true from fe.2 rfl]
 ·refine bT (by rw[decide_eq_false c];rfl) ?_
  rw[show decide (bY x 0 (aE x.2.2.2.2.2.1).1=b)=true from decide_eq_true (hp c)]
end
end Go.Proofs.YtcbcbjdobbgddaaDoor.Sym
namespace Go.Proofs.YtcbcbjdobbgddaaDoor.Sym
open Go
open Go.IntKind (i8 i16 i32 i64 u8 u16 u32 u64)
open Go.ChangeShapes Go.WideShapes Go.ChangeAt Go.RowKit
noncomputable section
abbrev wc:List (String×DataW Unit):=[("leat/crc.rows",Rows.laid_leat_crc_rows)]
theorem IH:Tryd.prog.globalNamed "leat/crc.rows"=some 0:=by kernel_rfl
theorem KG:(Tryd.prog.globals[0]?).map (·.type)=some ((Tryd.prog.globals[0]?).map (·.type)).get!:=by kernel_rfl
theorem KI:Tryd.prog.underlying ((Tryd.prog.globals[0]?).map (·.type)).get!=some (.array 16 58):=by kernel_rfl
theorem KY:Tryd.prog.underlying 58=some (.int .u32):=by kernel_rfl
theorem Kp:(Rows.laid_leat_crc_rows:DataW Unit)=.agg (nL.map fun n=>.lit (.int .u32 n)):=by kernel_rfl
set_option maxRecDepth 100000 in
theorem xl {W:World}(h:laidMetH Tryd.prog wc W):ii (S0 W) W:=by
 rw[MakeChecks.laidMetH_plain _ _ _ (by kernel_rfl)] at h
 obtain ⟨ps,⟨g0,t0,cs0,f0,p0,q0,hg0,ht0,hv0,hd0,_,_⟩,_,_⟩:=h
 obtain rfl:=Option.some.inj (IH.symm.trans hg0)
 obtain rfl:=Option.some.inj (KG.symm.trans ht0)
 obtain ⟨xs,m,rfl,hx,hlen,hn,hel⟩:=DataW.trod_array KI hd0
 have c1:Tryd.prog.cellsOf 58=1:=by kernel_rfl
 intro g i hg hi
 have hg:g=0:=Nat.eq_of_beq_eq_true hg
 subst hg
 have hi:i<16:=hi
 have key:W.cell? ⟨0,i,none⟩=some (.int .u32 (dA (i:Int))):=by
  have h1:=hel i hi
  have h2:xs[i]?=some xs[i]:=List.getElem?_eq_getElem (by omega)
  rw[h2,c1] at h1
  obtain ⟨k,e1,e2,_⟩:=DataW.trod_int KY h1
  have h3:=World.var?_cell IH hv0 i
  rw[h3]
  have h4:cs0.toList[i]?=some (.int .u32 k):=by
   have:((cs0.toList.drop (i*1)).take 1)[0]?=some (.int .u32 k):=by rw[e1];rfl
   rw[List.getElem?_take] at this
   simpa using this
  have h5:cs0[i]?=some (.int .u32 k):=by simpa using h4
  rw[h5]
  have hk:(nL.map fun n=>(DataW.lit (.int .u32 n):DataW Unit))[i]?=some (.lit (.int .u32 k)):=by
   have hx1:(.agg (nL.map fun n=>.lit (.int .u32 n)):DataW Unit)=.agg (xs.map (·.1)):=Kp.symm.trans (congrArg Prod.fst hx)
   have hx1:=DataW.agg.inj hx1
   rw[hx1,List.getElem?_map,h2]
   simp[e2]
  rw[List.getElem?_map] at hk
  have hs:dA (i:Int)=nL.getD i 0:=rfl
  rw[hs,List.getD_eq_getElem?_getD]
  cases ht:nL[i]? with
  |none=>rw[ht] at hk;cases hk
  |some x=>
   rw[ht] at hk
   simp only[Option.map_some,zC,DataW.lit.injEq,Lit.int.injEq] at hk
   rw[hk.2]
   rfl
 exact ⟨⟨_,key⟩,key⟩
theorem DY (os:Os)(args:Array Value):laidMetH Tryd.prog wc ((World.doorLaid Tryd.prog 400 os).forCall (fun _ _=>0) ⟨#[],args,[]⟩).memory:=
 laidMetH_of_parts3 (fuel:=8) (laidMet_of_run' 8 (by kernel_rfl) (by kernel_rfl)) (by kernel_rfl) (by kernel_rfl)
section
variable {H:Type} {enc:TypeId×Value→H}
theorem lb {a:Assume}{C:Checked}{os:Os}{f:FuncId}{fn:Func}{s:OpenSpec}{k:(H:Type)→List (DataW H)→Bool}(hk:s.cond=some k){F:Stop.Interp}{conds:List PathCond}{apart fresh handsOn again:Bool}{laid:List (String×DataW Unit)}
  (own:ownKnob C.prog.godebug=none) (started:os.Started) (noInit:C.prog.inits.idxOf? f=none) (hfn:C.prog.funcs[f]?=some fn)
  (witness:∃(w:World) (tape:Tape) (i:Input),w.os=os∧(w.forCall tape i).Shaped C.prog∧i.vars=[]∧Input.okWide C.prog (w.forCall tape i) .any w.heap.size f i∧
   ((s.pre enc C.prog fn conds apart (w.forCall tape i).memory i.args∧laidMetH C.prog laid (w.forCall tape i).memory)∧sizedMet enc C.prog fn s apart (w.forCall tape i).memory i.args)∧a.holds C.prog (lone (Frame.enter C.prog f i.args .normal) [] (w.forCall tape i)))
  (contract:∀(W:World) (base:Nat) (args:Array Value) (ds gs:List (DataW H)) (before:List MemPlace),
   (∀(j:Nat) t v,fn.params[j]?=some t→args[j]?=some v→Value.okWide C.prog W .any base t v)→
   DataW.Whole enc C.prog fn.params.toList s.vars apart W args.toList ds gs before→k H (ds++gs)=true→laidMetH C.prog laid W→
   Calls C.prog f args W fun e W'=>∃v,e=.returned v∧(s.at F).post enc C.prog fn apart fresh handsOn again W args v W'):
  ReturnsInHanded a C os f .any (fun w args=>(s.pre enc C.prog fn conds apart w args∧laidMetH C.prog laid w)∧sizedMet enc C.prog fn s apart w args) ((s.at F).post enc C.prog fn apart fresh handsOn again):=by
 refine returnsInHanded_of_calls own started noInit witness ?_
 intro w tape i _ _ _ hok hpre hholds
 obtain ⟨_,_,_,fn',hfn',_,_,_,_,hval⟩:=hok
 have e:fn'=fn:=Option.some.inj (hfn'.symm.trans hfn)
 subst e
 obtain ⟨ds,gs,before,hw,hc,hkk⟩:=(OpenSpec.pre_some hk conds apart _ _).1 hpre.1.1
 have hw':=DataW.Whole.of_heap (w':=w.forCall tape i) (by rfl) hw
 refine (contract (w.forCall tape i) w.heap.size i.args ds gs before hval hw' hkk (hpre.1.2.of_heap (by rfl))).mono fun e W' ⟨v,he,hp⟩=>?_
 subst he
 exact ChangeSpec.post_blind hp
theorem uQ {C:Checked}{os:Os}{f:FuncId}{fn:Func}{s:OpenSpec}{k:(H:Type)→List (DataW H)→Bool}(hk:s.cond=some k){apart:Bool}{laid:List (String×DataW Unit)}(w0:World)(args:Array Value)(fuel:Nat)(hos:w0.os=os)
  (hsh:(w0.forCall (fun _ _=>0) ⟨#[],args,[]⟩).Shaped C.prog)
  (hok:Input.okWideB C.prog (w0.forCall (fun _ _=>0) ⟨#[],args,[]⟩) f ⟨#[],args,[]⟩=true)
  {x:List (DataW H)×List (DataW H)×List MemPlace} (hx:DataW.whole enc C.prog (w0.forCall (fun _ _=>0) ⟨#[],args,[]⟩).memory fn.params.toList s.vars apart args.toList fuel=some x)
  (hkk:k H (x.1++x.2.1)=true)
  (hsz:s.bare.sizedB enc C.prog fn apart (w0.forCall (fun _ _=>0) ⟨#[],args,[]⟩).memory args fuel=true)
  (hl:laidMetH C.prog laid (w0.forCall (fun _ _=>0) ⟨#[],args,[]⟩).memory):
  ∃(w:World) (tape:Tape) (i:Input),w.os=os∧(w.forCall tape i).Shaped C.prog∧i.vars=[]∧Input.okWide C.prog (w.forCall tape i) .any w.heap.size f i∧
   ((s.pre enc C.prog fn [] apart (w.forCall tape i).memory i.args∧laidMetH C.prog laid (w.forCall tape i).memory)∧sizedMet enc C.prog fn s apart (w.forCall tape i).memory i.args)∧({}:Assume).holds C.prog (lone (Frame.enter C.prog f i.args .normal) [] (w.forCall tape i)):=
 ⟨w0,fun _ _=>0,⟨#[],args,[]⟩,hos,hsh,(Input.okWide_of_okWideB (base:=0) hok).1,(Input.okWide_of_okWideB hok).2,
  ⟨⟨(OpenSpec.pre_some hk [] apart _ _).2 ⟨x.1,x.2.1,x.2.2,DataW.Whole_of_whole hx,rfl,hkk⟩,hl⟩,sizedMet_of_sizedB hsz⟩,by
  simp only[Assume.holds]
  exact ⟨by simp,by simp,fun _=>Modest.zero,by simp,by simp⟩⟩
end
end
end Go.Proofs.YtcbcbjdobbgddaaDoor.Sym
