/- What a whole tree writes, by its table: the reference's EncodeWhole at once; and the writer that keeps its first error and tells at the end that the room was too small. -/
import Derived.Test.YtomeplopmndbgaaGreatQ5

set_option linter.unusedVariables false
set_option linter.unusedSimpArgs false
namespace Go.Proofs.YtomeplopmndbgaaGreat.Sym
open Go
open Go.IntKind (i8 i16 i32 i64 u8 u16 u32 u64)
noncomputable section
def aZ (a b:LI×Int):LI×Int:=if a.2≠0 then ([],a.2) else if b.2≠0 then ([],b.2) else (a.1++b.1,0)
mutual
def uE (f:Fd)(v:Int):Nd→LI×Int
 |.mk a ks=>if f.lab.2.1=9 then (if 16<ks.length then ([],9) else aZ (aB ks.length 4,0) (kE (f.kids.headD f) v ks)) else if f.lab.2.1=10 then cG v f.kids ks else cQ f v (.mk a ks)
termination_by n=>(SizeOf.sizeOf n,0)
def kE (f:Fd)(v:Int):List Nd→LI×Int
 |[]=>([],0)
 |k::ks=>aZ (uE f v k) (kE f v ks)
termination_by l=>(SizeOf.sizeOf l,0)
def cG (v:Int):List Fd→List Nd→LI×Int
 |f::fs,k::ks=>if jy f v=true then aZ (uE f v k) (cG v fs ks) else cG v fs ks
 |_,_=>([],0)
termination_by fs l=>(SizeOf.sizeOf l,0)
end
mutual
def hC (f:Fd):Nd→Prop
 |.mk a ks=>(f.lab.2.1=9→nY (f.kids.headD f) ks)∧(f.lab.2.1=10→ks.length=f.kids.length∧er f.kids ks)
termination_by n=>(SizeOf.sizeOf n,0)
def nY (f:Fd):List Nd→Prop
 |[]=>True
 |k::ks=>hC f k∧nY f ks
termination_by l=>(SizeOf.sizeOf l,0)
def er:List Fd→List Nd→Prop
 |f::fs,k::ks=>hC f k∧er fs ks
 |_,_=>True
termination_by fs l=>(SizeOf.sizeOf l,0)
end
theorem cv (v:Int)(l:List Nd):cG v [] l=([],0):=by rw[cG];simp
theorem YY (v:Int)(l:List Nd):dP v [] l=([],0):=by rw[dP];simp
theorem yf (f:Fd)(v:Int):∀ks:List Nd,(cP f v ks).1.length=ks.length
 |[]=>by rw[cP]
 |k::ks=>by rw[cP,zN,zN,yf f v ks]
theorem BD (f:Fd)(fs:List Fd)(v:Int):en (f::fs) v=if jy f v=true then f::en fs v else en fs v:=by
 unfold en;rw[List.filter_cons]
theorem Fk (v:Int):∀(fs:List Fd) (ks:List Nd),ks.length=fs.length→(bS v fs ks).1.length=(en fs v).length
 |[],ks,_=>by rw[uy];rfl
 |f::fs,[],h=>by simp at h
 |f::fs,k::ks,h=>by
  have ih:=Fk v fs ks (by simpa using h)
  rw[bS,BD]
  split
  ·rw[zN,zN,ih]
  ·exact ih
theorem yk (k:Int)(l:List Nd)(h:8<k):iE k (Tre.mk (k,(0,(false,(([]:LI),())))) l)=true:=by
 unfold iE
 simp;omega
theorem ag6 (v:Int):∀(N:Nat) (f:Fd) (n:Nd),aM n≤N→hC f n→cQ f v (bn f v n).1=uE f v n:=by
 intro N
 induction N with
 |zero=>intro f n h;have:=pT n;omega
 |succ N ih=>
  rintro f ⟨a,ks⟩ h hw
  rw[dA] at h
  have hks:∀k∈ks,aM k≤N:=fun k hk=>by have:=cI hk;simp only at h;omega
  rw[hC] at hw
  rw[bn,uE]
  have hi:∀(f:Fd) (l:List Nd),(∀k∈l,aM k≤N)→nY f l→ct f v (cP f v l).1=kE f v l:=by
   intro f l
   induction l with
   |nil=>intro _ _;rw[cP,ct,kE]
   |cons k l ihl=>
    intro hk hw
    rw[nY] at hw
    rw[cP,ct,kE,ih f k (hk k (by simp)) hw.1,ihl (fun k' hk'=>hk k' (List.mem_cons_of_mem _ hk')) hw.2]
    rfl
  have hz:∀(l:List Nd) (fs:List Fd),(∀k∈l,aM k≤N)→l.length=fs.length→er fs l→dP v (en fs v) (bS v fs l).1=cG v fs l:=by
   intro l
   induction l with
   |nil=>
    intro fs _ hl _
    cases fs with
    |nil=>rw[uy,cv];exact YY _ _
    |cons f fs=>simp at hl
   |cons k l ihl=>
    intro fs hk hl hw
    cases fs with
    |nil=>simp at hl
    |cons f fs=>
     rw[er] at hw
     have ih2:=ihl fs (fun k' hk'=>hk k' (List.mem_cons_of_mem _ hk')) (by simpa using hl) hw.2
     rw[bS,cG,BD]
     by_cases hh:jy f v=true
     ·rw[if_pos hh,if_pos hh,if_pos hh,dP,ih f k (hk k (by simp)) hw.1,ih2]
      rfl
     ·rw[if_neg hh,if_neg hh,if_neg hh]
      exact ih2
  by_cases h9:f.lab.2.1=9
  ·rw[if_pos h9,if_pos h9,cQ,h9,yk 9 _ (by omega)]
   rw[if_neg (by decide),if_neg (by decide),if_pos rfl,yf,hi _ ks hks (hw.1 h9)]
   split
   ·rfl
   ·unfold aZ;simp
  ·rw[if_neg h9,if_neg h9]
   by_cases h10:f.lab.2.1=10
   ·rw[if_pos h10,if_pos h10,cQ,h10,yk 10 _ (by omega)]
    rw[if_neg (by decide),if_neg (by decide),if_neg (by decide),if_pos rfl,ch,Fk v _ _ (hw.2 h10).1,if_neg (by simp),hz ks _ hks (hw.2 h10).1 (hw.2 h10).2]
   ·rw[if_neg h10,if_neg h10]
theorem jI {k:Int}{r:Bool}{v:Int}{t:List Fd}{ks:List Nd}(ht:gC k r=(t,0))(hc:nM t=0)(hl:ks.length=t.length)(hw:er t ks):
  eE k r v (bq ks)=if v<0∨3<v then ([],8) else if (bS v t ks).2=false then ([],7) else if (cG v t ks).2≠0 then ([],(cG v t ks).2) else if 130048<(cG v t ks).1.length then ([],4) else ((cG v t ks).1,0):=by
 have hd:hC (Tre.mk (([]:LI),((10:Int),((0:Int),((0:Int),())))) t) (bq ks):=by
  rw[hC]
  exact ⟨fun h=>absurd (show (10:Int)=9 from h) (by decide),fun _=>⟨hl,hw⟩⟩
 have hcut:=ag6 v _ _ _ (Nat.le_refl _) hd
 have ecut:bn (Tre.mk (([]:LI),((10:Int),((0:Int),((0:Int),())))) t) v (bq ks)=(bq (bS v t ks).1,(bS v t ks).2):=by
  rw[bn];exact (if_neg (show ¬((10:Int)=9) by decide)).trans (if_pos rfl)
 have eW:uE (Tre.mk (([]:LI),((10:Int),((0:Int),((0:Int),())))) t) v (bq ks)=cG v t ks:=by
  rw[uE];exact (if_neg (show ¬((10:Int)=9) by decide)).trans (if_pos rfl)
 have eV:∀l,cQ (Tre.mk (([]:LI),((10:Int),((0:Int),((0:Int),())))) t) v (bq l)=ch t v (bq l):=fun l=>by
  rw[cQ]
  refine (if_neg ?_).trans ((if_neg (show ¬(10:Int)≤4 by decide)).trans ((if_neg (show ¬(10:Int)=9 by decide)).trans (if_pos rfl)))
  show ¬ iE 10 (bq l)=false
  rw[yk 10 _ (by omega)];decide
 rw[eW,ecut,eV] at hcut
 unfold eE
 rw[ht]
 simp only
 rw[if_neg (by simp)]
 by_cases hv:v<0∨3<v
 ·rw[if_pos hv,if_pos hv]
 rw[if_neg hv,if_neg hv,ecut]
 by_cases h7:(bS v t ks).2=false
 ·rw[if_pos h7,if_pos h7]
 rw[if_neg h7,if_neg h7]
 unfold va
 have hb:rF t v=0:=by unfold rF;rw[if_neg hv,hc]
 rw[hb,yk 10 _ (by omega),if_neg (by simp),if_neg (by decide),hcut]
def Wri (r:LI×Int)(f:bf→bf):Prop:=∀s:bf,s.2.2.length≤130048→
 (s.1≠0→(f s).1=s.1)∧(s.1=0→(f s).1=r.2)∧((f s).1=0→(((f s).2.1=false↔s.2.1=false∧s.2.2.length+r.1.length≤130048)∧((f s).2.1=false→(f s).2.2=s.2.2++r.1)))∧(f s).2.2.length≤130048
theorem Wri.seq {r1 r2:LI×Int}{f g:bf→bf}(hf:Wri r1 f)(hg:Wri r2 g):Wri (aZ r1 r2) fun s=>g (f s):=by
 intro s hs
 obtain ⟨f1,f2,f3,f4⟩:=hf s hs
 obtain ⟨g1,g2,g3,g4⟩:=hg (f s) f4
 unfold aZ
 refine ⟨fun h=>?_,fun h=>?_,fun h=>?_,g4⟩
 ·have:=f1 h
  rw[g1 (by rw[this];exact h),this]
 ·have:=f2 h
  by_cases h1:r1.2=0
  ·rw[g2 (by rw[this];exact h1)]
   by_cases h2:r2.2=0
   ·simp[h1,h2]
   ·simp[h1,h2]
  ·rw[g1 (by rw[this];exact h1),this]
   simp[h1]
 ·by_cases h0:(f s).1=0
  ·have hs0:s.1=0:=by
    rcases Classical.em (s.1=0) with h' | h'
    ·exact h'
    ·rw[f1 h'] at h0;exact absurd h0 h'
   have h1:r1.2=0:=by rw[← f2 hs0];exact h0
   have h2:r2.2=0:=by rw[← g2 h0];exact h
   obtain ⟨a1,a2⟩:=f3 h0
   obtain ⟨b1,b2⟩:=g3 h
   simp only[h1,h2,ne_eq,not_true_eq_false,if_false,zH]
   constructor
   ·constructor
    ·intro hx
     obtain ⟨c1,c2⟩:=b1.1 hx
     obtain ⟨c3,c4⟩:=a1.1 c1
     rw[a2 c1,zH] at c2
     exact ⟨c3,by omega⟩
    ·rintro ⟨c1,c2⟩
     have c3:=a1.2 ⟨c1,by omega⟩
     exact b1.2 ⟨c3,by rw[a2 c3,zH];omega⟩
   ·intro hx
    have c1:=(b1.1 hx).1
    rw[b2 hx,a2 c1,zK]
  ·rw[g1 h0] at h;exact absurd h h0
theorem Wri.fail {e:Int}(he:e≠0):Wri ([],e) (bU e):=by
 intro s hs
 unfold bU
 refine ⟨fun h=>by rw[if_neg h],fun h=>by rw[if_pos h],fun h=>?_,by split <;> exact hs⟩
 split at h
 ·exact absurd h he
 ·rename_i h';exact absurd h h'
theorem Wri.put (x:Int)(n:Nat):Wri (aB x n,0) (ac x n):=by
 intro s hs
 refine ⟨fun h=>by unfold ac;split <;> rfl,fun h=>by unfold ac;split <;> exact h,fun h=>?_,aA _ _ hs⟩
 unfold ac
 rw[bj]
 split
 ·constructor
  ·constructor
   ·intro h';cases h'
   ·rintro ⟨_,h'⟩;omega
  ·intro h';cases h'
 ·constructor
  ·constructor
   ·intro h';exact ⟨h',by omega⟩
   ·rintro ⟨h',_⟩;exact h'
  ·intro _;rfl
theorem Wri.raw (p:LI):Wri (p,0) (lm p):=by
 intro s hs
 refine ⟨fun h=>by unfold lm;split <;> rfl,fun h=>by unfold lm;split <;> exact h,fun h=>?_,Ao _ hs⟩
 have hp:(p,(0:Int)).1.length=p.length:=rfl
 rw[hp]
 unfold lm
 split
 ·constructor
  ·constructor
   ·intro h';cases h'
   ·rintro ⟨_,h'⟩;omega
  ·intro h';cases h'
 ·constructor
  ·constructor
   ·intro h';exact ⟨h',by omega⟩
   ·rintro ⟨h',_⟩;exact h'
  ·intro _;rfl
theorem Wri.ofEq {r r':LI×Int}{f:bf→bf}(h:Wri r f)(e:r=r'):Wri r' f:=e▸h
theorem Wri.nop:Wri ([],0) fun s=>s:=by
 intro s hs
 exact ⟨fun _=>rfl,fun h=>h,fun _=>⟨⟨fun h=>⟨h,by simpa using hs⟩,fun h=>h.1⟩,fun _=>by simp⟩,hs⟩
def lP (t:LI):LI×Int:=if (cC t).2=false then ([],6) else if 255<t.length then ([],4) else (aB t.length 2++t,0)
theorem Wri.str (t:LI):Wri (lP t) (bJ t):=by
 unfold lP
 by_cases h1:(cC t).2=false
 ·rw[if_pos h1]
  have:bJ t=bU 6:=funext fun s=>by unfold bJ;rw[if_pos h1]
  rw[this];exact Wri.fail (by decide)
 ·rw[if_neg h1]
  by_cases h2:255<t.length
  ·rw[if_pos h2]
   have:bJ t=bU 4:=funext fun s=>by unfold bJ;rw[if_neg h1,if_pos (by omega)]
   rw[this];exact Wri.fail (by decide)
  ·rw[if_neg h2]
   have:bJ t=fun s=>lm t (ac t.length 2 s):=funext fun s=>by unfold bJ;rw[if_neg h1,if_neg (by omega)]
   rw[this]
   exact ((Wri.put _ _).seq (Wri.raw _)).ofEq (by unfold aZ;simp)
def BI (n:Bool×(LI×Unit)):LI×Int:=if n.1=true then (if n.2.1.length=0 then (aB (-1) 2,0) else ([],70)) else lP n.2.1
theorem Wri.name (n:Bool×(LI×Unit)):Wri (BI n) (ey n):=by
 unfold BI
 by_cases h1:n.1=true
 ·rw[if_pos h1]
  by_cases h2:n.2.1=[]
  ·rw[if_pos (by rw[h2];rfl)]
   have:ey n=ac (-1) 2:=funext fun s=>by unfold ey;rw[if_neg (fun h=>h.2 h2),if_pos h1]
   rw[this];exact Wri.put _ _
  ·rw[if_neg (fun h=>h2 (zF h))]
   have:ey n=bU 70:=funext fun s=>by unfold ey;rw[if_pos ⟨h1,h2⟩]
   rw[this];exact Wri.fail (by decide)
 ·rw[if_neg h1]
  have:ey n=bJ n.2.1:=funext fun s=>by unfold ey;rw[if_neg (fun h=>h1 h.1),if_neg h1]
  rw[this];exact Wri.str _
def Fj (n:Bool×(LI×Unit)):LI×Int:=if n.1=true then (if n.2.1.length=0 then (aB (-1) 4,0) else ([],70)) else (aB n.2.1.length 4++n.2.1,0)
theorem Wri.blob (n:Bool×(LI×Unit))(hn:n.2.1.length≤2147483647):Wri (Fj n) (cE n):=by
 unfold Fj
 by_cases h1:n.1=true
 ·rw[if_pos h1]
  by_cases h2:n.2.1.length=0
  ·rw[if_pos h2]
   have:cE n=ac (-1) 4:=funext fun s=>by unfold cE;rw[if_neg (fun h=>by omega),if_pos h1]
   rw[this];exact Wri.put _ _
  ·rw[if_neg h2]
   have:cE n=bU 70:=funext fun s=>by unfold cE;rw[if_pos ⟨h1,by omega⟩]
   rw[this];exact Wri.fail (by decide)
 ·rw[if_neg h1]
  have hwr:i32.wrap (n.2.1.length:Int)=n.2.1.length:=dY (by simp[eD,IntKind.min,IntKind.max,IntKind.signed,IntKind.bits];omega)
  have:cE n=fun s=>lm n.2.1 (ac n.2.1.length 4 s):=funext fun s=>by unfold cE;rw[if_neg (fun h=>h1 h.1),if_neg h1,hwr]
  rw[this]
  exact ((Wri.put _ _).seq (Wri.raw _)).ofEq (by unfold aZ;simp)
def uZ {α:Type}(one:α→LI×Int):List α→LI×Int
 |[]=>([],0)
 |x::xs=>aZ (one x) (uZ one xs)
theorem Wri.fold {α:Type}{one:α→LI×Int}{f:α→bf→bf}:∀{xs:List α},(∀x∈xs,Wri (one x) (f x))→Wri (uZ one xs) fun s=>xs.foldl (fun s x=>f x s) s
 |[],_=>Wri.nop
 |x::xs,h=>(h x (by simp)).seq (Wri.fold fun y hy=>h y (List.mem_cons_of_mem _ hy))
def du {α:Type}(one:α→LI×Int)(xs:List α):LI×Int:=if 16<xs.length then ([],9) else aZ (aB xs.length 4,0) (uZ one xs)
theorem Wri.items {α:Type}{one:α→LI×Int}{f:α→bf→bf}{xs:List α}(h:∀x∈xs,Wri (one x) (f x)):Wri (du one xs) (bE f xs):=by
 unfold du
 by_cases h1:16<xs.length
 ·rw[if_pos h1]
  have:bE f xs=bU 9:=funext fun s=>by unfold bE;rw[if_pos (by omega)]
  rw[this];exact Wri.fail (by decide)
 ·rw[if_neg h1]
  have:bE f xs=fun s=>xs.foldl (fun s x=>f x s) (ac xs.length 4 s):=funext fun s=>by unfold bE;rw[if_neg (by omega)]
  rw[this]
  exact (Wri.put _ _).seq (Wri.fold h)
theorem Wri.hasE (v lo hi x:Int)(n:Nat):Wri (if lo≤v∧v≤hi then (aB x n,0) else ([],0)) (cM v lo hi x n):=by
 by_cases h:lo≤v∧v≤hi
 ·rw[if_pos h]
  have:cM v lo hi x n=ac x n:=funext fun s=>by unfold cM;rw[if_pos h]
  rw[this];exact Wri.put _ _
 ·rw[if_neg h]
  have:cM v lo hi x n=fun s=>s:=funext fun s=>by unfold cM;rw[if_neg h]
  rw[this];exact Wri.nop
theorem Wri.done {r:LI×Int}{f:bf→bf}(h:Wri r f)(e:Int):(bD (f (e,(false,[]))),bm (f (e,(false,[]))))=if e≠0 then ([],e) else if r.2≠0 then ([],r.2) else if 130048<r.1.length then ([],4) else (r.1,0):=by
 obtain ⟨h1,h2,h3,_⟩:=h (e,(false,[])) (by simp)
 by_cases he:e=0
 ·subst he
  have h2:=h2 rfl
  by_cases hr:r.2=0
  ·have h0:(f (0,(false,[]))).1=0:=by rw[h2];exact hr
   obtain ⟨h4,h5⟩:=h3 h0
   have h4:(f (0,(false,[]))).2.1=false↔r.1.length≤130048:=
    ⟨fun hx=>by have:=(h4.1 hx).2;simpa using this,fun hx=>h4.2 ⟨rfl,by simpa using hx⟩⟩
   by_cases hl:130048<r.1.length
   ·have hf:(f (0,(false,[]))).2.1=true:=by
     cases hx:(f (0,(false,[]))).2.1 with
     |true=>rfl
     |false=>have:=h4.1 hx;omega
    simp[bD,bm,h0,hf,hr,hl]
   ·have hf:=h4.2 (by omega)
    have h6:=h5 hf
    simp[bD,bm,h0,hf,hr,hl,h6]
  ·have h0:¬(f (0,(false,[]))).1=0:=by rw[h2];exact hr
   simp[bD,bm,h2,hr]
 ·have h1:=h1 he
  simp[bD,bm,h1,he]
theorem Je {n:Int}(h:eD .i8 n):iB n 1=true:=by
 simp only[eD,IntKind.min,IntKind.max,IntKind.signed,IntKind.bits] at h
 simp at h
 unfold iB
 rw[if_neg (by decide),if_pos]
 simp;omega
theorem nR {n:Int}(h:eD .i16 n):iB n 2=true:=by
 simp only[eD,IntKind.min,IntKind.max,IntKind.signed,IntKind.bits] at h
 simp at h
 unfold iB
 rw[if_neg (by decide),if_pos]
 simp;omega
theorem bV {n:Int}(h:eD .i32 n):iB n 4=true:=by
 simp only[eD,IntKind.min,IntKind.max,IntKind.signed,IntKind.bits] at h
 simp at h
 unfold iB
 rw[if_neg (by decide),if_pos]
 simp;omega
theorem fq (n:Int):iB n 8=true:=by unfold iB;rw[if_pos (by decide)]
theorem ym {nm:LI}{k lo hi:Int}{e:List Fd}{v:Int}{n:Nd}(h9:k≠9)(h10:k≠10):uE (cO nm k lo hi e) v n=cQ (cO nm k lo hi e) v n:=by
 obtain ⟨a,ks⟩:=n
 rw[uE]
 exact (if_neg h9).trans (if_neg h10)
theorem aL {nm:LI}{k lo hi:Int}{e:List Fd}{v:Int}{n:Nd}(h9:k≠9)(h10:k≠10):(bn (cO nm k lo hi e) v n).2=true:=by
 obtain ⟨a,ks⟩:=n
 rw[bn]
 exact congrArg Prod.snd ((if_neg h9).trans (if_neg h10))
theorem aF {nm:LI}{k lo hi:Int}{e:List Fd}{n:Nd}(h9:k≠9)(h10:k≠10):hC (cO nm k lo hi e) n:=by
 obtain ⟨a,ks⟩:=n
 rw[hC]
 exact ⟨fun h=>absurd h h9,fun h=>absurd h h10⟩
theorem adZ {k n:Int}(h:k<5):iE k (av k n)=true:=by
 unfold iE
 simp;omega
theorem bG {nm:LI}{k lo hi n w:Int}{e:List Fd}{v:Int}(hk:k≤4)(hw:bZ k=w)(hf:iB n w=true):uE (cO nm k lo hi e) v (av k n)=(aB n w.toNat,0):=by
 rw[ym (by omega) (by omega),cQ]
 refine (if_neg ?_).trans ((if_pos hk).trans ?_)
 ·show ¬ iE k (av k n)=false
  rw[adZ (by omega)];decide
 ·show (if iB n (bZ k)=true then _ else _)=_
  rw[hw,if_pos hf]
theorem pS {nm:LI}{lo hi:Int}{e:List Fd}{v:Int}(s:LI):uE (cO nm 5 lo hi e) v (gd s)=lP s:=by
 rw[ym (by decide) (by decide),cQ]
 refine (if_neg ?_).trans ((if_neg (show ¬(5:Int)≤4 by decide)).trans ((if_neg (show ¬(5:Int)=9 by decide)).trans ((if_neg (show ¬(5:Int)=10 by decide)).trans ((if_neg (show ¬(false=true) by decide)).trans ?_))))
 ·show ¬ iE 5 (gd s)=false
  unfold iE;simp
 ·unfold lP
  by_cases h1:(cC s).2=false
  ·rw[if_pos h1];exact if_pos ⟨(show (5:Int)≤6 by decide),h1⟩
  ·rw[if_neg h1]
   refine (if_neg (fun h=>h1 h.2)).trans ?_
   by_cases h2:255<s.length
   ·rw[if_pos h2];exact if_pos ⟨(show (5:Int)≤6 by decide),h2⟩
   ·rw[if_neg h2];exact if_neg (fun h=>h2 h.2)
theorem Jm {nm:LI}{lo hi:Int}{e:List Fd}{v:Int}(n:fv.den):uE (cO nm 6 lo hi e) v (ji n)=BI n:=by
 obtain ⟨z,s,⟨⟩⟩:=n
 rw[ym (by decide) (by decide),cQ]
 refine (if_neg ?_).trans ((if_neg (show ¬(6:Int)≤4 by decide)).trans ((if_neg (show ¬(6:Int)=9 by decide)).trans ((if_neg (show ¬(6:Int)=10 by decide)).trans ?_)))
 ·show ¬ iE 6 (ji (z,(s,())))=false
  unfold iE;simp
 ·unfold BI
  by_cases hz:z=true
  ·refine (if_pos hz).trans ?_
   rw[if_pos hz];rfl
  ·refine (if_neg hz).trans ?_
   rw[if_neg hz]
   unfold lP
   by_cases h1:(cC s).2=false
   ·rw[if_pos h1];exact if_pos ⟨(show (6:Int)≤6 by decide),h1⟩
   ·rw[if_neg h1]
    refine (if_neg (fun h=>h1 h.2)).trans ?_
    by_cases h2:255<List.length s
    ·rw[if_pos h2];exact if_pos ⟨(show (6:Int)≤6 by decide),h2⟩
    ·rw[if_neg h2];exact if_neg (fun h=>h2 h.2)
theorem FJ {nm:LI}{lo hi:Int}{e:List Fd}{v:Int}(n:rB.den):uE (cO nm 8 lo hi e) v (iN n)=Fj n:=by
 obtain ⟨z,s,⟨⟩⟩:=n
 rw[ym (by decide) (by decide),cQ]
 refine (if_neg ?_).trans ((if_neg (show ¬(8:Int)≤4 by decide)).trans ((if_neg (show ¬(8:Int)=9 by decide)).trans ((if_neg (show ¬(8:Int)=10 by decide)).trans ?_)))
 ·show ¬ iE 8 (iN (z,(s,())))=false
  unfold iE;simp
 ·unfold Fj
  by_cases hz:z=true
  ·refine (if_pos hz).trans ?_
   rw[if_pos hz];rfl
  ·refine (if_neg hz).trans ?_
   rw[if_neg hz]
   exact (if_neg (fun h=>absurd (show (8:Int)≤6 from h.1) (by decide))).trans (if_neg (fun h=>absurd (show (8:Int)≤6 from h.1) (by decide)))
theorem fu {α:Type}{nm:LI}{lo hi:Int}{g:Fd}{v:Int}(F:α→Nd)(l:List α):uE (cO nm 9 lo hi [g]) v (ba (l.map F))=du (fun x=>uE g v (F x)) l:=by
 rw[uE]
 refine (if_pos rfl).trans ?_
 unfold du
 have:∀l:List α,kE g v (l.map F)=uZ (fun x=>uE g v (F x)) l:=by
  intro l
  induction l with
  |nil=>rw[List.map_nil,kE];rfl
  |cons x l ih=>rw[zL,kE,ih];rfl
 rw[List.length_map]
 show (if 16<l.length then _ else aZ _ (kE g v (l.map F)))=_
 rw[this]
theorem jJ {nm:LI}{lo hi:Int}{fs:List Fd}{v:Int}(ks:List Nd):uE (cO nm 10 lo hi fs) v (bq ks)=cG v fs ks:=by
 rw[uE];exact (if_neg (show ¬((10:Int)=9) by decide)).trans (if_pos rfl)
theorem dh {α:Type}{nm:LI}{lo hi:Int}{g:Fd}{v:Int}(F:α→Nd)(l:List α):(bn (cO nm 9 lo hi [g]) v (ba (l.map F))).2=l.all fun x=>(bn g v (F x)).2:=by
 rw[bn]
 refine (congrArg Prod.snd (if_pos rfl)).trans ?_
 show (cP g v (l.map F)).2=_
 induction l with
 |nil=>rw[List.map_nil,cP];rfl
 |cons x l ih=>rw[zL,cP,List.all_cons,ih]
theorem fG {nm:LI}{lo hi:Int}{fs:List Fd}{v:Int}(ks:List Nd):(bn (cO nm 10 lo hi fs) v (bq ks)).2=(bS v fs ks).2:=by
 rw[bn];exact congrArg Prod.snd ((if_neg (show ¬((10:Int)=9) by decide)).trans (if_pos rfl))
theorem cN {α:Type}{nm:LI}{lo hi:Int}{g:Fd}(F:α→Nd)(l:List α)(h:∀x,hC g (F x)):hC (cO nm 9 lo hi [g]) (ba (l.map F)):=by
 rw[hC]
 refine ⟨fun _=>?_,fun h=>absurd (show (9:Int)=10 from h) (by decide)⟩
 show nY g (l.map F)
 induction l with
 |nil=>rw[List.map_nil,nY];trivial
 |cons x l ih=>rw[zL,nY];exact ⟨h x,ih⟩
theorem dK {nm:LI}{lo hi:Int}{fs:List Fd}{ks:List Nd}(hl:ks.length=fs.length)(h:er fs ks):hC (cO nm 10 lo hi fs) (bq ks):=by
 rw[hC]
 exact ⟨fun h=>absurd (show (10:Int)=9 from h) (by decide),fun _=>⟨hl,h⟩⟩
theorem cj:er [] []:=by rw[er];trivial;simp
theorem au {f:Fd}{fs:List Fd}{k:Nd}{ks:List Nd}(h1:hC f k)(h2:er fs ks):er (f::fs) (k::ks):=by rw[er];exact ⟨h1,h2⟩
theorem bc {f:Fd}{fs:List Fd}{k:Nd}{ks:List Nd}{v:Int}(h:jy f v=true):cG v (f::fs) (k::ks)=aZ (uE f v k) (cG v fs ks):=by rw[cG,if_pos h]
theorem P6 {f:Fd}{fs:List Fd}{k:Nd}{ks:List Nd}{v:Int}(h:jy f v=false):cG v (f::fs) (k::ks)=cG v fs ks:=by rw[cG,if_neg (by rw[h];decide)]
theorem bd {f:Fd}{fs:List Fd}{k:Nd}{ks:List Nd}{v:Int}(h:jy f v=true):(bS v (f::fs) (k::ks)).2=((bn f v k).2&&(bS v fs ks).2):=by rw[bS,if_pos h]
theorem adS {f:Fd}{fs:List Fd}{k:Nd}{ks:List Nd}{v:Int}(h:jy f v=false):(bS v (f::fs) (k::ks)).2=(cD k&&(bS v fs ks).2):=by rw[bS,if_neg (by rw[h];decide)]
theorem ax {nm:LI}{k lo hi v:Int}{e:List Fd}(h1:lo≤v)(h2:v≤hi):jy (cO nm k lo hi e) v=true:=if_pos ⟨h1,h2⟩
theorem Am {nm:LI}{k lo hi v:Int}{e:List Fd}(h:v<lo∨hi<v):jy (cO nm k lo hi e) v=false:=if_neg (by show ¬(lo≤v∧v≤hi);omega)
theorem pR {nm:LI}{k lo hi:Int}{e fs:List Fd}{n:Nd}{ks:List Nd}{v:Int}:cG v (cO nm k lo hi e::fs) (n::ks)=if lo≤v∧v≤hi then aZ (uE (cO nm k lo hi e) v n) (cG v fs ks) else cG v fs ks:=by
 by_cases h:lo≤v∧v≤hi
 ·rw[if_pos h,bc (ax h.1 h.2)]
 ·rw[if_neg h,P6 (Am (by omega))]
theorem dl {nm:LI}{k lo hi:Int}{e fs:List Fd}{n:Nd}{ks:List Nd}{v:Int}:(bS v (cO nm k lo hi e::fs) (n::ks)).2=((if lo≤v∧v≤hi then (bn (cO nm k lo hi e) v n).2 else cD n)&&(bS v fs ks).2):=by
 by_cases h:lo≤v∧v≤hi
 ·rw[if_pos h,bd (ax h.1 h.2)]
 ·rw[if_neg h,adS (Am (by omega))]
theorem dk {v:Int}:(bS v [] []).2=true:=by rw[uy]
theorem bh {k n:Int}:cD (av k n)=(n == 0):=by unfold cD;by_cases h:n=0 <;> simp[h]
theorem rq {n:fv.den}:cD (ji n)=(n.1 == false&&decide (n.2.1=[])):=by
 obtain ⟨z,s,⟨⟩⟩:=n
 unfold cD
 cases z <;> simp
def okF:Nat→Int→Fd→Bool
 |0,_,_=>false
 |n+1,d,.mk a ks=>!(decide (a.1.length=0))&&(!(decide (a.2.2.1<0))&&(!(decide (3<a.2.2.2.1))&&(!(decide (a.2.2.2.1<a.2.2.1))&&(!(decide (a.2.1<1))&&(!(decide (10<a.2.1)) &&
   (if a.2.1<9 then decide (ks.length=0) else
    (!(decide (ks.length<1))&&(!(decide (16<ks.length))&&(!(decide (8<d+1))&&(nO ks 0 ks&&ks.all fun k=>okF n (d+1) k))))&&(rp ks 5 a.2.2.1 a.2.2.2.1&&(decide (a.2.1=10) || decide (ks.length=1)))))))))
theorem nQ {d:Int}:∀{l:List Fd},(∀k∈l,fb d k=true)→dy d l=true
 |[],_=>by rw[dy]
 |k::l,h=>by rw[dy,h k (by simp),nQ (l:=l) fun k' hk'=>h k' (List.mem_cons_of_mem _ hk')];rfl
theorem IX:∀(n:Nat) (d:Int) (f:Fd),okF n d f=true→fb d f=true
 |0,_,_,h=>by cases h
 |n+1,d,.mk a ks,h=>by
  rw[okF] at h
  simp only[zA,Bool.not_eq_true',decide_eq_false_iff_not] at h
  obtain ⟨h1,h2,h3,h4,h5,h6,h7⟩:=h
  rw[fb,if_neg h1,if_neg h2,if_neg h3,if_neg h4,if_neg h5,if_neg h6]
  by_cases h9:a.2.1<9
  ·rw[if_pos h9] at h7 ⊢
   rw[if_pos (of_decide_eq_true h7)]
  ·rw[if_neg h9] at h7 ⊢
   simp only[zA,Bool.not_eq_true',decide_eq_false_iff_not,Bool.or_eq_true,zB,zJ] at h7
   obtain ⟨⟨g1,g2,g3,g4,g5⟩,g6,g7⟩:=h7
   have hl:dz (d+1) ks=true:=by
    rw[dz,if_neg g1,if_neg g2,if_neg g3,g4,nQ fun k hk=>IX n _ k (g5 k hk)];rfl
   rw[hl,if_neg (by decide),g6,if_neg (by decide)]
   split
   ·rfl
   ·rename_i h10
    rw[if_pos (g7.resolve_left h10)]
theorem pP {t:List Fd}(h:(!(decide (t.length<1))&&(!(decide (16<t.length))&&(nO t 0 t&&t.all fun k=>okF 9 1 k)))=true):nM t=0:=by
 simp only[zA,Bool.not_eq_true',decide_eq_false_iff_not,zJ] at h
 obtain ⟨g1,g2,g4,g5⟩:=h
 unfold nM
 rw[if_pos]
 rw[dz,if_neg g1,if_neg g2,if_neg (by decide),g4,nQ fun k hk=>IX 9 _ k (g5 k hk)];rfl
theorem PL:nM o6=0:=pP rfl
theorem PK:nM o5=0:=pP rfl
theorem PN:nM ve=0:=pP rfl
theorem PM:nM vd=0:=pP rfl
theorem PP:nM vg=0:=pP rfl
theorem PO:nM vf=0:=pP rfl
end
end Go.Proofs.YtomeplopmndbgaaGreat.Sym
namespace Go.Proofs.YtomeplopmndbgaaGreat.Sym
open Go
noncomputable section
theorem ej (k:Int)(r:Bool)(v:Int)(n:Nd):(eE k r v n).1.length≤130048:=by
 unfold eE va
 repeat' split
 all_goals first | (simp;done) | (dsimp only;omega)
theorem vb {e v lo hi:Int}{z:Bool}:aq v z lo hi (e,(false,([]:LI)))=((if e≠0 then e else if z=false∧(v<lo∨hi<v) then 7 else 0),(false,[])):=by
 unfold aq bU
 by_cases h:z=false∧(v<lo∨hi<v)
 ·rw[if_pos h]
  by_cases he:e=0
  ·simp[he,h]
  ·simp[he]
 ·rw[if_neg h]
  by_cases he:e=0
  ·simp[he,h]
  ·simp[he]
def Qk (p:cJ.den):LI×Int:=aZ (aB p.1 4,0) (aZ (Fj p.2.1) ([],0))
def tj (t:ar.den):LI×Int:=aZ (lP t.1) (aZ (du Qk t.2.1) ([],0))
theorem Wri.part (p:cJ.den)(h:LN p=true):Wri (Qk p) (lB p):=(Wri.put _ _).seq ((Wri.blob _ (of_decide_eq_true h)).seq Wri.nop)
theorem Wri.topic (t:ar.den)(h:yE t=true):Wri (tj t) (f5 t):=(Wri.str _).seq ((Wri.items fun p hp=>Wri.part p (List.all_eq_true.1 h p hp)).seq Wri.nop)
theorem ad3 {v:Int}{p:cJ.den}(hv:0≤v∧v≤3)(h:cJ.wf p):uE (cO [112,97,114,116] 10 0 3 [cO [105,110,100,101,120] 3 0 3 [],cO [114,101,99,115] 8 0 3 []]) v (gp p)=Qk p:=by
 unfold gp Qk
 rw[jJ,bc (ax hv.1 hv.2),bc (ax hv.1 hv.2),cv,bG (by decide) (w:=4) rfl (bV h.1),FJ]
 rfl
theorem cw {α:Type}{f g:α→LI×Int}{l:List α}(h:∀x∈l,f x=g x):du f l=du g l:=by
 have:uZ f l=uZ g l:=by
  induction l with
  |nil=>rfl
  |cons x l ih=>
   rw[uZ,uZ,h x (by simp),ih fun y hy=>h y (List.mem_cons_of_mem _ hy)]
 unfold du
 rw[this]
theorem Jn {v:Int}{t:ar.den}(hv:0≤v∧v≤3)(h:ar.wf t):uE (cO [116,111,112,105,99] 10 0 3 [cO [110,97,109,101] 5 0 3 [],cO [112,97,114,116,115] 9 0 3 [cO [112,97,114,116] 10 0 3 [cO [105,110,100,101,120] 3 0 3 [],cO [114,101,99,115] 8 0 3 []]]]) v (c6 t)=tj t:=by
 unfold c6 tj
 rw[jJ,bc (ax hv.1 hv.2),bc (ax hv.1 hv.2),cv,pS,fu,cw fun p hp=>ad3 hv (h.2.1.2 p hp)]
theorem SU {v:Int}{p:cJ.den}(hv:0≤v∧v≤3):(bn (cO [112,97,114,116] 10 0 3 [cO [105,110,100,101,120] 3 0 3 [],cO [114,101,99,115] 8 0 3 []]) v (gp p)).2=true:=by
 unfold gp
 rw[fG,bd (ax hv.1 hv.2),bd (ax hv.1 hv.2),dk,aL (by decide) (by decide),aL (by decide) (by decide)];rfl
theorem BC {v:Int}{t:ar.den}(hv:0≤v∧v≤3):(bn (cO [116,111,112,105,99] 10 0 3 [cO [110,97,109,101] 5 0 3 [],cO [112,97,114,116,115] 9 0 3 [cO [112,97,114,116] 10 0 3 [cO [105,110,100,101,120] 3 0 3 [],cO [114,101,99,115] 8 0 3 []]]]) v (c6 t)).2=true:=by
 unfold c6
 rw[fG,bd (ax hv.1 hv.2),bd (ax hv.1 hv.2),dk,aL (by decide) (by decide),dh]
 rw[List.all_eq_true.2 fun p _=>SU hv];rfl
theorem BK (m:ik.den):er o6 [ji m.1,av 2 m.2.1,av 3 m.2.2.1,ba (m.2.2.2.1.map c6)]:=by
 unfold o6 b8
 refine au (aF (by decide) (by decide)) (au (aF (by decide) (by decide)) (au (aF (by decide) (by decide)) (au ?_ cj)))
 refine cN _ _ fun t=>dK rfl (au (aF (by decide) (by decide)) (au ?_ cj))
 exact cN _ _ fun p=>dK rfl (au (aF (by decide) (by decide)) (au (aF (by decide) (by decide)) cj))
theorem age {v:Int}{m:ik.den}(hm:ik.wf m)(hok:cH m.2.2.2.1=true):(bD (ri v m),bm (ri v m))=cZ v m:=by
 unfold cZ bv
 rw[jI (t:=o6) rfl PL rfl (BK m)]
 unfold ri
 rw[vb]
 have hitems:Wri (du tj m.2.2.2.1) (bE f5 m.2.2.2.1):=Wri.items fun t ht=>Wri.topic t (List.all_eq_true.1 hok t ht)
 unfold aV
 by_cases hv:v<0∨3<v
 ·rw[if_pos hv,if_pos hv]
  have hr:=(Wri.put m.2.1 2).seq ((Wri.put m.2.2.1 4).seq hitems)
  have ht:∀s,rn v m.1 s=s:=fun s=>by unfold rn;rw[if_neg (by omega)]
  rw[ht]
  exact (hr.done _).trans (if_pos (by simp))
 rw[if_neg hv,if_neg hv]
 have hv':0≤v∧v≤3:=by omega
 have hcz:(bS v o6 [ji m.1,av 2 m.2.1,av 3 m.2.2.1,ba (m.2.2.2.1.map c6)]).2=(if 3≤v∧v≤3 then true else (m.1.1 == false&&decide (m.1.2.1=[]))):=by
  unfold o6 b8
  rw[dl,bd (ax hv'.1 hv'.2),bd (ax hv'.1 hv'.2),bd (ax hv'.1 hv'.2),dk,aL (by decide) (by decide),aL (by decide) (by decide),aL (by decide) (by decide),dh,rq]
  rw[List.all_eq_true.2 fun p _=>BC hv']
  simp
 have hwz:cG v o6 [ji m.1,av 2 m.2.1,av 3 m.2.2.1,ba (m.2.2.2.1.map c6)]=if 3≤v∧v≤3 then aZ (BI m.1) (aZ (aB m.2.1 2,0) (aZ (aB m.2.2.1 4,0) (aZ (du tj m.2.2.2.1) ([],0)))) else aZ (aB m.2.1 2,0) (aZ (aB m.2.2.1 4,0) (aZ (du tj m.2.2.2.1) ([],0))):=by
  unfold o6 b8
  rw[pR,bc (ax hv'.1 hv'.2),bc (ax hv'.1 hv'.2),bc (ax hv'.1 hv'.2),cv,Jm,bG (by decide) (w:=2) rfl (nR hm.2.1),bG (by decide) (w:=4) rfl (bV hm.2.2.1),fu,cw fun t ht=>Jn hv' (hm.2.2.2.1.2 t ht)]
  rfl
 rw[hcz,hwz]
 by_cases h3:v=3
 ·have e:3≤v∧v≤3:=by omega
  rw[if_pos e,if_pos e]
  have hr:=(Wri.name m.1).seq ((Wri.put m.2.1 2).seq ((Wri.put m.2.2.1 4).seq (hitems.seq Wri.nop)))
  have ht:∀s,rn v m.1 s=ey m.1 s:=fun s=>by unfold rn;rw[if_pos h3]
  rw[ht]
  refine (hr.done _).trans ?_
  have e0:(if (0:Int)≠0 then (0:Int) else if (m.1.1 == false&&decide (m.1.2.1=[]))=false∧(v<3∨3<v) then 7 else 0)=0:=by
   rw[if_neg (by simp),if_neg (by omega)]
  rw[e0]
  exact (if_neg (by decide)).trans (if_neg (by decide)).symm
 ·have e:¬(3≤v∧v≤3):=by omega
  rw[if_neg e,if_neg e]
  have hr:=(Wri.put m.2.1 2).seq ((Wri.put m.2.2.1 4).seq (hitems.seq Wri.nop))
  have ht:∀s,rn v m.1 s=s:=fun s=>by unfold rn;rw[if_neg h3]
  rw[ht]
  refine (hr.done _).trans ?_
  by_cases hz:(m.1.1 == false&&decide (m.1.2.1=[]))=false
  ·have e0:(if (0:Int)≠0 then (0:Int) else if (m.1.1 == false&&decide (m.1.2.1=[]))=false∧(v<3∨3<v) then 7 else 0)=7:=by
    rw[if_neg (by simp),if_pos ⟨hz,by omega⟩]
   rw[e0,if_pos (by simp),if_pos hz]
  ·have e0:(if (0:Int)≠0 then (0:Int) else if (m.1.1 == false&&decide (m.1.2.1=[]))=false∧(v<3∨3<v) then 7 else 0)=0:=by
    rw[if_neg (by simp),if_neg (fun h=>hz h.1)]
   rw[e0,if_neg (by simp),if_neg hz]
theorem Wri.opt {r:LI×Int}{g:bf→bf}(v lo hi x:Int)(n:Nat)(hg:Wri r g):Wri (if lo≤v∧v≤hi then aZ (aB x n,0) r else r) (fun s=>g (cM v lo hi x n s)):=by
 by_cases h:lo≤v∧v≤hi
 ·rw[if_pos h]
  have:(fun s=>g (cM v lo hi x n s))=fun s=>g (ac x n s):=funext fun s=>by unfold cM;rw[if_pos h]
  rw[this];exact (Wri.put x n).seq hg
 ·rw[if_neg h]
  have:(fun s=>g (cM v lo hi x n s))=g:=funext fun s=>by unfold cM;rw[if_neg h]
  rw[this];exact hg
def Qj (v:Int)(p:bR.den):LI×Int:=aZ (aB p.1 4,0) (aZ (aB p.2.1 2,0) (aZ (aB p.2.2.1 8,0)
 (if 2≤v∧v≤3 then aZ (aB p.2.2.2.1 8,0) (if 3≤v∧v≤3 then aZ (aB p.2.2.2.2.1 8,0) ([],0) else ([],0)) else (if 3≤v∧v≤3 then aZ (aB p.2.2.2.2.1 8,0) ([],0) else ([],0)))))
def Gk (v:Int)(t:az.den):LI×Int:=aZ (lP t.1) (aZ (du (Qj v) t.2.1) ([],0))
theorem Wri.donep (v:Int)(p:bR.den):Wri (Qj v p) (jX v p):=(Wri.put _ _).seq ((Wri.put _ _).seq ((Wri.put _ _).seq (Wri.opt v 2 3 p.2.2.2.1 8 (Wri.opt v 3 3 p.2.2.2.2.1 8 Wri.nop))))
theorem Wri.gone (v:Int)(t:az.den):Wri (Gk v t) (yg v t):=(Wri.str _).seq ((Wri.items fun p _=>Wri.donep v p).seq Wri.nop)
abbrev aaE:Fd:=cO [112,97,114,116] 10 0 3 [cO [105,110,100,101,120] 3 0 3 [],cO [99,111,100,101] 2 0 3 [],cO [98,97,115,101] 4 0 3 [],cO [116,105,109,101] 4 2 3 [],cO [115,116,97,114,116] 4 3 3 []]
abbrev ahK:Fd:=cO [116,111,112,105,99] 10 0 3 [cO [110,97,109,101] 5 0 3 [],cO [112,97,114,116,115] 9 0 3 [aaE]]
theorem ad1 {v:Int}{p:bR.den}(hv:0≤v∧v≤3)(h:bR.wf p):uE aaE v (gn p)=Qj v p:=by
 unfold gn Qj
 rw[jJ,bc (ax hv.1 hv.2),bc (ax hv.1 hv.2),bc (ax hv.1 hv.2),pR,pR,cv,bG (by decide) (w:=4) rfl (bV h.1),bG (by decide) (w:=2) rfl (nR h.2.1),
  bG (by decide) (w:=8) rfl (fq _),bG (by decide) (w:=8) rfl (fq _),bG (by decide) (w:=8) rfl (fq _)]
 rfl
theorem P7 {v:Int}{t:az.den}(hv:0≤v∧v≤3)(h:az.wf t):uE ahK v (dX t)=Gk v t:=by
 unfold dX Gk
 rw[jJ,bc (ax hv.1 hv.2),bc (ax hv.1 hv.2),cv,pS,fu,cw fun p hp=>ad1 hv (h.2.1.2 p hp)]
def gX (v:Int)(p:bR.den):Bool:=(if 2≤v∧v≤3 then true else (p.2.2.2.1 == 0))&&(if 3≤v∧v≤3 then true else (p.2.2.2.2.1 == 0))
theorem SS {v:Int}{p:bR.den}(hv:0≤v∧v≤3):(bn aaE v (gn p)).2=gX v p:=by
 unfold gn gX
 rw[fG,bd (ax hv.1 hv.2),bd (ax hv.1 hv.2),bd (ax hv.1 hv.2),dl,dl,dk,aL (by decide) (by decide),aL (by decide) (by decide),aL (by decide) (by decide),aL (by decide) (by decide),aL (by decide) (by decide),bh,bh]
 simp
theorem Fl {v:Int}{t:az.den}(hv:0≤v∧v≤3):(bn ahK v (dX t)).2=t.2.1.all (gX v):=by
 unfold dX
 rw[fG,bd (ax hv.1 hv.2),bd (ax hv.1 hv.2),dk,aL (by decide) (by decide),dh]
 simp only[SS hv,Bool.true_and,Bool.and_true]
theorem BJ (m:ij.den):er o5 [ba (m.1.map dX),av 3 m.2.1]:=by
 unfold o5 b8
 refine au ?_ (au (aF (by decide) (by decide)) cj)
 refine cN _ _ fun t=>dK rfl (au (aF (by decide) (by decide)) (au ?_ cj))
 exact cN _ _ fun p=>dK rfl (au (aF (by decide) (by decide)) (au (aF (by decide) (by decide)) (au (aF (by decide) (by decide)) (au (aF (by decide) (by decide)) (au (aF (by decide) (by decide)) cj)))))
def iF (e:Int)(ok:Bool):Int:=if e≠0 then e else if ok=false then 7 else 0
theorem c7 (e:Int)(a b:Bool):iF (iF e a) b=iF e (a&&b):=by
 unfold iF
 by_cases he:e=0
 ·subst he;cases a <;> cases b <;> simp
 ·simp[he]
theorem iA (e:Int):iF e true=e:=by unfold iF;by_cases h:e=0 <;> simp[h]
theorem cS {e v lo hi:Int}{z:Bool}:aq v z lo hi (e,(false,([]:LI)))=(iF e (if lo≤v∧v≤hi then true else z),(false,[])):=by
 rw[vb]
 unfold iF
 by_cases he:e=0
 ·subst he
  by_cases h:lo≤v∧v≤hi
  ·rw[if_pos h]
   have:¬(z=false∧(v<lo∨hi<v)):=by rintro ⟨_,h'⟩;omega
   simp[this]
  ·rw[if_neg h]
   have:v<lo∨hi<v:=by omega
   simp[this]
 ·simp[he]
theorem S3 {e v:Int}{p:bR.den}:rf v p (e,(false,([]:LI)))=(iF e (gX v p),(false,[])):=by
 unfold rf gX
 rw[cS,cS,c7]
theorem BF {v:Int}:∀{ps:List bR.den} {e:Int},gB v ps (e,(false,([]:LI)))=(iF e (ps.all (gX v)),(false,[]))
 |[],e=>by rw[List.all_nil,iA];rfl
 |p::ps,e=>by
  show gB v ps (rf v p (e,(false,[])))=_
  rw[S3,BF,c7,List.all_cons]
theorem Fy {v:Int}:∀{ts:List az.den} {e:Int},rg v ts (e,(false,([]:LI)))=(iF e (ts.all fun t=>t.2.1.all (gX v)),(false,[]))
 |[],e=>by rw[List.all_nil,iA];rfl
 |t::ts,e=>by
  show rg v ts (gB v t.2.1 (e,(false,[])))=_
  rw[BF,Fy,c7,List.all_cons]
theorem agd {v:Int}{m:ij.den}(hm:ij.wf m):(bD (pk v m),bm (pk v m))=dx v m:=by
 unfold dx bu
 rw[jI (t:=o5) rfl PK rfl (BJ m)]
 unfold pk
 rw[cS,Fy,c7]
 have hitems:Wri (du (Gk v) m.1) (gA v m.1):=Wri.items fun t _=>Wri.gone v t
 have hr:=hitems.seq (Wri.opt v 1 3 m.2.1 4 Wri.nop)
 refine (hr.done _).trans ?_
 unfold aV
 by_cases hv:v<0∨3<v
 ·rw[if_pos hv,if_pos hv]
  exact if_pos (by simp[iF])
 rw[if_neg hv,if_neg hv]
 have hv':0≤v∧v≤3:=by omega
 have hcz:(bS v o5 [ba (m.1.map dX),av 3 m.2.1]).2=((m.1.all fun t=>t.2.1.all (gX v))&&(if 1≤v∧v≤3 then true else (m.2.1 == 0))):=by
  unfold o5 b8
  rw[bd (ax hv'.1 hv'.2),dl,dk,dh,aL (by decide) (by decide),bh,Bool.and_true]
  simp only[Fl hv']
 have hwz:cG v o5 [ba (m.1.map dX),av 3 m.2.1]=aZ (du (Gk v) m.1) (if 1≤v∧v≤3 then aZ (aB m.2.1 4,0) ([],0) else ([],0)):=by
  unfold o5 b8
  rw[bc (ax hv'.1 hv'.2),pR,cv,bG (by decide) (w:=4) rfl (bV hm.2.1),fu,cw fun t ht=>P7 hv' (hm.1.2 t ht)]
  rfl
 rw[hcz,hwz]
 rw[Bool.and_comm]
 by_cases hz:((m.1.all fun t=>t.2.1.all (gX v))&&(if 1≤v∧v≤3 then true else (m.2.1 == 0)))=false
 ·rw[hz]
  exact (if_pos (by decide)).trans (by rfl)
 ·have hz:((m.1.all fun t=>t.2.1.all (gX v))&&(if 1≤v∧v≤3 then true else (m.2.1 == 0)))=true:=by
   cases hx:((m.1.all fun t=>t.2.1.all (gX v))&&(if 1≤v∧v≤3 then true else (m.2.1 == 0))) with
   |true=>rfl
   |false=>exact absurd hx hz
  rw[hz]
  exact (if_neg (by decide)).trans (if_neg (by decide)).symm
theorem HcOk.weakW {f:Nat}{io:Io}{Fn Fn':io.In→Tr io.Res}(h:HcOk prog f (ae io Fn))(hF:∀d y,io.wf d→(Fn' d).val=some y→(Fn d).val=some y):HcOk prog f (ae io Fn'):=by
 intro R args id A K r F G ts cst w vals hid hc Rl hv
 unfold ae at hc
 cases h1:Bx io.args args (List.replicate io.obs.length Option.none) with
 |none=>rw[h1] at hc;cases hc
 |some p=>
  obtain ⟨a,β1⟩:=p
  rw[h1] at hc
  simp only at hc
  cases h2:W9 A.ob io.obs 0 β1 with
  |none=>rw[h2] at hc;cases hc
  |some q=>
   obtain ⟨o,β⟩:=q
   rw[h2] at hc
   simp only at hc
   have hn:=fun y=>hF (a,o) y ⟨Lq h1 hv,RA Rl.ob h2⟩
   refine h R args id A K r F G ts cst w vals hid ?_ Rl hv
   unfold ae
   rw[h1]
   simp only[h2]
   revert hc
   cases cR ((me (gk 0) io.args args 0++pN A.ob β (qd io.obs.length 0) io.obs 0).map (·.2))&&(cR ((me (gk 0) io.args args 0++pN A.ob β (qd io.obs.length 0) io.obs 0).map (·.1))&&io.ok) with
   |false=>intro hc;cases hc
   |true=>
    intro hc
    obtain ⟨out,ho,hk⟩:=Tr.run_val hc
    exact (Tr.val_run (hn out ho)).trans hk
abbrev Cz:Io:=vQ
def Zp (d:Cz.In):Tr Cz.Res:=.ite (cH d.1.2.1.2.2.2.1) (.ret (.ret (((cZ d.1.1 d.1.2.1).1,((cZ d.1.1 d.1.2.1).2,())),()))) .no
theorem afQ:HcOk prog 43 (ae Cz Zp):=by
 refine HcOk.weakW aja ?_
 rintro ⟨⟨(v:Int),m,⟨⟩⟩,⟨⟩⟩ y hw hy
 obtain ⟨hg,hy⟩:=Tr.guard hy
 refine (aa hg _ _).trans ?_
 rw[← hy]
 have h:=age (v:=v) (m:=m) hw.1.2.1 hg
 show oR ((bD (ri v m),(bm (ri v m),())),())=oR (((cZ v m).1,((cZ v m).2,())),())
 rw[← h]
abbrev CA:Io:=vR
def Zq (d:CA.In):Tr CA.Res:=.ret (.ret (((dx d.1.1 d.1.2.1).1,((dx d.1.1 d.1.2.1).2,())),()))
theorem afU:HcOk prog 58 (ae CA Zq):=by
 refine HcOk.weakW ajb ?_
 rintro ⟨⟨(v:Int),m,⟨⟩⟩,⟨⟩⟩ y hw hy
 rw[← hy]
 have h:=agd (v:=v) (m:=m) hw.1.2.1
 show oR ((bD (pk v m),(bm (pk v m),())),())=oR (((dx v m).1,((dx v m).2,())),())
 rw[← h]
def L5 (m:ik.den):Bool:=cH m.2.2.2.1&&(dF m.2.2.2.1&&decide (8*aM (bv m)≤4294967296))
def L4 (m:ij.den):Bool:=dE m.1&&decide (8*aM (bu m)≤4294967296)
end
end Go.Proofs.YtomeplopmndbgaaGreat.Sym
namespace Go.Proofs.YtomeplopmndbgaaGreat.Sym
open Go
open Go.IntKind (i8 i16 i32 i64 u8 u16 u32 u64)
noncomputable section
theorem Gg {k:IntKind}:∀b:LI,(List.map (ga (.int k)) b).sum=b.length
 |[]=>rfl
 |c::b=>by
  have:=Gg (k:=k) b
  rw[zL,List.sum_cons,this,zN]
  show 1+_=_
  omega
theorem aay (b:LI):ga bs b=b.length+1:=by
 show (List.map (ga (.int .u8)) b).sum+1=_
 rw[Gg]
theorem jq {T:Ty}{F:T.den→Nd}{c:Nat}:∀{l:List T.den},(∀x∈l,aM (F x)≤c*ga T x)→aK (l.map F)≤c*(l.map (ga T)).sum
 |[],_=>by rw[List.map_nil,bQ];exact Nat.zero_le _
 |x::l,h=>by
  have h1:=h x (by simp)
  have h2:=jq (l:=l) fun y hy=>h y (List.mem_cons_of_mem _ hy)
  rw[zL,ay,zL,List.sum_cons,Nat.mul_add]
  omega
theorem lD {T:Ty}{x:T.den}:∀{l:List T.den},x∈l→ga T x≤(l.map (ga T)).sum
 |y::l,h=>by
  rw[zL,List.sum_cons]
  rcases List.mem_cons.1 h with rfl | h
  ·omega
  ·have:=lD (l:=l) h;omega
theorem jp {T:Ty}(hT:∀x:T.den,1≤ga T x):∀l:List T.den,l.length≤(l.map (ga T)).sum
 |[]=>Nat.zero_le _
 |x::l=>by
  have:=jp hT l
  have:=hT x
  rw[zL,List.sum_cons,zN];omega
theorem Eg (p:cJ.den):ga cJ p=p.2.1.2.1.length+3:=by
 show 1+((1+(ga bs p.2.1.2.1+0))+0)=_
 rw[aay];omega
theorem yY (t:ar.den):ga ar t=(t.1.length+1)+(((t.2.1.map (ga cJ)).sum+1)+0):=rfl
theorem aeG (m:ik.den):ga ik m=(1+((m.1.2.1.length+1)+0))+(1+(1+(((m.2.2.2.1.map (ga ar)).sum+1)+0))):=rfl
theorem bo (k n:Int):aM (av k n)=1:=by rw[dA];show 1+0+aK []=1;rw[bQ]
theorem m5 (x:LI):aM (gd x)=1+x.length:=by rw[dA];show 1+x.length+aK []=_;rw[bQ];rfl
theorem Th (x:fv.den):aM (ji x)=1+x.2.1.length:=by rw[dA];show 1+x.2.1.length+aK []=_;rw[bQ];rfl
theorem BL (x:rB.den):aM (iN x)=1+x.2.1.length:=by rw[dA];show 1+x.2.1.length+aK []=_;rw[bQ];rfl
theorem dV (l:List Nd):aM (bq l)=1+aK l:=by rw[dA];show 1+0+aK l=_;omega
theorem fe (l:List Nd):aM (ba l)=1+aK l:=by rw[dA];show 1+0+aK l=_;omega
theorem ahn (p:cJ.den):aM (gp p)≤3*ga cJ p:=by
 rw[Eg]
 show aM (bq [av 3 p.1,iN p.2.1])≤_
 rw[dV,ay,ay,bQ,bo,BL]
 omega
theorem aeq (t:ar.den):aM (c6 t)≤3*ga ar t:=by
 have h:=jq (T:=cJ) (F:=gp) (c:=3) (l:=t.2.1) fun p _=>ahn p
 rw[yY]
 show aM (bq [gd t.1,ba (t.2.1.map gp)])≤_
 rw[dV,ay,ay,bQ,m5,fe]
 omega
theorem acO {m:ik.den}(h:ga ik m≤1048576):L5 m=true:=by
 have h1:=jq (T:=ar) (F:=c6) (c:=3) (l:=m.2.2.2.1) fun t _=>aeq t
 have h2:=jp (T:=ar) (fun t=>by rw[yY];omega) m.2.2.2.1
 rw[aeG] at h
 have ht:∀t∈m.2.2.2.1,ga ar t≤1048576:=fun t ht=>by have:=lD (T:=ar) ht;omega
 have hp:∀t∈m.2.2.2.1,t.2.1.length≤1048576∧∀p∈t.2.1,p.2.1.2.1.length≤1048576:=fun t htm=>by
  have a1:=ht t htm
  rw[yY] at a1
  have a2:=jp (T:=cJ) (fun p=>by rw[Eg];omega) t.2.1
  refine ⟨by omega,fun p hp=>?_⟩
  have a3:=lD (T:=cJ) hp
  rw[Eg] at a3
  omega
 unfold L5
 simp only[zA,zB]
 refine ⟨?_,?_,?_⟩
 ·refine List.all_eq_true.2 fun t htm=>List.all_eq_true.2 fun p hpm=>decide_eq_true ?_
  have:=(hp t htm).2 p hpm
  omega
 ·unfold dF
  simp only[zA,zB]
  refine ⟨by omega,List.all_eq_true.2 fun t htm=>decide_eq_true ?_⟩
  have:=(hp t htm).1
  omega
 ·unfold bv
  show 8*aM (bq [ji m.1,av 2 m.2.1,av 3 m.2.2.1,ba (m.2.2.2.1.map c6)])≤_
  rw[dV,ay,ay,ay,ay,bQ,Th,bo,bo,fe]
  omega
theorem NH (p:bR.den):ga bR p=5:=rfl
theorem Ef (t:az.den):ga az t=(t.1.length+1)+(((t.2.1.map (ga bR)).sum+1)+0):=rfl
theorem aeF (m:ij.den):ga ij m=((m.1.map (ga az)).sum+1)+(1+0):=rfl
theorem ahl (p:bR.den):aM (gn p)≤3*ga bR p:=by
 rw[NH]
 show aM (bq [av 3 p.1,av 2 p.2.1,av 4 p.2.2.1,av 4 p.2.2.2.1,av 4 p.2.2.2.2.1])≤_
 rw[dV,ay,ay,ay,ay,ay,bQ,bo,bo,bo,bo,bo]
 omega
theorem ahm (t:az.den):aM (dX t)≤3*ga az t:=by
 have h:=jq (T:=bR) (F:=gn) (c:=3) (l:=t.2.1) fun p _=>ahl p
 rw[Ef]
 show aM (bq [gd t.1,ba (t.2.1.map gn)])≤_
 rw[dV,ay,ay,bQ,m5,fe]
 omega
theorem acM {m:ij.den}(h:ga ij m≤1048576):L4 m=true:=by
 have h1:=jq (T:=az) (F:=dX) (c:=3) (l:=m.1) fun t _=>ahm t
 have h2:=jp (T:=az) (fun t=>by rw[Ef];omega) m.1
 rw[aeF] at h
 have hp:∀t∈m.1,t.2.1.length≤1048576:=fun t htm=>by
  have a1:=lD (T:=az) htm
  rw[Ef] at a1
  have a2:=jp (T:=bR) (fun p=>by rw[NH];omega) t.2.1
  omega
 unfold L4
 simp only[zA,zB]
 refine ⟨?_,?_⟩
 ·unfold dE
  simp only[zA,zB]
  refine ⟨by omega,List.all_eq_true.2 fun t htm=>decide_eq_true ?_⟩
  have:=hp t htm
  omega
 ·unfold bu
  show 8*aM (bq [ba (m.1.map dX),av 3 m.2.1])≤_
  rw[dV,ay,ay,bQ,bo,fe]
  omega
abbrev d8:Sh:=.dat (.int .i8) false false
abbrev Ez:Io:=⟨[.ptr 0 0,d8],[oWr],[],[dI],none⟩
def aim (d:Ez.In):Tr Ez.Res:=
 .ite (bx d.2.1.1 d.2.1.2.1) (.ret (.ret (((aC d.2.1.1 d.2.1.2.1 d.1.2.1 1).1,()),(((aC d.2.1.1 d.2.1.2.1 d.1.2.1 1).2,(d.2.1.2.1,())),())))) .no
abbrev ahD:List (Nat×Hc):=[(116,ae iy px)]
def aka:Hd:=bM ahD
def ahW:Lp:=bB []
def T3 (a0:Int)(a1:LI)(a2:Int):Option Ez.Res:=bif bx a1 a2&&(decide (0≤1)&&decide (1≤8)) then oR (((aC a1 a2 (u64.wrap a0) (Int.toNat 1)).1,()),((aC a1 a2 (u64.wrap a0) (Int.toNat 1)).2,a2,()),()) else none
theorem ajr (a0:Int)(a1:LI)(a2:Int):Io.run tt aka dr ahW Ez Tryz.f196 (((),a0,()),(a1,a2,()),())=T3 a0 a1 a2:=by kernel_rfl
theorem akk:HcOk prog 196 (ae Ez aim):=by
 refine cg (cs:=ahD) (.cons uw .nil) (lp:=ahW) (fn:=Tryz.f196) Ez (.done (by kernel_rfl)) aim ?_
 rintro ⟨⟨⟨⟩,(v:Int),⟨⟩⟩,⟨⟨(b:LI),(m:Int),⟨⟩⟩,⟨⟩⟩⟩ out hw ho
 obtain ⟨hg,ho⟩:=Tr.guard ho
 have hg:bx b m=true:=hg
 cases ho
 refine (ajr v b m).trans ?_
 unfold T3
 have e:aC b m (u64.wrap v) 1=aC b m v 1:=by unfold aC;rw[yc v (by decide)]
 simp[hg,e]
abbrev Bw:Io:=⟨[.ptr 0 0,d8],uM,[],[],none⟩
def aeu (d:Bw.In):Tr Bw.Res:=.ite (gi d.2) (.ret (.ret ((),cV d.2.1.2.1 (ac d.1.2.1 1 (gj d.2))))) .no
abbrev ahA:List (Nat×Hc):=[(196,ae Ez aim),(195,ae ir ol)]
def aj8:Hd:=bM ahA
def ahU:Lp:=bB []
def aex (a0 a1 a2:Int)(a3:Bool)(a4:LI)(a5:Int):Option Bw.Res:=bif bx a4 a5 then bif decide (a5=130048)&&decide ((aC a4 a5 a0 1).2.length≤130048) then oR ((),((),a1,a2,a3 || decide ((aC a4 a5 a0 1).1≠0),()),((aC a4 a5 a0 1).2,130048,()),()) else none else none
theorem ajo (a0 a1 a2:Int)(a3:Bool)(a4:LI)(a5:Int):Io.run tt aj8 dr ahU Bw Tryz.f106 (((),a0,()),((),a1,a2,a3,()),(a4,a5,()),())=aex a0 a1 a2 a3 a4 a5:=by kernel_rfl
theorem ah0:HcOk prog 106 (ae Bw aeu):=by
 refine cg (cs:=ahA) (.cons akk (.cons pH .nil)) (lp:=ahU) (fn:=Tryz.f106) Bw (.done (by kernel_rfl)) aeu ?_
 rintro ⟨⟨⟨⟩,(x:Int),⟨⟩⟩,⟨⟨⟨⟩,(v:Int),(e:Int),(f:Bool),⟨⟩⟩,⟨(b:LI),(m:Int),⟨⟩⟩,⟨⟩⟩⟩ out hw ho
 obtain ⟨hg,ho⟩:=Tr.guard ho
 obtain ⟨rfl,hb⟩:=bK hg
 cases ho
 refine (ajo x v e f b 130048).trans ?_
 exact KL 1 x hb
abbrev vS:Io:=⟨[.ptr 0 0],[Zd],[],[d8,dI],none⟩
def Zr (d:vS.In):Tr vS.Res:=
 .ite (bP d.2.1.1 d.2.1.2.1) (.ret (.ret ((i8.wrap (an d.2.1.1 d.2.1.2.1 1).1,((an d.2.1.1 d.2.1.2.1 1).2.2,())),((d.2.1.1,((an d.2.1.1 d.2.1.2.1 1).2.1,())),())))) .no
abbrev aaj:List (Nat×Hc):=[(166,ae gb mW)]
def aiU:Hd:=bM aaj
def abK:Lp:=bB []
def MN (a0:LI)(a1:Int):Option vS.Res:=bif bP a0 a1&&(decide (0≤1)&&decide (1≤8)) then oR ((i8.wrap (an a0 a1 (Int.toNat 1)).1,(an a0 a1 (Int.toNat 1)).2.2,()),(a0,(an a0 a1 (Int.toNat 1)).2.1,()),()) else none
theorem agH (a0:LI)(a1:Int):Io.run tt aiU dr abK vS Tryz.f205 (((),()),(a0,a1,()),())=MN a0 a1:=by kernel_rfl
theorem ajc:HcOk prog 205 (ae vS Zr):=by
 refine cg (cs:=aaj) (.cons q3 .nil) (lp:=abK) (fn:=Tryz.f205) vS (.done (by kernel_rfl)) Zr ?_
 rintro ⟨⟨⟨⟩,⟨⟩⟩,⟨⟨(b:LI),(p:Int),⟨⟩⟩,⟨⟩⟩⟩ out hw ho
 obtain ⟨hg,ho⟩:=Tr.guard ho
 have hg:bP b p=true:=hg
 cases ho
 refine (agH b p).trans ?_
 unfold MN
 rw[aa (by simp[hg])]
 rfl
abbrev Et:Io:=⟨[.ptr 0 0,.fnc 205 true [1]],pE,[],[d8],none⟩
def aih (d:Et.In):Tr Et.Res:=.ite (py d.2) (.ret (.ret ((i8.wrap (an d.2.2.1.1 d.2.2.1.2.1 1).1,()),dM d.2.1.2.1 d.2.2.1.1 ((an d.2.2.1.1 d.2.2.1.2.1 1).2.2,(an d.2.2.1.1 d.2.2.1.2.1 1).2.1)))) .no
abbrev ahw:List (Nat×Hc):=[(205,ae vS Zr)]
def aj5:Hd:=bM ahw
def ahR:Lp:=bB []
def TX (a0 a1:Int)(a2:LI)(a3:Int):Option Et.Res:=bif bP a2 a3 then oR ((i8.wrap (an a2 a3 1).1,()),((),a0,(an a2 a3 1).2.2,()),(a2,(an a2 a3 1).2.1,()),()) else none
theorem ajk (a0 a1:Int)(a2:LI)(a3:Int):Io.run tt aj5 dr ahR Et Tryz.f204 (((),(),()),((),a0,a1,()),(a2,a3,()),())=TX a0 a1 a2 a3:=by kernel_rfl
theorem akf:HcOk prog 204 (ae Et aih):=by
 refine cg (cs:=ahw) (.cons ajc .nil) (lp:=ahR) (fn:=Tryz.f204) Et (.done (by kernel_rfl)) aih ?_
 rintro ⟨⟨⟨⟩,⟨⟩,⟨⟩⟩,⟨⟨⟩,(v:Int),(e:Int),⟨⟩⟩,⟨(b:LI),(p:Int),⟨⟩⟩,⟨⟩⟩ out hw ho
 obtain ⟨hg,ho⟩:=Tr.guard ho
 have hg:al b p=true:=hg
 cases ho
 refine (ajk v e b p).trans ?_
 unfold TX
 exact aa (sV hg) _ _
abbrev Bv:Io:=⟨[.ptr 0 0],pE,[],[d8],none⟩
def aet (d:Bv.In):Tr Bv.Res:=.ite (py d.2) (.ret (.ret (((ab .i8 1 d.2.2.1.1 (cK d.2)).1,()),dM d.2.1.2.1 d.2.2.1.1 (ab .i8 1 d.2.2.1.1 (cK d.2)).2))) .no
abbrev ahv:List (Nat×Hc):=[(204,ae Et aih)]
def aj4:Hd:=bM ahv
def ahQ:Lp:=bB []
def TW (a0 a1:Int)(a2:LI)(a3:Int):Option Bv.Res:=bif a1 != 0 then oR ((0,()),((),a0,a1,()),(a2,a3,()),()) else bif al a2 a3 then oR ((i8.wrap (an a2 a3 1).1,()),((),a0,(an a2 a3 1).2.2,()),(a2,(an a2 a3 1).2.1,()),()) else none
theorem ajj (a0 a1:Int)(a2:LI)(a3:Int):Io.run tt aj4 dr ahQ Bv Tryz.f151 (((),()),((),a0,a1,()),(a2,a3,()),())=TW a0 a1 a2 a3:=by kernel_rfl
theorem ahZ:HcOk prog 151 (ae Bv aet):=by
 refine cg (cs:=ahv) (.cons akf .nil) (lp:=ahQ) (fn:=Tryz.f151) Bv (.done (by kernel_rfl)) aet ?_
 rintro ⟨⟨⟨⟩,⟨⟩⟩,⟨⟨⟩,(v:Int),(e:Int),⟨⟩⟩,⟨(b:LI),(p:Int),⟨⟩⟩,⟨⟩⟩ out hw ho
 obtain ⟨hg,ho⟩:=Tr.guard ho
 have hg:al b p=true:=hg
 cases ho
 refine (ajj v e b p).trans ?_
 unfold TW
 show _=oR (((ab .i8 1 b (e,p)).1,()),dM v b (ab .i8 1 b (e,p)).2)
 unfold ab
 by_cases h:e=0
 ·rw[if_pos h]
  refine bF (by simpa using h) ?_
  exact aa hg _ _
 ·rw[if_neg h]
  exact aa (by simpa using h) _ _
abbrev so:Io:=⟨[.ptr 0 0],BA,[],[d8],none⟩
def TD (d:so.In):Tr so.Res:=.ite (decide (d.2.1.2.2.1≠0)) (.ret (.ret ((0,()),d.2))) .no
abbrev ZZ:List (Nat×Hc):=[]
def aiG:Hd:=bM ZZ
def abw:Lp:=bB []
def MA (a0 a1:Int):Option so.Res:=bif a1 != 0 then oR ((0,()),((),a0,a1,()),()) else none
theorem agp (a0 a1:Int):Io.run tt aiG dr abw so Tryz.f151 (((),()),((),a0,a1,()),())=MA a0 a1:=by kernel_rfl
theorem ab4:HcOk prog 151 (ae so TD):=by
 refine cg (cs:=ZZ) HcsOk.nil (lp:=abw) (fn:=Tryz.f151) so (.done (by kernel_rfl)) TD ?_
 rintro ⟨⟨⟨⟩,⟨⟩⟩,⟨⟨⟩,(v:Int),(e:Int),⟨⟩⟩,⟨⟩⟩ out hw ho
 obtain ⟨hg,ho⟩:=Tr.guard ho
 have hg:e≠0:=of_decide_eq_true hg
 cases ho
 refine (agp v e).trans ?_
 unfold MA
 exact aa (by simpa using hg) _ _
theorem bL {v lo hi x:Int}{n:Nat}{s:bf}(h:lo≤v∧v≤hi):cM v lo hi x n s=ac x n s:=by unfold cM;rw[if_pos h]
theorem bk {v lo hi x:Int}{n:Nat}{s:bf}(h:¬(lo≤v∧v≤hi)):cM v lo hi x n s=s:=by unfold cM;rw[if_neg h]
theorem NM (x:Int):∀(n:Nat) (v:Int),(aB x n).foldl (fun v c=>v*256+c) v=v*256 ^ n+x % 256 ^ n
 |0,v=>by simp[aB]
 |n+1,v=>by
  rw[aB,List.foldl_cons,NM x n]
  have h1:x % 256 ^ (n+1)=x % 256 ^ n+256 ^ n*((x / 256 ^ n) % 256):=by
   have hq:(0:Int)<256 ^ n:=Int.pow_pos (by decide)
   rw[Int.pow_succ]
   have hx:=Int.emod_add_mul_ediv x (256 ^ n)
   have hy:=Int.emod_add_mul_ediv (x / 256 ^ n) 256
   have h1:=Int.emod_nonneg x (Int.ne_of_gt hq)
   have h2:=Int.emod_lt_of_pos x hq
   have h3:0≤(x / 256 ^ n) % 256:=Int.emod_nonneg _ (by decide)
   have h4:(x / 256 ^ n) % 256<256:=Int.emod_lt_of_pos _ (by decide)
   generalize x % 256 ^ n=r at hx h1 h2 ⊢
   generalize hd:x / 256 ^ n=d at hx hy h3 h4 ⊢
   generalize d % 256=c at hy h3 h4 ⊢
   generalize d / 256=e at hy
   generalize (256:Int) ^ n=q at hq hx h2 ⊢
   refine ((Int.ediv_emod_unique (q:=e) (by omega)).2 ⟨?_,?_,?_⟩).2
   ·rw[← hx,← hy,Int.mul_add,Int.mul_assoc];omega
   ·have:=Int.mul_nonneg (Int.le_of_lt hq) h3;omega
   ·have:q*c≤q*255:=Int.mul_le_mul_of_nonneg_left (by omega) (Int.le_of_lt hq);omega
  rw[h1,Int.pow_succ,Int.add_mul,Int.mul_assoc,Int.mul_comm 256 (256 ^ n),Int.mul_comm ((x / 256 ^ n) % 256)]
  omega
theorem yd (x:Int)(n:Nat):fp (aB x n)=x % 256 ^ n:=by
 unfold fp
 rw[NM];omega
theorem JN {x:Int}(h:eD .i8 x):i8.wrap (fp (aB x 1))=x:=by
 rw[yd]
 simp only[eD,IntKind.min,IntKind.max,IntKind.signed,IntKind.bits] at h
 simp at h
 simp[IntKind.wrap,IntKind.min,IntKind.max,IntKind.signed,IntKind.bits]
 omega
theorem fz {x:Int}(h:eD .i16 x):i16.wrap (fp (aB x 2))=x:=by
 rw[yd]
 simp only[eD,IntKind.min,IntKind.max,IntKind.signed,IntKind.bits] at h
 simp at h
 simp[IntKind.wrap,IntKind.min,IntKind.max,IntKind.signed,IntKind.bits]
 omega
theorem bA {x:Int}(h:eD .i32 x):i32.wrap (fp (aB x 4))=x:=by
 rw[yd]
 simp only[eD,IntKind.min,IntKind.max,IntKind.signed,IntKind.bits] at h
 simp at h
 simp[IntKind.wrap,IntKind.min,IntKind.max,IntKind.signed,IntKind.bits]
 omega
theorem fA {x:Int}(h:eD .i64 x):i64.wrap (fp (aB x 8))=x:=by
 rw[yd]
 simp only[eD,IntKind.min,IntKind.max,IntKind.signed,IntKind.bits] at h
 simp at h
 simp[IntKind.wrap,IntKind.min,IntKind.max,IntKind.signed,IntKind.bits]
 omega
structure Rea {α:Type} (b:LI) (x:α) (r:LI) (f:aD→α×aD):Prop where
 full:∀(p:Nat) (rest:LI),p≤b.length→b.drop p=r++rest→f (0,(p:Int))=(x,(0,((p+r.length:Nat):Int)))
 short:∀(p:Nat) (t:LI),p≤b.length→t≠[]→b.drop p++t=r→(f (0,(p:Int))).2.1=1
 dead:∀s,s.1≠0→(f s).2.1=s.1
theorem kf {b r rest:LI}{p:Nat}(hp:p≤b.length)(h:b.drop p=r++rest):p+r.length≤b.length∧b.drop (p+r.length)=rest:=by
 have h1:=congrArg List.length h
 simp only[List.length_drop,zH] at h1
 refine ⟨by omega,?_⟩
 rw[← List.drop_drop,h,List.drop_left]
theorem Rea.seq {α β γ:Type}{b r1 r2:LI}{x:α}{y:β}{f:aD→α×aD}{g:aD→β×aD}(c:α→β→γ)(hf:Rea b x r1 f)(hg:Rea b y r2 g):
  Rea b (c x y) (r1++r2) fun s=>(c (f s).1 (g (f s).2).1,(g (f s).2).2) where
 full:=fun p rest hp h=>by
  rw[zK] at h
  obtain ⟨h1,h2⟩:=kf hp h
  simp only[hf.full p _ hp h,hg.full _ rest h1 h2,zH,Nat.add_assoc]
 short:=fun p t hp ht h=>by
  by_cases hl:r1.length≤(b.drop p).length
  ·have h1:b.drop p=r1++(b.drop p).drop r1.length:=by
    have:(b.drop p).take r1.length=r1:=by
     have:=congrArg (List.take r1.length) h
     rwa [List.take_append_of_le_length hl,List.take_left] at this
    conv=>lhs;rw[← List.take_append_drop r1.length (b.drop p),this]
   obtain ⟨h3,h4⟩:=kf hp h1
   rw[h1,zK] at h
   have h5:=List.append_cancel_left h
   simp only[hf.full p _ hp h1]
   exact hg.short _ t h3 ht (by rw[h4];exact h5)
  ·have h1:r1=b.drop p++r1.drop (b.drop p).length:=by
    have:r1.take (b.drop p).length=b.drop p:=by
     have:=congrArg (List.take (b.drop p).length) h
     rw[List.take_left,List.take_append_of_le_length (by omega)] at this
     exact this.symm
    conv=>lhs;rw[← List.take_append_drop (b.drop p).length r1,this]
   have h2:=hf.short p (r1.drop (b.drop p).length) hp (by intro e;have:=congrArg List.length e;simp only[List.length_drop,List.length_nil] at this hl;omega) h1.symm
   have h3:=hg.dead (f (0,(p:Int))).2 (by rw[h2];decide)
   exact h3.trans h2
 dead:=fun s hs=>by
  have h1:=hf.dead s hs
  exact (hg.dead _ (by rw[h1];exact hs)).trans h1
theorem Rea.nop {α:Type}(b:LI)(x:α){f:aD→α×aD}(hf:∀p:Nat,f (0,(p:Int))=(x,(0,(p:Int))))(hd:∀s,s.1≠0→(f s).2.1=s.1):Rea b x [] f where
 full:=fun p rest hp h=>by rw[hf];rfl
 short:=fun p t hp ht h=>absurd (List.append_eq_nil_iff.1 h).2 ht
 dead:=hd
theorem Rea.congr {α:Type}{b r:LI}{x:α}{f g:aD→α×aD}(h:Rea b x r f)(e:∀s,g s=f s):Rea b x r g:=by
 have:g=f:=funext e
 rw[this];exact h
theorem YU (k:IntKind)(n:Nat)(b:LI){s:aD}(h:s.1≠0):ab k n b s=(0,s):=by unfold ab;rw[if_neg h]
theorem Rea.num {b:LI}{k:IntKind}{n:Nat}{x:Int}(hx:k.wrap (fp (aB x n))=x):Rea b x (aB x n) (ab k n b) where
 full:=fun p rest hp h=>by
  obtain ⟨h1,h2⟩:=kf hp h
  rw[bj] at h1 ⊢
  unfold ab
  rw[if_pos rfl]
  have hr:an b (p:Int) n=(fp (aB x n),((p:Int)+n,0)):=by
   unfold an
   rw[if_neg (by omega)]
   have:((b.drop ((p:Int)).toNat).take n)=aB x n:=by
    rw[zG,h]
    have:=List.take_left (l₁:=aB x n) (l₂:=rest)
    rw[bj] at this
    exact this
   rw[this]
  simp only[hr,hx]
  simp
 short:=fun p t hp ht h=>by
  have hl:=congrArg List.length h
  rw[zH,List.length_drop,bj] at hl
  have:0<t.length:=List.length_pos_iff.2 ht
  unfold ab
  rw[if_pos rfl]
  unfold an
  rw[if_pos (by omega)]
 dead:=fun s hs=>by rw[YU _ _ _ hs]
theorem q8 (b:LI)(n:Int){s:aD}(h:s.1≠0):cx b n s=([],s):=by unfold cx;rw[if_neg h]
theorem Rea.take {b:LI}(t:LI):Rea b t t (cx b t.length) where
 full:=fun p rest hp h=>by
  obtain ⟨h1,h2⟩:=kf hp h
  unfold cx
  rw[if_pos rfl,if_neg (by omega)]
  have hr:aT b (p:Int) (t.length:Int)=(t,((p:Int)+t.length,0)):=by
   unfold aT
   rw[if_neg (by omega),if_neg (by omega),zG,zG,h,List.take_left]
  simp only[hr]
  simp
 short:=fun p u hp ht h=>by
  have hl:=congrArg List.length h
  rw[zH,List.length_drop] at hl
  have:0<u.length:=List.length_pos_iff.2 ht
  unfold cx
  rw[if_pos rfl,if_neg (by omega)]
  unfold aT
  rw[if_neg (by omega),if_pos (by omega)]
 dead:=fun s hs=>by rw[q8 _ _ hs]
theorem Rea.bind {α β:Type}{b r1 r2:LI}{x:α}{y:β}{f:aD→α×aD}{g:α→aD→β×aD}(hf:Rea b x r1 f)(hg:Rea b y r2 (g x))(a0:α)(hz:∀s,(f s).2.1≠0→(f s).1=a0)(hd:∀s,s.1≠0→(g a0 s).2.1=s.1):
  Rea b y (r1++r2) fun s=>g (f s).1 (f s).2 where
 full:=fun p rest hp h=>by
  rw[zK] at h
  obtain ⟨h1,h2⟩:=kf hp h
  simp only[hf.full p _ hp h,hg.full _ rest h1 h2,zH,Nat.add_assoc]
 short:=fun p t hp ht h=>by
  by_cases hl:r1.length≤(b.drop p).length
  ·have h1:b.drop p=r1++(b.drop p).drop r1.length:=by
    have:(b.drop p).take r1.length=r1:=by
     have:=congrArg (List.take r1.length) h
     rwa [List.take_append_of_le_length hl,List.take_left] at this
    conv=>lhs;rw[← List.take_append_drop r1.length (b.drop p),this]
   obtain ⟨h3,h4⟩:=kf hp h1
   rw[h1,zK] at h
   have h5:=List.append_cancel_left h
   simp only[hf.full p _ hp h1]
   exact hg.short _ t h3 ht (by rw[h4];exact h5)
  ·have h1:r1=b.drop p++r1.drop (b.drop p).length:=by
    have:r1.take (b.drop p).length=b.drop p:=by
     have:=congrArg (List.take (b.drop p).length) h
     rw[List.take_left,List.take_append_of_le_length (by omega)] at this
     exact this.symm
    conv=>lhs;rw[← List.take_append_drop (b.drop p).length r1,this]
   have h2:=hf.short p (r1.drop (b.drop p).length) hp (by intro e;have:=congrArg List.length e;simp only[List.length_drop,List.length_nil] at this hl;omega) h1.symm
   have h3:=hd (f (0,(p:Int))).2 (by rw[h2];decide)
   rw[← hz (0,(p:Int)) (by rw[h2];decide)] at h3
   exact h3.trans h2
 dead:=fun s hs=>by
  have h1:=hf.dead s hs
  have h3:=hd (f s).2 (by rw[h1];exact hs)
  rw[← hz s (by rw[h1];exact hs)] at h3
  exact h3.trans h1
theorem Jk:(cC []).2=true:=by rfl
theorem q9 (b:LI)(n:Int){s:aD}(h:s.1≠0)(hn:n≤255):dT b n s=([],s):=by
 have e:lz n s=s:=by unfold lz;rw[if_neg (by omega)]
 unfold dT
 rw[e,q8 b n h,if_pos Jk]
theorem Rea.text {b:LI}(t:LI)(hl:t.length≤255)(hu:(cC t).2=true):Rea b t t (dT b t.length):=by
 have e:∀s,lz (t.length:Int) s=s:=fun s=>by unfold lz;rw[if_neg (by omega)]
 have ht:=Rea.take (b:=b) t
 refine ⟨fun p rest hp h=>?_,fun p u hp hu' h=>?_,fun s hs=>?_⟩
 ·have h1:=ht.full p rest hp h
  unfold dT
  rw[e,h1,if_pos hu]
 ·have h1:=ht.short p u hp hu' h
  unfold dT
  rw[e]
  have h0:(cx b (t.length:Int) (0,(p:Int))).1=[]:=by
   unfold cx at h1 ⊢
   rw[if_pos rfl,if_neg (by omega)] at h1 ⊢
   simp only at h1 ⊢
   unfold aT at h1 ⊢
   split
   ·rfl
   ·split
    ·rfl
    ·rename_i h2 h3
     rw[if_neg h2,if_neg h3] at h1
     cases h1
  rw[h0,if_pos Jk];exact h1
 ·rw[q9 b _ hs (by omega)]
theorem akr (k:IntKind):k.wrap 0=0:=by cases k <;> rfl
theorem m2 (k:IntKind)(n:Nat)(b:LI)(s:aD)(h:(ab k n b s).2.1≠0):(ab k n b s).1=0:=by
 unfold ab at h ⊢
 split
 ·rename_i h0
  rw[if_pos h0] at h
  unfold an at h ⊢
  split
  ·exact akr k
  ·rename_i h1
   rw[if_neg h1] at h
   exact absurd rfl h
 ·rfl
theorem Rea.str {b:LI}(t:LI)(hl:t.length≤255)(hu:(cC t).2=true):Rea b t (aB t.length 2++t) (bi b):=
 Rea.bind (g:=dT b) (Rea.num (b:=b) (k:=.i16) (n:=2) (x:=(t.length:Int)) (fz (by simp[eD,IntKind.min,IntKind.max,IntKind.signed,IntKind.bits];omega))) (Rea.text t hl hu) 0 (m2 _ _ _) fun s hs=>by
  rw[q9 b _ hs (by decide)]
def Rd {α:Type}(b:LI)(x:α)(w:LI×Int)(f:aD→α×aD):Prop:=w.2=0→Rea b x w.1 f
theorem cy {a b:LI×Int}(h:(aZ a b).2=0):a.2=0∧b.2=0∧(aZ a b).1=a.1++b.1:=by
 unfold aZ at h ⊢
 by_cases h1:a.2=0
 ·by_cases h2:b.2=0
  ·refine ⟨h1,h2,?_⟩
   simp[h1,h2]
  ·simp[h1,h2] at h
 ·simp[h1] at h
theorem Rd.seq {α β γ:Type}{b:LI}{w1 w2:LI×Int}{x:α}{y:β}{f:aD→α×aD}{g:aD→β×aD}(c:α→β→γ)(hf:Rd b x w1 f)(hg:Rd b y w2 g):
  Rd b (c x y) (aZ w1 w2) fun s=>(c (f s).1 (g (f s).2).1,(g (f s).2).2):=by
 intro h
 obtain ⟨h1,h2,h3⟩:=cy h
 rw[h3]
 exact (hf h1).seq c (hg h2)
theorem Rd.num {b:LI}{k:IntKind}{n:Nat}{x:Int}(hx:k.wrap (fp (aB x n))=x):Rd b x (aB x n,0) (ab k n b):=fun _=>Rea.num hx
theorem Rd.nop {α:Type}(b:LI)(x:α):Rd b x ([],0) fun s=>(x,s):=fun _=>Rea.nop b x (fun p=>rfl) fun s _=>rfl
theorem Rd.txt {b:LI}(t:LI):Rd b t (lP t) (bi b):=by
 intro h
 unfold lP at h ⊢
 split at h
 ·cases h
 ·rename_i h1
  split at h
  ·cases h
  ·rename_i h2
   rw[if_neg h1,if_neg h2]
   exact Rea.str t (by omega) (by simpa using h1)
theorem Rea.map {α β:Type}{b r:LI}{x:α}{f:aD→α×aD}(c:α→β)(h:Rea b x r f):Rea b (c x) r fun s=>(c (f s).1,(f s).2):=
 ⟨fun p rest hp hd=>by simp only[h.full p rest hp hd],fun p t hp ht hd=>h.short p t hp ht hd,fun s hs=>h.dead s hs⟩
def nmG (b:LI)(a:Int)(s:aD):fv.den×aD:=if a = -1 then ((true,(([]:LI),())),s) else ((false,((dT b a s).1,())),(dT b a s).2)
theorem Rd.nam {b:LI}(n:fv.den):Rd b n (BI n) (dR b):=by
 have e:∀s,dR b s=nmG b (ab .i16 2 b s).1 (ab .i16 2 b s).2:=fun s=>rfl
 have hd:∀s:aD,s.1≠0→(nmG b 0 s).2.1=s.1:=fun s hs=>by
  unfold nmG
  rw[if_neg (by decide),q9 b _ hs (by decide)]
 obtain ⟨z,t,⟨⟩⟩:=n
 intro hh
 have h:(if z=true then (if t.length=0 then (aB (-1) 2,0) else ([],70)) else lP t:LI×Int).2=0:=hh
 clear hh
 show Rea b _ (if z=true then (if t.length=0 then (aB (-1) 2,0) else ([],70)) else lP t:LI×Int).1 _
 by_cases hz:z=true
 ·rw[if_pos hz] at h ⊢
  by_cases h0:List.length t=0
  ·rw[if_pos h0] at h ⊢
   have ht:t=[]:=zF h0
   subst ht
   subst hz
   have hg:Rea b (true,(([]:LI),())) [] (nmG b (-1)):=Rea.nop b _ (fun p=>by unfold nmG;rw[if_pos rfl]) fun s hs=>by unfold nmG;rw[if_pos rfl]
   have:=(Rea.bind (Rea.num (b:=b) (k:=.i16) (n:=2) (x:=-1) (fz (by simp[eD,IntKind.min,IntKind.max,IntKind.signed,IntKind.bits]))) hg 0 (m2 _ _ _) hd).congr e
   rw[List.append_nil] at this
   exact this
  ·rw[if_neg h0] at h
   cases h
 ·rw[if_neg hz] at h ⊢
  have hz:z=false:=by simpa using hz
  subst hz
  unfold lP at h ⊢
  by_cases h1:(cC t).2=false
  ·rw[if_pos h1] at h;cases h
  rw[if_neg h1] at h ⊢
  by_cases h2:255<t.length
  ·rw[if_pos h2] at h;cases h
  rw[if_neg h2] at h ⊢
  have hg:Rea b (false,(t,())) t (nmG b t.length):=((Rea.text (b:=b) t (by omega) (by simpa using h1)).map fun x=>(false,(x,()))).congr fun s=>by unfold nmG;rw[if_neg (by omega)]
  exact (Rea.bind (Rea.num (b:=b) (k:=.i16) (n:=2) (x:=(t.length:Int)) (fz (by simp[eD,IntKind.min,IntKind.max,IntKind.signed,IntKind.bits];omega))) hg 0 (m2 _ _ _) hd).congr e
def blG (b:LI)(a:Int)(s:aD):rB.den×aD:=if a = -1 then ((true,(([]:LI),())),s) else ((false,((cx b a s).1,())),(cx b a s).2)
theorem Rd.blo {b:LI}(n:rB.den)(hn:n.2.1.length≤2147483647):Rd b n (Fj n) (cm b):=by
 have e:∀s,cm b s=blG b (ab .i32 4 b s).1 (ab .i32 4 b s).2:=fun s=>rfl
 have hd:∀s:aD,s.1≠0→(blG b 0 s).2.1=s.1:=fun s hs=>by
  unfold blG
  rw[if_neg (by decide),q8 b _ hs]
 obtain ⟨z,t,⟨⟩⟩:=n
 have hn:t.length≤2147483647:=hn
 intro hh
 have h:(if z=true then (if t.length=0 then (aB (-1) 4,0) else ([],70)) else (aB t.length 4++t,0):LI×Int).2=0:=hh
 clear hh
 show Rea b _ (if z=true then (if t.length=0 then (aB (-1) 4,0) else ([],70)) else (aB t.length 4++t,0):LI×Int).1 _
 by_cases hz:z=true
 ·rw[if_pos hz] at h ⊢
  by_cases h0:List.length t=0
  ·rw[if_pos h0] at h ⊢
   have ht:t=[]:=zF h0
   subst ht
   subst hz
   have hg:Rea b (true,(([]:LI),())) [] (blG b (-1)):=Rea.nop b _ (fun p=>by unfold blG;rw[if_pos rfl]) fun s hs=>by unfold blG;rw[if_pos rfl]
   have:=(Rea.bind (Rea.num (b:=b) (k:=.i32) (n:=4) (x:=-1) (bA (by simp[eD,IntKind.min,IntKind.max,IntKind.signed,IntKind.bits]))) hg 0 (m2 _ _ _) hd).congr e
   rw[List.append_nil] at this
   exact this
  ·rw[if_neg h0] at h
   cases h
 ·rw[if_neg hz] at h ⊢
  have hz:z=false:=by simpa using hz
  subst hz
  have hg:Rea b (false,(t,())) t (blG b t.length):=((Rea.take (b:=b) t).map fun x=>(false,(x,()))).congr fun s=>by unfold blG;rw[if_neg (by omega)]
  exact (Rea.bind (Rea.num (b:=b) (k:=.i32) (n:=4) (x:=(t.length:Int)) (bA (by simp[eD,IntKind.min,IntKind.max,IntKind.signed,IntKind.bits];omega))) hg 0 (m2 _ _ _) hd).congr e
theorem Rd.rep {α:Type}{b:LI}{w:α→LI×Int}{one:aD→α×aD}:∀{xs:List α},(∀x∈xs,Rd b x (w x) one)→Rd b xs (uZ w xs) (fZ one xs.length)
 |[],_=>fun _=>Rea.nop b _ (fun p=>rfl) fun s hs=>rfl
 |x::xs,h=>by
  intro hz
  have hs:=(Rd.seq List.cons (h x (by simp)) (Rd.rep fun y hy=>h y (List.mem_cons_of_mem _ hy))) hz
  refine ⟨fun p rest hp hd=>?_,fun p t hp ht hd=>?_,fun s hs=>?_⟩
  ·rw[zN,fZ,if_pos rfl]
   exact hs.full p rest hp hd
  ·rw[zN,fZ,if_pos rfl]
   exact hs.short p t hp ht hd
  ·rw[zN,fZ,if_neg hs]
theorem Rd.list {α:Type}{b:LI}{w:α→LI×Int}{one:aD→α×aD}{xs:List α}(h:∀x∈xs,Rd b x (w x) one):Rd b xs (du w xs) (iC one b):=by
 intro hz
 unfold du at hz ⊢
 by_cases h1:16<xs.length
 ·rw[if_pos h1] at hz;cases hz
 rw[if_neg h1] at hz ⊢
 obtain ⟨_,h2,h3⟩:=cy hz
 rw[h3]
 have hr:=Rd.rep h h2
 have hg:Rea b xs (uZ w xs).1 (fun s=>fZ one ((xs.length:Int)).toNat (sS xs.length s)):=hr.congr fun s=>by
  rw[zG]
  have:sS (xs.length:Int) s=s:=by
   unfold sS
   split
   ·rw[if_neg (by omega),if_neg (by omega)]
   ·rfl
  rw[this]
 exact Rea.bind (g:=fun a s=>fZ one a.toNat (sS a s)) (Rea.num (b:=b) (k:=.i32) (n:=4) (x:=(xs.length:Int)) (bA (by simp[eD,IntKind.min,IntKind.max,IntKind.signed,IntKind.bits];omega))) hg 0 (m2 _ _ _) fun s hs=>by
  show (sS 0 s).1=s.1
  unfold sS
  rw[if_neg hs]
theorem Rd.congr {α:Type}{b:LI}{x:α}{w:LI×Int}{f g:aD→α×aD}(h:Rd b x w f)(e:∀s,g s=f s):Rd b x w g:=fun hz=>(h hz).congr e
theorem uz {v lo hi:Int}(h:lo≤v∧v≤hi):aQ v lo hi 0=true:=if_pos ⟨rfl,h⟩
theorem nN {v lo hi e:Int}(h:¬(lo≤v∧v≤hi)):aQ v lo hi e=false:=if_neg fun h'=>h h'.2
theorem Fq {v lo hi e:Int}(h:e≠0):aQ v lo hi e=false:=if_neg fun h'=>h h'.1
theorem Rd.opt {b:LI}{k:IntKind}{n:Nat}{x v lo hi:Int}(hx:k.wrap (fp (aB x n))=x)(h0:¬(lo≤v∧v≤hi)→x=0):Rd b x (if lo≤v∧v≤hi then (aB x n,0) else ([],0)) (ao k n v lo hi b):=by
 intro _
 by_cases h:lo≤v∧v≤hi
 ·rw[if_pos h]
  have hn:=Rea.num (b:=b) hx
  refine ⟨fun p rest hp hd=>?_,fun p t hp ht hd=>?_,fun s hs=>?_⟩
  ·unfold ao
   rw[if_pos (uz h)];exact hn.full p rest hp hd
  ·unfold ao
   rw[if_pos (uz h)];exact hn.short p t hp ht hd
  ·unfold ao
   rw[if_neg (by rw[Fq hs];decide)]
 ·rw[if_neg h]
  have hx0:=h0 h
  subst hx0
  refine Rea.nop b _ (fun p=>?_) fun s hs=>?_
  ·unfold ao
   rw[if_neg (by rw[nN h];decide)]
  ·unfold ao
   rw[if_neg (by rw[nN h];decide)]
theorem Rd.part {b:LI}{p:cJ.den}(h:cJ.wf p)(hb:p.2.1.2.1.length≤2147483647):Rd b p (Qk p) (kD b):=
 (Rd.seq (fun a r=>(a,r)) (Rd.num (bA h.1)) (Rd.seq (fun a r=>(a,r)) (Rd.blo p.2.1 hb) (Rd.nop b ()))).congr fun s=>by unfold kD;rfl
theorem Rd.topic {b:LI}{t:ar.den}(h:ar.wf t)(hb:yE t=true):Rd b t (tj t) (iO b):=
 (Rd.seq (fun a r=>(a,r)) (Rd.txt t.1) (Rd.seq (fun a r=>(a,r)) (Rd.list fun p hp=>Rd.part (h.2.1.2 p hp) (of_decide_eq_true (List.all_eq_true.1 hb p hp))) (Rd.nop b ()))).congr fun s=>by unfold iO iv;rfl
theorem Rd.txn {b:LI}{n:fv.den}{v:Int}(h0:¬(3≤v∧v≤3)→n=(false,([],()))):Rd b n (if 3≤v∧v≤3 then BI n else ([],0)) (gz v b):=by
 by_cases h:3≤v∧v≤3
 ·rw[if_pos h]
  intro hz
  have hn:=Rd.nam (b:=b) n hz
  refine ⟨fun p rest hp hd=>?_,fun p t hp ht hd=>?_,fun s hs=>?_⟩
  ·unfold gz;rw[if_pos ⟨rfl,h⟩];exact hn.full p rest hp hd
  ·unfold gz;rw[if_pos ⟨rfl,h⟩];exact hn.short p t hp ht hd
  ·unfold gz;rw[if_neg fun h'=>hs h'.1]
 ·rw[if_neg h,h0 h]
  intro _
  refine Rea.nop b _ (fun p=>?_) fun s hs=>?_
  ·unfold gz;rw[if_neg fun h'=>h h'.2]
  ·unfold gz;rw[if_neg fun h'=>h h'.2]
def Gm (v:Int)(m:ik.den):LI×Int:=aZ (if 3≤v∧v≤3 then BI m.1 else ([],0)) (aZ (aB m.2.1 2,0) (aZ (aB m.2.2.1 4,0) (aZ (du tj m.2.2.2.1) ([],0))))
theorem Rd.req {b:LI}{m:ik.den}{v:Int}(h:ik.wf m)(hb:cH m.2.2.2.1=true)(h0:¬(3≤v∧v≤3)→m.1=(false,([],()))):Rd b m (Gm v m) fun s=>
  (((gz v b s).1,((ab .i16 2 b (gz v b s).2).1,((ab .i32 4 b (ab .i16 2 b (gz v b s).2).2).1,((cU b (ab .i32 4 b (ab .i16 2 b (gz v b s).2).2).2).1,())))),(cU b (ab .i32 4 b (ab .i16 2 b (gz v b s).2).2).2).2):=
 (Rd.seq (fun a r=>(a,r)) (Rd.txn h0) (Rd.seq (fun a r=>(a,r)) (Rd.num (fz h.2.1)) (Rd.seq (fun a r=>(a,r)) (Rd.num (bA h.2.2.1)) (Rd.seq (fun a r=>(a,r)) (Rd.list fun t ht=>Rd.topic (h.2.2.2.1.2 t ht) (List.all_eq_true.1 hb t ht)) (Rd.nop b ()))))).congr fun s=>by unfold cU;rfl
theorem S8 {a b:LI×Int}(h:(aZ a b).2≠0):(aZ a b).1=[]:=by
 unfold aZ at h ⊢
 split
 ·rfl
 ·split
  ·rfl
  ·rename_i h1 h2
   rw[if_neg h1,if_neg h2] at h
   exact absurd rfl h
theorem Jg (a b:LI×Int):aZ ([],0) (aZ a b)=aZ a b:=by
 by_cases h:(aZ a b).2=0
 ·have e:aZ a b=((aZ a b).1,0):=by rw[← h]
  rw[e];unfold aZ;simp
 ·have:=S8 h
  have e:aZ a b=([],(aZ a b).2):=by rw[← this]
  generalize aZ a b=c at h e ⊢
  rw[e]
  unfold aZ
  simp only[List.nil_append]
  rw[if_neg (by simp),if_pos h]
theorem XM {v:Int}{m:ik.den}(hm:ik.wf m)(h:(cZ v m).2=0):0≤v∧v≤3∧(¬(3≤v∧v≤3)→m.1=(false,([],())))∧(Gm v m).2=0∧(cZ v m).1=(Gm v m).1∧(cZ v m).1.length≤130048:=by
 have hlen:(cZ v m).1.length≤130048:=by unfold cZ;exact ej _ _ _ _
 unfold cZ bv at h hlen ⊢
 rw[jI (t:=o6) rfl PL rfl (BK m)] at h hlen ⊢
 by_cases hv:v<0∨3<v
 ·rw[if_pos hv] at h;cases h
 rw[if_neg hv] at h hlen ⊢
 have hv':0≤v∧v≤3:=by omega
 have hcz:(bS v o6 [ji m.1,av 2 m.2.1,av 3 m.2.2.1,ba (m.2.2.2.1.map c6)]).2=(if 3≤v∧v≤3 then true else (m.1.1 == false&&decide (m.1.2.1=[]))):=by
  unfold o6 b8
  rw[dl,bd (ax hv'.1 hv'.2),bd (ax hv'.1 hv'.2),bd (ax hv'.1 hv'.2),dk,aL (by decide) (by decide),aL (by decide) (by decide),aL (by decide) (by decide),dh,rq]
  rw[List.all_eq_true.2 fun p _=>BC hv']
  simp
 have hwz:cG v o6 [ji m.1,av 2 m.2.1,av 3 m.2.2.1,ba (m.2.2.2.1.map c6)]=Gm v m:=by
  unfold o6 b8 Gm
  rw[pR,bc (ax hv'.1 hv'.2),bc (ax hv'.1 hv'.2),bc (ax hv'.1 hv'.2),cv,Jm,bG (by decide) (w:=2) rfl (nR hm.2.1),bG (by decide) (w:=4) rfl (bV hm.2.2.1),fu,cw fun t ht=>Jn hv' (hm.2.2.2.1.2 t ht)]
  by_cases h3:3≤v∧v≤3
  ·rw[if_pos h3,if_pos h3];rfl
  ·rw[if_neg h3,if_neg h3,Jg];rfl
 rw[hcz,hwz] at h hlen ⊢
 generalize hz:(if 3≤v∧v≤3 then true else (m.1.1 == false&&decide (m.1.2.1=[])))=z at h hlen ⊢
 cases z with
 |false=>rw[if_pos rfl] at h;cases h
 |true=>
  rw[if_neg (by decide)] at h hlen ⊢
  by_cases h1:(Gm v m).2=0
  ·rw[if_neg (by simpa using h1)] at h hlen ⊢
   by_cases h2:130048<(Gm v m).1.length
   ·rw[if_pos h2] at h;cases h
   ·rw[if_neg h2] at h hlen ⊢
    refine ⟨hv'.1,hv'.2,fun h3=>?_,h1,rfl,hlen⟩
    rw[if_neg h3] at hz
    obtain ⟨⟨a,s,⟨⟩⟩,r⟩:=m
    simp only[zA,beq_iff_eq,zB] at hz
    obtain ⟨rfl,rfl⟩:=hz
    rfl
  ·rw[if_pos h1] at h
   exact absurd h h1
theorem m6 {r:LI}(h:r≠[]):∃t,t≠[]∧r.take (r.length - 1)++t=r:=⟨r.drop (r.length - 1),by
 intro e
 have:=congrArg List.length e
 have h1:=List.length_pos_iff.2 h
 simp only[List.length_drop,List.length_nil] at this
 omega,List.take_append_drop _ _⟩
theorem acN {v:Int}{m:ik.den}(hm:ik.wf m)(hb:cH m.2.2.2.1=true)(h:(cZ v m).2=0):
  ei v (cZ v m).1=(m,0)∧(ei v ((cZ v m).1.take ((cZ v m).1.length - 1))).2=1:=by
 obtain ⟨h1,h2,h3,h4,h5,h6⟩:=XM hm h
 rw[h5] at h6 ⊢
 generalize hr:(Gm v m).1=r at h6 ⊢
 have hne:r≠[]:=by
  intro e
  have h7:=cy h4
  have h8:=cy h7.2.1
  have:=h7.2.2
  rw[h8.2.2] at this
  have hl:=congrArg List.length this
  have hl':(Gm v m).1.length=0:=by rw[hr,e];rfl
  unfold Gm at hl'
  rw[hl'] at hl
  simp only[zH,bj] at hl
  omega
 refine ⟨?_,?_⟩
 ·have key:=(Rd.req (b:=r) hm hb h3 h4).full 0 [] (Nat.zero_le _) (by rw[hr];simp)
  have key:q7 v r=(m,(0,((0+(Gm v m).1.length:Nat):Int))):=key
  rw[hr] at key
  unfold ei
  rw[if_pos ⟨h1,h2,by omega⟩,key]
  have he:aE r (0,((0+r.length:Nat):Int))=0:=by
   unfold aE sQ
   rw[if_pos rfl,if_neg (by omega)]
  rw[if_pos he]
 ·obtain ⟨t,ht,htr⟩:=m6 hne
  have key:=(Rd.req (b:=r.take (r.length - 1)) hm hb h3 h4).short 0 t (Nat.zero_le _) ht (by rw[hr];exact htr)
  have key:(q7 v (r.take (r.length - 1))).2.1=1:=key
  unfold ei
  rw[if_pos ⟨h1,h2,by rw[List.length_take];omega⟩]
  have he:aE (r.take (r.length - 1)) (q7 v (r.take (r.length - 1))).2=1:=by
   unfold aE
   rw[if_neg (by rw[key];decide)];exact key
  rw[he,if_neg (by decide)]
theorem Rd.optSeq {β γ:Type}{b:LI}{k:IntKind}{n:Nat}{x v lo hi:Int}{R:LI×Int}{y:β}{g:aD→β×aD}(c:Int→β→γ)(hx:k.wrap (fp (aB x n))=x)(h0:¬(lo≤v∧v≤hi)→x=0)(hg:Rd b y R g):
  Rd b (c x y) (if lo≤v∧v≤hi then aZ (aB x n,0) R else R) fun s=>(c (ao k n v lo hi b s).1 (g (ao k n v lo hi b s).2).1,(g (ao k n v lo hi b s).2).2):=by
 by_cases h:lo≤v∧v≤hi
 ·rw[if_pos h]
  have:=Rd.seq c (Rd.opt (b:=b) (k:=k) (n:=n) (v:=v) (lo:=lo) (hi:=hi) hx h0) hg
  rw[if_pos h] at this
  exact this
 ·rw[if_neg h]
  have hx0:=h0 h
  subst hx0
  intro hz
  have hr:=hg hz
  exact (hr.map (c 0)).congr fun s=>by
   have:ao k n v lo hi b s=(0,s):=by unfold ao;rw[if_neg (by rw[nN h];decide)]
   rw[this]
theorem EW {v:Int}{p:bR.den}(h:gX v p=true):(¬(2≤v∧v≤3)→p.2.2.2.1=0)∧(¬(3≤v∧v≤3)→p.2.2.2.2.1=0):=by
 unfold gX at h
 simp only[zA] at h
 refine ⟨fun hv=>?_,fun hv=>?_⟩
 ·have:=h.1;rw[if_neg hv] at this;simpa using this
 ·have:=h.2;rw[if_neg hv] at this;simpa using this
theorem Rd.done {b:LI}{p:bR.den}{v:Int}(h:bR.wf p)(hk:gX v p=true):Rd b p (Qj v p) (kz v b):=
 (Rd.seq (fun a r=>(a,r)) (Rd.num (bA h.1)) (Rd.seq (fun a r=>(a,r)) (Rd.num (fz h.2.1)) (Rd.seq (fun a r=>(a,r)) (Rd.num (fA h.2.2.1))
  (Rd.optSeq (fun a r=>(a,r)) (fA h.2.2.2.1) (EW hk).1 (Rd.optSeq (fun a r=>(a,r)) (fA h.2.2.2.2.1) (EW hk).2 (Rd.nop b ())))))).congr fun s=>by unfold kz mQ;rfl
theorem Rd.gone {b:LI}{t:az.den}{v:Int}(h:az.wf t)(hk:t.2.1.all (gX v)=true):Rd b t (Gk v t) (kC v b):=
 (Rd.seq (fun a r=>(a,r)) (Rd.txt t.1) (Rd.seq (fun a r=>(a,r)) (Rd.list fun p hp=>Rd.done (h.2.1.2 p hp) (List.all_eq_true.1 hk p hp)) (Rd.nop b ()))).congr fun s=>by unfold kC iu;rfl
def Gl (v:Int)(m:ij.den):LI×Int:=aZ (du (Gk v) m.1) (if 1≤v∧v≤3 then aZ (aB m.2.1 4,0) ([],0) else ([],0))
theorem Rd.rep2 {b:LI}{m:ij.den}{v:Int}(h:ij.wf m)(hk:(m.1.all fun t=>t.2.1.all (gX v))=true)(h0:¬(1≤v∧v≤3)→m.2.1=0):Rd b m (Gl v m) fun s=>
  (((bt v b s).1,((ao .i32 4 v 1 3 b (bt v b s).2).1,())),(ao .i32 4 v 1 3 b (bt v b s).2).2):=
 (Rd.seq (fun a r=>(a,r)) (Rd.list fun t ht=>Rd.gone (h.1.2 t ht) (List.all_eq_true.1 hk t ht)) (Rd.optSeq (fun a r=>(a,r)) (bA h.2.1) h0 (Rd.nop b ()))).congr fun s=>by unfold bt;rfl
theorem XK {v:Int}{m:ij.den}(hm:ij.wf m)(h:(dx v m).2=0):0≤v∧v≤3∧(m.1.all fun t=>t.2.1.all (gX v))=true∧(¬(1≤v∧v≤3)→m.2.1=0)∧(Gl v m).2=0∧(dx v m).1=(Gl v m).1∧(dx v m).1.length≤130048:=by
 have hlen:(dx v m).1.length≤130048:=by unfold dx;exact ej _ _ _ _
 unfold dx bu at h hlen ⊢
 rw[jI (t:=o5) rfl PK rfl (BJ m)] at h hlen ⊢
 by_cases hv:v<0∨3<v
 ·rw[if_pos hv] at h;cases h
 rw[if_neg hv] at h hlen ⊢
 have hv':0≤v∧v≤3:=by omega
 have hcz:(bS v o5 [ba (m.1.map dX),av 3 m.2.1]).2=((m.1.all fun t=>t.2.1.all (gX v))&&(if 1≤v∧v≤3 then true else (m.2.1 == 0))):=by
  unfold o5 b8
  rw[bd (ax hv'.1 hv'.2),dl,dk,dh,aL (by decide) (by decide),bh,Bool.and_true]
  simp only[Fl hv']
 have hwz:cG v o5 [ba (m.1.map dX),av 3 m.2.1]=Gl v m:=by
  unfold o5 b8 Gl
  rw[bc (ax hv'.1 hv'.2),pR,cv,bG (by decide) (w:=4) rfl (bV hm.2.1),fu,cw fun t ht=>P7 hv' (hm.1.2 t ht)]
  rfl
 rw[hcz,hwz] at h hlen ⊢
 generalize hz:((m.1.all fun t=>t.2.1.all (gX v))&&(if 1≤v∧v≤3 then true else (m.2.1 == 0)))=z at h hlen ⊢
 cases z with
 |false=>rw[if_pos rfl] at h;cases h
 |true=>
  rw[if_neg (by decide)] at h hlen ⊢
  rw[zA] at hz
  by_cases h1:(Gl v m).2=0
  ·rw[if_neg (by simpa using h1)] at h hlen ⊢
   by_cases h2:130048<(Gl v m).1.length
   ·rw[if_pos h2] at h;cases h
   ·rw[if_neg h2] at h hlen ⊢
    refine ⟨hv'.1,hv'.2,hz.1,fun h3=>?_,h1,rfl,hlen⟩
    have:=hz.2
    rw[if_neg h3] at this
    simpa using this
  ·rw[if_pos h1] at h
   exact absurd h h1
theorem nL {α:Type}{w:α→LI×Int}{l:List α}(h:(du w l).2=0):4≤(du w l).1.length:=by
 unfold du at h ⊢
 split at h
 ·cases h
 ·rename_i h1
  rw[if_neg h1,(cy h).2.2,zH,bj];omega
theorem acL {v:Int}{m:ij.den}(hm:ij.wf m)(h:(dx v m).2=0):
  eh v (dx v m).1=(m,0)∧(eh v ((dx v m).1.take ((dx v m).1.length - 1))).2=1:=by
 obtain ⟨h1,h2,hk,h3,h4,h5,h6⟩:=XK hm h
 rw[h5] at h6 ⊢
 generalize hr:(Gl v m).1=r at h6 ⊢
 have hne:r≠[]:=by
  intro e
  have h7:=cy h4
  have h8:=nL h7.1
  have:=h7.2.2
  have hl:=congrArg List.length this
  have hl':(Gl v m).1.length=0:=by rw[hr,e];rfl
  unfold Gl at hl'
  rw[hl'] at hl
  simp only[zH] at hl
  omega
 refine ⟨?_,?_⟩
 ·have key:=(Rd.rep2 (b:=r) hm hk h3 h4).full 0 [] (Nat.zero_le _) (by rw[hr];simp)
  have key:q6 v r=(m,(0,((0+(Gl v m).1.length:Nat):Int))):=key
  rw[hr] at key
  unfold eh
  rw[if_pos ⟨h1,h2,by omega⟩,key]
  have he:aE r (0,((0+r.length:Nat):Int))=0:=by
   unfold aE sQ
   rw[if_pos rfl,if_neg (by omega)]
  rw[if_pos he]
 ·obtain ⟨t,ht,htr⟩:=m6 hne
  have key:=(Rd.rep2 (b:=r.take (r.length - 1)) hm hk h3 h4).short 0 t (Nat.zero_le _) ht (by rw[hr];exact htr)
  have key:(q6 v (r.take (r.length - 1))).2.1=1:=key
  unfold eh
  rw[if_pos ⟨h1,h2,by rw[List.length_take];omega⟩]
  have he:aE (r.take (r.length - 1)) (q6 v (r.take (r.length - 1))).2=1:=by
   unfold aE
   rw[if_neg (by rw[key];decide)];exact key
  rw[he,if_neg (by decide)]
theorem abf {n:Int}(h:eD .i8 n):i64.wrap n=n:=by
 simp only[eD,IntKind.min,IntKind.max,IntKind.signed,IntKind.bits] at h
 simp at h
 exact aI (by omega) (by omega)
theorem ahP {n:Int}(h:eD .i8 n):i8.wrap n=n:=by
 simp only[eD,IntKind.min,IntKind.max,IntKind.signed,IntKind.bits] at h
 exact dY (by simp[eD,IntKind.min,IntKind.max,IntKind.signed,IntKind.bits];simpa using h)
theorem S9 {v:Int}(fs:List Fd)(ks:List Nd):aZ ([],0) (cG v fs ks)=cG v fs ks:=by
 induction fs generalizing ks with
 |nil=>rw[cv];rfl
 |cons f fs ih=>
  cases ks with
  |nil=>rw[cG];rfl;all_goals simp
  |cons k ks=>
   rw[cG]
   split
   ·exact Jg _ _
   ·exact ih ks
theorem kF {nm:LI}{k lo hi:Int}{e fs:List Fd}{n:Nd}{ks:List Nd}{v:Int}:cG v (cO nm k lo hi e::fs) (n::ks)=aZ (if lo≤v∧v≤hi then uE (cO nm k lo hi e) v n else ([],0)) (cG v fs ks):=by
 by_cases h:lo≤v∧v≤hi
 ·rw[if_pos h,bc (ax h.1 h.2)]
 ·rw[if_neg h,P6 (Am (by omega)),S9]
theorem Rd.map {α β:Type}{b:LI}{x:α}{w:LI×Int}{f:aD→α×aD}(c:α→β)(h:Rd b x w f):Rd b (c x) w fun s=>(c (f s).1,(f s).2):=fun hz=>(h hz).map c
abbrev aW:Ty:=.prod (.int .i32) (.prod (.int .i64) (.prod (.int .i32) (.prod (.int .i32) .unit)))
abbrev ai:Ty:=.prod .str (.prod (.sl 187 aW) .unit)
abbrev bO:Ty:=.prod (.int .i32) (.prod (.int .i32) (.prod (.int .i32) (.prod (.int .i32) (.prod (.int .i8) (.prod (.sl 185 ai) .unit)))))
def sZ (v:Int)(p:aW.den)(s:bf):bf:=ac p.2.2.2.1 4 (ac p.2.1 8 (cM v 3 3 p.2.2.1 4 (ac p.1 4 (s))))
theorem Js {s:bf}(v:Int)(p:aW.den)(h:s.2.2.length≤130048):(sZ v p s).2.2.length≤130048:=
 aA _ _ (aA _ _ (iz _ _ _ _ _ (aA _ _ (h))))
abbrev nj:Io:=⟨[.dat aW true false,.ptr 0 0],pG,[],[],none⟩
def J1 (d:nj.In):Tr nj.Res:=.ite (gi d.2.2) (.ret (.ret ((),fI d.2.2.1.2.1 (sZ d.2.2.1.2.1 d.1.1 (gj d.2.2))))) .no
abbrev Nj:List (Nat×Hc):=[(98,ae cX gg),(111,ae l8 AM),(95,ae iJ pr)]
def aaU:Hd:=bM Nj
def Ow:Lp:=bB []
def Dz (a0 a1 a2 a3 a4 a5:Int)(a6:Bool)(a7:LI)(a8:Int):Option nj.Res:=bif decide (a8=130048)&&decide (a7.length≤130048) then bif decide (130048=130048)&&decide ((ac a0 4 (a5,a6,a7)).2.2.length≤130048) then bif decide (3≤a4)&&decide (a4≤3) then bif decide (130048=130048)&&decide ((ac a0 4 (a5,a6,a7)).2.2.length≤130048) then bif decide (130048=130048)&&decide ((ac a2 4 (ac a0 4 (a5,a6,a7))).2.2.length≤130048) then bif decide (130048=130048)&&decide ((ac a1 8 (ac a2 4 (ac a0 4 (a5,a6,a7)))).2.2.length≤130048) then oR ((),((),()),((),a4,(ac a3 4 (ac a1 8 (ac a2 4 (ac a0 4 (a5,a6,a7))))).1,(ac a3 4 (ac a1 8 (ac a2 4 (ac a0 4 (a5,a6,a7))))).2.1,()),((ac a3 4 (ac a1 8 (ac a2 4 (ac a0 4 (a5,a6,a7))))).2.2,130048,()),()) else none else none else none else bif decide (130048=130048)&&decide ((ac a0 4 (a5,a6,a7)).2.2.length≤130048) then bif decide (130048=130048)&&decide ((ac a1 8 (ac a0 4 (a5,a6,a7))).2.2.length≤130048) then oR ((),((),()),((),a4,(ac a3 4 (ac a1 8 (ac a0 4 (a5,a6,a7)))).1,(ac a3 4 (ac a1 8 (ac a0 4 (a5,a6,a7)))).2.1,()),((ac a3 4 (ac a1 8 (ac a0 4 (a5,a6,a7)))).2.2,130048,()),()) else none else none else none else none
theorem XZ (a0 a1 a2 a3 a4 a5:Int)(a6:Bool)(a7:LI)(a8:Int):Io.run tt aaU dr Ow nj Tryz.f110 (((a0,a1,a2,a3,()),(),()),((),()),((),a4,a5,a6,()),(a7,a8,()),())=Dz a0 a1 a2 a3 a4 a5 a6 a7 a8:=by kernel_rfl
theorem ace:HcOk prog 110 (ae nj J1):=by
 refine cg (cs:=Nj) (.cons eb (.cons z6 (.cons nH .nil))) (lp:=Ow) (fn:=Tryz.f110) nj (.done (by kernel_rfl)) J1 ?_
 rintro ⟨⟨⟨(ix:Int),(fo:Int),(ep:Int),(mx:Int),⟨⟩⟩,⟨⟩,⟨⟩⟩,⟨⟨⟩,⟨⟩⟩,⟨⟨⟩,(v:Int),(e:Int),(f:Bool),⟨⟩⟩,⟨(b:LI),(m:Int),⟨⟩⟩,⟨⟩⟩ out hw ho
 obtain ⟨hg,ho⟩:=Tr.guard ho
 obtain ⟨rfl,hb⟩:=bK (v:=v) (e:=e) (f:=f) hg
 cases ho
 refine (XZ ix fo ep mx v e f b 130048).trans ?_
 unfold Dz
 have hg:∀s:bf,s.2.2.length≤130048→(decide ((130048:Int)=130048)&&decide (s.2.2.length≤130048))=true:=fun s h=>by simpa using h
 have hb:(e,(f,b)).2.2.length≤130048:=hb
 show _=oR ((),fI v (sZ v (ix,(fo,(ep,(mx,())))) (e,f,b)))
 refine (aa (hg _ hb) _ _).trans ?_
 have l0_1:=aA ix 4 hb
 refine (aa (hg _ l0_1) _ _).trans ?_
 by_cases h1_1:3≤v∧v≤3
 ·refine bT (by simpa using h1_1) ?_
  refine (aa (hg _ l0_1) _ _).trans ?_
  have l1_1:=aA ep 4 l0_1
  refine (aa (hg _ l1_1) _ _).trans ?_
  have l2_2:=aA fo 8 l1_1
  refine (aa (hg _ l2_2) _ _).trans ?_
  have l3_2:=aA mx 4 l2_2
  simp only[sZ,bL h1_1]
 ·refine (af (Bool.eq_false_iff.2 fun h'=>h1_1 (by simpa using h')) _ _).trans ?_
  refine (aa (hg _ l0_1) _ _).trans ?_
  have l2_2:=aA fo 8 l0_1
  refine (aa (hg _ l2_2) _ _).trans ?_
  have l3_2:=aA mx 4 l2_2
  simp only[sZ,bk h1_1]
def uG (v:Int)(xs:List aW.den)(s:bf):bf:=bE (sZ v) xs s
abbrev tP:Io:=⟨[.ptr 0 0,.dat (.sl 187 aW) false false,.fnc 110 false [2]],mh,[],[],none⟩
def Me (d:tP.In):Tr tP.Res:=.ite (kg d.2) (.ret (.ret ((),gl d.2.1.2.1 (uG d.2.1.2.1 d.1.2.1 (kh d.2))))) .no
abbrev Wr:List (Nat×Hc):=[(194,ae cT gq),(98,ae cX gg),(110,ae nj J1)]
theorem Xk:HcOk prog 109 (ae tP Me):=
 oO (one:=sZ) (sps:=uG) (fun _ _ _=>rfl) (fun v _ _ h3=>Js v _ h3) (cs:=Wr) (.cons fD (.cons eb (.cons ace .nil))) (fn:=Tryz.f109) (by kernel_rfl) (by kernel_rfl) (by kernel_rfl) (by kernel_rfl) (by kernel_rfl) (by kernel_rfl) (by intros;kernel_rfl) (by intros;kernel_rfl)
def FS (v:Int)(t:ai.den)(s:bf):bf:=uG v t.2.1 (bJ t.1 s)
abbrev kS:Io:=⟨[.dat ai true false,.ptr 0 0],pG,[],[],none⟩
def C3 (d:kS.In):Tr kS.Res:=.ite (gi d.2.2) (.ret (.ret ((),fI d.2.2.1.2.1 (FS d.2.2.1.2.1 d.1.1 (gj d.2.2))))) .no
abbrev HZ:List (Nat×Hc):=[(101,ae kR wG),(109,ae tP Me)]
def WJ:Hd:=bM HZ
def IB:Lp:=bB []
def AY (a0:LI)(a1:List aW.den)(a2 a3:Int)(a4:Bool)(a5:LI)(a6:Int):Option kS.Res:=bif decide (a6=130048)&&decide (a5.length≤130048) then bif decide (130048=130048)&&decide ((bJ a0 (a3,a4,a5)).2.2.length≤130048) then oR ((),((),()),((),a2,(uG a2 a1 (bJ a0 (a3,a4,a5))).1,(uG a2 a1 (bJ a0 (a3,a4,a5))).2.1,()),((uG a2 a1 (bJ a0 (a3,a4,a5))).2.2,130048,()),()) else none else none
theorem Sg (a0:LI)(a1:List aW.den)(a2 a3:Int)(a4:Bool)(a5:LI)(a6:Int):Io.run tt WJ dr IB kS Tryz.f108 (((a0,a1,()),(),()),((),()),((),a2,a3,a4,()),(a5,a6,()),())=AY a0 a1 a2 a3 a4 a5 a6:=by kernel_rfl
theorem Xl:HcOk prog 108 (ae kS C3):=by
 refine cg (cs:=HZ) (.cons wd (.cons Xk .nil)) (lp:=IB) (fn:=Tryz.f108) kS (.done (by kernel_rfl)) C3 ?_
 rintro ⟨⟨⟨(t:LI),(ps:List aW.den),⟨⟩⟩,⟨⟩,⟨⟩⟩,⟨⟨⟩,⟨⟩⟩,⟨⟨⟩,(v:Int),(e:Int),(f:Bool),⟨⟩⟩,⟨(b:LI),(m:Int),⟨⟩⟩,⟨⟩⟩ out hw ho
 obtain ⟨hg,ho⟩:=Tr.guard ho
 obtain ⟨rfl,hb⟩:=bK (v:=v) (e:=e) (f:=f) hg
 cases ho
 refine (Sg t ps v e f b 130048).trans ?_
 unfold AY
 refine bT (by simpa using hb) ?_
 refine bT (by simpa using fc (s:=(e,f,b)) t hb) ?_
 rfl
theorem pU {s:bf}(v:Int)(t:ai.den)(h:s.2.2.length≤130048):(FS v t s).2.2.length≤130048:=cn (fun x s=>Js v x) _ (fc _ h)
def ic (v:Int)(xs:List ai.den)(s:bf):bf:=bE (FS v) xs s
abbrev qt:Io:=⟨[.ptr 0 0,.dat (.sl 185 ai) false false,.fnc 108 false [2]],mh,[],[],none⟩
def GR (d:qt.In):Tr qt.Res:=.ite (kg d.2) (.ret (.ret ((),gl d.2.1.2.1 (ic d.2.1.2.1 d.1.2.1 (kh d.2))))) .no
abbrev QW:List (Nat×Hc):=[(194,ae cT gq),(98,ae cX gg),(108,ae kS C3)]
theorem RL:HcOk prog 107 (ae qt GR):=
 oO (one:=FS) (sps:=ic) (fun _ _ _=>rfl) (fun v _ _ h3=>pU v _ h3) (cs:=QW) (.cons fD (.cons eb (.cons Xl .nil))) (fn:=Tryz.f107) (by kernel_rfl) (by kernel_rfl) (by kernel_rfl) (by kernel_rfl) (by kernel_rfl) (by kernel_rfl) (by intros;kernel_rfl) (by intros;kernel_rfl)
def wo (v:Int)(p:aW.den)(s:bf):bf:=aq v (p.2.2.1 == 0) 3 3 (s)
def jl (v:Int)(ps:List aW.den)(s:bf):bf:=ps.foldl (fun s p=>wo v p s) s
def Ap (v:Int)(ts:List ai.den)(s:bf):bf:=ts.foldl (fun s t=>jl v t.2.1 s) s
def sX (v:Int)(m:bO.den):bf:=ic v m.2.2.2.2.2.1 (cM v 2 3 m.2.2.2.2.1 1 (cM v 1 3 m.2.2.2.1 4 (ac m.2.2.1 4 (ac m.2.1 4 (ac m.1 4 (Ap v m.2.2.2.2.2.1 (aq v (m.2.2.2.2.1 == 0) 2 3 (aq v (m.2.2.2.1 == 0) 1 3 (aV v,(false,([]:LI)))))))))))
abbrev qs:Io:=⟨[dI,.dat bO true false],[],[],[dO,dI],none⟩
def Zk (d:qs.In):Tr qs.Res:=.ret (.ret ((bD (sX d.1.1 d.1.2.1),(bm (sX d.1.1 d.1.2.1),())),()))
abbrev Up:List (Nat×Hc):=[(93,ae l9 AN),(94,ae gt mr),(95,ae iJ pr),(98,ae cX gg),(106,ae Bw aeu),(107,ae qt GR),(105,ae jF rM)]
def KS:Hd:=bM Up
abbrev iV:Lo:=⟨⟨(.any::ce (.one (.ptr 3 0)::ce (.one (.ptr 6 0)::.any::am (.one (.hol (.sl 185 ai))::.one hI::.one hI::dq (.one (.hol (.sl 187 aW))::.one hI::.one hI::.any::am (am (gE (ce [])))))))),[none,none,none,some [hJ,hJ,hJ,hJ,.hol (.int i8),.hol (.sl 185 ai)],none,none,some [.ptr 12 0],none,none,none,none,none,some [.ptr 13 0,hI,hI,hL],some [.onl 5 (Ty.int u8) 6658,hI]]⟩,[(.exit 2,⟨(.any::ce (.one (.ptr 3 0)::ce (.one (.ptr 6 0)::.any::am (.one (.hol (.sl 185 ai))::.one hI::.one hI::am (am (am (ce []))))))),[none,none,none,some [hJ,hJ,hJ,hJ,.hol (.int i8),.hol (.sl 185 ai)],none,none,some [.ptr 12 0],none,none,none,none,none,some [.ptr 13 0,hI,hI,hL],some [.onl 5 (Ty.int u8) 6658,hI]]⟩)]⟩
abbrev iU:Lo:=⟨⟨(.any::ce (.one (.ptr 3 0)::ce (.one (.ptr 6 0)::.any::am (.one (.hol (.sl 185 ai))::.one hI::.one hI::am (am (am (ce []))))))),[none,none,none,some [hJ,hJ,hJ,hJ,.hol (.int i8),.hol (.sl 185 ai)],none,none,some [.ptr 12 0],none,none,none,none,none,some [.ptr 13 0,hI,hI,hL],some [.onl 5 (Ty.int u8) 6658,hI]]⟩,[(.exit 0,⟨(.any::ce (.one (.ptr 3 0)::ce (.one (.ptr 6 0)::am (am (am (am (dq (ce [])))))))),[none,none,none,some [hJ,hJ,hJ,hJ,.hol (.int i8),.hol (.sl 185 ai)],none,none,some [.ptr 12 0],none,none,none,none,none,some [.ptr 13 0,hI,hI,hL],some [.onl 5 (Ty.int u8) 6658,hI]]⟩)]⟩
abbrev Af (re' wt' mi' mb' lv':Int)(ts':List ai.den)(v:Int)(s:bf):(Int×(Int×(Int×(Int×(Int×(List ai.den×Unit))))))×(Unit×((Int×(Int×(Bool×Unit)))×((LI×(Int×Unit))×Unit))):=((re',(wt',(mi',(mb',(lv',(ts',())))))),((),((v,(s.1,(s.2.1,()))),((s.2.2,(130048,())),()))))
def rO (d:iV.st.den):Tr (aH iV.xs):=
 .ite (decide (d.1.2.2.2.2.2.1=0)&&(decide (d.1.2.2.2.2.1=(d.1.2.2.2.1.length:Int))&&(decide (d.2.2.2.2.1.2.1=130048)&&decide (d.2.2.2.2.1.1.length≤130048)))) (.ret (.ret ((),((d.1.1,(d.1.2.1,(d.1.2.2.1,()))),Af d.2.1.1 d.2.1.2.1 d.2.1.2.2.1 d.2.1.2.2.2.1 d.2.1.2.2.2.2.1 d.2.1.2.2.2.2.2.1 d.2.2.2.1.1 (jl d.2.2.2.1.1 d.1.2.2.2.1 (d.2.2.2.1.2.1,(d.2.2.2.1.2.2.1,d.2.2.2.2.1.1))))))) .no
def rN (d:iU.st.den):Tr (aH iU.xs):=
 .ite (decide (d.1.2.2.1=0)&&(decide (d.1.2.1=(d.1.1.length:Int))&&(decide (d.2.2.2.2.1.2.1=130048)&&decide (d.2.2.2.2.1.1.length≤130048)))) (.ret (.ret ((),((),Af d.2.1.1 d.2.1.2.1 d.2.1.2.2.1 d.2.1.2.2.2.1 d.2.1.2.2.2.2.1 d.2.1.2.2.2.2.2.1 d.2.2.2.1.1 (Ap d.2.2.2.1.1 d.1.1 (d.2.2.2.1.2.1,(d.2.2.2.1.2.2.1,d.2.2.2.2.1.1))))))) .no
def t5:Lp:=bB [(6,aS iU rN),(9,aS iV rO)]
def BO {R:Type}(h21:List ai.den)(h22 h23:Int)(h24:List aW.den)(h25 h26 h27 h28 h29 h30 h31:Int)(h32:List ai.den)(h33 h34:Int)(h35:Bool)(h36:LI)(h37:Int)(next:List ai.den→Int→Int→List aW.den→Int→Int→Int→Int→Int→Int→Int→List ai.den→Int→Int→Bool→LI→Int→Option R)(out:aH iV.xs→Option R):Option R:=bif decide (h26<h25) then bif decide (0≤h26)&&decide (h26<(↑h24.length:Int)) then bif decide (h37=130048)&&decide (h36.length≤130048) then next (h21) (h22) (h23) (h24) (h25) (i64.wrap (h26+1)) (h27) (h28) (h29) (h30) (h31) (h32) (h33) ((aq h33 ((h24.getD h26.toNat (0,0,0,0,())).2.2.1 == 0) 3 3 (h34,h35,h36)).1) ((aq h33 ((h24.getD h26.toNat (0,0,0,0,())).2.2.1 == 0) 3 3 (h34,h35,h36)).2.1) ((aq h33 ((h24.getD h26.toNat (0,0,0,0,())).2.2.1 == 0) 3 3 (h34,h35,h36)).2.2) (130048) else none else none else out (.ret ((),((h21,(h22,(h23,()))),((h27,(h28,(h29,(h30,(h31,(h32,())))))),((),((h33,(h34,(h35,()))),((h36,(h37,())),())))))))
def zm (n:Nat)(h21:List ai.den)(h22 h23:Int)(h24:List aW.den)(h25 h26 h27 h28 h29 h30 h31:Int)(h32:List ai.den)(h33 h34:Int)(h35:Bool)(h36:LI)(h37:Int):Option (aH iV.xs):=il tt KS dr t5 0 Tryz.f44 (pV Tryz.f44 (db Tryz.f44 0) 0) n (iV.st.mk' ((h21,(h22,(h23,(h24,(h25,(h26,())))))),((h27,(h28,(h29,(h30,(h31,(h32,())))))),((),((h33,(h34,(h35,()))),((h36,(h37,())),())))))) (ci iV.xs)
theorem Ys (n:Nat)(h21:List ai.den)(h22 h23:Int)(h24:List aW.den)(h25 h26 h27 h28 h29 h30 h31:Int)(h32:List ai.den)(h33 h34:Int)(h35:Bool)(h36:LI)(h37:Int):zm (n+1) h21 h22 h23 h24 h25 h26 h27 h28 h29 h30 h31 h32 h33 h34 h35 h36 h37=BO h21 h22 h23 h24 h25 h26 h27 h28 h29 h30 h31 h32 h33 h34 h35 h36 h37 (zm n) some:=by kernel_rfl
def BN {R:Type}(h7:List ai.den)(h8 h9 h10 h11 h12 h13 h14:Int)(h15:List ai.den)(h16 h17:Int)(h18:Bool)(h19:LI)(h20:Int)(next:List ai.den→Int→Int→Int→Int→Int→Int→Int→List ai.den→Int→Int→Bool→LI→Int→Option R)(out:aH iU.xs→Option R):Option R:=bif decide (h9<h8) then bif decide (0≤h9)&&decide (h9<(↑h7.length:Int)) then (rO ((h7,(h8,(h9,((h7.getD h9.toNat ([],[],())).2.1,((↑(List.length (h7.getD h9.toNat ([],[],())).2.1):Int),(0,())))))),((h10,(h11,(h12,(h13,(h14,(h15,())))))),((),((h16,(h17,(h18,()))),((h19,(h20,())),())))))).run fun y=>match y with | .ret ((),((x69,x70,x71,()),(x72,x73,x74,x75,x76,x77,()),(),(x78,x79,x80,()),(x81,x82,()),()))=>(next (x69) (x70) (i64.wrap (x71+1)) (x72) (x73) (x74) (x75) (x76) (x77) (x78) (x79) (x80) (x81) (x82)) else none else out (.ret ((),((),((h10,(h11,(h12,(h13,(h14,(h15,())))))),((),((h16,(h17,(h18,()))),((h19,(h20,())),())))))))
def tW (n:Nat)(h7:List ai.den)(h8 h9 h10 h11 h12 h13 h14:Int)(h15:List ai.den)(h16 h17:Int)(h18:Bool)(h19:LI)(h20:Int):Option (aH iU.xs):=il tt KS dr t5 0 Tryz.f44 (db Tryz.f44 0) n (iU.st.mk' ((h7,(h8,(h9,()))),((h10,(h11,(h12,(h13,(h14,(h15,())))))),((),((h16,(h17,(h18,()))),((h19,(h20,())),())))))) (ci iU.xs)
theorem Yr (n:Nat)(h7:List ai.den)(h8 h9 h10 h11 h12 h13 h14:Int)(h15:List ai.den)(h16 h17:Int)(h18:Bool)(h19:LI)(h20:Int):tW (n+1) h7 h8 h9 h10 h11 h12 h13 h14 h15 h16 h17 h18 h19 h20=BN h7 h8 h9 h10 h11 h12 h13 h14 h15 h16 h17 h18 h19 h20 (tW n) some:=by kernel_rfl
theorem Jp {s:bf}(v:Int)(p:aW.den)(h:s.2.2.length≤130048):(wo v p s).2.2.length≤130048:=br _ _ _ _ h
theorem FP {s:bf}(v:Int)(ps:List aW.den)(h:s.2.2.length≤130048):(jl v ps s).2.2.length≤130048:=iq (fun x s=>Jp v x) ps s h
theorem Y2 {s:bf}(v:Int)(ts:List ai.den)(h:s.2.2.length≤130048):(Ap v ts s).2.2.length≤130048:=iq (one:=fun (t:ai.den) (s:bf)=>jl v t.2.1 s) (fun x s h=>FP v x.2.1 h) ts s h
theorem N1 (us:List ai.den)(n i re' wt' mi' mb' lv':Int)(ts':List ai.den)(v:Int){ps:List aW.den}(hl:ps.length≤maxLen):∀(k j:Nat) (s:bf),ps.length<j+k→j≤ps.length→s.2.2.length≤130048→
  zm k us n i ps (ps.length:Int) j re' wt' mi' mb' lv' ts' v s.1 s.2.1 s.2.2 130048=some (.ret ((),((us,(n,(i,()))),Af re' wt' mi' mb' lv' ts' v ((ps.drop j).foldl (fun s p=>wo v p s) s)))):=by
 intro k
 have hg:∀s:bf,s.2.2.length≤130048→(decide ((130048:Int)=130048)&&decide (s.2.2.length≤130048))=true:=fun s h=>by simpa using h
 induction k with
 |zero=>intro j s h;omega
 |succ k ih=>
  intro j s h1 h2 q0
  rw[Ys]
  unfold BO
  by_cases hi:j<ps.length
  ·refine bT (decide_eq_true (show (j:Int)<(ps.length:Int) by omega)) ?_
   refine bT (by simpa using hi) ?_
   simp only[zG,aJ hi,cq hi hl]
   refine (aa (hg _ q0) _ _).trans ?_
   have q1:=br (s:=s) v (ps[j].2.2.1 == 0) 3 3 q0
   rw[zE hi]
   exact ih (j+1) (wo v ps[j] s) (by omega) (by omega) (Jp _ _ q0)
  ·refine bF (by simp;omega) ?_
   rw[zI (by omega)]
   rfl
theorem N0 {us:List ai.den}(re' wt' mi' mb' lv':Int)(ts':List ai.den)(v:Int)(hl:us.length≤maxLen):∀(k j:Nat) (s:bf),us.length<j+k→j≤us.length→s.2.2.length≤130048→
  tW k us (us.length:Int) j re' wt' mi' mb' lv' ts' v s.1 s.2.1 s.2.2 130048=some (.ret ((),((),Af re' wt' mi' mb' lv' ts' v ((us.drop j).foldl (fun s t=>jl v t.2.1 s) s)))):=by
 intro k
 induction k with
 |zero=>intro j s h;omega
 |succ k ih=>
  intro j s h1 h2 h3
  rw[Yr]
  unfold BN
  by_cases hi:j<us.length
  ·refine bT (decide_eq_true (show (j:Int)<(us.length:Int) by omega)) ?_
   refine bT (by simpa using hi) ?_
   simp only[zG,aJ hi]
   have c1:(decide ((0:Int)=0)&&(decide ((us[j].2.1.length:Int)=(us[j].2.1.length:Int))&&(decide ((130048:Int)=130048)&&decide (s.2.2.length≤130048))))=true:=by simpa using h3
   have e1:rO ((us,((us.length:Int),((j:Int),(us[j].2.1,((us[j].2.1.length:Int),(0,())))))),((re',(wt',(mi',(mb',(lv',(ts',())))))),((),((v,(s.1,(s.2.1,()))),((s.2.2,(130048,())),())))))=
     .ite true (.ret (.ret ((),((us,((us.length:Int),((j:Int),()))),Af re' wt' mi' mb' lv' ts' v (jl v us[j].2.1 s))))) .no:=congrArg (fun c=>Tr.ite c _ _) c1
   rw[e1]
   show tW k us (us.length:Int) (i64.wrap ((j:Int)+1)) re' wt' mi' mb' lv' ts' v (jl v us[j].2.1 s).1 (jl v us[j].2.1 s).2.1 (jl v us[j].2.1 s).2.2 130048=_
   rw[cq hi hl,zE hi]
   exact ih (j+1) (jl v us[j].2.1 s) (by omega) (by omega) (FP _ _ h3)
  ·refine bF (by simp;omega) ?_
   rw[zI (by omega)]
   rfl
def Hs (a0 a1 a2 a3 a4 a5:Int)(a6:List ai.den):Option qs.Res:=bif decide (130048=130048)&&decide ((aq a0 (a4 == 0) 1 3 (aV a0,false,[])).2.2.length≤130048) then (rN ((a6,((↑a6.length:Int),(0,()))),((a1,(a2,(a3,(a4,(a5,(a6,())))))),((),((a0,((aq a0 (a5 == 0) 2 3 (aq a0 (a4 == 0) 1 3 (aV a0,false,[]))).1,((aq a0 (a5 == 0) 2 3 (aq a0 (a4 == 0) 1 3 (aV a0,false,[]))).2.1,()))),(((aq a0 (a5 == 0) 2 3 (aq a0 (a4 == 0) 1 3 (aV a0,false,[]))).2.2,(130048,())),())))))).run fun y=>match y with | .ret ((),((),(x108,x109,x110,x111,x112,x113,()),(),(x114,x115,x116,()),(x117,x118,()),()))=>(bif decide (x118=130048)&&decide (x117.length≤130048) then bif decide (130048=130048)&&decide ((ac x108 4 (x115,x116,x117)).2.2.length≤130048) then bif decide (130048=130048)&&decide ((ac x109 4 (ac x108 4 (x115,x116,x117))).2.2.length≤130048) then bif decide (130048=130048)&&decide ((ac x110 4 (ac x109 4 (ac x108 4 (x115,x116,x117)))).2.2.length≤130048) then bif decide (1≤x114)&&decide (x114≤3) then bif decide (130048=130048)&&decide ((ac x110 4 (ac x109 4 (ac x108 4 (x115,x116,x117)))).2.2.length≤130048) then bif decide (130048=130048)&&decide ((ac x111 4 (ac x110 4 (ac x109 4 (ac x108 4 (x115,x116,x117))))).2.2.length≤130048) then bif decide (2≤x114)&&decide (x114≤3) then bif decide (130048=130048)&&decide ((ac x111 4 (ac x110 4 (ac x109 4 (ac x108 4 (x115,x116,x117))))).2.2.length≤130048) then bif decide (130048=130048)&&decide ((ac x112 1 (ac x111 4 (ac x110 4 (ac x109 4 (ac x108 4 (x115,x116,x117)))))).2.2.length≤130048) then bif decide (130048=130048)&&decide ((ic x114 x113 (ac x112 1 (ac x111 4 (ac x110 4 (ac x109 4 (ac x108 4 (x115,x116,x117))))))).2.2.length≤130048) then oR ((bD (ic x114 x113 (ac x112 1 (ac x111 4 (ac x110 4 (ac x109 4 (ac x108 4 (x115,x116,x117))))))),bm (ic x114 x113 (ac x112 1 (ac x111 4 (ac x110 4 (ac x109 4 (ac x108 4 (x115,x116,x117))))))),()),()) else none else none else none else bif decide (130048=130048)&&decide ((ac x111 4 (ac x110 4 (ac x109 4 (ac x108 4 (x115,x116,x117))))).2.2.length≤130048) then bif decide (130048=130048)&&decide ((ic x114 x113 (ac x111 4 (ac x110 4 (ac x109 4 (ac x108 4 (x115,x116,x117)))))).2.2.length≤130048) then oR ((bD (ic x114 x113 (ac x111 4 (ac x110 4 (ac x109 4 (ac x108 4 (x115,x116,x117)))))),bm (ic x114 x113 (ac x111 4 (ac x110 4 (ac x109 4 (ac x108 4 (x115,x116,x117)))))),()),()) else none else none else none else none else bif decide (130048=130048)&&decide ((ac x110 4 (ac x109 4 (ac x108 4 (x115,x116,x117)))).2.2.length≤130048) then bif decide (2≤x114)&&decide (x114≤3) then bif decide (130048=130048)&&decide ((ac x110 4 (ac x109 4 (ac x108 4 (x115,x116,x117)))).2.2.length≤130048) then bif decide (130048=130048)&&decide ((ac x112 1 (ac x110 4 (ac x109 4 (ac x108 4 (x115,x116,x117))))).2.2.length≤130048) then bif decide (130048=130048)&&decide ((ic x114 x113 (ac x112 1 (ac x110 4 (ac x109 4 (ac x108 4 (x115,x116,x117)))))).2.2.length≤130048) then oR ((bD (ic x114 x113 (ac x112 1 (ac x110 4 (ac x109 4 (ac x108 4 (x115,x116,x117)))))),bm (ic x114 x113 (ac x112 1 (ac x110 4 (ac x109 4 (ac x108 4 (x115,x116,x117)))))),()),()) else none else none else none else bif decide (130048=130048)&&decide ((ac x110 4 (ac x109 4 (ac x108 4 (x115,x116,x117)))).2.2.length≤130048) then bif decide (130048=130048)&&decide ((ic x114 x113 (ac x110 4 (ac x109 4 (ac x108 4 (x115,x116,x117))))).2.2.length≤130048) then oR ((bD (ic x114 x113 (ac x110 4 (ac x109 4 (ac x108 4 (x115,x116,x117))))),bm (ic x114 x113 (ac x110 4 (ac x109 4 (ac x108 4 (x115,x116,x117))))),()),()) else none else none else none else none else none else none else none) else none
theorem ac7 (a0 a1 a2 a3 a4 a5:Int)(a6:List ai.den):Io.run tt KS dr t5 qs Tryz.f44 ((a0,(a1,a2,a3,a4,a5,a6,()),()),())=Hs a0 a1 a2 a3 a4 a5 a6:=by kernel_rfl
theorem y6:HcsOk prog Up:=.cons z7 (.cons nI (.cons nH (.cons eb (.cons ah0 (.cons RL (.cons uq .nil))))))
theorem afK:HcOk prog 44 (ae qs Zk):=by
 refine cg y6 (lp:=t5) (fn:=Tryz.f44) qs (.step (h0:=aS iU rN) (by kernel_rfl) (jh y6 (lp:=t5) (fn:=Tryz.f44) (.step (h0:=aS iV rO) (by kernel_rfl) (jh y6 (lp:=t5) (fn:=Tryz.f44) (.done (by kernel_rfl)) iV rO ?_) (.done (by kernel_rfl))) iU rN ?_) (.done (by kernel_rfl))) Zk ?_
 ·rintro ⟨⟨(us:List ai.den),(n:Int),(i:Int),(ps:List aW.den),(pn:Int),(pj:Int),⟨⟩⟩,⟨⟨(re':Int),(wt':Int),(mi':Int),(mb':Int),(lv':Int),(ts':List ai.den),⟨⟩⟩,⟨⟩,⟨(v:Int),(e:Int),(f:Bool),⟨⟩⟩,⟨(b:LI),(m:Int),⟨⟩⟩,⟨⟩⟩⟩ y hw hy
  obtain ⟨hg,hy⟩:=Tr.guard hy
  simp only[zA,zB] at hg
  obtain ⟨rfl,rfl,rfl,h4⟩:=hg
  have h4:b.length≤130048:=h4
  have hl:ps.length≤maxLen:=hw.1.2.2.2.1.1
  refine ⟨ps.length+1,(N1 us n i re' wt' mi' mb' lv' ts' v hl (ps.length+1) 0 (e,(f,b)) (by omega) (by omega) h4).trans ?_⟩
  rw[← hy];rfl
 ·rintro ⟨⟨(us:List ai.den),(n:Int),(i:Int),⟨⟩⟩,⟨⟨(re':Int),(wt':Int),(mi':Int),(mb':Int),(lv':Int),(ts':List ai.den),⟨⟩⟩,⟨⟩,⟨(v:Int),(e:Int),(f:Bool),⟨⟩⟩,⟨(b:LI),(m:Int),⟨⟩⟩,⟨⟩⟩⟩ y hw hy
  obtain ⟨hg,hy⟩:=Tr.guard hy
  simp only[zA,zB] at hg
  obtain ⟨rfl,rfl,rfl,h4⟩:=hg
  have h4:b.length≤130048:=h4
  have hl:us.length≤maxLen:=hw.1.1.1
  refine ⟨us.length+1,(N0 re' wt' mi' mb' lv' ts' v hl (us.length+1) 0 (e,(f,b)) (by omega) (by omega) h4).trans ?_⟩
  rw[← hy];rfl
 ·rintro ⟨⟨(v:Int),⟨(re:Int),(wt:Int),(mi:Int),(mb:Int),(lv:Int),(ts:List ai.den),⟨⟩⟩,⟨⟩⟩,⟨⟩⟩ out hw ho
  cases ho
  refine (ac7 v re wt mi mb lv ts).trans ?_
  unfold Hs
  have hg:∀s:bf,s.2.2.length≤130048→(decide ((130048:Int)=130048)&&decide (s.2.2.length≤130048))=true:=fun s h=>by simpa using h
  have q0:(aV v,(false,([]:LI))).2.2.length≤130048:=by simp
  have q1:=br (s:=(aV v,(false,([]:LI)))) v (mb == 0) 1 3 q0
  refine (aa (hg _ q1) _ _).trans ?_
  have q2:=br (s:=aq v (mb == 0) 1 3 (aV v,(false,([]:LI)))) v (lv == 0) 2 3 q1
  have c1:(decide ((0:Int)=0)&&(decide ((ts.length:Int)=(ts.length:Int))&&(decide ((130048:Int)=130048)&&decide ((aq v (lv == 0) 2 3 (aq v (mb == 0) 1 3 (aV v,(false,([]:LI))))).2.2.length≤130048))))=true:=by simpa using q2
  have e1:rN ((ts,((ts.length:Int),(0,()))),((re,(wt,(mi,(mb,(lv,(ts,())))))),((),((v,((aq v (lv == 0) 2 3 (aq v (mb == 0) 1 3 (aV v,(false,([]:LI))))).1,((aq v (lv == 0) 2 3 (aq v (mb == 0) 1 3 (aV v,(false,([]:LI))))).2.1,()))),(((aq v (lv == 0) 2 3 (aq v (mb == 0) 1 3 (aV v,(false,([]:LI))))).2.2,(130048,())),())))))=
    .ite true (.ret (.ret ((),((),Af re wt mi mb lv ts v (Ap v ts (aq v (lv == 0) 2 3 (aq v (mb == 0) 1 3 (aV v,(false,([]:LI)))))))))) .no:=congrArg (fun c=>Tr.ite c _ _) c1
  rw[e1]
  have r0:=Y2 v ts q2
  refine (aa (hg _ r0) _ _).trans ?_
  have l0_0:=aA re 4 r0
  refine (aa (hg _ l0_0) _ _).trans ?_
  have l1_0:=aA wt 4 l0_0
  refine (aa (hg _ l1_0) _ _).trans ?_
  have l2_0:=aA mi 4 l1_0
  refine (aa (hg _ l2_0) _ _).trans ?_
  by_cases h3_0:1≤v∧v≤3
  ·refine bT (by simpa using h3_0) ?_
   refine (aa (hg _ l2_0) _ _).trans ?_
   have l3_0:=aA mb 4 l2_0
   refine (aa (hg _ l3_0) _ _).trans ?_
   by_cases h4_1:2≤v∧v≤3
   ·refine bT (by simpa using h4_1) ?_
    refine (aa (hg _ l3_0) _ _).trans ?_
    have l4_1:=aA lv 1 l3_0
    refine (aa (hg _ l4_1) _ _).trans ?_
    have l5_2:=cn (fun x s=>pU v x) ts l4_1
    refine (aa (hg _ l5_2) _ _).trans ?_
    simp only[sX,bL h3_0,bL h4_1]
   ·refine (af (Bool.eq_false_iff.2 fun h'=>h4_1 (by simpa using h')) _ _).trans ?_
    refine (aa (hg _ l3_0) _ _).trans ?_
    have l5_2:=cn (fun x s=>pU v x) ts l3_0
    refine (aa (hg _ l5_2) _ _).trans ?_
    simp only[sX,bL h3_0,bk h4_1]
  ·refine (af (Bool.eq_false_iff.2 fun h'=>h3_0 (by simpa using h')) _ _).trans ?_
   refine (aa (hg _ l2_0) _ _).trans ?_
   by_cases h4_1:2≤v∧v≤3
   ·refine bT (by simpa using h4_1) ?_
    refine (aa (hg _ l2_0) _ _).trans ?_
    have l4_1:=aA lv 1 l2_0
    refine (aa (hg _ l4_1) _ _).trans ?_
    have l5_2:=cn (fun x s=>pU v x) ts l4_1
    refine (aa (hg _ l5_2) _ _).trans ?_
    simp only[sX,bk h3_0,bL h4_1]
   ·refine (af (Bool.eq_false_iff.2 fun h'=>h4_1 (by simpa using h')) _ _).trans ?_
    refine (aa (hg _ l2_0) _ _).trans ?_
    have l5_2:=cn (fun x s=>pU v x) ts l2_0
    refine (aa (hg _ l5_2) _ _).trans ?_
    simp only[sX,bk h3_0,bk h4_1]
@[irreducible] noncomputable def nZ (v:Int)(b:LI)(s:aD):aW.den×aD:=
 (((ab .i32 4 b s).1,((ab .i64 8 b (ao .i32 4 v 3 3 b (ab .i32 4 b s).2).2).1,((ao .i32 4 v 3 3 b (ab .i32 4 b s).2).1,((ab .i32 4 b (ab .i64 8 b (ao .i32 4 v 3 3 b (ab .i32 4 b s).2).2).2).1,())))),(ab .i32 4 b (ab .i64 8 b (ao .i32 4 v 3 3 b (ab .i32 4 b s).2).2).2).2)
theorem Jr {v:Int}{b:LI}{s:aD}(h:al b s.2=true):al b (nZ v b s).2.2=true:=by
 unfold nZ
 exact aO _ _ (aO _ _ (ge (aO _ _ (h))))
abbrev kN:Io:=⟨[.ptr 0 0],pF,[],[.dat aW true false],none⟩
def CU (d:kN.In):Tr kN.Res:=.ite (al d.2.2.2.1.1 d.2.2.2.1.2.1) (.ret (.ret (((nZ d.2.2.1.2.1 d.2.2.2.1.1 (cK d.2.2)).1,()),dp d.2.2.1.2.1 d.2.2.2.1.1 (nZ d.2.2.1.2.1 d.2.2.2.1.1 (cK d.2.2)).2))) .no
abbrev HV:List (Nat×Hc):=[(143,ae cB ew),(156,ae lY AE),(140,ae iI pq)]
def WF:Hd:=bM HV
def Ix:Lp:=bB []
def AU (a0 a1:Int)(a2:LI)(a3:Int):Option kN.Res:=bif al a2 a3 then bif aQ a0 3 3 (ab i32 4 a2 (a1,a3)).2.1 then bif al a2 (ab i32 4 a2 (a1,a3)).2.2 then bif al a2 (ab i32 4 a2 (ab i32 4 a2 (a1,a3)).2).2.2 then bif al a2 (ab i64 8 a2 (ab i32 4 a2 (ab i32 4 a2 (a1,a3)).2).2).2.2 then oR ((((ab i32 4 a2 (a1,a3)).1,(ab i64 8 a2 (ab i32 4 a2 (ab i32 4 a2 (a1,a3)).2).2).1,(ab i32 4 a2 (ab i32 4 a2 (a1,a3)).2).1,(ab i32 4 a2 (ab i64 8 a2 (ab i32 4 a2 (ab i32 4 a2 (a1,a3)).2).2).2).1,()),()),((),()),((),a0,(ab i32 4 a2 (ab i64 8 a2 (ab i32 4 a2 (ab i32 4 a2 (a1,a3)).2).2).2).2.1,()),(a2,(ab i32 4 a2 (ab i64 8 a2 (ab i32 4 a2 (ab i32 4 a2 (a1,a3)).2).2).2).2.2,()),()) else none else none else none else bif al a2 (ab i32 4 a2 (a1,a3)).2.2 then bif al a2 (ab i64 8 a2 (ab i32 4 a2 (a1,a3)).2).2.2 then oR ((((ab i32 4 a2 (a1,a3)).1,(ab i64 8 a2 (ab i32 4 a2 (a1,a3)).2).1,0,(ab i32 4 a2 (ab i64 8 a2 (ab i32 4 a2 (a1,a3)).2).2).1,()),()),((),()),((),a0,(ab i32 4 a2 (ab i64 8 a2 (ab i32 4 a2 (a1,a3)).2).2).2.1,()),(a2,(ab i32 4 a2 (ab i64 8 a2 (ab i32 4 a2 (a1,a3)).2).2).2.2,()),()) else none else none else none
theorem Sc (a0 a1:Int)(a2:LI)(a3:Int):Io.run tt WF dr Ix kN Tryz.f155 (((),()),((),()),((),a0,a1,()),(a2,a3,()),())=AU a0 a1 a2 a3:=by kernel_rfl
theorem Xf:HcOk prog 155 (ae kN CU):=by
 refine cg (cs:=HV) (.cons cY (.cons zZ (.cons nG .nil))) (lp:=Ix) (fn:=Tryz.f155) kN (.done (by kernel_rfl)) CU ?_
 rintro ⟨⟨⟨⟩,⟨⟩⟩,⟨⟨⟩,⟨⟩⟩,⟨⟨⟩,(v:Int),(e:Int),⟨⟩⟩,⟨(b:LI),(p:Int),⟨⟩⟩,⟨⟩⟩ out hw ho
 obtain ⟨hg,ho⟩:=Tr.guard ho
 have hg:al b p=true:=hg
 cases ho
 refine (Sc v e b p).trans ?_
 unfold AU
 show _=oR (((nZ v b (e,p)).1,()),dp v b (nZ v b (e,p)).2)
 unfold nZ
 have hg:al b ((e,p):aD).2=true:=hg
 refine (aa hg _ _).trans ?_
 have g0:al b (ab .i32 4 b ((e,p):aD)).2.2=true:=aO .i32 4 (s:=((e,p):aD)) hg
 show (bif aQ v 3 3 (ab .i32 4 b ((e,p):aD)).2.1 then _ else _)=_
 cases h1:aQ v 3 3 (ab .i32 4 b ((e,p):aD)).2.1
 ·have e1:ao .i32 4 v 3 3 b (ab .i32 4 b ((e,p):aD)).2=(0,(ab .i32 4 b ((e,p):aD)).2):=by unfold ao;rw[if_neg (by rw[h1];decide)]
  rw[e1]
  refine (aa g0 _ _).trans ?_
  have gf2:al b (ab .i64 8 b (ab .i32 4 b ((e,p):aD)).2).2.2=true:=aO .i64 8 (s:=(ab .i32 4 b ((e,p):aD)).2) g0
  refine (aa gf2 _ _).trans ?_
  have gf3:al b (ab .i32 4 b (ab .i64 8 b (ab .i32 4 b ((e,p):aD)).2).2).2.2=true:=aO .i32 4 (s:=(ab .i64 8 b (ab .i32 4 b ((e,p):aD)).2).2) gf2
  rfl
 ·have e1:ao .i32 4 v 3 3 b (ab .i32 4 b ((e,p):aD)).2=ab .i32 4 b (ab .i32 4 b ((e,p):aD)).2:=by unfold ao;rw[if_pos h1]
  rw[e1]
  refine (aa g0 _ _).trans ?_
  have g1:al b (ab .i32 4 b (ab .i32 4 b ((e,p):aD)).2).2.2=true:=aO .i32 4 (s:=(ab .i32 4 b ((e,p):aD)).2) g0
  refine (aa g1 _ _).trans ?_
  have gt2:al b (ab .i64 8 b (ab .i32 4 b (ab .i32 4 b ((e,p):aD)).2).2).2.2=true:=aO .i64 8 (s:=(ab .i32 4 b (ab .i32 4 b ((e,p):aD)).2).2) g1
  refine (aa gt2 _ _).trans ?_
  have gt3:al b (ab .i32 4 b (ab .i64 8 b (ab .i32 4 b (ab .i32 4 b ((e,p):aD)).2).2).2).2.2=true:=aO .i32 4 (s:=(ab .i64 8 b (ab .i32 4 b (ab .i32 4 b ((e,p):aD)).2).2).2) gt2
  rfl
@[irreducible] noncomputable def jK (v:Int)(b:LI)(s:aD):List aW.den×aD:=iC (nZ v b) b s
theorem Tj {v:Int}{b:LI}{s:aD}(h:al b s.2=true):al b (jK v b s).2.2=true:=by
 unfold jK
 exact fH (fun s h=>Jr h) h
abbrev qn:Io:=⟨[.ptr 0 0,.fnc 155 false [2]],nF,[],[.dat (.sl 187 aW) false false],none⟩
def GN (d:qn.In):Tr qn.Res:=.ite (al d.2.2.1.1 d.2.2.1.2.1) (.ret (.ret (((jK d.2.1.2.1 d.2.2.1.1 (d7 d.2)).1,()),iD d.2.1.2.1 d.2.2.1.1 (jK d.2.1.2.1 d.2.2.1.1 (d7 d.2)).2))) .no
abbrev QS:List (Nat×Hc):=[(143,ae cB ew),(155,ae kN CU)]
theorem RD:HcOk prog 154 (ae qn GN):=
 mc (one:=nZ) (sps:=jK) (fun _ _ _=>by unfold jK;rfl) (fun _ _ _ h4=>Jr h4) (cs:=QS) (.cons cY (.cons Xf .nil)) (fn:=Tryz.f154) (by kernel_rfl) (by kernel_rfl) (by kernel_rfl) (by kernel_rfl) (by kernel_rfl) (by kernel_rfl) (by intros;kernel_rfl) (by intros;kernel_rfl)
@[irreducible] noncomputable def n3 (v:Int)(b:LI)(s:aD):ai.den×aD:=(((bi b s).1,((jK v b (bi b s).2).1,())),(jK v b (bi b s).2).2)
theorem Jt {v:Int}{b:LI}{s:aD}(h:al b s.2=true):al b (n3 v b s).2.2=true:=by
 unfold n3
 exact Tj (fa h)
abbrev jQ:Io:=⟨[.ptr 0 0],pF,[],[.dat ai true false],none⟩
def yI (d:jQ.In):Tr jQ.Res:=.ite (al d.2.2.2.1.1 d.2.2.2.1.2.1) (.ret (.ret (((n3 d.2.2.1.2.1 d.2.2.2.1.1 (cK d.2.2)).1,()),dp d.2.2.1.2.1 d.2.2.2.1.1 (n3 d.2.2.1.2.1 d.2.2.2.1.1 (cK d.2.2)).2))) .no
abbrev DZ:List (Nat×Hc):=[(146,ae l6 AG),(154,ae qn GN)]
def Q4:Hd:=bM DZ
def EN:Lp:=bB []
def xe (a0 a1:Int)(a2:LI)(a3:Int):Option jQ.Res:=bif al a2 a3 then bif al a2 (bi a2 (a1,a3)).2.2 then oR ((((bi a2 (a1,a3)).1,(jK a0 a2 (bi a2 (a1,a3)).2).1,()),()),((),()),((),a0,(jK a0 a2 (bi a2 (a1,a3)).2).2.1,()),(a2,(jK a0 a2 (bi a2 (a1,a3)).2).2.2,()),()) else none else none
theorem Pf (a0 a1:Int)(a2:LI)(a3:Int):Io.run tt Q4 dr EN jQ Tryz.f153 (((),()),((),()),((),a0,a1,()),(a2,a3,()),())=xe a0 a1 a2 a3:=by kernel_rfl
theorem RE:HcOk prog 153 (ae jQ yI):=by
 refine cg (cs:=DZ) (.cons z4 (.cons RD .nil)) (lp:=EN) (fn:=Tryz.f153) jQ (.done (by kernel_rfl)) yI ?_
 rintro ⟨⟨⟨⟩,⟨⟩⟩,⟨⟨⟩,⟨⟩⟩,⟨⟨⟩,(v:Int),(e:Int),⟨⟩⟩,⟨(b:LI),(p:Int),⟨⟩⟩,⟨⟩⟩ out hw ho
 obtain ⟨hg,ho⟩:=Tr.guard ho
 have hg:al b p=true:=hg
 cases ho
 refine (Pf v e b p).trans ?_
 unfold xe
 show _=oR (((n3 v b (e,p)).1,()),dp v b (n3 v b (e,p)).2)
 unfold n3
 refine (aa hg _ _).trans ?_
 exact aa (fa (s:=(e,p)) hg) _ _
@[irreducible] noncomputable def bz (v:Int)(b:LI)(s:aD):List ai.den×aD:=iC (n3 v b) b s
theorem rt {v:Int}{b:LI}{s:aD}(h:al b s.2=true):al b (bz v b s).2.2=true:=by
 unfold bz
 exact fH (fun s h=>Jt h) h
abbrev oD:Io:=⟨[.ptr 0 0,.fnc 153 false [2]],nF,[],[.dat (.sl 185 ai) false false],none⟩
def CV (d:oD.In):Tr oD.Res:=.ite (al d.2.2.1.1 d.2.2.1.2.1) (.ret (.ret (((bz d.2.1.2.1 d.2.2.1.1 (d7 d.2)).1,()),iD d.2.1.2.1 d.2.2.1.1 (bz d.2.1.2.1 d.2.2.1.1 (d7 d.2)).2))) .no
abbrev M8:List (Nat×Hc):=[(143,ae cB ew),(153,ae jQ yI)]
theorem OU:HcOk prog 152 (ae oD CV):=
 mc (one:=n3) (sps:=bz) (fun _ _ _=>by unfold bz;rfl) (fun _ _ _ h4=>Jt h4) (cs:=M8) (.cons cY (.cons RE .nil)) (fn:=Tryz.f152) (by kernel_rfl) (by kernel_rfl) (by kernel_rfl) (by kernel_rfl) (by kernel_rfl) (by kernel_rfl) (by intros;kernel_rfl) (by intros;kernel_rfl)
abbrev mC:Io:=⟨[.ptr 0 0,.fnc 153 false [1]],wc,[],[.dat (.sl 185 ai) false false],none⟩
def AH (d:mC.In):Tr mC.Res:=.ite (decide (d.2.1.2.2.1≠0)) (.ret (.ret ((([]:List ai.den),()),d.2))) .no
abbrev Kt:List (Nat×Hc):=[(143,eX di (ae eM jO) (ae cB ew))]
theorem LC:HcOk prog 152 (ae mC AH):=
 t4 (cs:=Kt) (.cons (bb jj cY) .nil) (fn:=Tryz.f152) (by kernel_rfl) (by kernel_rfl) (by kernel_rfl) (by kernel_rfl) (by kernel_rfl) (by kernel_rfl) (by intros;kernel_rfl) (by intros;kernel_rfl)
def ah5:bO.den:=(0,(0,(0,(0,(0,(([]:List ai.den),()))))))
def rs (v:Int)(b:LI)(s:aD):bO.den×aD:=
 (((ab .i32 4 b s).1,((ab .i32 4 b (ab .i32 4 b s).2).1,((ab .i32 4 b (ab .i32 4 b (ab .i32 4 b s).2).2).1,((ao .i32 4 v 1 3 b (ab .i32 4 b (ab .i32 4 b (ab .i32 4 b s).2).2).2).1,((ao .i8 1 v 2 3 b (ao .i32 4 v 1 3 b (ab .i32 4 b (ab .i32 4 b (ab .i32 4 b s).2).2).2).2).1,((bz v b (ao .i8 1 v 2 3 b (ao .i32 4 v 1 3 b (ab .i32 4 b (ab .i32 4 b (ab .i32 4 b s).2).2).2).2).2).1,())))))),(bz v b (ao .i8 1 v 2 3 b (ao .i32 4 v 1 3 b (ab .i32 4 b (ab .i32 4 b (ab .i32 4 b s).2).2).2).2).2).2)
def lR (v:Int)(b:LI):bO.den×Int:=if 0≤v∧v≤3∧(b.length:Int)≤130048 then (if aE b (rs v b (0,0)).2=0 then ((rs v b (0,0)).1,0) else (ah5,aE b (rs v b (0,0)).2)) else (ah5,bg v)
abbrev nf:Io:=⟨[dI,dL],[],[],[.dat bO true false,dI],none⟩
def JW (d:nf.In):Tr nf.Res:=.ret (.ret (((lR d.1.1 d.1.2.1).1,((lR d.1.1 d.1.2.1).2,())),()))
abbrev M7:List (Nat×Hc):=[(139,eX zW (ae jE o8) (ae lZ AF)),(140,eX di (ae jD rL) (ae iI pq)),(143,eX di (ae eM jO) (ae cB ew)),(151,eX di (ae so TD) (ae Bv aet)),(152,eX di (ae mC AH) (ae oD CV)),(150,eX di (ae jC rK) (ae lW AC))]
def aaO:Hd:=bM M7
def Oo:Lp:=bB []
def Dq (a0:Int)(a1:LI):Option nf.Res:=bif !(decide (0≤a0)&&(decide (a0≤3)&&decide ((↑a1.length:Int)≤130048))) then bif decide (0≤a0)&&(decide (a0≤3)&&decide ((↑a1.length:Int)≤130048)) then none else bif decide (bg a0≠0) then bif decide (bg a0≠0) then bif decide (bg a0≠0) then bif decide (bg a0≠0) then bif decide (bg a0≠0) then bif decide (bg a0≠0) then bif decide (bg a0≠0) then bif bg a0 != 0 then oR (((0,0,0,0,0,[],()),bg a0,()),()) else oR (((0,0,0,0,0,[],()),0,()),()) else none else none else none else none else none else none else none else bif decide (0≤a0)&&(decide (a0≤3)&&decide ((↑a1.length:Int)≤130048)) then bif al a1 0 then bif al a1 (an a1 0 4).2.1 then bif al a1 (ab i32 4 a1 ((an a1 0 4).2.2,(an a1 0 4).2.1)).2.2 then bif aQ a0 1 3 (ab i32 4 a1 (ab i32 4 a1 ((an a1 0 4).2.2,(an a1 0 4).2.1)).2).2.1 then bif al a1 (ab i32 4 a1 (ab i32 4 a1 ((an a1 0 4).2.2,(an a1 0 4).2.1)).2).2.2 then bif aQ a0 2 3 (ab i32 4 a1 (ab i32 4 a1 (ab i32 4 a1 ((an a1 0 4).2.2,(an a1 0 4).2.1)).2).2).2.1 then bif al a1 (ab i32 4 a1 (ab i32 4 a1 (ab i32 4 a1 ((an a1 0 4).2.2,(an a1 0 4).2.1)).2).2).2.2 then bif al a1 (ab i8 1 a1 (ab i32 4 a1 (ab i32 4 a1 (ab i32 4 a1 ((an a1 0 4).2.2,(an a1 0 4).2.1)).2).2).2).2.2 then bif aE a1 (bz a0 a1 (ab i8 1 a1 (ab i32 4 a1 (ab i32 4 a1 (ab i32 4 a1 ((an a1 0 4).2.2,(an a1 0 4).2.1)).2).2).2).2).2 != 0 then oR (((0,0,0,0,0,[],()),aE a1 (bz a0 a1 (ab i8 1 a1 (ab i32 4 a1 (ab i32 4 a1 (ab i32 4 a1 ((an a1 0 4).2.2,(an a1 0 4).2.1)).2).2).2).2).2,()),()) else oR (((i32.wrap (an a1 0 4).1,(ab i32 4 a1 ((an a1 0 4).2.2,(an a1 0 4).2.1)).1,(ab i32 4 a1 (ab i32 4 a1 ((an a1 0 4).2.2,(an a1 0 4).2.1)).2).1,(ab i32 4 a1 (ab i32 4 a1 (ab i32 4 a1 ((an a1 0 4).2.2,(an a1 0 4).2.1)).2).2).1,(ab i8 1 a1 (ab i32 4 a1 (ab i32 4 a1 (ab i32 4 a1 ((an a1 0 4).2.2,(an a1 0 4).2.1)).2).2).2).1,(bz a0 a1 (ab i8 1 a1 (ab i32 4 a1 (ab i32 4 a1 (ab i32 4 a1 ((an a1 0 4).2.2,(an a1 0 4).2.1)).2).2).2).2).1,()),0,()),()) else none else none else bif al a1 (ab i32 4 a1 (ab i32 4 a1 (ab i32 4 a1 ((an a1 0 4).2.2,(an a1 0 4).2.1)).2).2).2.2 then bif aE a1 (bz a0 a1 (ab i32 4 a1 (ab i32 4 a1 (ab i32 4 a1 ((an a1 0 4).2.2,(an a1 0 4).2.1)).2).2).2).2 != 0 then oR (((0,0,0,0,0,[],()),aE a1 (bz a0 a1 (ab i32 4 a1 (ab i32 4 a1 (ab i32 4 a1 ((an a1 0 4).2.2,(an a1 0 4).2.1)).2).2).2).2,()),()) else oR (((i32.wrap (an a1 0 4).1,(ab i32 4 a1 ((an a1 0 4).2.2,(an a1 0 4).2.1)).1,(ab i32 4 a1 (ab i32 4 a1 ((an a1 0 4).2.2,(an a1 0 4).2.1)).2).1,(ab i32 4 a1 (ab i32 4 a1 (ab i32 4 a1 ((an a1 0 4).2.2,(an a1 0 4).2.1)).2).2).1,0,(bz a0 a1 (ab i32 4 a1 (ab i32 4 a1 (ab i32 4 a1 ((an a1 0 4).2.2,(an a1 0 4).2.1)).2).2).2).1,()),0,()),()) else none else none else bif aQ a0 2 3 (ab i32 4 a1 (ab i32 4 a1 ((an a1 0 4).2.2,(an a1 0 4).2.1)).2).2.1 then bif al a1 (ab i32 4 a1 (ab i32 4 a1 ((an a1 0 4).2.2,(an a1 0 4).2.1)).2).2.2 then bif al a1 (ab i8 1 a1 (ab i32 4 a1 (ab i32 4 a1 ((an a1 0 4).2.2,(an a1 0 4).2.1)).2).2).2.2 then bif aE a1 (bz a0 a1 (ab i8 1 a1 (ab i32 4 a1 (ab i32 4 a1 ((an a1 0 4).2.2,(an a1 0 4).2.1)).2).2).2).2 != 0 then oR (((0,0,0,0,0,[],()),aE a1 (bz a0 a1 (ab i8 1 a1 (ab i32 4 a1 (ab i32 4 a1 ((an a1 0 4).2.2,(an a1 0 4).2.1)).2).2).2).2,()),()) else oR (((i32.wrap (an a1 0 4).1,(ab i32 4 a1 ((an a1 0 4).2.2,(an a1 0 4).2.1)).1,(ab i32 4 a1 (ab i32 4 a1 ((an a1 0 4).2.2,(an a1 0 4).2.1)).2).1,0,(ab i8 1 a1 (ab i32 4 a1 (ab i32 4 a1 ((an a1 0 4).2.2,(an a1 0 4).2.1)).2).2).1,(bz a0 a1 (ab i8 1 a1 (ab i32 4 a1 (ab i32 4 a1 ((an a1 0 4).2.2,(an a1 0 4).2.1)).2).2).2).1,()),0,()),()) else none else none else bif al a1 (ab i32 4 a1 (ab i32 4 a1 ((an a1 0 4).2.2,(an a1 0 4).2.1)).2).2.2 then bif aE a1 (bz a0 a1 (ab i32 4 a1 (ab i32 4 a1 ((an a1 0 4).2.2,(an a1 0 4).2.1)).2).2).2 != 0 then oR (((0,0,0,0,0,[],()),aE a1 (bz a0 a1 (ab i32 4 a1 (ab i32 4 a1 ((an a1 0 4).2.2,(an a1 0 4).2.1)).2).2).2,()),()) else oR (((i32.wrap (an a1 0 4).1,(ab i32 4 a1 ((an a1 0 4).2.2,(an a1 0 4).2.1)).1,(ab i32 4 a1 (ab i32 4 a1 ((an a1 0 4).2.2,(an a1 0 4).2.1)).2).1,0,0,(bz a0 a1 (ab i32 4 a1 (ab i32 4 a1 ((an a1 0 4).2.2,(an a1 0 4).2.1)).2).2).1,()),0,()),()) else none else none else none else none else none
theorem XS (a0:Int)(a1:LI):Io.run tt aaO dr Oo nf Tryz.f66 ((a0,a1,()),())=Dq a0 a1:=by kernel_rfl
theorem ab5:HcOk prog 66 (ae nf JW):=by
 refine cg (cs:=M7) (.cons (bb up z0) (.cons (bb uo nG) (.cons (bb jj cY) (.cons (bb ab4 ahZ) (.cons (bb LC OU) (.cons (bb un zX) .nil)))))) (lp:=Oo) (fn:=Tryz.f66) nf (.done (by kernel_rfl)) JW ?_
 rintro ⟨⟨(v:Int),(b:LI),⟨⟩⟩,⟨⟩⟩ out hw ho
 cases ho
 refine (XS v b).trans ?_
 unfold Dq
 show _=oR (((lR v b).1,((lR v b).2,())),())
 by_cases h:0≤v∧v≤3∧(b.length:Int)≤130048
 ·have hc:(decide (0≤v)&&(decide (v≤3)&&decide ((b.length:Int)≤130048)))=true:=by simpa using h
  refine bF (by rw[hc];rfl) ?_
  refine (aa hc _ _).trans ?_
  have hg:al b ((0,0):aD).2=true:=by simp[al];omega
  unfold lR rs
  rw[if_pos h]
  refine (aa hg _ _).trans ?_
  have g0:al b (ab .i32 4 b ((0,0):aD)).2.2=true:=aO .i32 4 (s:=((0,0):aD)) hg
  refine (aa g0 _ _).trans ?_
  have g1:al b (ab .i32 4 b (ab .i32 4 b ((0,0):aD)).2).2.2=true:=aO .i32 4 (s:=(ab .i32 4 b ((0,0):aD)).2) g0
  refine (aa g1 _ _).trans ?_
  have g2:al b (ab .i32 4 b (ab .i32 4 b (ab .i32 4 b ((0,0):aD)).2).2).2.2=true:=aO .i32 4 (s:=(ab .i32 4 b (ab .i32 4 b ((0,0):aD)).2).2) g1
  show (bif aQ v 1 3 (ab .i32 4 b (ab .i32 4 b (ab .i32 4 b ((0,0):aD)).2).2).2.1 then _ else _)=_
  cases h3:aQ v 1 3 (ab .i32 4 b (ab .i32 4 b (ab .i32 4 b ((0,0):aD)).2).2).2.1
  ·have e3:ao .i32 4 v 1 3 b (ab .i32 4 b (ab .i32 4 b (ab .i32 4 b ((0,0):aD)).2).2).2=(0,(ab .i32 4 b (ab .i32 4 b (ab .i32 4 b ((0,0):aD)).2).2).2):=by unfold ao;rw[if_neg (by rw[h3];decide)]
   rw[e3]
   show (bif aQ v 2 3 (ab .i32 4 b (ab .i32 4 b (ab .i32 4 b ((0,0):aD)).2).2).2.1 then _ else _)=_
   cases hf4:aQ v 2 3 (ab .i32 4 b (ab .i32 4 b (ab .i32 4 b ((0,0):aD)).2).2).2.1
   ·have ef4:ao .i8 1 v 2 3 b (ab .i32 4 b (ab .i32 4 b (ab .i32 4 b ((0,0):aD)).2).2).2=(0,(ab .i32 4 b (ab .i32 4 b (ab .i32 4 b ((0,0):aD)).2).2).2):=by unfold ao;rw[if_neg (by rw[hf4];decide)]
    rw[ef4]
    refine (aa g2 _ _).trans ?_
    have gff5:al b (bz v b (ab .i32 4 b (ab .i32 4 b (ab .i32 4 b ((0,0):aD)).2).2).2).2.2=true:=rt (s:=(ab .i32 4 b (ab .i32 4 b (ab .i32 4 b ((0,0):aD)).2).2).2) g2
    show _=oR (((if aE b (bz v b (ab .i32 4 b (ab .i32 4 b (ab .i32 4 b ((0,0):aD)).2).2).2).2=0 then _ else _:bO.den×Int).1,_),())
    by_cases hE:aE b (bz v b (ab .i32 4 b (ab .i32 4 b (ab .i32 4 b ((0,0):aD)).2).2).2).2=0
    ·rw[if_pos hE]
     exact af (show (aE b (bz v b (ab .i32 4 b (ab .i32 4 b (ab .i32 4 b ((0,0):aD)).2).2).2).2 != 0)=false by simpa using hE) _ _
    ·rw[if_neg hE]
     exact aa (show (aE b (bz v b (ab .i32 4 b (ab .i32 4 b (ab .i32 4 b ((0,0):aD)).2).2).2).2 != 0)=true by simpa using hE) _ _
   ·have ef4:ao .i8 1 v 2 3 b (ab .i32 4 b (ab .i32 4 b (ab .i32 4 b ((0,0):aD)).2).2).2=ab .i8 1 b (ab .i32 4 b (ab .i32 4 b (ab .i32 4 b ((0,0):aD)).2).2).2:=by unfold ao;rw[if_pos hf4]
    rw[ef4]
    refine (aa g2 _ _).trans ?_
    have gf4:al b (ab .i8 1 b (ab .i32 4 b (ab .i32 4 b (ab .i32 4 b ((0,0):aD)).2).2).2).2.2=true:=aO .i8 1 (s:=(ab .i32 4 b (ab .i32 4 b (ab .i32 4 b ((0,0):aD)).2).2).2) g2
    refine (aa gf4 _ _).trans ?_
    have gft5:al b (bz v b (ab .i8 1 b (ab .i32 4 b (ab .i32 4 b (ab .i32 4 b ((0,0):aD)).2).2).2).2).2.2=true:=rt (s:=(ab .i8 1 b (ab .i32 4 b (ab .i32 4 b (ab .i32 4 b ((0,0):aD)).2).2).2).2) gf4
    show _=oR (((if aE b (bz v b (ab .i8 1 b (ab .i32 4 b (ab .i32 4 b (ab .i32 4 b ((0,0):aD)).2).2).2).2).2=0 then _ else _:bO.den×Int).1,_),())
    by_cases hE:aE b (bz v b (ab .i8 1 b (ab .i32 4 b (ab .i32 4 b (ab .i32 4 b ((0,0):aD)).2).2).2).2).2=0
    ·rw[if_pos hE]
     exact af (show (aE b (bz v b (ab .i8 1 b (ab .i32 4 b (ab .i32 4 b (ab .i32 4 b ((0,0):aD)).2).2).2).2).2 != 0)=false by simpa using hE) _ _
    ·rw[if_neg hE]
     exact aa (show (aE b (bz v b (ab .i8 1 b (ab .i32 4 b (ab .i32 4 b (ab .i32 4 b ((0,0):aD)).2).2).2).2).2 != 0)=true by simpa using hE) _ _
  ·have e3:ao .i32 4 v 1 3 b (ab .i32 4 b (ab .i32 4 b (ab .i32 4 b ((0,0):aD)).2).2).2=ab .i32 4 b (ab .i32 4 b (ab .i32 4 b (ab .i32 4 b ((0,0):aD)).2).2).2:=by unfold ao;rw[if_pos h3]
   rw[e3]
   refine (aa g2 _ _).trans ?_
   have g3:al b (ab .i32 4 b (ab .i32 4 b (ab .i32 4 b (ab .i32 4 b ((0,0):aD)).2).2).2).2.2=true:=aO .i32 4 (s:=(ab .i32 4 b (ab .i32 4 b (ab .i32 4 b ((0,0):aD)).2).2).2) g2
   show (bif aQ v 2 3 (ab .i32 4 b (ab .i32 4 b (ab .i32 4 b (ab .i32 4 b ((0,0):aD)).2).2).2).2.1 then _ else _)=_
   cases ht4:aQ v 2 3 (ab .i32 4 b (ab .i32 4 b (ab .i32 4 b (ab .i32 4 b ((0,0):aD)).2).2).2).2.1
   ·have et4:ao .i8 1 v 2 3 b (ab .i32 4 b (ab .i32 4 b (ab .i32 4 b (ab .i32 4 b ((0,0):aD)).2).2).2).2=(0,(ab .i32 4 b (ab .i32 4 b (ab .i32 4 b (ab .i32 4 b ((0,0):aD)).2).2).2).2):=by unfold ao;rw[if_neg (by rw[ht4];decide)]
    rw[et4]
    refine (aa g3 _ _).trans ?_
    have gtf5:al b (bz v b (ab .i32 4 b (ab .i32 4 b (ab .i32 4 b (ab .i32 4 b ((0,0):aD)).2).2).2).2).2.2=true:=rt (s:=(ab .i32 4 b (ab .i32 4 b (ab .i32 4 b (ab .i32 4 b ((0,0):aD)).2).2).2).2) g3
    show _=oR (((if aE b (bz v b (ab .i32 4 b (ab .i32 4 b (ab .i32 4 b (ab .i32 4 b ((0,0):aD)).2).2).2).2).2=0 then _ else _:bO.den×Int).1,_),())
    by_cases hE:aE b (bz v b (ab .i32 4 b (ab .i32 4 b (ab .i32 4 b (ab .i32 4 b ((0,0):aD)).2).2).2).2).2=0
    ·rw[if_pos hE]
     exact af (show (aE b (bz v b (ab .i32 4 b (ab .i32 4 b (ab .i32 4 b (ab .i32 4 b ((0,0):aD)).2).2).2).2).2 != 0)=false by simpa using hE) _ _
    ·rw[if_neg hE]
     exact aa (show (aE b (bz v b (ab .i32 4 b (ab .i32 4 b (ab .i32 4 b (ab .i32 4 b ((0,0):aD)).2).2).2).2).2 != 0)=true by simpa using hE) _ _
   ·have et4:ao .i8 1 v 2 3 b (ab .i32 4 b (ab .i32 4 b (ab .i32 4 b (ab .i32 4 b ((0,0):aD)).2).2).2).2=ab .i8 1 b (ab .i32 4 b (ab .i32 4 b (ab .i32 4 b (ab .i32 4 b ((0,0):aD)).2).2).2).2:=by unfold ao;rw[if_pos ht4]
    rw[et4]
    refine (aa g3 _ _).trans ?_
    have gt4:al b (ab .i8 1 b (ab .i32 4 b (ab .i32 4 b (ab .i32 4 b (ab .i32 4 b ((0,0):aD)).2).2).2).2).2.2=true:=aO .i8 1 (s:=(ab .i32 4 b (ab .i32 4 b (ab .i32 4 b (ab .i32 4 b ((0,0):aD)).2).2).2).2) g3
    refine (aa gt4 _ _).trans ?_
    have gtt5:al b (bz v b (ab .i8 1 b (ab .i32 4 b (ab .i32 4 b (ab .i32 4 b (ab .i32 4 b ((0,0):aD)).2).2).2).2).2).2.2=true:=rt (s:=(ab .i8 1 b (ab .i32 4 b (ab .i32 4 b (ab .i32 4 b (ab .i32 4 b ((0,0):aD)).2).2).2).2).2) gt4
    show _=oR (((if aE b (bz v b (ab .i8 1 b (ab .i32 4 b (ab .i32 4 b (ab .i32 4 b (ab .i32 4 b ((0,0):aD)).2).2).2).2).2).2=0 then _ else _:bO.den×Int).1,_),())
    by_cases hE:aE b (bz v b (ab .i8 1 b (ab .i32 4 b (ab .i32 4 b (ab .i32 4 b (ab .i32 4 b ((0,0):aD)).2).2).2).2).2).2=0
    ·rw[if_pos hE]
     exact af (show (aE b (bz v b (ab .i8 1 b (ab .i32 4 b (ab .i32 4 b (ab .i32 4 b (ab .i32 4 b ((0,0):aD)).2).2).2).2).2).2 != 0)=false by simpa using hE) _ _
    ·rw[if_neg hE]
     exact aa (show (aE b (bz v b (ab .i8 1 b (ab .i32 4 b (ab .i32 4 b (ab .i32 4 b (ab .i32 4 b ((0,0):aD)).2).2).2).2).2).2 != 0)=true by simpa using hE) _ _
 ·have hc:(decide (0≤v)&&(decide (v≤3)&&decide ((b.length:Int)≤130048)))=false:=by
   rw[Bool.eq_false_iff]
   intro h'
   simp only[zA,zB] at h'
   exact h h'
  have hn:bg v≠0:=by unfold bg;split <;> decide
  unfold lR
  rw[if_neg h]
  refine bT (by rw[hc];rfl) ?_
  refine (af hc _ _).trans ?_
  repeat refine bT (decide_eq_true hn) ?_
  exact aa (by simpa using hn) _ _
def mj (p:aW.den):Nd:=bq [av 3 p.1,av 3 p.2.2.1,av 4 p.2.1,av 3 p.2.2.2.1]
theorem ad6 {p:aW.den}(h:aW.wf p):bq [av 3 (i64.wrap p.1),av 3 (i64.wrap p.2.2.1),av 4 p.2.1,av 3 (i64.wrap p.2.2.2.1)]=mj p:=by
 rw[dQ (n:=p.1) h.1,dQ (n:=p.2.2.1) h.2.2.1,dQ (n:=p.2.2.2.1) h.2.2.2.1];rfl
def hY (t:ai.den):Nd:=bq [gd t.1,ba (t.2.1.map mj)]
@[irreducible] def b9 (m:bO.den):Nd:=bq [av 3 m.1,av 3 m.2.1,av 3 m.2.2.1,av 3 m.2.2.2.1,av 1 m.2.2.2.2.1,ba (m.2.2.2.2.2.1.map hY)]
def FR (x:Nd):aW.den:=(i32.wrap (aY x 0).lab.2.1,((aY x 2).lab.2.1,(i32.wrap (aY x 1).lab.2.1,(i32.wrap (aY x 3).lab.2.1,()))))
def wr (x:Nd):ai.den:=((aY x 0).lab.2.2.2.1,((aY x 1).kids.map FR,()))
@[irreducible] def Aq (n:Nd):bO.den:=(i32.wrap (aY n 0).lab.2.1,(i32.wrap (aY n 1).lab.2.1,(i32.wrap (aY n 2).lab.2.1,(i32.wrap (aY n 3).lab.2.1,(i8.wrap (aY n 4).lab.2.1,((aY n 5).kids.map wr,()))))))
theorem Ti {p:aW.den}(h:aW.wf p):FR (mj p)=p:=by
 obtain ⟨(ix:Int),(fo:Int),(ep:Int),(mx:Int),⟨⟩⟩:=p
 show (i32.wrap ix,(fo,(i32.wrap ep,(i32.wrap mx,()))))=_
 rw[gr (n:=ix) h.1,gr (n:=ep) h.2.2.1,gr (n:=mx) h.2.2.2.1]
 try rfl
theorem Qb {t:ai.den}(h:ai.wf t):wr (hY t)=t:=by
 obtain ⟨n,l,⟨⟩⟩:=t
 show (n,((l.map mj).map FR,()))=_
 rw[List.map_map,e9 (f:=FR ∘ mj) (l:=l) fun p hp=>Ti (h.2.1.2 p hp)]
theorem sY {m:bO.den}(h:bO.wf m):Aq (b9 m)=m:=by
 obtain ⟨(re:Int),(wt:Int),(mi:Int),(mb:Int),(lv:Int),(ts:List ai.den),⟨⟩⟩:=m
 unfold Aq b9
 show (i32.wrap re,(i32.wrap wt,(i32.wrap mi,(i32.wrap mb,(i8.wrap lv,((ts.map hY).map wr,()))))))=_
 rw[gr (n:=re) h.1,gr (n:=wt) h.2.1,gr (n:=mi) h.2.2.1,gr (n:=mb) h.2.2.2.1,ahP (n:=lv) h.2.2.2.2.1,List.map_map,e9 (f:=wr ∘ hY) (l:=ts) fun t ht=>Qb (h.2.2.2.2.2.1.2 t ht)]
abbrev j6:Io:=⟨[.dat bO true false],[],[],[dH],none⟩
def eF (l:List ai.den):Bool:=decide (l.length≤4294967296)&&l.all fun t=>decide (t.2.1.length≤4294967296)
def wV (d:j6.In):Tr j6.Res:=.ite (eF d.1.1.2.2.2.2.2.1) (.ret (.ret ((b9 d.1.1,()),()))) .no
abbrev Ie:List (Nat×Hc):=[(181,ae kZ wO),(180,ae ma AO),(183,ae jG r5),(184,ae iS pX)]
def ze:Hd:=bM Ie
abbrev fS:Lo:=⟨⟨(.any::.one (.ptr 1 0)::.one (.ptr 2 0)::.one (.onl 91 ap 7)::.one hI::.one (.onl 91 ap 11)::.one hI::.any::am (am (am (am (am (am (dq []))))))),[none,some [hJ,hJ,hJ,hJ,.hol (.int i8),.hol (.sl 185 ai)],some [hI,hI,hL,.onl 5 (Ty.int u8) 1032,.onl 91 ap 1034]]⟩,[(.exit 2,⟨(.any::.one (.ptr 1 0)::.one (.ptr 2 0)::.one (.onl 91 ap 7)::.one hI::.one (.onl 91 ap 11)::am (am (am (am (am (am (dq (ce [])))))))),[none,some [hJ,hJ,hJ,hJ,.hol (.int i8),.hol (.sl 185 ai)],some [hI,hI,hL,.onl 5 (Ty.int u8) 1032,.onl 91 ap 1034]]⟩)]⟩
abbrev fR:Lo:=⟨⟨(.any::.one (.ptr 1 0)::.one (.ptr 2 0)::.one (.onl 91 ap 7)::.one hI::.any::am (am (am (am (am (am (dq (ce [])))))))),[none,some [hJ,hJ,hJ,hJ,.hol (.int i8),.hol (.sl 185 ai)],some [hI,hI,hL,.onl 5 (Ty.int u8) 1032,.onl 91 ap 1034]]⟩,[(.exit 0,⟨(.any::.one (.ptr 1 0)::.one (.ptr 2 0)::.one (.onl 91 ap 7)::am (am (am (am (am (am (gE []))))))),[none,some [hJ,hJ,hJ,hJ,.hol (.int i8),.hol (.sl 185 ai)],some [hI,hI,hL,.onl 5 (Ty.int u8) 1032,.onl 91 ap 1034]]⟩)]⟩
def p6 (d:fS.st.den):Tr (aH fS.xs):=
 .ite ((decide ((0:Int)≤d.1.2.1)&&decide (d.1.2.1<(d.2.1.2.2.2.2.2.1.length:Int)))&&((decide (d.1.2.2.1.length=0)&&decide (d.1.2.2.2.1=0))&&decide ((d.2.1.2.2.2.2.2.1.getD d.1.2.1.toNat ai.zero).2.1.length≤4294967296)))
  (.ret (.ret ((),((d.1.1,(d.1.2.1,((d.2.1.2.2.2.2.2.1.getD d.1.2.1.toNat ai.zero).2.1.map mj,()))),(d.2.1,(d.2.2.1,())))))) .no
def p5 (d:fR.st.den):Tr (aH fR.xs):=
 .ite ((decide (d.1.1.length=0)&&decide (d.1.2.1=0))&&eF d.2.1.2.2.2.2.2.1)
  (.ret (.ret ((),((d.2.1.2.2.2.2.2.1.map hY,()),(d.2.1,(d.2.2.1,())))))) .no
def mY:Lp:=bB [(4,aS fR p5),(8,aS fS p6)]
def vp {R:Type}(h19:List ap.den)(h20:Int)(h21:List ap.den)(h22 h23 h24 h25 h26 h27:Int)(h28:List ai.den)(h29 h30:Int)(h31:Bool)(h32:LI)(h33:List ap.den)(next:List ap.den→Int→List ap.den→Int→Int→Int→Int→Int→Int→List ai.den→Int→Int→Bool→LI→List ap.den→Option R)(out:aH fS.xs→Option R):Option R:=bif decide (0≤h20)&&decide (h20<(↑h28.length:Int)) then bif decide (h22<(↑(List.length (h28.getD h20.toNat ([],[],())).2.1):Int)) then bif decide (0≤h20)&&decide (h20<(↑h28.length:Int)) then bif decide (0≤h22)&&decide (h22<(↑(List.length (h28.getD h20.toNat ([],[],())).2.1):Int)) then bif decide (h21.length+1≤4294967296) then next (h19) (h20) (h21++[Tre.mk (10,0,false,[],()) [Tre.mk (3,i64.wrap (List.getD (h28.getD h20.toNat ([],[],())).2.1 h22.toNat (0,0,0,0,())).1,false,[],()) [],Tre.mk (3,i64.wrap (List.getD (h28.getD h20.toNat ([],[],())).2.1 h22.toNat (0,0,0,0,())).2.2.1,false,[],()) [],Tre.mk (4,(List.getD (h28.getD h20.toNat ([],[],())).2.1 h22.toNat (0,0,0,0,())).2.1,false,[],()) [],Tre.mk (3,i64.wrap (List.getD (h28.getD h20.toNat ([],[],())).2.1 h22.toNat (0,0,0,0,())).2.2.2.1,false,[],()) []]]) (i64.wrap (h22+1)) (h23) (h24) (h25) (h26) (h27) (h28) (h29) (h30) (h31) (h32) (h33) else none else none else none else out (.ret ((),((h19,(h20,(h21,()))),((h23,(h24,(h25,(h26,(h27,(h28,())))))),((h29,(h30,(h31,(h32,(h33,()))))),()))))) else none
def oS (n:Nat)(h19:List ap.den)(h20:Int)(h21:List ap.den)(h22 h23 h24 h25 h26 h27:Int)(h28:List ai.den)(h29 h30:Int)(h31:Bool)(h32:LI)(h33:List ap.den):Option (aH fS.xs):=il tt ze dr mY 0 Tryz.f85 (pV Tryz.f85 (db Tryz.f85 0) 0) n (fS.st.mk' ((h19,(h20,(h21,(h22,())))),((h23,(h24,(h25,(h26,(h27,(h28,())))))),((h29,(h30,(h31,(h32,(h33,()))))),())))) (ci fS.xs)
theorem Pz (n:Nat)(h19:List ap.den)(h20:Int)(h21:List ap.den)(h22 h23 h24 h25 h26 h27:Int)(h28:List ai.den)(h29 h30:Int)(h31:Bool)(h32:LI)(h33:List ap.den):oS (n+1) h19 h20 h21 h22 h23 h24 h25 h26 h27 h28 h29 h30 h31 h32 h33=vp h19 h20 h21 h22 h23 h24 h25 h26 h27 h28 h29 h30 h31 h32 h33 (oS n) some:=by kernel_rfl
def vo {R:Type}(h6:List ap.den)(h7 h8 h9 h10 h11 h12:Int)(h13:List ai.den)(h14 h15:Int)(h16:Bool)(h17:LI)(h18:List ap.den)(next:List ap.den→Int→Int→Int→Int→Int→Int→List ai.den→Int→Int→Bool→LI→List ap.den→Option R)(out:aH fR.xs→Option R):Option R:=bif decide (h7<(↑h13.length:Int)) then (p6 ((h6,(h7,([],(0,())))),((h8,(h9,(h10,(h11,(h12,(h13,())))))),((h14,(h15,(h16,(h17,(h18,()))))),())))).run fun y=>match y with | .ret ((),((x63,x64,x65,()),(x66,x67,x68,x69,x70,x71,()),(x72,x73,x74,x75,x76,()),()))=>(bif decide (0≤x64)&&decide (x64<(↑x71.length:Int)) then bif decide (x63.length+1≤4294967296) then next (x63++[Tre.mk (10,0,false,[],()) [Tre.mk (5,0,false,(x71.getD x64.toNat ([],[],())).1,()) [],Tre.mk (9,0,false,[],()) x65]]) (i64.wrap (x64+1)) (x66) (x67) (x68) (x69) (x70) (x71) (x72) (x73) (x74) (x75) (x76) else none else none) else out (.ret ((),((h6,()),((h8,(h9,(h10,(h11,(h12,(h13,())))))),((h14,(h15,(h16,(h17,(h18,()))))),())))))
def oQ (n:Nat)(h6:List ap.den)(h7 h8 h9 h10 h11 h12:Int)(h13:List ai.den)(h14 h15:Int)(h16:Bool)(h17:LI)(h18:List ap.den):Option (aH fR.xs):=il tt ze dr mY 0 Tryz.f85 (db Tryz.f85 0) n (fR.st.mk' ((h6,(h7,())),((h8,(h9,(h10,(h11,(h12,(h13,())))))),((h14,(h15,(h16,(h17,(h18,()))))),())))) (ci fR.xs)
theorem Py (n:Nat)(h6:List ap.den)(h7 h8 h9 h10 h11 h12:Int)(h13:List ai.den)(h14 h15:Int)(h16:Bool)(h17:LI)(h18:List ap.den):oQ (n+1) h6 h7 h8 h9 h10 h11 h12 h13 h14 h15 h16 h17 h18=vo h6 h7 h8 h9 h10 h11 h12 h13 h14 h15 h16 h17 h18 (oQ n) some:=by kernel_rfl
theorem Gx {ts:List ai.den}(hw:∀t∈ts,ai.wf t)(hl:ts.length≤maxLen){i:Nat}(hi:i<ts.length)(hp:(ts[i]).2.1.length≤4294967296)(acc:List Nd)(re wt mi mb lv a' b':Int)(z':Bool)(x':LI)(l':List Nd):∀(k j:Nat) (o:List Nd),(ts[i]).2.1.length<j+k→j≤(ts[i]).2.1.length→o.length≤j→
  oS k acc i o j re wt mi mb lv ts a' b' z' x' l'=some (.ret ((),((acc,((i:Int),(o++((ts[i]).2.1.drop j).map mj,()))),((re,(wt,(mi,(mb,(lv,(ts,())))))),((a',(b',(z',(x',(l',()))))),()))))):=by
 intro k
 induction k with
 |zero=>intro j o h1 h2;omega
 |succ k ih=>
  intro j o h1 h2 h3
  rw[Pz]
  unfold vp
  refine bT (by simp;omega) ?_
  have hti:=hw _ (List.getElem_mem hi)
  simp only[zG,aJ hi]
  generalize ts[i]=t at hp h1 h2 ih hti ⊢
  by_cases hj:j<t.2.1.length
  ·refine bT (decide_eq_true (show (j:Int)<(t.2.1.length:Int) by omega)) ?_
   refine bT (by simp;omega) ?_
   refine bT (by simp;omega) ?_
   refine bT (decide_eq_true (show o.length+1≤4294967296 by omega)) ?_
   have hpw:=hti.2.1.2 _ (List.getElem_mem hj)
   have ih':=ih (j+1) (o++[mj t.2.1[j]]) (by omega) (by omega) (by simp;omega)
   have hd:t.2.1.drop j=t.2.1[j]::t.2.1.drop (j+1):=zE hj
   rw[hd,aI (n:=(j:Int)+1) (by omega) (by omega)]
   have hgp:List.getD t.2.1 ((j:Int)).toNat aW.zero=t.2.1[j]:=by simp only[zG];exact aJ hj
   refine Eq.trans ?_ (ih'.trans ?_)
   ·refine congrArg (fun x=>oS k acc i (o++[x]) _ re wt mi mb lv ts a' b' z' x' l') ?_
    show bq [av 3 (i64.wrap (List.getD t.2.1 ((j:Int)).toNat aW.zero).1),av 3 (i64.wrap (List.getD t.2.1 ((j:Int)).toNat aW.zero).2.2.1),av 4 (List.getD t.2.1 ((j:Int)).toNat aW.zero).2.1,av 3 (i64.wrap (List.getD t.2.1 ((j:Int)).toNat aW.zero).2.2.2.1)]=_
    rw[hgp]
    exact ad6 hpw
   ·simp only[zL,zK,zM]
  ·refine bF (decide_eq_false (show ¬(j:Int)<(t.2.1.length:Int) by omega)) ?_
   rw[zI (by omega)]
   simp
theorem Gw {ts:List ai.den}(hw:∀t∈ts,ai.wf t)(hl:ts.length≤maxLen)(hs:eF ts=true)(re wt mi mb lv a' b':Int)(z':Bool)(x':LI)(l':List Nd):∀(k j:Nat) (o:List Nd),ts.length<j+k→j≤ts.length→o.length≤j→
  oQ k o j re wt mi mb lv ts a' b' z' x' l'=some (.ret ((),((o++(ts.drop j).map hY,()),((re,(wt,(mi,(mb,(lv,(ts,())))))),((a',(b',(z',(x',(l',()))))),()))))):=by
 intro k
 have hs1:=(zA _ _▸hs).1
 have hs2:=(zA _ _▸hs).2
 have hs1:ts.length≤4294967296:=of_decide_eq_true hs1
 induction k with
 |zero=>intro j o h1 h2;omega
 |succ k ih=>
  intro j o h1 h2 h3
  rw[Py]
  unfold vo
  by_cases hj:j<ts.length
  ·refine bT (decide_eq_true (show (j:Int)<(ts.length:Int) by omega)) ?_
   have hgp:ts.getD ((j:Int)).toNat ai.zero=ts[j]:=by simp only[zG];exact aJ hj
   have hpl:(ts[j]).2.1.length≤4294967296:=of_decide_eq_true (List.all_eq_true.1 hs2 _ (List.getElem_mem hj))
   have c8:((decide ((0:Int)≤(j:Int))&&decide ((j:Int)<(ts.length:Int)))&&((decide (([]:List Nd).length=0)&&decide ((0:Int)=0))&&decide ((ts.getD ((j:Int)).toNat ai.zero).2.1.length≤4294967296)))=true:=by
    rw[hgp];simp;omega
   refine (aa c8 _ _).trans ?_
   refine bT (by simp;omega) ?_
   refine bT (decide_eq_true (show o.length+1≤4294967296 by omega)) ?_
   rw[aI (n:=(j:Int)+1) (by omega) (by omega)]
   have ih':=ih (j+1) (o++[hY ts[j]]) (by omega) (by omega) (by simp;omega)
   have hd:ts.drop j=ts[j]::ts.drop (j+1):=zE hj
   rw[hd]
   refine Eq.trans ?_ (ih'.trans ?_)
   ·refine congrArg (fun x=>oQ k (o++[x]) _ re wt mi mb lv ts a' b' z' x' l') ?_
    show (bq [gd (ts.getD ((j:Int)).toNat ai.zero).1,ba ((ts.getD ((j:Int)).toNat ai.zero).2.1.map mj)])=_
    rw[hgp];rfl
   ·simp only[zL,zK,zM]
  ·refine bF (decide_eq_false (show ¬(j:Int)<(ts.length:Int) by omega)) ?_
   rw[zI (by omega)]
   simp
def Bf (a0 a1 a2 a3 a4:Int)(a5:List ai.den):Option j6.Res:=(p5 (([],(0,())),((a0,(a1,(a2,(a3,(a4,(a5,())))))),((0,(0,(false,([],([],()))))),())))).run fun y=>match y with | .ret ((),((x102,()),(x103,x104,x105,x106,x107,x108,()),(x109,x110,x111,x112,x113,()),()))=>(oR ((Tre.mk (10,0,false,[],()) ([Tre.mk (3,i64.wrap x103,false,[],()) [],Tre.mk (3,i64.wrap x104,false,[],()) [],Tre.mk (3,i64.wrap x105,false,[],()) []]++[Tre.mk (3,i64.wrap x106,false,[],()) []]++[Tre.mk (1,i64.wrap x107,false,[],()) []]++[Tre.mk (9,0,false,[],()) x102]),()),()))
theorem Sx (a0 a1 a2 a3 a4:Int)(a5:List ai.den):Io.run tt ze dr mY j6 Tryz.f85 (((a0,a1,a2,a3,a4,a5,()),()),())=Bf a0 a1 a2 a3 a4 a5:=by kernel_rfl
theorem sg:HcsOk prog Ie:=.cons we (.cons Ac (.cons uu (.cons q4 .nil)))
theorem I7:HcOk prog 85 (ae j6 wV):=by
 refine cg sg (lp:=mY) (fn:=Tryz.f85) j6 (.step (h0:=aS fR p5) (by kernel_rfl) (jh sg (lp:=mY) (fn:=Tryz.f85) (.step (h0:=aS fS p6) (by kernel_rfl) (jh sg (lp:=mY) (fn:=Tryz.f85) (.done (by kernel_rfl)) fS p6 ?_) (.done (by kernel_rfl))) fR p5 ?_) (.done (by kernel_rfl))) wV ?_
 ·rintro ⟨⟨(acc:List Nd),(i:Int),(o:List Nd),(j:Int),⟨⟩⟩,⟨⟨(re:Int),(wt:Int),(mi:Int),(mb:Int),(lv:Int),(ts:List ai.den),⟨⟩⟩,⟨(a':Int),(b':Int),(z':Bool),(x':LI),(l':List Nd),⟨⟩⟩,⟨⟩⟩⟩ y hw hy
  obtain ⟨hg,hy⟩:=Tr.guard hy
  simp only[zA,zB] at hg
  obtain ⟨⟨h1,h2⟩,⟨h3,h4⟩,h5⟩:=hg
  have h1:0≤i:=h1
  have h2:i<(ts.length:Int):=h2
  have h3:o=[]:=zF h3
  have h4:j=0:=h4
  obtain ⟨i,rfl⟩:=eK h1
  subst h3
  subst h4
  have hi:i<ts.length:=by omega
  have hgp:ts.getD ((i:Int)).toNat ai.zero=ts[i]:=by simp only[zG];exact aJ hi
  have h5:(ts.getD ((i:Int)).toNat ai.zero).2.1.length≤4294967296:=h5
  rw[hgp] at h5
  have hwt:ts.length≤maxLen∧∀t∈ts,ai.wf t:=by have:=hw.2.1.2.2.2.2.2.1;exact this
  refine ⟨(ts[i]).2.1.length+1,(Gx hwt.2 hwt.1 hi h5 acc re wt mi mb lv a' b' z' x' l' ((ts[i]).2.1.length+1) 0 [] (by omega) (by omega) (by simp)).trans ?_⟩
  rw[← hy,← hgp,List.drop_zero]
  rfl
 ·rintro ⟨⟨(o:List Nd),(j:Int),⟨⟩⟩,⟨⟨(re:Int),(wt:Int),(mi:Int),(mb:Int),(lv:Int),(ts:List ai.den),⟨⟩⟩,⟨(a':Int),(b':Int),(z':Bool),(x':LI),(l':List Nd),⟨⟩⟩,⟨⟩⟩⟩ y hw hy
  obtain ⟨hg,hy⟩:=Tr.guard hy
  simp only[zA,zB] at hg
  obtain ⟨⟨h3,h4⟩,h5⟩:=hg
  have h3:o=[]:=zF h3
  have h4:j=0:=h4
  have h5:eF ts=true:=h5
  subst h3
  subst h4
  have hwt:ts.length≤maxLen∧∀t∈ts,ai.wf t:=by have:=hw.2.1.2.2.2.2.2.1;exact this
  refine ⟨ts.length+1,(Gw hwt.2 hwt.1 h5 re wt mi mb lv a' b' z' x' l' (ts.length+1) 0 [] (by omega) (by omega) (by simp)).trans ?_⟩
  rw[← hy,List.drop_zero]
  rfl
 ·rintro ⟨⟨⟨(re:Int),(wt:Int),(mi:Int),(mb:Int),(lv:Int),(ts:List ai.den),⟨⟩⟩,⟨⟩⟩,⟨⟩⟩ out hw ho
  obtain ⟨hg,ho⟩:=Tr.guard ho
  have hg:eF ts=true:=hg
  cases ho
  refine (Sx re wt mi mb lv ts).trans ?_
  unfold Bf
  have c1:((decide (([]:List Nd).length=0)&&decide ((0:Int)=0))&&eF ts)=true:=by rw[hg];rfl
  refine (aa c1 _ _).trans ?_
  show _=oR ((b9 (re,(wt,(mi,(mb,(lv,(ts,())))))),()),())
  unfold b9
  have hre:i64.wrap re=re:=dQ hw.1.1.1
  have hwt:i64.wrap wt=wt:=dQ hw.1.1.2.1
  have hmi:i64.wrap mi=mi:=dQ hw.1.1.2.2.1
  have hmb:i64.wrap mb=mb:=dQ hw.1.1.2.2.2.1
  have hlv:i64.wrap lv=lv:=abf hw.1.1.2.2.2.2.1
  show oR ((bq [av 3 (i64.wrap re),av 3 (i64.wrap wt),av 3 (i64.wrap mi),av 3 (i64.wrap mb),av 1 (i64.wrap lv),ba (ts.map hY)],()),())=_
  rw[hre,hwt,hmi,hmb,hlv]
abbrev qN:Io:=⟨[dH],[],[],[.dat bO true false],none⟩
def QB (d:qN.In):Tr qN.Res:=.ite (decide (aM d.1.1≤4294967296)) (.ret (.ret ((Aq d.1.1,()),()))) .no
abbrev UN:List (Nat×Hc):=[(164,ae rD Mj)]
def KX:Hd:=bM UN
abbrev gS:Lo:=⟨⟨(ce (.one (.ptr 2 0)::.one (.ptr 3 0)::.one (.hol (.sl 91 ap))::.one hI::.one (.ptr 6 0)::.one (.hol (.sl 91 ap))::.one hI::am (am (am (am (am (am ([])))))))),[none,none,some [hJ,hJ,hJ,hJ,.hol (.int i8),.onl 185 ai 1036],some [hJ,hJ,hJ,hJ,.hol (.int i8),.onl 185 ai 1548],none,none,some [.hol .str,.onl 187 aW 3076]]⟩,[(.exit 2,⟨(ce (.one (.ptr 2 0)::.one (.ptr 3 0)::.one (.hol (.sl 91 ap))::.one hI::.one (.ptr 6 0)::am (am (am (am (am (am (ce [])))))))),[none,none,some [hJ,hJ,hJ,hJ,.hol (.int i8),.onl 185 ai 1036],some [hJ,hJ,hJ,hJ,.hol (.int i8),.onl 185 ai 1548],none,none,some [.hol .str,.onl 187 aW 3076]]⟩)]⟩
abbrev jd:Lo:=⟨⟨(ce (.one (.ptr 2 0)::.one (.ptr 3 0)::.one (.hol (.sl 91 ap))::.one hI::.any::am (am (am (am (am (am (ce [])))))))),[none,none,some [hJ,hJ,hJ,hJ,.hol (.int i8),.onl 185 ai 1036],some [hJ,hJ,hJ,hJ,.hol (.int i8),.onl 185 ai 1548]]⟩,[(.exit 0,⟨(ce (.one (.ptr 2 0)::.one (.ptr 3 0)::.any::am (am (am (am (am (am (dq [])))))))),[none,none,some [hJ,hJ,hJ,hJ,.hol (.int i8),.onl 185 ai 1036],some [hJ,hJ,hJ,hJ,.hol (.int i8),.onl 185 ai 1548]]⟩)]⟩
def tC (d:gS.st.den):Tr (aH gS.xs):=
 .ite ((decide (d.1.2.2.2.1=0)&&decide (d.2.2.2.1.2.1.length=0))&&decide (aK d.1.2.2.1≤4294967296))
  (.ret (.ret ((),((d.1.1,(d.1.2.1,())),(d.2.1,(d.2.2.1,((d.2.2.2.1.1,(d.1.2.2.1.map FR,())),()))))))) .no
def wW (d:jd.st.den):Tr (aH jd.xs):=
 .ite ((decide (d.1.2.1=0)&&decide (d.2.2.1.2.2.2.2.2.1.length=0))&&decide (aK d.1.1≤4294967296))
  (.ret (.ret ((),((),(d.2.1,((d.2.2.1.1,(d.2.2.1.2.1,(d.2.2.1.2.2.1,(d.2.2.1.2.2.2.1,(d.2.2.1.2.2.2.2.1,(d.1.1.map wr,())))))),())))))) .no
def ue:Lp:=bB [(7,aS jd wW),(12,aS gS tC)]
def yy {R:Type}(h15:List (Nd))(h16:Int)(h17:List (Nd))(h18 h19 h20 h21 h22 h23:Int)(h24:List ai.den)(h25 h26 h27 h28 h29:Int)(h30:List ai.den)(h31:LI)(h32:List aW.den)(next:List (Nd)→Int→List (Nd)→Int→Int→Int→Int→Int→Int→List ai.den→Int→Int→Int→Int→Int→List ai.den→LI→List aW.den→Option R)(out:aH gS.xs→Option R):Option R:=bif decide (h18<(↑h17.length:Int)) then bif decide (0≤h18)&&decide (h18<(↑h17.length:Int)) then bif decide (0≤h18)&&decide (h18<(↑h17.length:Int)) then bif decide (0≤h18)&&decide (h18<(↑h17.length:Int)) then bif decide (0≤h18)&&decide (h18<(↑h17.length:Int)) then bif decide (h32.length+1≤4294967296) then next (h15) (h16) (h17) (i64.wrap (h18+1)) (h19) (h20) (h21) (h22) (h23) (h24) (h25) (h26) (h27) (h28) (h29) (h30) (h31) (h32++[(i32.wrap (aY (Tre.mk (h17.getD h18.toNat (Tre.mk (0,0,false,[],()) [])).1 (h17.getD h18.toNat (Tre.mk (0,0,false,[],()) [])).2) 0).1.2.1,(aY (Tre.mk (h17.getD h18.toNat (Tre.mk (0,0,false,[],()) [])).1 (h17.getD h18.toNat (Tre.mk (0,0,false,[],()) [])).2) 2).1.2.1,i32.wrap (aY (Tre.mk (h17.getD h18.toNat (Tre.mk (0,0,false,[],()) [])).1 (h17.getD h18.toNat (Tre.mk (0,0,false,[],()) [])).2) 1).1.2.1,i32.wrap (aY (Tre.mk (h17.getD h18.toNat (Tre.mk (0,0,false,[],()) [])).1 (h17.getD h18.toNat (Tre.mk (0,0,false,[],()) [])).2) 3).1.2.1,())]) else none else none else none else none else none else out (.ret ((),((h15,(h16,())),((h19,(h20,(h21,(h22,(h23,(h24,())))))),((h25,(h26,(h27,(h28,(h29,(h30,())))))),((h31,(h32,())),()))))))
def v7 (n:Nat)(h15:List (Nd))(h16:Int)(h17:List (Nd))(h18 h19 h20 h21 h22 h23:Int)(h24:List ai.den)(h25 h26 h27 h28 h29:Int)(h30:List ai.den)(h31:LI)(h32:List aW.den):Option (aH gS.xs):=il tt KX dr ue 0 Tryz.f72 (pV Tryz.f72 (db Tryz.f72 0) 0) n (gS.st.mk' ((h15,(h16,(h17,(h18,())))),((h19,(h20,(h21,(h22,(h23,(h24,())))))),((h25,(h26,(h27,(h28,(h29,(h30,())))))),((h31,(h32,())),()))))) (ci gS.xs)
theorem SN (n:Nat)(h15:List (Nd))(h16:Int)(h17:List (Nd))(h18 h19 h20 h21 h22 h23:Int)(h24:List ai.den)(h25 h26 h27 h28 h29:Int)(h30:List ai.den)(h31:LI)(h32:List aW.den):v7 (n+1) h15 h16 h17 h18 h19 h20 h21 h22 h23 h24 h25 h26 h27 h28 h29 h30 h31 h32=yy h15 h16 h17 h18 h19 h20 h21 h22 h23 h24 h25 h26 h27 h28 h29 h30 h31 h32 (v7 n) some:=by kernel_rfl
def B2 {R:Type}(h1:List (Nd))(h2 h3 h4 h5 h6 h7:Int)(h8:List ai.den)(h9 h10 h11 h12 h13:Int)(h14:List ai.den)(next:List (Nd)→Int→Int→Int→Int→Int→Int→List ai.den→Int→Int→Int→Int→Int→List ai.den→Option R)(out:aH jd.xs→Option R):Option R:=bif decide (h2<(↑h1.length:Int)) then bif decide (0≤h2)&&decide (h2<(↑h1.length:Int)) then bif decide (0≤h2)&&decide (h2<(↑h1.length:Int)) then (tC ((h1,(h2,((aY (Tre.mk (h1.getD h2.toNat (Tre.mk (0,0,false,[],()) [])).1 (h1.getD h2.toNat (Tre.mk (0,0,false,[],()) [])).2) 1).2,(0,())))),((h3,(h4,(h5,(h6,(h7,(h8,())))))),((h9,(h10,(h11,(h12,(h13,(h14,())))))),(((aY (Tre.mk (h1.getD h2.toNat (Tre.mk (0,0,false,[],()) [])).1 (h1.getD h2.toNat (Tre.mk (0,0,false,[],()) [])).2) 0).1.2.2.2.1,([],())),()))))).run fun y=>match y with | .ret ((),((x67,x68,()),(x69,x70,x71,x72,x73,x74,()),(x75,x76,x77,x78,x79,x80,()),(x81,x82,()),()))=>(bif decide (x80.length+1≤4294967296) then next (x67) (i64.wrap (x68+1)) (x69) (x70) (x71) (x72) (x73) (x74) (x75) (x76) (x77) (x78) (x79) (x80++[(x81,x82,())]) else none) else none else none else out (.ret ((),((),((h3,(h4,(h5,(h6,(h7,(h8,())))))),((h9,(h10,(h11,(h12,(h13,(h14,())))))),())))))
def zy (n:Nat)(h1:List (Nd))(h2 h3 h4 h5 h6 h7:Int)(h8:List ai.den)(h9 h10 h11 h12 h13:Int)(h14:List ai.den):Option (aH jd.xs):=il tt KX dr ue 0 Tryz.f72 (db Tryz.f72 0) n (jd.st.mk' ((h1,(h2,())),((h3,(h4,(h5,(h6,(h7,(h8,())))))),((h9,(h10,(h11,(h12,(h13,(h14,())))))),())))) (ci jd.xs)
theorem YG (n:Nat)(h1:List (Nd))(h2 h3 h4 h5 h6 h7:Int)(h8:List ai.den)(h9 h10 h11 h12 h13:Int)(h14:List ai.den):zy (n+1) h1 h2 h3 h4 h5 h6 h7 h8 h9 h10 h11 h12 h13 h14=B2 h1 h2 h3 h4 h5 h6 h7 h8 h9 h10 h11 h12 h13 h14 (zy n) some:=by kernel_rfl
theorem Lb {ps:List Nd}(hb:aK ps≤4294967296)(dc:List Nd)(i re0 wt0 mi0 mb0 lv0:Int)(ts0:List ai.den)(re wt mi mb lv:Int)(ts:List ai.den)(tn:LI):∀(k j:Nat) (o:List aW.den),ps.length<j+k→j≤ps.length→o.length≤j→
  v7 k dc i ps j re0 wt0 mi0 mb0 lv0 ts0 re wt mi mb lv ts tn o=some (.ret ((),((dc,(i,())),((re0,(wt0,(mi0,(mb0,(lv0,(ts0,())))))),((re,(wt,(mi,(mb,(lv,(ts,())))))),((tn,(o++(ps.drop j).map FR,())),())))))):=by
 intro k
 have hlen:=dG ps
 induction k with
 |zero=>intro j o h1 h2;omega
 |succ k ih=>
  intro j o h1 h2 h3
  rw[SN]
  unfold yy
  by_cases hj:j<ps.length
  ·refine bT (decide_eq_true (show (j:Int)<(ps.length:Int) by omega)) ?_
   have hmem:=cI (List.getElem_mem hj)
   have ih':=ih (j+1) (o++[FR ps[j]]) (by omega) (by omega) (by simp;omega)
   have hd:ps.drop j=ps[j]::ps.drop (j+1):=zE hj
   rw[hd,aI (n:=(j:Int)+1) (by omega) (by omega)]
   simp only[zG,aJ hj]
   generalize ps[j]=u at hmem ih' ⊢
   obtain ⟨ul,uk⟩:=u
   refine bT (by simp;omega) ?_
   refine bT (by simp;omega) ?_
   refine bT (by simp;omega) ?_
   refine bT (by simp;omega) ?_
   refine bT (decide_eq_true (show o.length+1≤4294967296 by omega)) ?_
   refine ih'.trans ?_
   simp only[zL,zK,zM]
  ·refine bF (decide_eq_false (show ¬(j:Int)<(ps.length:Int) by omega)) ?_
   rw[zI (by omega)]
   simp
theorem Of {nds:List Nd}(hb:aK nds≤4294967296)(re0 wt0 mi0 mb0 lv0:Int)(ts0:List ai.den)(re wt mi mb lv:Int):∀(k j:Nat) (ts:List ai.den),nds.length<j+k→j≤nds.length→ts.length≤j→
  zy k nds j re0 wt0 mi0 mb0 lv0 ts0 re wt mi mb lv ts=some (.ret ((),((),((re0,(wt0,(mi0,(mb0,(lv0,(ts0,())))))),((re,(wt,(mi,(mb,(lv,(ts++(nds.drop j).map wr,())))))),()))))):=by
 intro k
 have hlen:=dG nds
 induction k with
 |zero=>intro j o h1 h2;omega
 |succ k ih=>
  intro j ts h1 h2 h3
  rw[YG]
  unfold B2
  by_cases hj:j<nds.length
  ·refine bT (decide_eq_true (show (j:Int)<(nds.length:Int) by omega)) ?_
   have hmem:=cI (List.getElem_mem hj)
   have ih':=ih (j+1) (ts++[wr nds[j]]) (by omega) (by omega) (by simp;omega)
   have hd:nds.drop j=nds[j]::nds.drop (j+1):=zE hj
   rw[hd]
   simp only[zG,aJ hj]
   generalize nds[j]=u at hmem ih' ⊢
   obtain ⟨ul,uk⟩:=u
   refine bT (by simp;omega) ?_
   refine bT (by simp;omega) ?_
   have hw1:=gY (Tre.mk ul uk) 1
   have hw2:=dC (aY (Tre.mk ul uk) 1)
   have cA:((decide ((0:Int)=0)&&decide (([]:List aW.den).length=0))&&decide (aK (aY (Tre.mk ul uk) 1).kids≤4294967296))=true:=by simp;omega
   refine (aa cA _ _).trans ?_
   refine bT (decide_eq_true (show ts.length+1≤4294967296 by omega)) ?_
   rw[aI (n:=(j:Int)+1) (by omega) (by omega)]
   refine ih'.trans ?_
   simp only[zL,zK,zM]
  ·refine bF (decide_eq_false (show ¬(j:Int)<(nds.length:Int) by omega)) ?_
   rw[zI (by omega)]
   simp
def HO (a0:Nd):Option qN.Res:=(wW (((aY (Tre.mk a0.1 a0.2) 5).2,(0,())),((0,(0,(0,(0,(0,([],())))))),((i32.wrap (aY (Tre.mk a0.1 a0.2) 0).1.2.1,(i32.wrap (aY (Tre.mk a0.1 a0.2) 1).1.2.1,(i32.wrap (aY (Tre.mk a0.1 a0.2) 2).1.2.1,(i32.wrap (aY (Tre.mk a0.1 a0.2) 3).1.2.1,(i8.wrap (aY (Tre.mk a0.1 a0.2) 4).1.2.1,([],())))))),())))).run fun y=>match y with | .ret ((),((),(x109,x110,x111,x112,x113,x114,()),(x115,x116,x117,x118,x119,x120,()),()))=>(oR (((x115,x116,x117,x118,x119,x120,()),()),()))
theorem adz (a0:Nd):Io.run tt KX dr ue qN Tryz.f72 ((a0,()),())=HO a0:=by kernel_rfl
theorem za:HcsOk prog UN:=.cons I5 .nil
theorem af4:HcOk prog 72 (ae qN QB):=by
 refine cg za (lp:=ue) (fn:=Tryz.f72) qN (.step (h0:=aS jd wW) (by kernel_rfl) (jh za (lp:=ue) (fn:=Tryz.f72) (.step (h0:=aS gS tC) (by kernel_rfl) (jh za (lp:=ue) (fn:=Tryz.f72) (.done (by kernel_rfl)) gS tC ?_) (.done (by kernel_rfl))) jd wW ?_) (.done (by kernel_rfl))) QB ?_
 ·rintro ⟨⟨(dc:List Nd),(i:Int),(ps:List Nd),(j:Int),⟨⟩⟩,⟨⟨(re0:Int),(wt0:Int),(mi0:Int),(mb0:Int),(lv0:Int),(ts0:List ai.den),⟨⟩⟩,⟨(re:Int),(wt:Int),(mi:Int),(mb:Int),(lv:Int),(ts:List ai.den),⟨⟩⟩,⟨(tn:LI),(o:List aW.den),⟨⟩⟩,⟨⟩⟩⟩ y hw hy
  obtain ⟨hg,hy⟩:=Tr.guard hy
  simp only[zA,zB] at hg
  obtain ⟨⟨h1,h2⟩,h3⟩:=hg
  have h1:j=0:=h1
  have h2:o=[]:=zF h2
  have h3:aK ps≤4294967296:=h3
  subst h1
  subst h2
  refine ⟨ps.length+1,(Lb h3 dc i re0 wt0 mi0 mb0 lv0 ts0 re wt mi mb lv ts tn (ps.length+1) 0 [] (by omega) (by omega) (by simp)).trans ?_⟩
  rw[← hy,List.drop_zero]
  rfl
 ·rintro ⟨⟨(nds:List Nd),(j:Int),⟨⟩⟩,⟨⟨(re0:Int),(wt0:Int),(mi0:Int),(mb0:Int),(lv0:Int),(ts0:List ai.den),⟨⟩⟩,⟨(re:Int),(wt:Int),(mi:Int),(mb:Int),(lv:Int),(ts:List ai.den),⟨⟩⟩,⟨⟩⟩⟩ y hw hy
  obtain ⟨hg,hy⟩:=Tr.guard hy
  simp only[zA,zB] at hg
  obtain ⟨⟨h1,h2⟩,h3⟩:=hg
  have h1:j=0:=h1
  have h2:ts=[]:=zF h2
  have h3:aK nds≤4294967296:=h3
  subst h1
  subst h2
  refine ⟨nds.length+1,(Of h3 re0 wt0 mi0 mb0 lv0 ts0 re wt mi mb lv (nds.length+1) 0 [] (by omega) (by omega) (by simp)).trans ?_⟩
  rw[← hy,List.drop_zero]
  rfl
 ·rintro ⟨⟨(n:Nd),⟨⟩⟩,⟨⟩⟩ out hw ho
  obtain ⟨hg,ho⟩:=Tr.guard ho
  have hg:aM n≤4294967296:=of_decide_eq_true hg
  cases ho
  refine (adz n).trans ?_
  unfold HO
  obtain ⟨nl,nk⟩:=n
  have hw1:=gY (Tre.mk nl nk) 5
  have hw2:=dC (aY (Tre.mk nl nk) 5)
  have c1:((decide ((0:Int)=0)&&decide (([]:List ai.den).length=0))&&decide (aK (aY (Tre.mk nl nk) 5).kids≤4294967296))=true:=by simp;omega
  refine (aa c1 _ _).trans ?_
  show _=oR ((Aq (Tre.mk nl nk),()),())
  unfold Aq
  rfl
abbrev k8:Io:=⟨[.dat bO true false],[],[],[.dat bO true false],none⟩
def Dg (d:k8.In):Tr k8.Res:=.ite (eF d.1.1.2.2.2.2.2.1&&decide (aM (b9 d.1.1)≤4294967296)) (.ret (.ret ((d.1.1,()),()))) .no
abbrev If:List (Nat×Hc):=[(85,ae j6 wV),(83,ae fC vx),(72,ae qN QB)]
def WW:Hd:=bM If
def IO:Lp:=bB []
def Bg (a0 a1 a2 a3 a4:Int)(a5:List ai.den):Option k8.Res:=bif eF a5 then bif decide (aM (Tre.mk (b9 (a0,a1,a2,a3,a4,a5,())).1 (b9 (a0,a1,a2,a3,a4,a5,())).2)≤4294967296) then bif decide (aM (Tre.mk (b9 (a0,a1,a2,a3,a4,a5,())).1 (b9 (a0,a1,a2,a3,a4,a5,())).2)≤4294967296) then oR ((Aq (Tre.mk (b9 (a0,a1,a2,a3,a4,a5,())).1 (b9 (a0,a1,a2,a3,a4,a5,())).2),()),()) else none else none else none
theorem Sy (a0 a1 a2 a3 a4:Int)(a5:List ai.den):Io.run tt WW dr IO k8 Tryz.f31 (((a0,a1,a2,a3,a4,a5,()),()),())=Bg a0 a1 a2 a3 a4 a5:=by kernel_rfl
theorem XG:HcOk prog 31 (ae k8 Dg):=by
 refine cg (cs:=If) (.cons I7 (.cons uv (.cons af4 .nil))) (lp:=IO) (fn:=Tryz.f31) k8 (.done (by kernel_rfl)) Dg ?_
 rintro ⟨⟨m,⟨⟩⟩,⟨⟩⟩ out hw ho
 obtain ⟨hg,ho⟩:=Tr.guard ho
 simp only[zA,zB] at hg
 obtain ⟨h1,h2⟩:=hg
 have h1:eF m.2.2.2.2.2.1=true:=h1
 have h2:aM (b9 m)≤4294967296:=h2
 cases ho
 have hf:=sY (m:=m) hw.1.1
 obtain ⟨re,wt,mi,mb,lv,ts,⟨⟩⟩:=m
 refine (Sy re wt mi mb lv ts).trans ?_
 unfold Bg
 generalize b9 (re,(wt,(mi,(mb,(lv,(ts,()))))))=n at h2 hf ⊢
 obtain ⟨nl,nk⟩:=n
 refine (aa h1 _ _).trans ?_
 refine bT (decide_eq_true h2) ?_
 refine bT (decide_eq_true h2) ?_
 exact congrArg (fun x=>oR ((x,()),())) hf
@[irreducible] noncomputable def e7 (v:Int)(m:bO.den):LI×Int:=eE 1 false v (b9 m)
end
end Go.Proofs.YtomeplopmndbgaaGreat.Sym
namespace Go.Proofs.YtomeplopmndbgaaGreat.Sym
open Go
noncomputable section
def aei (v:Int)(p:aW.den):LI×Int:=aZ (aB p.1 4,0) (aZ (if 3≤v∧v≤3 then (aB p.2.2.1 4,0) else ([],0)) (aZ (aB p.2.1 8,0) (aZ (aB p.2.2.2.1 4,0) ([],0))))
def aej (v:Int)(t:ai.den):LI×Int:=aZ (lP t.1) (aZ (du (aei v) t.2.1) ([],0))
def Cf (v:Int)(m:bO.den):LI×Int:=aZ (aB m.1 4,0) (aZ (aB m.2.1 4,0) (aZ (aB m.2.2.1 4,0) (aZ (if 1≤v∧v≤3 then (aB m.2.2.2.1 4,0) else ([],0)) (aZ (if 2≤v∧v≤3 then (aB m.2.2.2.2.1 1,0) else ([],0)) (aZ (du (aej v) m.2.2.2.2.2.1) (([],0)))))))
theorem Wri.fqP (v:Int)(p:aW.den):Wri (aei v p) (sZ v p):=(Wri.put p.1 4).seq ((Wri.hasE v 3 3 p.2.2.1 4).seq ((Wri.put p.2.1 8).seq ((Wri.put p.2.2.2.1 4).seq (Wri.nop))))
theorem Wri.fqT (v:Int)(t:ai.den):Wri (aej v t) (FS v t):=(Wri.str _).seq ((Wri.items fun p hp=>Wri.fqP v p).seq Wri.nop)
abbrev ait:Fd:=cO [112,97,114,116] 10 0 3 [cO [105,110,100,101,120] 3 0 3 [],cO [101,112,111,99,104] 3 3 3 [],cO [111,102,102,115,101,116] 4 0 3 [],cO [109,97,120] 3 0 3 []]
abbrev aj0:Fd:=cO [116,111,112,105,99] 10 0 3 [cO [110,97,109,101] 5 0 3 [],cO [112,97,114,116,115] 9 0 3 [ait]]
theorem ag7 {v:Int}{p:aW.den}(hv:0≤v∧v≤3)(h:aW.wf p):uE ait v (mj p)=aei v p:=by
 unfold mj aei
 rw[jJ,bc (ax hv.1 hv.2),kF,bc (ax hv.1 hv.2),bc (ax hv.1 hv.2),cv,bG (by decide) (w:=4) rfl (bV h.1),bG (by decide) (w:=4) rfl (bV h.2.2.1),bG (by decide) (w:=4) rfl (bV h.2.2.2.1),bG (by decide) (w:=8) rfl (fq p.2.1)]
 try rfl
theorem ag8 {v:Int}{t:ai.den}(hv:0≤v∧v≤3)(h:ai.wf t):uE aj0 v (hY t)=aej v t:=by
 unfold hY aej
 rw[jJ,bc (ax hv.1 hv.2),bc (ax hv.1 hv.2),cv,pS,fu,cw fun p hp=>ag7 hv (h.2.1.2 p hp)]
def pI (v:Int)(p:aW.den):Bool:=(if 3≤v∧v≤3 then true else (p.2.2.1 == 0))
theorem YM {v:Int}{p:aW.den}(hv:0≤v∧v≤3):(bn ait v (mj p)).2=pI v p:=by
 unfold mj pI
 rw[fG,bd (ax hv.1 hv.2),dl,bd (ax hv.1 hv.2),bd (ax hv.1 hv.2),dk,aL (by decide) (by decide),aL (by decide) (by decide),aL (by decide) (by decide),aL (by decide) (by decide),bh]
 simp only[Bool.true_and,Bool.and_true]
theorem YN {v:Int}{t:ai.den}(hv:0≤v∧v≤3):(bn aj0 v (hY t)).2=t.2.1.all (pI v):=by
 unfold hY
 rw[fG,bd (ax hv.1 hv.2),bd (ax hv.1 hv.2),dk,aL (by decide) (by decide),dh]
 simp only[YM hv,Bool.true_and,Bool.and_true]
theorem FK (m:bO.den):er ve [av 3 m.1,av 3 m.2.1,av 3 m.2.2.1,av 3 m.2.2.2.1,av 1 m.2.2.2.2.1,ba (m.2.2.2.2.2.1.map hY)]:=by
 unfold ve b8
 refine au (aF (by decide) (by decide)) (au (aF (by decide) (by decide)) (au (aF (by decide) (by decide)) (au (aF (by decide) (by decide)) (au (aF (by decide) (by decide)) (au ?_ cj)))))
 refine cN _ _ fun t=>dK rfl (au (aF (by decide) (by decide)) (au ?_ cj))
 exact cN _ _ fun p=>dK rfl (au (aF (by decide) (by decide)) (au (aF (by decide) (by decide)) (au (aF (by decide) (by decide)) (au (aF (by decide) (by decide)) cj))))
def uS (v:Int)(m:bO.den):Bool:=(if 1≤v∧v≤3 then true else (m.2.2.2.1 == 0))&&((if 2≤v∧v≤3 then true else (m.2.2.2.2.1 == 0))&&((m.2.2.2.2.2.1.all fun t=>t.2.1.all (pI v))))
theorem Y1 {e v:Int}{p:aW.den}:wo v p (e,(false,([]:LI)))=(iF e (pI v p),(false,[])):=by
 unfold wo pI
 rw[cS]
theorem FQ {v:Int}:∀{ps:List aW.den} {e:Int},jl v ps (e,(false,([]:LI)))=(iF e (ps.all (pI v)),(false,[]))
 |[],e=>by rw[List.all_nil,iA];rfl
 |p::ps,e=>by
  show jl v ps (wo v p (e,(false,[])))=_
  rw[Y1,FQ,c7,List.all_cons]
theorem Jq {v:Int}:∀{ts:List ai.den} {e:Int},Ap v ts (e,(false,([]:LI)))=(iF e (ts.all fun t=>t.2.1.all (pI v)),(false,[]))
 |[],e=>by rw[List.all_nil,iA];rfl
 |t::ts,e=>by
  show Ap v ts (jl v t.2.1 (e,(false,[])))=_
  rw[FQ,Jq,c7,List.all_cons]
theorem ahF {v:Int}{m:bO.den}(hv:0≤v∧v≤3):(bS v ve [av 3 m.1,av 3 m.2.1,av 3 m.2.2.1,av 3 m.2.2.2.1,av 1 m.2.2.2.2.1,ba (m.2.2.2.2.2.1.map hY)]).2=uS v m:=by
 unfold ve b8 uS
 rw[bd (ax hv.1 hv.2),bd (ax hv.1 hv.2),bd (ax hv.1 hv.2),dl,dl,bd (ax hv.1 hv.2),dk,aL (by decide) (by decide),aL (by decide) (by decide),aL (by decide) (by decide),aL (by decide) (by decide),aL (by decide) (by decide),dh,bh,bh]
 simp only[YN hv,Bool.true_and,Bool.and_true,Bool.and_assoc]
theorem aic {v:Int}{m:bO.den}(hv:0≤v∧v≤3)(hm:bO.wf m):cG v ve [av 3 m.1,av 3 m.2.1,av 3 m.2.2.1,av 3 m.2.2.2.1,av 1 m.2.2.2.2.1,ba (m.2.2.2.2.2.1.map hY)]=Cf v m:=by
 unfold ve b8 Cf
 rw[bc (ax hv.1 hv.2),bc (ax hv.1 hv.2),bc (ax hv.1 hv.2),kF,kF,bc (ax hv.1 hv.2),cv,bG (by decide) (w:=4) rfl (bV hm.1),bG (by decide) (w:=4) rfl (bV hm.2.1),bG (by decide) (w:=4) rfl (bV hm.2.2.1),bG (by decide) (w:=4) rfl (bV hm.2.2.2.1),bG (by decide) (w:=1) rfl (Je hm.2.2.2.2.1),fu,cw fun t ht=>ag8 hv (hm.2.2.2.2.2.1.2 t ht)]
 try rfl
theorem aix {v:Int}{m:bO.den}(hm:bO.wf m):(bD (sX v m),bm (sX v m))=e7 v m:=by
 unfold e7 b9
 rw[jI (t:=ve) rfl PN rfl (FK m)]
 unfold sX
 rw[cS,cS,Jq,c7,c7]
 have hr:Wri (Cf v m) _:=(Wri.put m.1 4).seq ((Wri.put m.2.1 4).seq ((Wri.put m.2.2.1 4).seq ((Wri.hasE v 1 3 m.2.2.2.1 4).seq ((Wri.hasE v 2 3 m.2.2.2.2.1 1).seq ((Wri.items fun t ht=>Wri.fqT v t).seq (Wri.nop))))))
 refine (hr.done _).trans ?_
 unfold aV
 by_cases hv:v<0∨3<v
 ·rw[if_pos hv,if_pos hv]
  exact if_pos (by simp[iF])
 rw[if_neg hv,if_neg hv]
 have hv':0≤v∧v≤3:=by omega
 rw[ahF hv',aic hv' hm]
 show (if iF 0 (uS v m)≠0 then _ else _)=_
 cases hz:uS v m
 ·exact (if_pos (by decide)).trans (show ([],iF 0 (uS v m))=_ by rw[hz];rfl)
 ·exact (if_neg (by decide)).trans (if_neg (by decide)).symm
abbrev xA:Io:=qs
def TE (d:xA.In):Tr xA.Res:=.ret (.ret (((e7 d.1.1 d.1.2.1).1,((e7 d.1.1 d.1.2.1).2,())),()))
theorem ab9:HcOk prog 44 (ae xA TE):=by
 refine HcOk.weakW afK ?_
 rintro ⟨⟨(v:Int),m,⟨⟩⟩,⟨⟩⟩ y hw hy
 rw[← hy]
 have h:=aix (v:=v) (m:=m) hw.1.2.1
 show oR ((bD (sX v m),(bm (sX v m),())),())=oR (((e7 v m).1,((e7 v m).2,())),())
 rw[← h]
theorem Xj {v:Int}{p:aW.den}(h:pI v p=true):(¬(3≤v∧v≤3)→p.2.2.1=0):=by
 unfold pI at h
 exact fun hv=>by have h1:=h;rw[if_neg hv] at h1;simpa using h1
theorem z8 {v:Int}{m:bO.den}(h:uS v m=true):(¬(1≤v∧v≤3)→m.2.2.2.1=0)∧(¬(2≤v∧v≤3)→m.2.2.2.2.1=0)∧(m.2.2.2.2.2.1.all fun t=>t.2.1.all (pI v))=true:=by
 unfold uS at h
 simp only[zA] at h
 exact ⟨fun hv=>by have h1:=h.1;rw[if_neg hv] at h1;simpa using h1,fun hv=>by have h1:=h.2.1;rw[if_neg hv] at h1;simpa using h1,h.2.2⟩
theorem Rd.fqP {b:LI}{p:aW.den}{v:Int}(h:aW.wf p)(hk:pI v p=true):Rd b p (aei v p) (nZ v b):=
 (Rd.map (fun a=>(a.1,(a.2.2.1,(a.2.1,(a.2.2.2.1,()))))) (Rd.seq (fun a r=>(a,r)) (Rd.num (bA h.1)) (Rd.seq (fun a r=>(a,r)) (Rd.opt (bA h.2.2.1) (Xj hk)) (Rd.seq (fun a r=>(a,r)) (Rd.num (fA h.2.1)) (Rd.seq (fun a r=>(a,r)) (Rd.num (bA h.2.2.2.1)) (Rd.nop b ())))))).congr fun s=>by unfold nZ;rfl
theorem Rd.fqT {b:LI}{t:ai.den}{v:Int}(h:ai.wf t)(hk:t.2.1.all (pI v)=true):Rd b t (aej v t) (n3 v b):=
 (Rd.seq (fun a r=>(a,r)) (Rd.txt t.1) (Rd.seq (fun a r=>(a,r)) (Rd.list fun p hp=>Rd.fqP (h.2.1.2 p hp) (List.all_eq_true.1 hk p hp)) (Rd.nop b ()))).congr fun s=>by unfold n3 jK;rfl
theorem Rd.fqM {b:LI}{m:bO.den}{v:Int}(h:bO.wf m)(hk0:uS v m=true):Rd b m (Cf v m) (rs v b):=
 have hk:=(z8 hk0).2.2
 (Rd.seq (fun a r=>(a,r)) (Rd.num (bA h.1)) (Rd.seq (fun a r=>(a,r)) (Rd.num (bA h.2.1)) (Rd.seq (fun a r=>(a,r)) (Rd.num (bA h.2.2.1)) (Rd.seq (fun a r=>(a,r)) (Rd.opt (bA h.2.2.2.1) (z8 hk0).1) (Rd.seq (fun a r=>(a,r)) (Rd.opt (JN h.2.2.2.2.1) (z8 hk0).2.1) (Rd.seq (fun a r=>(a,r)) (Rd.list fun t ht=>Rd.fqT (h.2.2.2.2.2.1.2 t ht) (List.all_eq_true.1 hk t ht)) (Rd.nop b ()))))))).congr fun s=>by unfold rs bz;rfl
theorem aaF {v:Int}{m:bO.den}(hm:bO.wf m)(h:(e7 v m).2=0):0≤v∧v≤3∧uS v m=true∧(Cf v m).2=0∧(e7 v m).1=(Cf v m).1∧(e7 v m).1.length≤130048:=by
 have hlen:(e7 v m).1.length≤130048:=by unfold e7;exact ej _ _ _ _
 unfold e7 b9 at h hlen ⊢
 rw[jI (t:=ve) rfl PN rfl (FK m)] at h hlen ⊢
 by_cases hv:v<0∨3<v
 ·rw[if_pos hv] at h;cases h
 rw[if_neg hv] at h hlen ⊢
 have hv':0≤v∧v≤3:=by omega
 rw[ahF hv',aic hv' hm] at h hlen ⊢
 generalize hz:uS v m=z at h hlen ⊢
 cases z with
 |false=>rw[if_pos rfl] at h;cases h
 |true=>
  rw[if_neg (by decide)] at h hlen ⊢
  by_cases h1:(Cf v m).2=0
  ·rw[if_neg (by simpa using h1)] at h hlen ⊢
   by_cases h2:130048<(Cf v m).1.length
   ·rw[if_pos h2] at h;cases h
   ·rw[if_neg h2] at h hlen ⊢
    exact ⟨hv'.1,hv'.2,rfl,h1,rfl,hlen⟩
  ·rw[if_pos h1] at h
   exact absurd h h1
theorem aeJ {v:Int}{m:bO.den}(hm:bO.wf m)(h:(e7 v m).2=0):
  lR v (e7 v m).1=(m,0)∧(lR v ((e7 v m).1.take ((e7 v m).1.length - 1))).2=1:=by
 obtain ⟨h1,h2,h3,h4,h5,h6⟩:=aaF hm h
 rw[h5] at h6 ⊢
 generalize hr:(Cf v m).1=r at h6 ⊢
 have hne:r≠[]:=by
  intro e
  have h4c:=h4
  have hl':(Cf v m).1.length=0:=by rw[hr,e];rfl
  unfold Cf at h4c hl'
  have s0:=cy h4c
  have l0:=congrArg List.length s0.2.2
  rw[zH] at l0
  have s1:=cy s0.2.1
  have l1:=congrArg List.length s1.2.2
  rw[zH] at l1
  have s2:=cy s1.2.1
  have l2:=congrArg List.length s2.2.2
  rw[zH] at l2
  have s3:=cy s2.2.1
  have l3:=congrArg List.length s3.2.2
  rw[zH] at l3
  have s4:=cy s3.2.1
  have l4:=congrArg List.length s4.2.2
  rw[zH] at l4
  have s5:=cy s4.2.1
  have l5:=congrArg List.length s5.2.2
  rw[zH] at l5
  have h8:=nL s5.1
  omega
 refine ⟨?_,?_⟩
 ·have key:=(Rd.fqM (b:=r) hm h3 h4).full 0 [] (Nat.zero_le _) (by rw[hr];simp)
  have key:rs v r (0,0)=(m,(0,((0+(Cf v m).1.length:Nat):Int))):=key
  rw[hr] at key
  unfold lR
  rw[if_pos ⟨h1,h2,by omega⟩,key]
  have he:aE r (0,((0+r.length:Nat):Int))=0:=by
   unfold aE sQ
   rw[if_pos rfl,if_neg (by omega)]
  rw[if_pos he]
 ·obtain ⟨t,ht,htr⟩:=m6 hne
  have key:=(Rd.fqM (b:=r.take (r.length - 1)) hm h3 h4).short 0 t (Nat.zero_le _) ht (by rw[hr];exact htr)
  have key:(rs v (r.take (r.length - 1)) (0,0)).2.1=1:=key
  unfold lR
  rw[if_pos ⟨h1,h2,by rw[List.length_take];omega⟩]
  have he:aE (r.take (r.length - 1)) (rs v (r.take (r.length - 1)) (0,0)).2=1:=by
   unfold aE
   rw[if_neg (by rw[key];decide)];exact key
  rw[he,if_neg (by decide)]
end
end Go.Proofs.YtomeplopmndbgaaGreat.Sym
namespace Go.Proofs.YtomeplopmndbgaaGreat.Sym
open Go
open Go.IntKind (i8 i16 i32 i64 u8 u16 u32 u64)
noncomputable section
abbrev aU:Ty:=.prod (.int .i32) (.prod (.int .i16) (.prod (.int .i64) (.prod (.int .i64) (.prod (.int .i64) (.prod rB .unit)))))
abbrev aj:Ty:=.prod .str (.prod (.sl 223 aU) .unit)
abbrev bW:Ty:=.prod (.int .i32) (.prod (.sl 221 aj) .unit)
def pl (v:Int)(p:aU.den)(s:bf):bf:=cE p.2.2.2.2.2.1 (cM v 3 3 p.2.2.2.2.1 8 (cM v 2 3 p.2.2.2.1 8 (ac p.2.2.1 8 (ac p.2.1 2 (ac p.1 4 (s))))))
theorem Jx {s:bf}(v:Int)(p:aU.den)(h:s.2.2.length≤130048):(pl v p s).2.2.length≤130048:=
 li _ (iz _ _ _ _ _ (iz _ _ _ _ _ (aA _ _ (aA _ _ (aA _ _ (h))))))
def aeM (p:aU.den):Bool:=decide (p.2.2.2.2.2.1.2.1.length≤2147483647)
def CO (xs:List aU.den):Bool:=xs.all aeM
abbrev np:Io:=⟨[.dat aU true false,.ptr 0 0],pG,[],[],none⟩
def J2 (d:np.In):Tr np.Res:=.ite (gi d.2.2&&aeM d.1.1) (.ret (.ret ((),fI d.2.2.1.2.1 (pl d.2.2.1.2.1 d.1.1 (gj d.2.2))))) .no
abbrev Nk:List (Nat×Hc):=[(104,ae oH J0),(97,ae l7 AL),(98,ae cX gg),(111,ae l8 AM),(95,ae iJ pr)]
def aaV:Hd:=bM Nk
def Ox:Lp:=bB []
def DA (a0 a1 a2 a3 a4:Int)(a5:Bool)(a6:LI)(a7 a8:Int)(a9:Bool)(a10:LI)(a11:Int):Option np.Res:=bif decide (a11=130048)&&decide (a10.length≤130048) then bif decide (130048=130048)&&decide ((ac a0 4 (a8,a9,a10)).2.2.length≤130048) then bif decide (130048=130048)&&decide ((ac a1 2 (ac a0 4 (a8,a9,a10))).2.2.length≤130048) then bif decide (130048=130048)&&decide ((ac a2 8 (ac a1 2 (ac a0 4 (a8,a9,a10)))).2.2.length≤130048) then bif decide (2≤a7)&&decide (a7≤3) then bif decide (130048=130048)&&decide ((ac a2 8 (ac a1 2 (ac a0 4 (a8,a9,a10)))).2.2.length≤130048) then bif decide (130048=130048)&&decide ((ac a3 8 (ac a2 8 (ac a1 2 (ac a0 4 (a8,a9,a10))))).2.2.length≤130048) then bif decide (3≤a7)&&decide (a7≤3) then bif decide (130048=130048)&&decide ((ac a3 8 (ac a2 8 (ac a1 2 (ac a0 4 (a8,a9,a10))))).2.2.length≤130048) then bif decide (130048=130048)&&decide ((ac a4 8 (ac a3 8 (ac a2 8 (ac a1 2 (ac a0 4 (a8,a9,a10)))))).2.2.length≤130048)&&decide (a6.length≤2147483647) then oR ((),((),()),((),a7,(cE (a5,a6,()) (ac a4 8 (ac a3 8 (ac a2 8 (ac a1 2 (ac a0 4 (a8,a9,a10))))))).1,(cE (a5,a6,()) (ac a4 8 (ac a3 8 (ac a2 8 (ac a1 2 (ac a0 4 (a8,a9,a10))))))).2.1,()),((cE (a5,a6,()) (ac a4 8 (ac a3 8 (ac a2 8 (ac a1 2 (ac a0 4 (a8,a9,a10))))))).2.2,130048,()),()) else none else none else bif decide (130048=130048)&&decide ((ac a3 8 (ac a2 8 (ac a1 2 (ac a0 4 (a8,a9,a10))))).2.2.length≤130048)&&decide (a6.length≤2147483647) then oR ((),((),()),((),a7,(cE (a5,a6,()) (ac a3 8 (ac a2 8 (ac a1 2 (ac a0 4 (a8,a9,a10)))))).1,(cE (a5,a6,()) (ac a3 8 (ac a2 8 (ac a1 2 (ac a0 4 (a8,a9,a10)))))).2.1,()),((cE (a5,a6,()) (ac a3 8 (ac a2 8 (ac a1 2 (ac a0 4 (a8,a9,a10)))))).2.2,130048,()),()) else none else none else none else bif decide (130048=130048)&&decide ((ac a2 8 (ac a1 2 (ac a0 4 (a8,a9,a10)))).2.2.length≤130048) then bif decide (3≤a7)&&decide (a7≤3) then bif decide (130048=130048)&&decide ((ac a2 8 (ac a1 2 (ac a0 4 (a8,a9,a10)))).2.2.length≤130048) then bif decide (130048=130048)&&decide ((ac a4 8 (ac a2 8 (ac a1 2 (ac a0 4 (a8,a9,a10))))).2.2.length≤130048)&&decide (a6.length≤2147483647) then oR ((),((),()),((),a7,(cE (a5,a6,()) (ac a4 8 (ac a2 8 (ac a1 2 (ac a0 4 (a8,a9,a10)))))).1,(cE (a5,a6,()) (ac a4 8 (ac a2 8 (ac a1 2 (ac a0 4 (a8,a9,a10)))))).2.1,()),((cE (a5,a6,()) (ac a4 8 (ac a2 8 (ac a1 2 (ac a0 4 (a8,a9,a10)))))).2.2,130048,()),()) else none else none else bif decide (130048=130048)&&decide ((ac a2 8 (ac a1 2 (ac a0 4 (a8,a9,a10)))).2.2.length≤130048)&&decide (a6.length≤2147483647) then oR ((),((),()),((),a7,(cE (a5,a6,()) (ac a2 8 (ac a1 2 (ac a0 4 (a8,a9,a10))))).1,(cE (a5,a6,()) (ac a2 8 (ac a1 2 (ac a0 4 (a8,a9,a10))))).2.1,()),((cE (a5,a6,()) (ac a2 8 (ac a1 2 (ac a0 4 (a8,a9,a10))))).2.2,130048,()),()) else none else none else none else none else none else none
theorem X0 (a0 a1 a2 a3 a4:Int)(a5:Bool)(a6:LI)(a7 a8:Int)(a9:Bool)(a10:LI)(a11:Int):Io.run tt aaV dr Ox np Tryz.f129 (((a0,a1,a2,a3,a4,(a5,a6,()),()),(),()),((),()),((),a7,a8,a9,()),(a10,a11,()),())=DA a0 a1 a2 a3 a4 a5 a6 a7 a8 a9 a10 a11:=by kernel_rfl
theorem acf:HcOk prog 129 (ae np J2):=by
 refine cg (cs:=Nk) (.cons VR (.cons z5 (.cons eb (.cons z6 (.cons nH .nil))))) (lp:=Ox) (fn:=Tryz.f129) np (.done (by kernel_rfl)) J2 ?_
 rintro ⟨⟨⟨(ix:Int),(cd:Int),(hi:Int),(st:Int),(sa:Int),⟨(rcz:Bool),(rcx:LI),⟨⟩⟩,⟨⟩⟩,⟨⟩,⟨⟩⟩,⟨⟨⟩,⟨⟩⟩,⟨⟨⟩,(v:Int),(e:Int),(f:Bool),⟨⟩⟩,⟨(b:LI),(m:Int),⟨⟩⟩,⟨⟩⟩ out hw ho
 obtain ⟨hg,ho⟩:=Tr.guard ho
 obtain ⟨hg,hok⟩:=Bool.and_eq_true_iff.1 hg
 obtain ⟨rfl,hb⟩:=bK (v:=v) (e:=e) (f:=f) hg
 have hbrcx:decide ((rcz,(rcx,())).2.1.length≤2147483647)=true:=hok
 cases ho
 refine (X0 ix cd hi st sa rcz rcx v e f b 130048).trans ?_
 unfold DA
 have hg:∀s:bf,s.2.2.length≤130048→(decide ((130048:Int)=130048)&&decide (s.2.2.length≤130048))=true:=fun s h=>by simpa using h
 have hb:(e,(f,b)).2.2.length≤130048:=hb
 show _=oR ((),fI v (pl v (ix,(cd,(hi,(st,(sa,((rcz,(rcx,())),())))))) (e,f,b)))
 refine (aa (hg _ hb) _ _).trans ?_
 have l0_1:=aA ix 4 hb
 refine (aa (hg _ l0_1) _ _).trans ?_
 have l1_1:=aA cd 2 l0_1
 refine (aa (hg _ l1_1) _ _).trans ?_
 have l2_1:=aA hi 8 l1_1
 refine (aa (hg _ l2_1) _ _).trans ?_
 by_cases h3_1:2≤v∧v≤3
 ·refine bT (by simpa using h3_1) ?_
  refine (aa (hg _ l2_1) _ _).trans ?_
  have l3_1:=aA st 8 l2_1
  refine (aa (hg _ l3_1) _ _).trans ?_
  by_cases h4_2:3≤v∧v≤3
  ·refine bT (by simpa using h4_2) ?_
   refine (aa (hg _ l3_1) _ _).trans ?_
   have l4_2:=aA sa 8 l3_1
   refine (aa (Bool.and_eq_true_iff.2 ⟨hg _ l4_2,hbrcx⟩) _ _).trans ?_
   have l5_3:=li (rcz,(rcx,())) l4_2
   simp only[pl,bL h3_1,bL h4_2]
  ·refine (af (Bool.eq_false_iff.2 fun h'=>h4_2 (by simpa using h')) _ _).trans ?_
   refine (aa (Bool.and_eq_true_iff.2 ⟨hg _ l3_1,hbrcx⟩) _ _).trans ?_
   have l5_3:=li (rcz,(rcx,())) l3_1
   simp only[pl,bL h3_1,bk h4_2]
 ·refine (af (Bool.eq_false_iff.2 fun h'=>h3_1 (by simpa using h')) _ _).trans ?_
  refine (aa (hg _ l2_1) _ _).trans ?_
  by_cases h4_2:3≤v∧v≤3
  ·refine bT (by simpa using h4_2) ?_
   refine (aa (hg _ l2_1) _ _).trans ?_
   have l4_2:=aA sa 8 l2_1
   refine (aa (Bool.and_eq_true_iff.2 ⟨hg _ l4_2,hbrcx⟩) _ _).trans ?_
   have l5_3:=li (rcz,(rcx,())) l4_2
   simp only[pl,bk h3_1,bL h4_2]
  ·refine (af (Bool.eq_false_iff.2 fun h'=>h4_2 (by simpa using h')) _ _).trans ?_
   refine (aa (Bool.and_eq_true_iff.2 ⟨hg _ l2_1,hbrcx⟩) _ _).trans ?_
   have l5_3:=li (rcz,(rcx,())) l2_1
   simp only[pl,bk h3_1,bk h4_2]
def uH (v:Int)(xs:List aU.den)(s:bf):bf:=bE (pl v) xs s
abbrev tQ:Io:=⟨[.ptr 0 0,.dat (.sl 223 aU) false false,.fnc 129 false [2]],mh,[],[],none⟩
def Mf (d:tQ.In):Tr tQ.Res:=.ite (kg d.2&&CO d.1.2.1) (.ret (.ret ((),gl d.2.1.2.1 (uH d.2.1.2.1 d.1.2.1 (kh d.2))))) .no
abbrev Ws:List (Nat×Hc):=[(194,ae cT gq),(98,ae cX gg),(129,ae np J2)]
theorem Xm:HcOk prog 128 (ae tQ Mf):=
 xL (gx:=aeM) (one:=pl) (sps:=uH) (fun _ _ _=>rfl) (fun v _ _ h3=>Jx v _ h3) (cs:=Ws) (.cons fD (.cons eb (.cons acf .nil))) (fn:=Tryz.f128) (by kernel_rfl) (by kernel_rfl) (by kernel_rfl) (by kernel_rfl) (by kernel_rfl) (by kernel_rfl) (by intros;kernel_rfl) (by intros;kernel_rfl)
def FW (v:Int)(t:aj.den)(s:bf):bf:=uH v t.2.1 (bJ t.1 s)
def NN (t:aj.den):Bool:=CO t.2.1
def dD (xs:List aj.den):Bool:=xs.all NN
abbrev kT:Io:=⟨[.dat aj true false,.ptr 0 0],pG,[],[],none⟩
def C4 (d:kT.In):Tr kT.Res:=.ite (gi d.2.2&&NN d.1.1) (.ret (.ret ((),fI d.2.2.1.2.1 (FW d.2.2.1.2.1 d.1.1 (gj d.2.2))))) .no
abbrev H0:List (Nat×Hc):=[(101,ae kR wG),(128,ae tQ Mf)]
def WK:Hd:=bM H0
def IC:Lp:=bB []
def AZ (a0:LI)(a1:List aU.den)(a2 a3:Int)(a4:Bool)(a5:LI)(a6:Int):Option kT.Res:=bif decide (a6=130048)&&decide (a5.length≤130048) then bif decide (130048=130048)&&decide ((bJ a0 (a3,a4,a5)).2.2.length≤130048)&&CO a1 then oR ((),((),()),((),a2,(uH a2 a1 (bJ a0 (a3,a4,a5))).1,(uH a2 a1 (bJ a0 (a3,a4,a5))).2.1,()),((uH a2 a1 (bJ a0 (a3,a4,a5))).2.2,130048,()),()) else none else none
theorem Si (a0:LI)(a1:List aU.den)(a2 a3:Int)(a4:Bool)(a5:LI)(a6:Int):Io.run tt WK dr IC kT Tryz.f127 (((a0,a1,()),(),()),((),()),((),a2,a3,a4,()),(a5,a6,()),())=AZ a0 a1 a2 a3 a4 a5 a6:=by kernel_rfl
theorem Xn:HcOk prog 127 (ae kT C4):=by
 refine cg (cs:=H0) (.cons wd (.cons Xm .nil)) (lp:=IC) (fn:=Tryz.f127) kT (.done (by kernel_rfl)) C4 ?_
 rintro ⟨⟨⟨(t:LI),(ps:List aU.den),⟨⟩⟩,⟨⟩,⟨⟩⟩,⟨⟨⟩,⟨⟩⟩,⟨⟨⟩,(v:Int),(e:Int),(f:Bool),⟨⟩⟩,⟨(b:LI),(m:Int),⟨⟩⟩,⟨⟩⟩ out hw ho
 obtain ⟨hg,ho⟩:=Tr.guard ho
 obtain ⟨hg,h5⟩:=Bool.and_eq_true_iff.1 hg
 have h5:CO ps=true:=h5
 obtain ⟨rfl,hb⟩:=bK (v:=v) (e:=e) (f:=f) hg
 cases ho
 refine (Si t ps v e f b 130048).trans ?_
 unfold AZ
 refine bT (by simpa using hb) ?_
 refine (aa (Bool.and_eq_true_iff.2 ⟨by simpa using fc (s:=(e,f,b)) t hb,h5⟩) _ _).trans ?_
 rfl
theorem Au {s:bf}(v:Int)(t:aj.den)(h:s.2.2.length≤130048):(FW v t s).2.2.length≤130048:=cn (fun x s=>Jx v x) _ (fc _ h)
def mR (v:Int)(xs:List aj.den)(s:bf):bf:=bE (FW v) xs s
abbrev qv:Io:=⟨[.ptr 0 0,.dat (.sl 221 aj) false false,.fnc 127 false [2]],mh,[],[],none⟩
def GS (d:qv.In):Tr qv.Res:=.ite (kg d.2&&dD d.1.2.1) (.ret (.ret ((),gl d.2.1.2.1 (mR d.2.1.2.1 d.1.2.1 (kh d.2))))) .no
abbrev QX:List (Nat×Hc):=[(194,ae cT gq),(98,ae cX gg),(127,ae kT C4)]
theorem RM:HcOk prog 126 (ae qv GS):=
 xL (gx:=NN) (one:=FW) (sps:=mR) (fun _ _ _=>rfl) (fun v _ _ h3=>Au v _ h3) (cs:=QX) (.cons fD (.cons eb (.cons Xn .nil))) (fn:=Tryz.f126) (by kernel_rfl) (by kernel_rfl) (by kernel_rfl) (by kernel_rfl) (by kernel_rfl) (by kernel_rfl) (by intros;kernel_rfl) (by intros;kernel_rfl)
def ws (v:Int)(p:aU.den)(s:bf):bf:=aq v (p.2.2.2.2.1 == 0) 3 3 (aq v (p.2.2.2.1 == 0) 2 3 (s))
def jm (v:Int)(ps:List aU.den)(s:bf):bf:=ps.foldl (fun s p=>ws v p s) s
def Ar (v:Int)(ts:List aj.den)(s:bf):bf:=ts.foldl (fun s t=>jm v t.2.1 s) s
def yn (v:Int)(m:bW.den):bf:=mR v m.2.1 (cM v 1 3 m.1 4 (Ar v m.2.1 (aq v (m.1 == 0) 1 3 (aV v,(false,([]:LI))))))
abbrev qu:Io:=⟨[dI,.dat bW true false],[],[],[dO,dI],none⟩
def Zl (d:qu.In):Tr qu.Res:=.ite (dD d.1.2.1.2.1) (.ret (.ret ((bD (yn d.1.1 d.1.2.1),(bm (yn d.1.1 d.1.2.1),())),()))) .no
abbrev Uq:List (Nat×Hc):=[(93,ae l9 AN),(94,ae gt mr),(95,ae iJ pr),(98,ae cX gg),(126,ae qv GS),(105,ae jF rM)]
def KT:Hd:=bM Uq
abbrev iX:Lo:=⟨⟨(.any::ce (.one (.ptr 3 0)::ce (.one (.ptr 6 0)::gE (dq (.one (.hol (.sl 221 aj))::.one hI::.one hI::dq (.one (.hol (.sl 223 aU))::.one hI::.one hI::am (gE (dq (ce []))))))))),[none,none,none,some [hJ,.hol (.sl 221 aj)],none,none,some [.ptr 12 0],none,none,none,none,none,some [.ptr 13 0,hI,hI,hL],some [.onl 5 (Ty.int u8) 6658,hI]]⟩,[(.exit 2,⟨(.any::ce (.one (.ptr 3 0)::ce (.one (.ptr 6 0)::gE (dq (.one (.hol (.sl 221 aj))::.one hI::.one hI::.any::am (am (dq []))))))),[none,none,none,some [hJ,.hol (.sl 221 aj)],none,none,some [.ptr 12 0],none,none,none,none,none,some [.ptr 13 0,hI,hI,hL],some [.onl 5 (Ty.int u8) 6658,hI]]⟩)]⟩
abbrev iW:Lo:=⟨⟨(.any::ce (.one (.ptr 3 0)::ce (.one (.ptr 6 0)::gE (dq (.one (.hol (.sl 221 aj))::.one hI::.one hI::.any::am (am (dq []))))))),[none,none,none,some [hJ,.hol (.sl 221 aj)],none,none,some [.ptr 12 0],none,none,none,none,none,some [.ptr 13 0,hI,hI,hL],some [.onl 5 (Ty.int u8) 6658,hI]]⟩,[(.exit 0,⟨(.any::ce (.one (.ptr 3 0)::ce (.one (.ptr 6 0)::am (am (am (dq [])))))),[none,none,none,some [hJ,.hol (.sl 221 aj)],none,none,some [.ptr 12 0],none,none,none,none,none,some [.ptr 13 0,hI,hI,hL],some [.onl 5 (Ty.int u8) 6658,hI]]⟩)]⟩
abbrev Ag (th':Int)(ts':List aj.den)(v:Int)(s:bf):(Int×(List aj.den×Unit))×(Unit×((Int×(Int×(Bool×Unit)))×((LI×(Int×Unit))×Unit))):=((th',(ts',())),((),((v,(s.1,(s.2.1,()))),((s.2.2,(130048,())),()))))
def rQ (d:iX.st.den):Tr (aH iX.xs):=
 .ite (decide (d.1.2.2.2.2.2.1=0)&&(decide (d.1.2.2.2.2.1=(d.1.2.2.2.1.length:Int))&&(decide (d.2.2.2.2.1.2.1=130048)&&decide (d.2.2.2.2.1.1.length≤130048)))) (.ret (.ret ((),((d.1.1,(d.1.2.1,(d.1.2.2.1,()))),Ag d.2.1.1 d.2.1.2.1 d.2.2.2.1.1 (jm d.2.2.2.1.1 d.1.2.2.2.1 (d.2.2.2.1.2.1,(d.2.2.2.1.2.2.1,d.2.2.2.2.1.1))))))) .no
def rP (d:iW.st.den):Tr (aH iW.xs):=
 .ite (decide (d.1.2.2.1=0)&&(decide (d.1.2.1=(d.1.1.length:Int))&&(decide (d.2.2.2.2.1.2.1=130048)&&decide (d.2.2.2.2.1.1.length≤130048)))) (.ret (.ret ((),((),Ag d.2.1.1 d.2.1.2.1 d.2.2.2.1.1 (Ar d.2.2.2.1.1 d.1.1 (d.2.2.2.1.2.1,(d.2.2.2.1.2.2.1,d.2.2.2.2.1.1))))))) .no
def t6:Lp:=bB [(5,aS iW rP),(8,aS iX rQ)]
def BQ {R:Type}(h13:List aj.den)(h14 h15:Int)(h16:List aU.den)(h17 h18 h19:Int)(h20:List aj.den)(h21 h22:Int)(h23:Bool)(h24:LI)(h25:Int)(next:List aj.den→Int→Int→List aU.den→Int→Int→Int→List aj.den→Int→Int→Bool→LI→Int→Option R)(out:aH iX.xs→Option R):Option R:=bif decide (h18<h17) then bif decide (0≤h18)&&decide (h18<(↑h16.length:Int)) then bif decide (h25=130048)&&decide (h24.length≤130048) then bif decide (130048=130048)&&decide ((aq h21 ((h16.getD h18.toNat (0,0,0,0,0,(false,[],()),())).2.2.2.1 == 0) 2 3 (h22,h23,h24)).2.2.length≤130048) then next (h13) (h14) (h15) (h16) (h17) (i64.wrap (h18+1)) (h19) (h20) (h21) ((aq h21 ((h16.getD h18.toNat (0,0,0,0,0,(false,[],()),())).2.2.2.2.1 == 0) 3 3 (aq h21 ((h16.getD h18.toNat (0,0,0,0,0,(false,[],()),())).2.2.2.1 == 0) 2 3 (h22,h23,h24))).1) ((aq h21 ((h16.getD h18.toNat (0,0,0,0,0,(false,[],()),())).2.2.2.2.1 == 0) 3 3 (aq h21 ((h16.getD h18.toNat (0,0,0,0,0,(false,[],()),())).2.2.2.1 == 0) 2 3 (h22,h23,h24))).2.1) ((aq h21 ((h16.getD h18.toNat (0,0,0,0,0,(false,[],()),())).2.2.2.2.1 == 0) 3 3 (aq h21 ((h16.getD h18.toNat (0,0,0,0,0,(false,[],()),())).2.2.2.1 == 0) 2 3 (h22,h23,h24))).2.2) (130048) else none else none else none else out (.ret ((),((h13,(h14,(h15,()))),((h19,(h20,())),((),((h21,(h22,(h23,()))),((h24,(h25,())),())))))))
def zn (n:Nat)(h13:List aj.den)(h14 h15:Int)(h16:List aU.den)(h17 h18 h19:Int)(h20:List aj.den)(h21 h22:Int)(h23:Bool)(h24:LI)(h25:Int):Option (aH iX.xs):=il tt KT dr t6 0 Tryz.f59 (pV Tryz.f59 (db Tryz.f59 0) 0) n (iX.st.mk' ((h13,(h14,(h15,(h16,(h17,(h18,())))))),((h19,(h20,())),((),((h21,(h22,(h23,()))),((h24,(h25,())),())))))) (ci iX.xs)
theorem Yu (n:Nat)(h13:List aj.den)(h14 h15:Int)(h16:List aU.den)(h17 h18 h19:Int)(h20:List aj.den)(h21 h22:Int)(h23:Bool)(h24:LI)(h25:Int):zn (n+1) h13 h14 h15 h16 h17 h18 h19 h20 h21 h22 h23 h24 h25=BQ h13 h14 h15 h16 h17 h18 h19 h20 h21 h22 h23 h24 h25 (zn n) some:=by kernel_rfl
def BP {R:Type}(h3:List aj.den)(h4 h5 h6:Int)(h7:List aj.den)(h8 h9:Int)(h10:Bool)(h11:LI)(h12:Int)(next:List aj.den→Int→Int→Int→List aj.den→Int→Int→Bool→LI→Int→Option R)(out:aH iW.xs→Option R):Option R:=bif decide (h5<h4) then bif decide (0≤h5)&&decide (h5<(↑h3.length:Int)) then (rQ ((h3,(h4,(h5,((h3.getD h5.toNat ([],[],())).2.1,((↑(List.length (h3.getD h5.toNat ([],[],())).2.1):Int),(0,())))))),((h6,(h7,())),((),((h8,(h9,(h10,()))),((h11,(h12,())),())))))).run fun y=>match y with | .ret ((),((x49,x50,x51,()),(x52,x53,()),(),(x54,x55,x56,()),(x57,x58,()),()))=>(next (x49) (x50) (i64.wrap (x51+1)) (x52) (x53) (x54) (x55) (x56) (x57) (x58)) else none else out (.ret ((),((),((h6,(h7,())),((),((h8,(h9,(h10,()))),((h11,(h12,())),())))))))
def tX (n:Nat)(h3:List aj.den)(h4 h5 h6:Int)(h7:List aj.den)(h8 h9:Int)(h10:Bool)(h11:LI)(h12:Int):Option (aH iW.xs):=il tt KT dr t6 0 Tryz.f59 (db Tryz.f59 0) n (iW.st.mk' ((h3,(h4,(h5,()))),((h6,(h7,())),((),((h8,(h9,(h10,()))),((h11,(h12,())),())))))) (ci iW.xs)
theorem Yt (n:Nat)(h3:List aj.den)(h4 h5 h6:Int)(h7:List aj.den)(h8 h9:Int)(h10:Bool)(h11:LI)(h12:Int):tX (n+1) h3 h4 h5 h6 h7 h8 h9 h10 h11 h12=BP h3 h4 h5 h6 h7 h8 h9 h10 h11 h12 (tX n) some:=by kernel_rfl
theorem Ju {s:bf}(v:Int)(p:aU.den)(h:s.2.2.length≤130048):(ws v p s).2.2.length≤130048:=br _ _ _ _ (br _ _ _ _ h)
theorem FT {s:bf}(v:Int)(ps:List aU.den)(h:s.2.2.length≤130048):(jm v ps s).2.2.length≤130048:=iq (fun x s=>Ju v x) ps s h
theorem Y4 {s:bf}(v:Int)(ts:List aj.den)(h:s.2.2.length≤130048):(Ar v ts s).2.2.length≤130048:=iq (one:=fun (t:aj.den) (s:bf)=>jm v t.2.1 s) (fun x s h=>FT v x.2.1 h) ts s h
theorem N3 (us:List aj.den)(n i th':Int)(ts':List aj.den)(v:Int){ps:List aU.den}(hl:ps.length≤maxLen):∀(k j:Nat) (s:bf),ps.length<j+k→j≤ps.length→s.2.2.length≤130048→
  zn k us n i ps (ps.length:Int) j th' ts' v s.1 s.2.1 s.2.2 130048=some (.ret ((),((us,(n,(i,()))),Ag th' ts' v ((ps.drop j).foldl (fun s p=>ws v p s) s)))):=by
 intro k
 have hg:∀s:bf,s.2.2.length≤130048→(decide ((130048:Int)=130048)&&decide (s.2.2.length≤130048))=true:=fun s h=>by simpa using h
 induction k with
 |zero=>intro j s h;omega
 |succ k ih=>
  intro j s h1 h2 q0
  rw[Yu]
  unfold BQ
  by_cases hi:j<ps.length
  ·refine bT (decide_eq_true (show (j:Int)<(ps.length:Int) by omega)) ?_
   refine bT (by simpa using hi) ?_
   simp only[zG,aJ hi,cq hi hl]
   refine (aa (hg _ q0) _ _).trans ?_
   have q1:=br (s:=s) v (ps[j].2.2.2.1 == 0) 2 3 q0
   refine (aa (hg _ q1) _ _).trans ?_
   have q2:=br (s:=aq v (ps[j].2.2.2.1 == 0) 2 3 s) v (ps[j].2.2.2.2.1 == 0) 3 3 q1
   rw[zE hi]
   exact ih (j+1) (ws v ps[j] s) (by omega) (by omega) (Ju _ _ q0)
  ·refine bF (by simp;omega) ?_
   rw[zI (by omega)]
   rfl
theorem N2 {us:List aj.den}(th':Int)(ts':List aj.den)(v:Int)(hl:us.length≤maxLen):∀(k j:Nat) (s:bf),us.length<j+k→j≤us.length→s.2.2.length≤130048→
  tX k us (us.length:Int) j th' ts' v s.1 s.2.1 s.2.2 130048=some (.ret ((),((),Ag th' ts' v ((us.drop j).foldl (fun s t=>jm v t.2.1 s) s)))):=by
 intro k
 induction k with
 |zero=>intro j s h;omega
 |succ k ih=>
  intro j s h1 h2 h3
  rw[Yt]
  unfold BP
  by_cases hi:j<us.length
  ·refine bT (decide_eq_true (show (j:Int)<(us.length:Int) by omega)) ?_
   refine bT (by simpa using hi) ?_
   simp only[zG,aJ hi]
   have c1:(decide ((0:Int)=0)&&(decide ((us[j].2.1.length:Int)=(us[j].2.1.length:Int))&&(decide ((130048:Int)=130048)&&decide (s.2.2.length≤130048))))=true:=by simpa using h3
   have e1:rQ ((us,((us.length:Int),((j:Int),(us[j].2.1,((us[j].2.1.length:Int),(0,())))))),((th',(ts',())),((),((v,(s.1,(s.2.1,()))),((s.2.2,(130048,())),())))))=
     .ite true (.ret (.ret ((),((us,((us.length:Int),((j:Int),()))),Ag th' ts' v (jm v us[j].2.1 s))))) .no:=congrArg (fun c=>Tr.ite c _ _) c1
   rw[e1]
   show tX k us (us.length:Int) (i64.wrap ((j:Int)+1)) th' ts' v (jm v us[j].2.1 s).1 (jm v us[j].2.1 s).2.1 (jm v us[j].2.1 s).2.2 130048=_
   rw[cq hi hl,zE hi]
   exact ih (j+1) (jm v us[j].2.1 s) (by omega) (by omega) (FT _ _ h3)
  ·refine bF (by simp;omega) ?_
   rw[zI (by omega)]
   rfl
def Ht (a0 a1:Int)(a2:List aj.den):Option qu.Res:=(rP ((a2,((↑a2.length:Int),(0,()))),((a1,(a2,())),((),((a0,((aq a0 (a1 == 0) 1 3 (aV a0,false,[])).1,((aq a0 (a1 == 0) 1 3 (aV a0,false,[])).2.1,()))),(((aq a0 (a1 == 0) 1 3 (aV a0,false,[])).2.2,(130048,())),())))))).run fun y=>match y with | .ret ((),((),(x76,x77,()),(),(x78,x79,x80,()),(x81,x82,()),()))=>(bif decide (x82=130048)&&decide (x81.length≤130048) then bif decide (1≤x78)&&decide (x78≤3) then bif decide (130048=130048)&&decide (x81.length≤130048) then bif decide (130048=130048)&&decide ((ac x76 4 (x79,x80,x81)).2.2.length≤130048)&&dD x77 then bif decide (130048=130048)&&decide ((mR x78 x77 (ac x76 4 (x79,x80,x81))).2.2.length≤130048) then oR ((bD (mR x78 x77 (ac x76 4 (x79,x80,x81))),bm (mR x78 x77 (ac x76 4 (x79,x80,x81))),()),()) else none else none else none else bif decide (130048=130048)&&decide (x81.length≤130048)&&dD x77 then bif decide (130048=130048)&&decide ((mR x78 x77 (x79,x80,x81)).2.2.length≤130048) then oR ((bD (mR x78 x77 (x79,x80,x81)),bm (mR x78 x77 (x79,x80,x81)),()),()) else none else none else none)
theorem ac8 (a0 a1:Int)(a2:List aj.den):Io.run tt KT dr t6 qu Tryz.f59 ((a0,(a1,a2,()),()),())=Ht a0 a1 a2:=by kernel_rfl
theorem y7:HcsOk prog Uq:=.cons z7 (.cons nI (.cons nH (.cons eb (.cons RM (.cons uq .nil)))))
theorem afL:HcOk prog 59 (ae qu Zl):=by
 refine cg y7 (lp:=t6) (fn:=Tryz.f59) qu (.step (h0:=aS iW rP) (by kernel_rfl) (jh y7 (lp:=t6) (fn:=Tryz.f59) (.step (h0:=aS iX rQ) (by kernel_rfl) (jh y7 (lp:=t6) (fn:=Tryz.f59) (.done (by kernel_rfl)) iX rQ ?_) (.done (by kernel_rfl))) iW rP ?_) (.done (by kernel_rfl))) Zl ?_
 ·rintro ⟨⟨(us:List aj.den),(n:Int),(i:Int),(ps:List aU.den),(pn:Int),(pj:Int),⟨⟩⟩,⟨⟨(th':Int),(ts':List aj.den),⟨⟩⟩,⟨⟩,⟨(v:Int),(e:Int),(f:Bool),⟨⟩⟩,⟨(b:LI),(m:Int),⟨⟩⟩,⟨⟩⟩⟩ y hw hy
  obtain ⟨hg,hy⟩:=Tr.guard hy
  simp only[zA,zB] at hg
  obtain ⟨rfl,rfl,rfl,h4⟩:=hg
  have h4:b.length≤130048:=h4
  have hl:ps.length≤maxLen:=hw.1.2.2.2.1.1
  refine ⟨ps.length+1,(N3 us n i th' ts' v hl (ps.length+1) 0 (e,(f,b)) (by omega) (by omega) h4).trans ?_⟩
  rw[← hy];rfl
 ·rintro ⟨⟨(us:List aj.den),(n:Int),(i:Int),⟨⟩⟩,⟨⟨(th':Int),(ts':List aj.den),⟨⟩⟩,⟨⟩,⟨(v:Int),(e:Int),(f:Bool),⟨⟩⟩,⟨(b:LI),(m:Int),⟨⟩⟩,⟨⟩⟩⟩ y hw hy
  obtain ⟨hg,hy⟩:=Tr.guard hy
  simp only[zA,zB] at hg
  obtain ⟨rfl,rfl,rfl,h4⟩:=hg
  have h4:b.length≤130048:=h4
  have hl:us.length≤maxLen:=hw.1.1.1
  refine ⟨us.length+1,(N2 th' ts' v hl (us.length+1) 0 (e,(f,b)) (by omega) (by omega) h4).trans ?_⟩
  rw[← hy];rfl
 ·rintro ⟨⟨(v:Int),⟨(th:Int),(ts:List aj.den),⟨⟩⟩,⟨⟩⟩,⟨⟩⟩ out hw ho
  obtain ⟨hg,ho⟩:=Tr.guard ho
  have hok:dD ts=true:=hg
  clear hg
  cases ho
  refine (ac8 v th ts).trans ?_
  unfold Ht
  have hg:∀s:bf,s.2.2.length≤130048→(decide ((130048:Int)=130048)&&decide (s.2.2.length≤130048))=true:=fun s h=>by simpa using h
  have q0:(aV v,(false,([]:LI))).2.2.length≤130048:=by simp
  have q1:=br (s:=(aV v,(false,([]:LI)))) v (th == 0) 1 3 q0
  have c1:(decide ((0:Int)=0)&&(decide ((ts.length:Int)=(ts.length:Int))&&(decide ((130048:Int)=130048)&&decide ((aq v (th == 0) 1 3 (aV v,(false,([]:LI)))).2.2.length≤130048))))=true:=by simpa using q1
  have e1:rP ((ts,((ts.length:Int),(0,()))),((th,(ts,())),((),((v,((aq v (th == 0) 1 3 (aV v,(false,([]:LI)))).1,((aq v (th == 0) 1 3 (aV v,(false,([]:LI)))).2.1,()))),(((aq v (th == 0) 1 3 (aV v,(false,([]:LI)))).2.2,(130048,())),())))))=
    .ite true (.ret (.ret ((),((),Ag th ts v (Ar v ts (aq v (th == 0) 1 3 (aV v,(false,([]:LI))))))))) .no:=congrArg (fun c=>Tr.ite c _ _) c1
  rw[e1]
  have r0:=Y4 v ts q1
  refine (aa (hg _ r0) _ _).trans ?_
  by_cases h0_0:1≤v∧v≤3
  ·refine bT (by simpa using h0_0) ?_
   refine (aa (hg _ r0) _ _).trans ?_
   have l0_0:=aA th 4 r0
   refine bT (by rw[hok,Bool.and_true];exact hg _ l0_0) ?_
   have l1_1:=cn (fun x s=>Au v x) ts l0_0
   refine (aa (hg _ l1_1) _ _).trans ?_
   simp only[yn,bL h0_0]
  ·refine (af (Bool.eq_false_iff.2 fun h'=>h0_0 (by simpa using h')) _ _).trans ?_
   refine bT (by rw[hok,Bool.and_true];exact hg _ r0) ?_
   have l1_1:=cn (fun x s=>Au v x) ts r0
   refine (aa (hg _ l1_1) _ _).trans ?_
   simp only[yn,bk h0_0]
end
end Go.Proofs.YtomeplopmndbgaaGreat.Sym
