/- The first part of the abstract interpreter: data types, abstract values, and how they stand for the model's values in a world. -/
import Derived.Orders
import Derived.Deep.LoopGhost
import Derived.Laws.AppendOwn
import Derived.Laws.NewBlocks
import Derived.KernelRfl
import Derived.WalkKit
import Derived.WideLaws
import Derived.Laws.StructEq
import Derived.Laws.BytesArg
import Derived.Lib.ConvBytes
import Derived.Lib.AppendStr

set_option linter.unusedVariables false
set_option linter.unusedSimpArgs false
namespace Go.Proofs.YthpcdhgpplmneaaGreatDoor.Sym
open Go
open Go.IntKind (i8 i16 i32 i64 u8 u16 u32 u64)
abbrev LI:=List Int
abbrev zA:=@Bool.and_eq_true
abbrev zB:=@decide_eq_true_eq
abbrev zC.{u}:=@Option.some.injEq.{u}
abbrev zD.{u,v}:=@Prod.mk.injEq.{u,v}
abbrev zE.{u}:=@List.drop_eq_getElem_cons.{u}
abbrev zF.{u}:=@List.eq_nil_of_length_eq_zero.{u}
abbrev zG:=@Int.toNat_natCast
abbrev zH.{u}:=@List.length_append.{u}
abbrev zI.{u}:=@List.drop_of_length_le.{u}
abbrev zJ.{u}:=@List.all_eq_true.{u}
abbrev zK.{u}:=@List.append_assoc.{u}
abbrev zL.{u,v}:=@List.map_cons.{u,v}
abbrev zM.{u}:=@List.singleton_append.{u}
abbrev zN.{u}:=@List.length_cons.{u}
inductive Ty where
 |int (k:IntKind) | bool | str | sl (e:Nat) (t:Ty) | unit | prod (a b:Ty) | tree (a:Ty) (e:Nat)
 deriving DecidableEq
structure Tre (α:Type):Type where
 mk ::
 lab:α
 kids:List (Tre α)
@[reducible] def Ty.den:Ty→Type
 |.int _=>Int
 |.bool=>Bool
 |.str=>LI
 |.sl _ t=>List t.den
 |.unit=>Unit
 |.prod a b=>a.den×b.den
 |.tree a _=>Tre a.den
def Ty.size:Ty→Nat
 |.int _=>1
 |.bool=>1
 |.str=>1
 |.sl _ _=>1
 |.unit=>0
 |.prod a b=>a.size+b.size
 |.tree a _=>a.size+1
def Ty.isProd:Ty→Bool
 |.unit=>true
 |.prod _ _=>true
 |.tree _ _=>true
 |_=>false
def Ty.zero:(t:Ty)→t.den
 |.int _=>(0:Int)
 |.bool=>false
 |.str=>([]:LI)
 |.sl _ t=>([]:List t.den)
 |.unit=>()
 |.prod a b=>(a.zero,b.zero)
 |.tree a _=>.mk a.zero []
def bH (k:IntKind)(n:Int):Prop:=k.min≤n∧n≤k.max
def aF (s:LI):ByteArray:=⟨(s.map fun c=>UInt8.ofNat c.toNat).toArray⟩
def jy (b:ByteArray):LI:=b.data.toList.map fun c=>(c.toNat:Int)
def byteR (s:LI):Prop:=∀c∈s,0≤c∧c<256
theorem bL (k:IntKind)(n:Int):bH k (k.wrap n):=by
 unfold bH
 cases k <;> simp[IntKind.wrap,IntKind.min,IntKind.max,IntKind.signed,IntKind.bits] <;> (try split) <;> omega
theorem se (b:ByteArray):byteR (jy b):=by
 intro c hc
 simp only[jy,List.mem_map] at hc
 obtain ⟨u,_,rfl⟩:=hc
 have:=u.toNat_lt
 omega
theorem mc (b:ByteArray):aF (jy b)=b:=by
 apply ByteArray.ext
 apply Array.ext'
 simp[aF,jy,List.map_map,Function.comp_def]
theorem sf {s:LI}(h:byteR s):jy (aF s)=s:=by
 simp only[jy,aF,List.map_map]
 conv=>rhs;rw[← List.map_id s]
 refine List.map_congr_left fun c hc=>?_
 have:=h c hc
 simp only[Function.comp_apply,id]
 rw[UInt8.toNat_ofNat',Nat.mod_eq_of_lt (by omega)]
 omega
theorem b8 (s:LI):(aF s).size=s.length:=by simp[aF,ByteArray.size]
theorem Iu {s t:LI}(hs:byteR s)(ht:byteR t)(h:aF s=aF t):s=t:=by
 rw[← sf hs,← sf ht,h]
def All2 {α β:Type}(R:α→β→Prop):List α→List β→Prop
 |[],[]=>True
 |a::as,b::bs=>R a b∧All2 R as bs
 |_,_=>False
theorem All2.length {α β:Type}{R:α→β→Prop}:∀{as:List α} {bs:List β},All2 R as bs→as.length=bs.length
 |[],[],_=>rfl
 |_::_,_::_,h=>by simp[All2.length h.2]
 |[],_::_,h=>h.elim
 |_::_,[],h=>h.elim
theorem All2.mono {α β:Type}{R R':α→β→Prop}:∀{as:List α} {bs:List β},(∀a∈as,∀b,R a b→R' a b)→All2 R as bs→All2 R' as bs
 |[],[],_,_=>trivial
 |_::_,_::_,f,h=>⟨f _ (by simp) _ h.1,All2.mono (fun a ha b=>f a (by simp[ha]) b) h.2⟩
 |[],_::_,_,h=>h.elim
 |_::_,[],_,h=>h.elim
theorem All2.get {α β:Type}{R:α→β→Prop}:∀{as:List α} {bs:List β} {i:Nat} {a:α},All2 R as bs→as[i]?=some a→∃b,bs[i]?=some b∧R a b
 |_::_,b::_,0,_,h,e=>⟨b,rfl,by simp at e;exact e▸h.1⟩
 |_::_,_::_,i+1,_,h,e=>by simpa using All2.get (i:=i) h.2 (by simpa using e)
 |[],[],_,_,_,e=>by simp at e
 |[],_::_,_,_,h,_=>h.elim
 |_::_,[],_,_,h,_=>h.elim
theorem All2.append {α β:Type}{R:α→β→Prop}:∀{as:List α} {bs:List β} {as':List α} {bs':List β},All2 R as bs→All2 R as' bs'→All2 R (as++as') (bs++bs')
 |[],[],_,_,_,h'=>h'
 |_::_,_::_,_,_,h,h'=>⟨h.1,All2.append h.2 h'⟩
 |[],_::_,_,_,h,_=>h.elim
 |_::_,[],_,_,h,_=>h.elim
theorem All2.take {α β:Type}{R:α→β→Prop}:∀{as:List α} {bs:List β} (n:Nat),All2 R as bs→All2 R (as.take n) (bs.take n)
 |[],[],_,_=>by simp[All2]
 |_::_,_::_,0,_=>by simp[All2]
 |_::_,_::_,n+1,h=>⟨h.1,All2.take n h.2⟩
 |[],_::_,_,h=>h.elim
 |_::_,[],_,h=>h.elim
theorem All2.drop {α β:Type}{R:α→β→Prop}:∀{as:List α} {bs:List β} (n:Nat),All2 R as bs→All2 R (as.drop n) (bs.drop n)
 |[],[],_,_=>by simp[All2]
 |_::_,_::_,0,h=>h
 |_::_,_::_,n+1,h=>All2.drop n h.2
 |[],_::_,_,h=>h.elim
 |_::_,[],_,h=>h.elim
theorem All2.set {α β:Type}{R:α→β→Prop}:∀{as:List α} {bs:List β} (n:Nat) {a:α} {b:β},All2 R as bs→R a b→All2 R (as.set n a) (bs.set n b)
 |[],[],_,_,_,_,_=>by simp[All2]
 |_::_,_::_,0,_,_,h,h'=>⟨h',h.2⟩
 |_::_,_::_,n+1,_,_,h,h'=>⟨h.1,All2.set n h.2 h'⟩
 |[],_::_,_,_,_,h,_=>h.elim
 |_::_,[],_,_,_,h,_=>h.elim
theorem All2.map_left {α β γ:Type}{R:α→β→Prop}{R':γ→β→Prop}(f:α→γ):∀{as:List α} {bs:List β},(∀a b,R a b→R' (f a) b)→All2 R as bs→All2 R' (as.map f) bs
 |[],[],_,_=>trivial
 |_::_,_::_,g,h=>⟨g _ _ h.1,All2.map_left f g h.2⟩
 |[],_::_,_,h=>h.elim
 |_::_,[],_,h=>h.elim
def At (S:Nat→Nat→Prop)(w:World)(b o:Nat)(cs:List Value):Prop:=
 ∀j v,cs[j]?=some v→S b (o+j)∧w.cell? ⟨b,o+j,none⟩=some v
def Pm:Nat→Bool:=fun g=>Nat.beq g 0
def rf:LI:=[0,274646895,549293790,820201905,1098587580,1361435347,1640403810,1905808397,2197175160,2460548119,2722870694,2987750089,3280807620,3553878443,3811616794,4084100981]
def eY (i:Int):Int:=match i with
 |.ofNat n=>rf.getD n 0
 |.negSucc _=>0
theorem Nf:∀x∈rf,bH .u32 x:=by
 have h:rf.all (fun x=>decide (0≤x)&&decide (x≤4294967295))=true:=by decide
 intro x hx
 have:=List.all_eq_true.1 h x hx
 simp only[zA,zB] at this
 exact ⟨this.1,this.2⟩
theorem E2 (i:Int):bH .u32 (eY i):=by
 unfold eY
 split
 ·rename_i n
  rw[List.getD_eq_getElem?_getD]
  cases h:rf[n]? with
  |none=>exact ⟨by decide,by decide⟩
  |some x=>exact Nf x (List.mem_of_getElem? h)
 ·exact ⟨by decide,by decide⟩
def oW (S:Nat→Nat→Prop)(w:World):Prop:=∀g i,Pm g=true→i<rf.length→S g i∧w.cell? ⟨g,i,none⟩=some (.int .u32 (eY (i:Int)))
def RtTr (S:Nat→Nat→Prop)(w:World){α:Type}(P:α→List Value→Prop)(sz:Nat):Nat→Tre α→List Value→Prop
 |0,_,_=>False
 |n+1,t,cs=>∃c1 A cap,cs=c1++[.slice A t.kids.length cap]∧P t.lab c1∧t.kids.length≤cap∧cap≤maxLen∧
   (t.kids≠[]→∃b o,A=some ⟨b,o,none⟩∧∀i k,t.kids[i]?=some k→∃c,RtTr S w P sz n k c∧At S w b (o+i*sz) c)
def Rt (S:Nat→Nat→Prop)(w:World):(t:Ty)→t.den→List Value→Prop
 |.int k,n,cs=>cs=[.int k n]∧bH k n
 |.bool,b,cs=>cs=[.bool b]
 |.str,s,cs=>cs=[.string (aF s)]∧byteR s∧s.length≤maxLen
 |.sl _ t,xs,cs=>∃A cap,cs=[.slice A xs.length cap]∧xs.length≤cap∧cap≤maxLen∧
   (xs≠[]→∃b o,A=some ⟨b,o,none⟩∧∀i x,xs[i]?=some x→∃c,Rt S w t x c∧At S w b (o+i*t.size) c)
 |.unit,_,cs=>cs=[]
 |.prod a b,x,cs=>∃c1 c2,cs=c1++c2∧Rt S w a x.1 c1∧Rt S w b x.2 c2
 |.tree a _,x,cs=>∃n,RtTr S w (Rt S w a) (a.size+1) n x cs
theorem RtTr.mono {S:Nat→Nat→Prop}{w:World}{α:Type}{P:α→List Value→Prop}{sz:Nat}:∀{n m:Nat} {t:Tre α} {cs:List Value},n≤m→RtTr S w P sz n t cs→RtTr S w P sz m t cs
 |0,_,_,_,_,h=>h.elim
 |n+1,0,_,_,hnm,_=>by omega
 |n+1,m+1,t,cs,hnm,⟨c1,A,cap,e,h1,h2,h3,h4⟩=>⟨c1,A,cap,e,h1,h2,h3,fun hne=>by
   obtain ⟨b,o,ea,hh⟩:=h4 hne
   exact ⟨b,o,ea,fun i k hk=>let ⟨c,hc,ha⟩:=hh i k hk;⟨c,hc.mono (by omega),ha⟩⟩⟩
theorem H2 {α:Type}(Q:Nat→Nat→α→Prop)(hm:∀i n m x,n≤m→Q i n x→Q i m x):∀(l:List α),(∀i x,l[i]?=some x→∃n,Q i n x)→∃N,∀i x,l[i]?=some x→Q i N x:=by
 intro l h
 have:∀k,∃N,∀i x,i<k→l[i]?=some x→Q i N x:=by
  intro k
  induction k with
  |zero=>exact ⟨0,fun i x hi=>by omega⟩
  |succ k ih=>
   obtain ⟨N,hN⟩:=ih
   cases hx:l[k]? with
   |none=>exact ⟨N,fun i x hi hix=>hN i x (by rcases Nat.lt_or_ge i k with h | h;exact h;have:i=k:=(by omega);subst this;rw[hx] at hix;cases hix) hix⟩
   |some y=>
    obtain ⟨n,hn⟩:=h k y hx
    refine ⟨max N n,fun i x hi hix=>?_⟩
    by_cases e:i=k
    ·subst e;rw[hx] at hix;cases hix;exact hm _ _ _ _ (Nat.le_max_right _ _) hn
    ·exact hm _ _ _ _ (Nat.le_max_left _ _) (hN i x (by omega) hix)
 obtain ⟨N,hN⟩:=this l.length
 exact ⟨N,fun i x hx=>hN i x (List.getElem?_eq_some_iff.1 hx).1 hx⟩
theorem Rt.tree_iff {S:Nat→Nat→Prop}{w:World}{a:Ty}{e:Nat}{x:Tre a.den}{cs:List Value}:
  Rt S w (.tree a e) x cs↔∃c1 c2,cs=c1++c2∧Rt S w a x.lab c1∧Rt S w (.sl e (.tree a e)) x.kids c2:=by
 constructor
 ·rintro ⟨n,h⟩
  cases n with
  |zero=>exact h.elim
  |succ n=>
   obtain ⟨c1,A,cap,ecs,h1,h2,h3,h4⟩:=h
   refine ⟨c1,_,ecs,h1,A,cap,rfl,h2,h3,fun hne=>?_⟩
   obtain ⟨b,o,ea,hh⟩:=h4 hne
   exact ⟨b,o,ea,fun i k hk=>let ⟨c,hc,ha⟩:=hh i k hk;⟨c,⟨n,hc⟩,ha⟩⟩
 ·rintro ⟨c1,c2,rfl,h1,A,cap,rfl,h2,h3,h4⟩
  by_cases hne:x.kids=[]
  ·exact ⟨1,c1,A,cap,rfl,h1,h2,h3,fun h=>absurd hne h⟩
  ·obtain ⟨b,o,ea,hh⟩:=h4 hne
   obtain ⟨N,hN⟩:=H2 (fun i n k=>∃c,RtTr S w (Rt S w a) (a.size+1) n k c∧At S w b (o+i*(a.size+1)) c) (fun i n m k hnm ⟨c,hc,ha⟩=>⟨c,hc.mono hnm,ha⟩) x.kids
    fun i k hk=>let ⟨c,⟨n,hc⟩,ha⟩:=hh i k hk;⟨n,c,hc,ha⟩
   exact ⟨N+1,c1,A,cap,rfl,h1,h2,h3,fun _=>⟨b,o,ea,hN⟩⟩
def Row (S:Nat→Nat→Prop)(w:World)(t:Ty)(A:Option Addr)(xs:List t.den):Prop:=
 xs≠[]→∃b o,A=some ⟨b,o,none⟩∧∀i x,xs[i]?=some x→∃c,Rt S w t x c∧At S w b (o+i*t.size) c
def Kept (S S':Nat→Nat→Prop)(w w':World):Prop:=
 ∀b o,S b o→S' b o∧w'.cell? ⟨b,o,none⟩=w.cell? ⟨b,o,none⟩
theorem Kept.refl (S:Nat→Nat→Prop)(w:World):Kept S S w w:=fun _ _ h=>⟨h,rfl⟩
theorem Kept.trans {S S' S'':Nat→Nat→Prop}{w w' w'':World}(h:Kept S S' w w')(h':Kept S' S'' w' w''):Kept S S'' w w'':=
 fun b o hs=>⟨(h' b o (h b o hs).1).1,(h' b o (h b o hs).1).2.trans (h b o hs).2⟩
theorem At.kept {S S':Nat→Nat→Prop}{w w':World}{b o:Nat}{cs:List Value}(k:Kept S S' w w')(h:At S w b o cs):At S' w' b o cs:=
 fun j v hv=>⟨(k _ _ (h j v hv).1).1,(k _ _ (h j v hv).1).2.trans (h j v hv).2⟩
theorem RtTr.kept {S S':Nat→Nat→Prop}{w w':World}(k:Kept S S' w w'){α:Type}{P P':α→List Value→Prop}(hP:∀l c,P l c→P' l c){sz:Nat}:∀(n:Nat) (t:Tre α) (cs:List Value),RtTr S w P sz n t cs→RtTr S' w' P' sz n t cs
 |0,_,_,h=>h.elim
 |n+1,t,cs,⟨c1,A,cap,e,h1,h2,h3,h4⟩=>⟨c1,A,cap,e,hP _ _ h1,h2,h3,fun hne=>by
   obtain ⟨b,o,ea,hh⟩:=h4 hne
   exact ⟨b,o,ea,fun i x hx=>let ⟨c,hc,ha⟩:=hh i x hx;⟨c,RtTr.kept k hP n x c hc,ha.kept k⟩⟩⟩
theorem Rt.kept {S S':Nat→Nat→Prop}{w w':World}(k:Kept S S' w w'):∀(t:Ty) (x:t.den) (cs:List Value),Rt S w t x cs→Rt S' w' t x cs
 |.int _,_,_,h=>h
 |.bool,_,_,h=>h
 |.str,_,_,h=>h
 |.unit,_,_,h=>h
 |.prod a b,_,_,⟨c1,c2,e,h1,h2⟩=>⟨c1,c2,e,Rt.kept k a _ _ h1,Rt.kept k b _ _ h2⟩
 |.tree a _,_,_,⟨n,h⟩=>⟨n,RtTr.kept k (fun l c h=>Rt.kept k a l c h) n _ _ h⟩
 |.sl _ t,_,_,⟨A,cap,e,h1,h2,h3⟩=>⟨A,cap,e,h1,h2,fun hne=>by
   obtain ⟨b,o,ea,hh⟩:=h3 hne
   exact ⟨b,o,ea,fun i x hx=>let ⟨c,hc,ha⟩:=hh i x hx;⟨c,Rt.kept k t x c hc,ha.kept k⟩⟩⟩
theorem Row.kept {S S':Nat→Nat→Prop}{w w':World}(k:Kept S S' w w'){t:Ty}{A:Option Addr}{xs:List t.den}(h:Row S w t A xs):Row S' w' t A xs:=by
 intro hne
 obtain ⟨b,o,ea,hh⟩:=h hne
 exact ⟨b,o,ea,fun i x hx=>let ⟨c,hc,ha⟩:=hh i x hx;⟨c,Rt.kept k t x c hc,ha.kept k⟩⟩
theorem Rt.len {S:Nat→Nat→Prop}{w:World}:∀(t:Ty) (x:t.den) (cs:List Value),Rt S w t x cs→cs.length=t.size
 |.int _,_,_,h=>by rw[h.1];rfl
 |.bool,_,_,h=>by rw[h];rfl
 |.str,_,_,h=>by rw[h.1];rfl
 |.unit,_,_,h=>by rw[h];rfl
 |.prod a b,_,_,⟨c1,c2,e,h1,h2⟩=>by rw[e,zH,Rt.len a _ _ h1,Rt.len b _ _ h2];rfl
 |.tree a _,_,_,⟨n,h⟩=>by
  cases n with
  |zero=>exact h.elim
  |succ n=>
   obtain ⟨c1,A,cap,e,h1,_⟩:=h
   rw[e,zH,Rt.len a _ _ h1];rfl
 |.sl _ _,_,_,⟨A,cap,e,_⟩=>by rw[e];rfl
theorem Rt.row {S:Nat→Nat→Prop}{w:World}{e:Nat}{t:Ty}{xs:List t.den}{A:Option Addr}{n cap:Nat}(h:Rt S w (.sl e t) xs [.slice A n cap]):
  n=xs.length∧xs.length≤cap∧cap≤maxLen∧Row S w t A xs:=by
 obtain ⟨A',cap',e',h1,h2,h3⟩:=h
 simp only[List.cons.injEq,Value.slice.injEq,and_true] at e'
 obtain ⟨rfl,rfl,rfl⟩:=e'
 exact ⟨rfl,h1,h2,h3⟩
theorem Rt.cell {S:Nat→Nat→Prop}{w:World}:∀(t:Ty) (x:t.den) (cs:List Value),Rt S w t x cs→∀v∈cs,v.oneCell'=true
 |.int _,_,_,h=>by rw[h.1];simp[Value.oneCell']
 |.bool,_,_,h=>by rw[h];simp[Value.oneCell']
 |.str,_,_,h=>by rw[h.1];simp[Value.oneCell']
 |.unit,_,_,h=>by rw[h];simp
 |.prod a b,_,_,⟨c1,c2,e,h1,h2⟩=>by
   rw[e];intro v hv
   rcases List.mem_append.1 hv with h | h
   ·exact Rt.cell a _ _ h1 v h
   ·exact Rt.cell b _ _ h2 v h
 |.tree a _,_,_,⟨n,h⟩=>by
  cases n with
  |zero=>exact h.elim
  |succ n=>
   obtain ⟨c1,A,cap,e,h1,_⟩:=h
   rw[e];intro v hv
   rcases List.mem_append.1 hv with h | h
   ·exact Rt.cell a _ _ h1 v h
   ·simp only[List.mem_singleton] at h;rw[h];rfl
 |.sl _ _,_,_,⟨A,cap,e,_⟩=>by rw[e];simp[Value.oneCell']
inductive Cp where
 |ptr (key off:Nat)
 |dat (t:Ty) (x:t.den)
inductive C where
 |int (k:IntKind) (n:Int)
 |bool (b:Bool)
 |str (s:LI)
 |lst (e:Nat) (t:Ty) (xs:List t.den) (own:Nat)
 |nils
 |ptr (key off:Nat)
 |ro (t:Ty) (x:t.den)
 |nilp
 |fn (f:Nat) (m:Bool) (caps:List Cp)
 |ifc (T:Nat) (t:Ty) (x:t.den)
 |nilif
 |nilfn
 |top
 |itr (x:LI×Int)
 |pin (v:Value) (t:Ty) (x:t.den)
 |ex (e:Nat) (t:Ty) (lo:Nat) (xs:List t.den) (i j:Nat)
 |eel (t:Ty) (k:Nat) (x:t.den) (i j:Nat)
inductive V where
 |one (c:C)
 |agg (cs:List C)
 |tup (vs:List (Bool×List C))
 |any
structure Gh where
 S:Nat→Nat→Prop
 mu:Nat→Option Nat
 ow:Nat→Option (Nat×Nat)
def Rcp (G:Gh)(w:World):Cp→Value→Prop
 |.ptr key off,v=>∃b,G.mu key=some b∧v=.pointer (some ⟨b,off,none⟩)
 |.dat t x,v=>Rt G.S w t x [v]
def Own (G:Gh)(w:World)(own n:Nat)(A:Option Addr)(cap size:Nat):Prop:=
 own=0∨(A=none∧cap=0)∨∃b cur el,A=some ⟨b,0,none⟩∧G.ow own=some (b,n*size)∧w.heap[b]?=some (.cells cur el (0,0))∧cur.size=cap*size
def ExAt (G:Gh)(w:World)(t:Ty)(lo:Nat)(xs:List t.den)(i j b cap:Nat):Prop:=
 (i≠0∧j≠0∧(G.ow i=some (b,0)∨G.ow j=some (b,0)))∧∃cur el,w.heap[b]?=some (.cells cur el (0,0))∧cur.size=cap*t.size∧lo+xs.length≤cap∧cap≤maxLen∧
  ∀k x,xs[k]?=some x→∃c,Rt G.S w t x c∧∀q u,c[q]?=some u→cur[(lo+k)*t.size+q]?=some u
def pg (f:Nat)(m:Bool)(vs:Array Value):Value:=bif m then .func (.func f) vs #[] else .func (.func f) #[] vs
def Rc (G:Gh)(w:World):C→Value→Prop
 |.int k n,v=>v=.int k n∧bH k n
 |.bool b,v=>v=.bool b
 |.str s,v=>v=.string (aF s)∧byteR s∧s.length≤maxLen
 |.lst _ t xs own,v=>∃A cap,v=.slice A xs.length cap∧xs.length≤cap∧cap≤maxLen∧Row G.S w t A xs∧Own G w own xs.length A cap t.size
 |.nils,v=>v=.slice none 0 0
 |.ptr key off,v=>∃b,G.mu key=some b∧v=.pointer (some ⟨b,off,none⟩)
 |.ro t x,v=>∃b o cs,v=.pointer (some ⟨b,o,none⟩)∧Rt G.S w t x cs∧At G.S w b o cs
 |.nilp,v=>v=.pointer none
 |.fn f m caps,v=>∃vs,v=pg f m vs∧All2 (Rcp G w) caps vs.toList
 |.ifc T t x,v=>∃u,v=.iface T u∧Rt G.S w t x u.cells.toList∧(t.isProd=true→∃vs,u=.agg vs)
 |.nilif,v=>v=.nilIface
 |.nilfn,v=>v=.nilFunc
 |.top,v=>v.oneCell'=true
 |.itr _,_=>False
 |.pin v0 t x,v=>v=v0∧Rt G.S w t x [v]
 |.ex _ t lo xs i j,v=>(lo=0∧xs=[]∧v=.slice none 0 0)∨∃b cap,v=.slice (some ⟨b,0,none⟩) (lo+xs.length) cap∧ExAt G w t lo xs i j b cap
 |.eel t k x i j,v=>∃b cap,v=.pointer (some ⟨b,k*t.size,none⟩)∧ExAt G w t k [x] i j b cap
def RcOne (G:Gh)(w:World)(p:Bool×List C)(u:Value):Prop:=
 (p.1=true∧∃vs,u=.agg vs∧All2 (Rc G w) p.2 vs.toList)∨(p.1=false∧∃c,p.2=[c]∧Rc G w c u)
def Rv (G:Gh)(w:World):V→Value→Prop
 |.one c,v=>Rc G w c v
 |.agg cs,v=>∃vs,v=.agg vs∧All2 (Rc G w) cs vs.toList
 |.tup ps,v=>∃us,v=.tuple us∧All2 (RcOne G w) ps us.toList
 |.any,_=>True
def Cp.hasKey (k:Nat):Cp→Bool
 |.ptr key _=>key == k
 |.dat _ _=>false
def C.hasKey (k:Nat):C→Bool
 |.ptr key _=>key == k
 |.fn _ _ caps=>caps.any (·.hasKey k)
 |_=>false
def C.hasOwn (i:Nat):C→Bool
 |.lst _ _ _ own=>own == i
 |.ex _ _ _ _ a b=>a == i || b == i
 |.eel _ _ _ a b=>a == i || b == i
 |_=>false
def C.noKey (k:Nat)(c:C):C:=if c.hasKey k then .top else c
def C.noOwn (i:Nat):C→C
 |.lst e t xs own=>if own == i then .lst e t xs 0 else .lst e t xs own
 |.ex e t lo xs a b=>if !(i == 0)&&(a == i || b == i) then .top else .ex e t lo xs a b
 |.eel t k x a b=>if !(i == 0)&&(a == i || b == i) then .top else .eel t k x a b
 |c=>c
def V.map (f:C→C):V→V
 |.one c=>.one (f c)
 |.agg cs=>.agg (cs.map f)
 |.tup ps=>.tup (ps.map fun p=>(p.1,p.2.map f))
 |.any=>.any
structure Goes (G G':Gh) (w w':World) (k i:Option Nat):Prop where
 kept:Kept G.S G'.S w w'
 mu:∀key b,G.mu key=some b→some key≠k→G'.mu key=some b
 ow:∀j b l,G.ow j=some (b,l)→some j≠i→G'.ow j=some (b,l)∧w'.heap[b]?=w.heap[b]?
theorem Goes.refl (G:Gh)(w:World):Goes G G w w none none:=⟨.refl _ _,fun _ _ h _=>h,fun _ _ _ h _=>⟨h,rfl⟩⟩
theorem Rcp.goes {G G':Gh}{w w':World}{k i:Option Nat}(g:Goes G G' w w' k i){c:Cp}{v:Value}(hk:∀key,k=some key→c.hasKey key=false)(h:Rcp G w c v):Rcp G' w' c v:=by
 cases c with
 |ptr key off=>
  obtain ⟨b,hb,e⟩:=h
  exact ⟨b,g.mu key b hb (fun e=>by have:=hk key e.symm;simp[Cp.hasKey] at this),e⟩
 |dat t x=>exact Rt.kept g.kept t x _ h
theorem ExAt.goes {G G':Gh}{w w':World}{k i:Option Nat}(g:Goes G G' w w' k i){t:Ty}{lo:Nat}{xs:List t.den}{a b' bl cap:Nat}(ha:∀j,i=some j→a≠j∧b'≠j)(h:ExAt G w t lo xs a b' bl cap):ExAt G' w' t lo xs a b' bl cap:=by
 obtain ⟨ho,cur,el,hh,h1,h2,h3,h4⟩:=h
 have key:∀id,(∀j,i=some j→id≠j)→G.ow id=some (bl,0)→G'.ow id=some (bl,0)∧w'.heap[bl]?=w.heap[bl]?:=fun id hid ho=>g.ow id bl 0 ho (fun e=>hid id e.symm rfl)
 obtain ⟨n1,n2,ho⟩:=ho
 have hw:(G'.ow a=some (bl,0)∨G'.ow b'=some (bl,0))∧w'.heap[bl]?=w.heap[bl]?:=by
  rcases ho with ho | ho
  ·exact ⟨.inl (key a (fun j e=>(ha j e).1) ho).1,(key a (fun j e=>(ha j e).1) ho).2⟩
  ·exact ⟨.inr (key b' (fun j e=>(ha j e).2) ho).1,(key b' (fun j e=>(ha j e).2) ho).2⟩
 exact ⟨⟨n1,n2,hw.1⟩,cur,el,hw.2.trans hh,h1,h2,h3,fun q x hx=>let ⟨c,hc,hu⟩:=h4 q x hx;⟨c,Rt.kept g.kept t x c hc,hu⟩⟩
theorem Rc.goes {G G':Gh}{w w':World}{k i:Option Nat}(g:Goes G G' w w' k i){c:C}{v:Value}(hk:∀key,k=some key→c.hasKey key=false)(hi:∀j,i=some j→c.hasOwn j=false)(h:Rc G w c v):Rc G' w' c v:=by
 cases c with
 |lst e t xs own=>
  obtain ⟨A,cap,e,h1,h2,h3,h4⟩:=h
  refine ⟨A,cap,e,h1,h2,h3.kept g.kept,?_⟩
  rcases h4 with h4 | h4 | ⟨b,cur,el,ea,ho,hh,hs⟩
  ·exact .inl h4
  ·exact .inr (.inl h4)
  ·have:=g.ow own b _ ho (fun e=>by have:=hi own e.symm;simp[C.hasOwn] at this)
   exact .inr (.inr ⟨b,cur,el,ea,this.1,this.2.trans hh,hs⟩)
 |ptr key off=>
  obtain ⟨b,hb,e⟩:=h
  exact ⟨b,g.mu key b hb (fun e=>by have:=hk key e.symm;simp[C.hasKey] at this),e⟩
 |ro t x=>
  obtain ⟨b,o,cs,e,h1,h2⟩:=h
  exact ⟨b,o,cs,e,Rt.kept g.kept t x cs h1,h2.kept g.kept⟩
 |fn f m caps=>
  obtain ⟨vs,e,hv⟩:=h
  refine ⟨vs,e,hv.mono fun c hc v hcv=>hcv.goes g fun key hkey=>?_⟩
  have:=hk key hkey
  simp only[C.hasKey,List.any_eq_false] at this
  simpa using this c hc
 |ifc T t x=>
  obtain ⟨u,e,hu,ha⟩:=h
  exact ⟨u,e,Rt.kept g.kept t x _ hu,ha⟩
 |pin v0 t x=>exact ⟨h.1,Rt.kept g.kept t x _ h.2⟩
 |ex e t lo xs a b=>
  have ha:∀j,i=some j→a≠j∧b≠j:=fun j e=>by simpa [C.hasOwn] using hi j e
  rcases h with h | ⟨bl,cap,e,h⟩
  ·exact .inl h
  ·exact .inr ⟨bl,cap,e,h.goes g ha⟩
 |eel t k x a b=>
  have ha:∀j,i=some j→a≠j∧b≠j:=fun j e=>by simpa [C.hasOwn] using hi j e
  obtain ⟨bl,cap,e,h⟩:=h
  exact ⟨bl,cap,e,h.goes g ha⟩
 |_=>exact h
theorem Rc.cell {G:Gh}{w:World}{c:C}{v:Value}(h:Rc G w c v):v.oneCell'=true:=by
 cases c with
 |int k n=>rw[h.1];rfl
 |bool b=>rw[show v=.bool b from h];rfl
 |str s=>rw[h.1];rfl
 |lst e t xs own=>obtain ⟨A,cap,e,_⟩:=h;rw[e];rfl
 |nils=>rw[show v=_ from h];rfl
 |ptr k o=>obtain ⟨b,_,e⟩:=h;rw[e];rfl
 |ro t x=>obtain ⟨b,o,cs,e,_⟩:=h;rw[e];rfl
 |nilp=>rw[show v=_ from h];rfl
 |fn f m cs=>obtain ⟨vs,e,_⟩:=h;rw[e];cases m <;> rfl
 |ifc T t x=>obtain ⟨u,e,_⟩:=h;rw[e];rfl
 |nilif=>rw[show v=_ from h];rfl
 |nilfn=>rw[show v=_ from h];rfl
 |top=>exact h
 |itr x=>exact h.elim
 |pin v0 t x=>exact Rt.cell t x _ h.2 v (by simp)
 |ex e t lo xs a b=>
  rcases h with ⟨_,_,e⟩ | ⟨bl,cap,e,_⟩ <;> (rw[e];rfl)
 |eel t k x a b=>obtain ⟨bl,cap,e,_⟩:=h;rw[e];rfl
theorem Rc.noKey {G G':Gh}{w w':World}{key:Nat}(g:Goes G G' w w' (some key) none){c:C}{v:Value}(h:Rc G w c v):Rc G' w' (c.noKey key) v:=by
 unfold C.noKey
 split
 ·exact h.cell
 ·rename_i hk
  exact h.goes g (fun k e=>by cases e;simpa using hk) (fun _ e=>by cases e)
theorem Rc.noOwn {G G':Gh}{w w':World}{j:Nat}(g:Goes G G' w w' none (some j)){c:C}{v:Value}(h:Rc G w c v):Rc G' w' (c.noOwn j) v:=by
 cases c with
 |lst e t xs own=>
  simp only[C.noOwn]
  split
  ·obtain ⟨A,cap,e,h1,h2,h3,h4⟩:=h
   exact ⟨A,cap,e,h1,h2,h3.kept g.kept,.inl rfl⟩
  ·rename_i hn
   exact h.goes g (fun k e=>by cases e) (fun k e=>by cases e;simpa [C.hasOwn] using hn)
 |ex e t lo xs a b=>
  simp only[C.noOwn]
  split
  ·exact h.cell
  ·rename_i hn
   rcases h with h | ⟨bl,cap,e,h⟩
   ·exact .inl h
   ·refine .inr ⟨bl,cap,e,h.goes g fun k e=>?_⟩
    cases e
    obtain ⟨⟨n1,n2,_⟩,_⟩:=h
    by_cases hj:j=0
    ·subst hj;exact ⟨n1,n2⟩
    ·simpa [hj] using hn
 |eel t k x a b=>
  simp only[C.noOwn]
  split
  ·exact h.cell
  ·rename_i hn
   obtain ⟨bl,cap,e,h⟩:=h
   refine ⟨bl,cap,e,h.goes g fun k e=>?_⟩
   cases e
   obtain ⟨⟨n1,n2,_⟩,_⟩:=h
   by_cases hj:j=0
   ·subst hj;exact ⟨n1,n2⟩
   ·simpa [hj] using hn
 |_=>exact Rc.goes g (fun k e=>by cases e) (fun k e=>by cases e;simp[C.hasOwn,C.noOwn]) h
theorem RcOne.map {G G':Gh}{w w':World}{f:C→C}(hf:∀c v,Rc G w c v→Rc G' w' (f c) v){p:Bool×List C}{u:Value}(h:RcOne G w p u):RcOne G' w' (p.1,p.2.map f) u:=by
 rcases h with ⟨h1,vs,e,h2⟩ | ⟨h1,c,e,h2⟩
 ·exact .inl ⟨h1,vs,e,h2.map_left f fun a b=>hf a b⟩
 ·exact .inr ⟨h1,f c,by simp[e],hf _ _ h2⟩
theorem Rv.map {G G':Gh}{w w':World}{f:C→C}(hf:∀c v,Rc G w c v→Rc G' w' (f c) v){x:V}{v:Value}(h:Rv G w x v):Rv G' w' (x.map f) v:=by
 cases x with
 |one c=>exact hf _ _ h
 |agg cs=>
  obtain ⟨vs,e,hv⟩:=h
  exact ⟨vs,e,hv.map_left f fun a b=>hf a b⟩
 |tup ps=>
  obtain ⟨us,e,hv⟩:=h
  exact ⟨us,e,hv.map_left _ fun a b h=>RcOne.map hf h⟩
 |any=>trivial
theorem Rv.goes {G G':Gh}{w w':World}(g:Goes G G' w w' none none){x:V}{v:Value}(h:Rv G w x v):Rv G' w' x v:=by
 have hf:∀c v,Rc G w c v→Rc G' w' c v:=fun c v h=>h.goes g (fun _ e=>by cases e) (fun _ e=>by cases e)
 have:=Rv.map (f:=id) hf h
 cases x <;> simpa [V.map] using this
end Go.Proofs.YthpcdhgpplmneaaGreatDoor.Sym
namespace Go.Proofs.YthpcdhgpplmneaaGreatDoor.Sym
open Go
open Go.IntKind (i8 i16 i32 i64 u8 u16 u32 u64)
noncomputable section
inductive Ds where
 |bool | int (k:IntKind) | str | sl (e:Nat) | st (fs:List (Nat×Nat)) | pt (e:Nat) | fn | ifc | arr (n e:Nat) | oth
 deriving DecidableEq
structure TI where
 d:Ds
 ty:Option Ty
 size:Nat
 bytes:Nat
 zero:List Value
 eqb:Bool
def TI.none:TI:=⟨.oth,.none,0,0,[],false⟩
abbrev TT:=List TI
def TT.at (tt:TT)(t:Nat):TI:=tt.getD t TI.none
def LA (k:IntKind)(n:Int):Bool:=decide (k.min≤n)&&decide (n≤k.max)
def nI:Value→C
 |.int k n=>bif LA k n then .int k n else .top
 |.bool b=>.bool b
 |.string s=>bif decide (s.size≤maxLen) then .str (jy s) else .top
 |.slice none 0 0=>.nils
 |.pointer none=>.nilp
 |.nilIface=>.nilif
 |.nilFunc=>.nilfn
 |_=>.top
def Fa:Value→V
 |.agg cs=>bif cs.toList.all Value.oneCell' then .agg (cs.toList.map nI) else .any
 |.tuple vs=>match vs.toList with | []=>.tup [] | _=>.any
 |v=>.one (nI v)
structure AS where
 tm:List V
 stk:List (List V)
 ob:List (Option (List C))
def AS.get (A:AS)(t:Nat):V:=A.tm.getD t .any
def AS.put (A:AS)(dst:Option Nat)(v:V):AS:=match dst with
 |some d=>{ A with tm:=A.tm.set d v }
 |none=>A
def AS.map (f:C→C)(A:AS):AS:=⟨A.tm.map (V.map f),A.stk.map (·.map (V.map f)),A.ob.map (Option.map (·.map f))⟩
def opd (A:AS):Operand→V
 |.tmp t=>A.get t
 |.const v=>Fa v
 |.global _=>.any
 |.func f=>.one (.fn f false [])
def dC:(t:Ty)→C→Option t.den
 |t,.pin _ t' x=>if h:t'=t then some (h▸x) else none
 |.int k,.int k' n=>if k=k' then some n else none
 |.bool,.bool b=>some b
 |.str,.str s=>some s
 |.sl e t,.lst e' t' xs _=>if h:e=e'∧t'=t then some (h.2▸xs) else none
 |.sl _ _,.nils=>some []
 |_,_=>none
def bS:(t:Ty)→List C→Option (t.den×List C)
 |.unit,cs=>some ((),cs)
 |.prod a b,cs=>match bS a cs with
  |some (x,r)=>match bS b r with
   |some (y,r')=>some ((x,y),r')
   |none=>none
  |none=>none
 |.tree a e,cs=>match bS a cs with
  |some (x,c::r)=>match dC (.sl e (.tree a e)) c with
   |some ks=>some (.mk x ks,r)
   |none=>none
  |_=>none
 |.int k,c::r=>match dC (.int k) c with | some x=>some (x,r) | none=>none
 |.bool,c::r=>match dC .bool c with | some x=>some (x,r) | none=>none
 |.str,c::r=>match dC .str c with | some x=>some (x,r) | none=>none
 |.sl e t,c::r=>match dC (.sl e t) c with | some x=>some (x,r) | none=>none
 |_,[]=>none
def fO (t:Ty):V→Option t.den
 |.one c=>match bS t [c] with | some (x,[])=>some x | _=>none
 |.agg cs=>match bS t cs with | some (x,[])=>some x | _=>none
 |_=>none
def qf:(t:Ty)→t.den→List C
 |.int k,n=>[.int k n]
 |.bool,b=>[.bool b]
 |.str,s=>[.str s]
 |.sl e t,xs=>[.lst e t xs 0]
 |.unit,_=>[]
 |.prod a b,x=>qf a x.1++qf b x.2
 |.tree a e,x=>qf a x.lab++[.lst e (.tree a e) x.kids 0]
def Ty.flat:Ty→List Ty
 |.unit=>[]
 |.prod a b=>a.flat++b.flat
 |.tree a e=>a.flat++[.sl e (.tree a e)]
 |t=>[t]
def s0 (id:Nat):Option Ty→C→C
 |some (.sl e t),.nils=>.lst e t [] id
 |_,c=>c
def mh (id:Nat):List Ty→List C→List C
 |t::ts,c::cs=>s0 id (some t) c::mh (id+2) ts cs
 |_,cs=>cs
def mg (tt:TT)(id t:Nat):V→V
 |.one c=>.one (s0 id (tt.at t).ty c)
 |v=>v
def cV (kb d:Nat):Nat:=(kb+d)*2+1
def cn (key off:Nat):Nat:=(key*256+off)*2+2
def pS (a b:Int):Int:=if b<a then b else a
def cp (a b:Int):Int:=if b > a then b else a
def ey (k:IntKind)(x y:Int):Int:=k.wrap (BitVec.ofInt k.bits x &&& BitVec.ofInt k.bits y).toNat
def nh (k:IntKind)(x y:Int):Int:=k.wrap (BitVec.ofInt k.bits x ||| BitVec.ofInt k.bits y).toNat
def cq (k:IntKind)(x y:Int):Int:=k.wrap (BitVec.ofInt k.bits x ^^^ BitVec.ofInt k.bits y).toNat
def Da (k:IntKind)(x y:Int):Int:=k.wrap (BitVec.ofInt k.bits x &&& ~~~BitVec.ofInt k.bits y).toNat
def fQ (k:IntKind)(x y:Int):Int:=k.wrap (x*2 ^ (min y.toNat k.bits))
def fR (k:IntKind)(x y:Int):Int:=k.wrap (x.fdiv (2 ^ (min y.toNat k.bits)))
def vq (k:IntKind)(n:Int):Int:=k.wrap (BitVec.ofInt k.bits (if k.signed then -1 else k.max) ^^^ BitVec.ofInt k.bits n).toNat
def K4 (op:BinOp)(k:IntKind)(x y:Int):Option (Bool×C):=
 match op with
 |.add=>some (true,.int k (k.wrap (x+y)))
 |.sub=>some (true,.int k (k.wrap (x - y)))
 |.mul=>some (true,.int k (k.wrap (x*y)))
 |.quo=>some (decide (y≠0),.int k (k.wrap (x.tdiv y)))
 |.rem=>some (decide (y≠0),.int k (k.wrap (x.tmod y)))
 |.and=>some (true,.int k (ey k x y))
 |.or=>some (true,.int k (nh k x y))
 |.xor=>some (true,.int k (cq k x y))
 |.andNot=>some (true,.int k (Da k x y))
 |.eql=>some (true,.bool (x == y))
 |.neq=>some (true,.bool (x != y))
 |.lss=>some (true,.bool (decide (x<y)))
 |.leq=>some (true,.bool (decide (x≤y)))
 |.gtr=>some (true,.bool (decide (x > y)))
 |.geq=>some (true,.bool (decide (x ≥ y)))
 |_=>none
def Qt (op:BinOp)(k:IntKind)(x y:Int):Option (Bool×C):=
 match op with
 |.shl=>some (decide (0≤y),.int k (fQ k x y))
 |.shr=>some (decide (0≤y),.int k (fR k x y))
 |_=>none
def Og:BinOp→Bool
 |.shl=>true
 |.shr=>true
 |_=>false
def neg (op:BinOp)(b:Bool):Option (Bool×C):=
 match op with
 |.eql=>some (true,.bool b)
 |.neq=>some (true,.bool (!b))
 |_=>none
def DZ (tt:TT)(op:BinOp)(xT:Nat):C→C→Option (Bool×C)
 |.int k x,.int k' y=>bif Og op then Qt op k x y else bif decide (k=k') then K4 op k x y else none
 |.str x,.str y=>match op with
  |.add=>some (decide (x.length+y.length≤4294967296),.str (x++y))
  |op=>neg op (decide (x=y))
 |.bool x,.bool y=>match (tt.at xT).d with
  |.bool=>neg op (x == y)
  |_=>none
 |.nilfn,.nilfn=>none
 |_,_=>none
def Nj (op:UnOp):C→Option C
 |.int k n=>match op with
  |.neg=>some (.int k (k.wrap (0 - n)))
  |.xor=>some (.int k (vq k n))
  |_=>none
 |.bool b=>match op with
  |.not=>some (.bool (!b))
  |_=>none
 |_=>none
def J9 (tt:TT)(src dst:Nat):C→Option C
 |.int _ n=>match (tt.at src).d,(tt.at dst).d with
  |.int _,.int k=>some (.int k (k.wrap n))
  |_,_=>none
 |.str s=>match (tt.at src).d,(tt.at dst).d with
  |.str,.str=>some (.str s)
  |_,_=>none
 |.lst _ t xs _=>match (tt.at src).d,(tt.at dst).d,t,xs with
  |.sl e,.str,.int .u8,xs=>match (tt.at e).d with | .int .u8=>some (.str xs) | _=>none
  |_,_,_,_=>none
 |_=>none
def C.isItr:C→Bool
 |.itr _=>true
 |_=>false
def eZ (s:LI)(p:Int):Int×Int:=match p with
 |.ofNat n=>(((Utf8.decode (aF s) n).1:Int),((Utf8.decode (aF s) n).2:Int))
 |.negSucc _=>(65533,1)
theorem la (s:LI)(n:Nat):eZ s (n:Int)=(((Utf8.decode (aF s) n).1:Int),((Utf8.decode (aF s) n).2:Int)):=rfl
def v8 (tt:TT)(t:Nat):Option Nat:=match (tt.at t).d with
 |.oth=>none
 |.arr _ _=>none
 |_=>some (tt.at t).size
def fM (tt:TT)(t n:Nat):Bool:=match v8 tt t with
 |some m=>(n == m)&&!(n == 0)
 |none=>false
def sG (tt:TT)(s f:Nat):Option (Nat×Nat×Nat):=match (tt.at s).d with
 |.st fs=>match fs[f]? with
  |some (off,t)=>match v8 tt t with
   |some sz=>some (off,t,sz)
   |none=>none
  |none=>none
 |_=>none
def Il:Ds→Bool
 |.st _=>true
 |_=>false
def Eh:Ds→Bool
 |.st _=>true
 |.arr _ _=>true
 |_=>false
def iG (tt:TT)(t:Nat)(cs:List C):Option V:=
 match (tt.at t).d with
 |.oth=>none
 |.arr _ _=>none
 |.st _=>some (.agg cs)
 |_=>match cs with
  |[c]=>some (.one c)
  |_=>none
@[irreducible] def NA (b:Bool):Bool:=b
theorem NB (b:Bool):NA b=b:=by unfold NA;rfl
def PQ:V→V→Ds→Option Bool
 |.one (.int k x),.one (.int k' y),.int _=>bif decide (k=k') then some (x == y) else none
 |.one (.bool x),.one (.bool y),.bool=>some (x == y)
 |.one (.str x),.one (.str y),.str=>some (decide (x=y))
 |_,_,_=>none
def Kz (tt:TT)(cs ds:List C):List (Nat×Nat)→Option Bool
 |[]=>some true
 |(off,t)::fs=>match iG tt t ((cs.drop off).take (tt.at t).size),iG tt t ((ds.drop off).take (tt.at t).size),Kz tt cs ds fs with
  |some u,some v,some r=>bif decide (off+(tt.at t).size≤cs.length)&&decide (off+(tt.at t).size≤ds.length) then (match PQ u v (tt.at t).d with
   |some b=>some (b&&r)
   |none=>none) else none
  |_,_,_=>none
def HU (p:Bool×C):Bool×V:=(p.1,.one p.2)
def D0 (tt:TT)(op:BinOp)(xT:Nat):V→V→Option (Bool×V)
 |.one a,.one b=>(DZ tt op xT a b).map HU
 |.agg cs,.agg ds=>match (tt.at xT).d with
  |.st fs=>bif NA (tt.at xT).eqb then (match Kz tt cs ds fs with
   |some b=>(neg op b).map HU
   |none=>none) else none
  |_=>none
 |_,_=>none
def Ty.fields:Ty→Nat
 |.prod _ b=>b.fields+1
 |.tree a _=>a.fields+1
 |_=>0
def Ty.sub:(t:Ty)→t.den→Nat→Option (Σ t':Ty,t'.den)
 |.prod a _,x,0=>some ⟨a,x.1⟩
 |.prod _ b,x,f+1=>Ty.sub b x.2 f
 |.tree a e,x,f=>bif Nat.beq f a.fields then some ⟨.sl e (.tree a e),x.kids⟩ else Ty.sub a x.lab f
 |_,_,_=>none
def Ty.offs:Ty→Nat→Nat
 |.prod _ _,0=>0
 |.prod a b,f+1=>a.size+Ty.offs b f
 |.tree a _,f=>bif Nat.beq f a.fields then a.size else Ty.offs a f
 |_,_=>0
def Eg:V→Option (IntKind×Int)
 |.one (.int k n)=>some (k,n)
 |_=>none
def gv (A:AS)(dflt:Int):Option Operand→Option Int
 |none=>some dflt
 |some x=>(Eg (opd A x)).map (·.2)
def cut {α:Type}(xs:List α)(lo hi:Int):List α:=(xs.take hi.toNat).drop lo.toNat
def J6 (A:AS):Operand→Option Cp
 |.tmp t=>match A.get t with
  |.one (.ptr k o)=>some (.ptr k o)
  |.one (.int k n)=>some (.dat (.int k) n)
  |.one (.bool b)=>some (.dat .bool b)
  |.one (.str s)=>some (.dat .str s)
  |.one (.lst e t xs _)=>some (.dat (.sl e t) xs)
  |_=>none
 |_=>none
def qr (A:AS):List Operand→Option (List Cp)
 |[]=>some []
 |x::xs=>match J6 A x,qr A xs with
  |some c,some cs=>some (c::cs)
  |_,_=>none
def Cp.toV:Cp→V
 |.ptr k o=>.one (.ptr k o)
 |.dat t x=>match qf t x with
  |[c]=>.one c
  |_=>.any
def splice {α:Type}(cs:List α)(off:Nat)(new:List α):List α:=cs.take off++new++cs.drop (off+new.length)
def V.cells:V→List C
 |.one c=>[c]
 |.agg cs=>cs
 |_=>[]
def V.solid:V→Bool
 |.one _=>true
 |.agg _=>true
 |_=>false
def V.isAgg:V→Bool
 |.agg _=>true
 |_=>false
def o7 (tt:TT)(A:AS)(fs:List (Nat×Nat)):List (Nat×Operand)→List C→Option (List C)
 |[],cs=>some cs
 |(i,x)::ps,cs=>match fs[i]? with
  |none=>none
  |some (off,t)=>bif (opd A x).solid&&(fM tt t (opd A x).cells.length&&decide (off+(opd A x).cells.length≤cs.length)) then
    o7 tt A fs ps (splice cs off (opd A x).cells) else none
def iT (tt:TT)(id t:Nat):List C:=match (tt.at t).ty with
 |some ty=>mh id ty.flat ((tt.at t).zero.map nI)
 |none=>(tt.at t).zero.map nI
def PB (tt:TT)(id:Nat)(A:AS)(ty:Nat):Op→Option (Bool×V)
 |.move x=>some (true,mg tt id ty (opd A x))
 |.assign x=>some (true,mg tt id ty (opd A x))
 |.nilCheck x=>match opd A x with
  |.one (.ptr k o)=>some (true,.one (.ptr k o))
  |.one (.ro t d)=>some (true,.one (.ro t d))
  |.one (.fn f m c)=>some (true,.one (.fn f m c))
  |_=>none
 |.binOp op xT x y _=>D0 tt op xT (opd A x) (opd A y)
 |.unOp op _ x=>match opd A x with
  |.one c=>(Nj op c).map fun c=>(true,.one c)
  |_=>none
 |.convert src dst x=>match opd A x with
  |.one c=>(J9 tt src dst c).map fun c=>(true,.one c)
  |_=>none
 |.fieldAddr s x f=>match sG tt s f,opd A x with
  |some (off,_,sz),.one (.ptr k o)=>bif sz == 0 then none else some (true,.one (.ptr k (o+off)))
  |some (off,_,sz),.one (.ro t d)=>match t.sub d f with
   |some ⟨t',d'⟩=>bif (sz == 0) || !(t'.size == sz) || !(t.offs f == off) then none else some (true,.one (.ro t' d'))
   |none=>none
  |_,_=>none
 |.field s x f=>match sG tt s f,opd A x with
  |some (off,t,sz),.agg cs=>(iG tt t ((cs.drop off).take sz)).map fun v=>(decide (off+sz≤cs.length),v)
  |_,_=>none
 |.indexAddr t x i=>match (tt.at t).d,opd A x,Eg (opd A i) with
  |.sl e,.one (.lst e' t' xs _),some (_,i)=>bif (e == e')&&fM tt e t'.size then
    some (decide (0≤i)&&decide (i<xs.length),.one (.ro t' (xs.getD i.toNat t'.zero))) else none
  |.sl e,.one (.pin _ (.sl _ t') xs),some (_,i)=>bif fM tt e t'.size then
    some (decide (0≤i)&&decide (i<List.length xs),.one (.ro t' (List.getD xs i.toNat t'.zero))) else none
  |.sl e,.one (.ex e' t' lo xs a b),some (_,i)=>bif (e == e')&&fM tt e t'.size then
    some (decide ((lo:Int)≤i)&&decide (i<(lo:Int)+(xs.length:Int)),.one (.eel t' i.toNat (xs.getD (i.toNat - lo) t'.zero) a b)) else none
  |.arr n e,_,some (_,i)=>match x with
   |.global g=>bif Pm g&&(Nat.beq n rf.length&&(Nat.ble 2 n&&fM tt e 1)) then some (decide (0≤i)&&decide (i<(n:Int)),.one (.ro (.int .u32) (eY i))) else none
   |_=>none
  |_,_,_=>none
 |.index t x i=>match (tt.at t).d,opd A x,Eg (opd A i) with
  |.str,.one (.str s),some (_,i)=>some (decide (0≤i)&&decide (i<s.length),.one (.int .u8 (s.getD i.toNat 0)))
  |_,_,_=>none
 |.slice t x lo hi mx=>match opd A x with
  |.one (.lst e t' xs _)=>match (tt.at t).d,gv A 0 lo,gv A xs.length hi,mx with
   |.sl e',some l,some h,none=>bif (e == e')&&fM tt e t'.size then
     some (decide (0≤l)&&(decide (l≤h)&&decide (h≤xs.length)),.one (.lst e t' (cut xs l h) 0)) else none
   |.sl e',some l,some h,some m=>match hi,Eg (opd A m) with
    |some _,some (_,n)=>bif (e == e')&&fM tt e t'.size then
     some (decide (0≤l)&&(decide (l≤h)&&(decide (h≤n)&&decide (n≤xs.length))),.one (.lst e t' (cut xs l h) 0)) else none
    |_,_=>none
   |_,_,_,_=>none
  |.one (.ex e t' l0 xs a b)=>match (tt.at t).d,lo,gv A xs.length hi,mx with
   |.sl e',none,some h,none=>bif (e == e')&&(fM tt e t'.size&&Nat.beq l0 0) then
     some (decide (0≤h)&&decide (h≤(xs.length:Int)),.one (.ex e t' 0 (xs.take h.toNat) a b)) else none
   |_,_,_,_=>none
  |.one (.str s)=>match (tt.at t).d,gv A 0 lo,gv A s.length hi,mx with
   |.str,some l,some h,none=>some (decide (0≤l)&&(decide (l≤h)&&decide (h≤s.length)),.one (.str (cut s l h)))
   |_,_,_,_=>none
  |_=>none
 |.load t x=>match opd A x with
  |.one (.ptr k o)=>match A.ob[k]? with
   |some (some cs)=>bif cs.any C.isItr then none else (iG tt t ((cs.drop o).take (tt.at t).size)).map fun v=>(decide (o+(tt.at t).size≤cs.length),v)
   |_=>none
  |.one (.ro t' d)=>bif t'.size == (tt.at t).size then (iG tt t (qf t' d)).map fun v=>(true,v) else none
  |_=>none
 |.extract x i=>match opd A x with
  |.tup ps=>match ps[i]? with
   |some (true,cs)=>some (true,.agg cs)
   |some (false,[c])=>some (true,.one c)
   |_=>none
  |_=>none
 |.build t parts=>match (tt.at t).d with
  |.st fs=>bif fs.all (fun f=>(v8 tt f.2).isSome)&&(tt.at t).zero.all Value.oneCell' then
    (o7 tt A fs parts.toList (iT tt id t)).map fun cs=>(true,.agg cs) else none
  |_=>none
 |.makeFunc fn first captured=>match fn,first.toList with
  |.func f,[]=>match qr A captured.toList with
   |some cs=>some (true,.one (.fn f false cs))
   |none=>none
  |.func f,x::xs=>match captured.toList with
   |[]=>match qr A (x::xs) with
    |some cs=>some (true,.one (.fn f true cs))
    |none=>none
   |_=>none
  |_,_=>none
 |.makeInterface t x=>match (tt.at t).d,(tt.at t).ty,opd A x with
  |.ifc,_,_=>none
  |.oth,_,_=>none
  |.arr _ _,_,_=>none
  |d,some ty,v=>bif (Il d == v.isAgg)&&(!ty.isProd || v.isAgg) then (fO ty v).map fun x=>(true,.one (.ifc t ty x)) else none
  |_,_,_=>none
 |.typeAssert x _ a true=>match (tt.at a).d,(tt.at a).ty,opd A x with
  |.st _,some ty,.one (.ifc T t d)=>bif (T == a)&&(decide (t=ty)&&ty.isProd) then some (true,.tup [(true,qf t d),(false,[.bool true])])
   else bif !(T == a)&&(tt.at a).zero.all Value.oneCell' then some (true,.tup [(true,iT tt id a),(false,[.bool false])]) else none
  |.st _,some _,.one .nilif=>bif (tt.at a).zero.all Value.oneCell' then some (true,.tup [(true,iT tt id a),(false,[.bool false])]) else none
  |_,_,_=>none
 |.call c=>match c.callee with
  |.builtin .len=>match c.args.toList,c.argTypes.toList with
   |[x],t::_=>match (tt.at t).d,opd A x with
    |.str,.one (.str s)=>some (true,.one (.int .i64 s.length))
    |.sl _,.one (.lst _ _ xs _)=>some (true,.one (.int .i64 xs.length))
    |.sl _,.one .nils=>some (true,.one (.int .i64 0))
    |.sl _,.one (.pin _ (.sl _ _) xs)=>some (true,.one (.int .i64 xs.length))
    |.sl _,.one (.ex _ _ lo xs _ _)=>some (true,.one (.int .i64 ((lo:Int)+(xs.length:Int))))
    |_,_=>none
   |_,_=>none
  |.builtin .min=>match c.args.toList with
   |[x,y]=>match opd A x,opd A y with
    |.one (.int k a),.one (.int k' b)=>bif decide (k=k') then some (true,.one (.int k (pS a b))) else none
    |_,_=>none
   |_=>none
  |.builtin .max=>match c.args.toList with
   |[x,y]=>match opd A x,opd A y with
    |.one (.int k a),.one (.int k' b)=>bif decide (k=k') then some (true,.one (.int k (cp a b))) else none
    |_,_=>none
   |_=>none
  |_=>none
 |_=>none
def AS.newOb (A:AS)(key:Nat)(cs:List C):AS:=
 let A':=A.map (C.noKey key)
 {A' with ob:=((A'.ob++List.replicate (key+1 - A'.ob.length) none).set key (some cs)) }
def o9 (t:Ty)(A:AS):Nat→List (Nat×Operand)→Option (List t.den)
 |_,[]=>some []
 |n,(i,x)::ps=>bif i == n then match fO t (opd A x),o9 t A (n+1) ps with
  |some d,some ds=>some (d::ds)
  |_,_=>none
  else none
def qp (tt:TT)(e:Nat)(ty:Ty)(t:Nat)(v:V):Option (List ty.den):=
 match (tt.at t).d,v with
 |.sl e',.one c=>bif e' == e then dC (.sl e ty) c else none
 |.str,.one (.str s)=>if h:ty=.int .u8 then some (h▸(s:List (Ty.den (.int .u8)))) else none
 |_,_=>none
def Dk {α:Type}(lo k:Nat)(xs:List α)(y:α):List α:=bif Nat.ble lo k then xs.set (k - lo) y else xs
def C.updEx (i:Nat)(t:Ty)(k:Nat)(y:t.den):C→C
 |.lst e t' xs own=>.lst e t' xs (bif own == i then 0 else own)
 |.ex e t' lo xs a b=>bif !(a == i)&&!(b == i) then .ex e t' lo xs a b else bif (a == i)&&(b == i) then
   (if h:t=t' then .ex e t' lo (Dk lo k xs (h▸y)) a b else .top) else .top
 |.eel t' k' x a b=>bif !(a == i)&&!(b == i) then .eel t' k' x a b else .top
 |c=>c
def C.ends (i:Nat):C→List Nat
 |.ex _ t lo xs a b=>bif (a == i) || (b == i) then [(lo+xs.length)*t.size] else []
 |.eel t k _ a b=>bif (a == i) || (b == i) then [(k+1)*t.size] else []
 |_=>[]
def t7 (f:C→List Nat):List C→List Nat
 |[]=>[]
 |c::cs=>f c++t7 f cs
def Er (f:C→List Nat):List (Bool×List C)→List Nat
 |[]=>[]
 |p::ps=>t7 f p.2++Er f ps
def V.coll (f:C→List Nat):V→List Nat
 |.one c=>f c
 |.agg cs=>t7 f cs
 |.tup ps=>Er f ps
 |.any=>[]
def AO (f:C→List Nat):List V→List Nat
 |[]=>[]
 |v::vs=>v.coll f++AO f vs
def E5 (f:C→List Nat):List (List V)→List Nat
 |[]=>[]
 |v::vs=>AO f v++E5 f vs
def uP (f:C→List Nat):List (Option (List C))→List Nat
 |[]=>[]
 |some cs::os=>t7 f cs++uP f os
 |none::os=>uP f os
def AS.coll (f:C→List Nat)(A:AS):List Nat:=AO f A.tm++(E5 f A.stk++uP f A.ob)
def AS.ends (A:AS)(i:Nat):List Nat:=A.coll (C.ends i)
def oZ (n:Nat):List Nat→Bool
 |[]=>true
 |m::ms=>decide (m≤n)&&oZ n ms
def Nq (tt:TT)(kb:Nat)(A:AS)(dst:Option Nat):Op→Option (Bool×AS)
 |.alloc t=>match dst with
  |some d=>bif (v8 tt t).isSome&&(tt.at t).zero.all Value.oneCell' then
    some (true,(A.newOb (kb+d) (iT tt (cn (kb+d) 0) t)).put (some d) (.one (.ptr (kb+d) 0))) else none
  |none=>none
 |.box _ x=>match dst with
  |some d=>bif (opd A x).solid then some (true,(A.newOb (kb+d) (((opd A x).map (C.noKey (kb+d))).cells)).put (some d) (.one (.ptr (kb+d) 0))) else none
  |none=>none
 |.store t a x=>match opd A a with
  |.one (.ptr k o)=>match A.ob[k]? with
   |some (some cs)=>bif !cs.any C.isItr&&((opd A x).solid&&fM tt t (opd A x).cells.length) then
     some (decide (o+(opd A x).cells.length≤cs.length),({ A with ob:=A.ob.set k (some (splice cs o (mg tt (cn k o) t (opd A x)).cells)) }:AS).put dst (.tup [])) else none
   |_=>none
  |.one (.eel t' k _ i j)=>bif Nat.beq i j&&fM tt t t'.size then
    match fO t' (opd A x) with
    |some y=>some (true,(A.map (C.updEx i t' k y)).put dst (.tup []))
    |none=>none
   else none
  |_=>none
 |.load t x=>match opd A x with
  |.one (.eel t' _ d _ _)=>bif t'.size == (tt.at t).size then (iG tt t (qf t' d)).map fun v=>(true,A.put dst v) else none
  |_=>none
 |.range t x=>match dst,(tt.at t).d,opd A x with
  |some d,.str,.one (.str s)=>some (true,(A.newOb (kb+d) [.itr (s,0)]).put (some d) (.one (.ptr (kb+d) 0)))
  |_,_,_=>none
 |.buildSlice t n parts=>match dst,(tt.at t).d with
  |some d,.sl e=>match (tt.at e).ty with
   |some ty=>bif fM tt e ty.size&&(parts.toList.length == n)&&decide (n*ty.size≤65536) then
     match o9 ty A 0 parts.toList with
     |some xs=>some (true,(A.map (C.noOwn (cV kb d))).put (some d) (.one (.lst e ty xs (cV kb d))))
     |none=>none
    else none
   |none=>none
  |_,_=>none
 |.convert st dt x=>match dst,(tt.at dt).d,opd A x with
  |some d,.sl e,.one (.str s)=>match (tt.at e).d,(tt.at st).d with
   |.int .u8,.str=>some (true,A.put (some d) (.one (.lst e (.int .u8) s 0)))
   |_,_=>none
  |some d,.sl e,.one (.lst e' ty xs own)=>match (tt.at e).d with
   |.int .u8=>bif Nat.beq st dt&&(Nat.beq e e'&&!(own == 0)) then some (!xs.isEmpty,(A.map (C.noOwn own)).put (some d) (.one (.lst e' ty xs 0))) else none
   |_=>none
  |_,_,_=>none
 |.call c=>match c.callee with
  |.builtin .append=>match dst,c.args.toList,c.argTypes.toList with
   |some d,[s,x],[t,t']=>match (tt.at t).d,opd A s with
    |.sl e,.one (.lst e1 ty xs own)=>bif (e == e1)&&!(own == 0)&&fM tt e ty.size&&decide ((tt.at e).bytes≤4096)&&!((tt.at e).bytes == 0)&&((tt.at e).zero.length == ty.size) then
      match qp tt e ty t' (opd A x) with
      |some ys=>some (decide (xs.length+ys.length≤4294967296),(A.map (C.noOwn own)).put (some d) (.one (.lst e ty (xs++ys) own)))
      |none=>none
     else none
    |.sl e,.one (.ex e1 ty lo xs i j)=>bif (e == e1)&&fM tt e ty.size&&decide ((tt.at e).bytes≤4096)&&!((tt.at e).bytes == 0)&&((tt.at e).zero.length == ty.size) then
      match qp tt e ty t' (opd A x) with
      |some ys=>(fun d':Nat=>bif !(d' == 0)&&!(i == 0) then some (decide (lo+xs.length+ys.length≤4294967296)&&oZ ((lo+xs.length)*ty.size) ((A.map (C.noOwn d')).ends i),
        (A.map (C.noOwn d')).put (some d) (.one (.ex e ty lo (xs++ys) i d'))) else none) (bif Nat.beq i j then cV kb d else j)
      |none=>none
     else none
    |_,_=>none
   |_,_,_=>none
  |_=>none
 |_=>none
def C.force {R:Type}(c:C)(k:C→R):R:=match c with
 |.int a b=>k (.int a b)
 |.bool b=>k (.bool b)
 |.str s=>k (.str s)
 |.lst e t xs own=>k (.lst e t xs own)
 |.nils=>k .nils
 |.ptr a b=>k (.ptr a b)
 |.ro t x=>k (.ro t x)
 |.nilp=>k .nilp
 |.fn f m cs=>k (.fn f m cs)
 |.ifc T t x=>k (.ifc T t x)
 |.nilif=>k .nilif
 |.nilfn=>k .nilfn
 |.top=>k .top
 |.itr x=>k (.itr x)
 |.pin v t x=>k (.pin v t x)
 |.ex e t lo xs i j=>k (.ex e t lo xs i j)
 |.eel t n x i j=>k (.eel t n x i j)
theorem C.force_eq {R:Type}(c:C)(k:C→R):c.force k=k c:=by cases c <;> rfl
def pi {R:Type}:List C→(List C→R)→R
 |[],k=>k []
 |c::cs,k=>c.force fun c=>pi cs fun cs=>k (c::cs)
theorem nL {R:Type}:∀(cs:List C) (k:List C→R),pi cs k=k cs
 |[],_=>rfl
 |c::cs,k=>by rw[pi,C.force_eq,nL cs]
def V.force {R:Type}(v:V)(k:V→R):R:=match v with
 |.one c=>c.force fun c=>k (.one c)
 |.agg cs=>pi cs fun cs=>k (.agg cs)
 |.tup ps=>k (.tup ps)
 |.any=>k .any
theorem V.force_eq {R:Type}(v:V)(k:V→R):v.force k=k v:=by
 cases v with
 |one c=>simp only[V.force];rw[C.force_eq]
 |agg cs=>simp only[V.force];rw[nL]
 |tup ps=>rfl
 |any=>rfl
def Pg {R:Type}:List V→Nat→V→(List V→R)→R
 |[],_,_,k=>k []
 |_::xs,0,v,k=>k (v::xs)
 |x::xs,d+1,v,k=>Pg xs d v fun xs=>k (x::xs)
theorem HH {R:Type}:∀(l:List V) (d:Nat) (v:V) (k:List V→R),Pg l d v k=k (l.set d v)
 |[],_,_,_=>rfl
 |_::_,0,_,_=>rfl
 |x::xs,d+1,v,k=>by rw[Pg,HH xs d v];rfl
def AS.putK {R:Type}(A:AS)(dst:Option Nat)(v:V)(k:AS→R):R:=match dst with
 |none=>k A
 |some d=>v.force fun v=>match A with
  |⟨tm,stk,ob⟩=>Pg tm d v fun tm=>k ⟨tm,stk,ob⟩
theorem AS.putK_eq {R:Type}(A:AS)(dst:Option Nat)(v:V)(k:AS→R):A.putK dst v k=k (A.put dst v):=by
 cases dst with
 |none=>rfl
 |some d=>rw[AS.putK,V.force_eq];cases A;simp only[HH];rfl
def pj {R:Type}:List V→(List V→R)→R
 |[],k=>k []
 |v::vs,k=>v.force fun v=>pj vs fun vs=>k (v::vs)
theorem nN {R:Type}:∀(vs:List V) (k:List V→R),pj vs k=k vs
 |[],_=>rfl
 |v::vs,k=>by rw[pj,V.force_eq,nN vs]
def pl {R:Type}:List (List V)→(List (List V)→R)→R
 |[],k=>k []
 |v::vs,k=>pj v fun v=>pl vs fun vs=>k (v::vs)
theorem rE {R:Type}:∀(vs:List (List V)) (k:List (List V)→R),pl vs k=k vs
 |[],_=>rfl
 |v::vs,k=>by rw[pl,nN,rE vs]
def mK {R:Type}:List (Option (List C))→(List (Option (List C))→R)→R
 |[],k=>k []
 |none::os,k=>mK os fun os=>k (none::os)
 |some cs::os,k=>pi cs fun cs=>mK os fun os=>k (some cs::os)
theorem nM {R:Type}:∀(os:List (Option (List C))) (k:List (Option (List C))→R),mK os k=k os
 |[],_=>rfl
 |none::os,k=>by rw[mK,nM os]
 |some cs::os,k=>by rw[mK,nL,nM os]
def AS.force {R:Type}(A:AS)(k:AS→R):R:=match A with
 |⟨tm,stk,ob⟩=>pj tm fun tm=>pl stk fun stk=>mK ob fun ob=>k ⟨tm,stk,ob⟩
theorem AS.force_eq {R:Type}(A:AS)(k:AS→R):A.force k=k A:=by
 cases A;simp only[AS.force];rw[nN,rE,nM]
inductive Ex where
 |normal | exit (id:Nat) | ret | panic (v:V)
inductive Oc where
 |ret (v:V) (ks:Option (List Nat)) | pan (v:V)
abbrev Hd:=(R:Type)→(f:Nat)→(args:List V)→(id:Nat)→AS→(Oc→AS→Option R)→Option R
def N9 (A:AS)(hid:List Nat)(kb:Nat)(o:Oper):Bool:=match hid with
 |[]=>true
 |k::hid=>!(k::hid).any (· == kb+o.dst.getD 0)&&match o.op with
  |.store _ a _=>match opd A a with
   |.one (.ptr j _)=>!(k::hid).any (· == j)
   |_=>false
  |_=>true
def Oa (hid:List Nat)(ks:Option (List Nat)):Bool:=match hid with
 |[]=>true
 |k::hid=>match ks with
  |some ks=>!(k::hid).any fun k=>ks.any (· == k)
  |none=>false
def zd (tt:TT)(hd:Hd)(kb:Nat)(hid:List Nat){R:Type}(o:Oper)(A:AS)(K:Ex→AS→Option R):Option R:=
 match o.op with
 |.pick c a b=>match opd A c with
  |.one (.bool x)=>bif x then A.putK o.dst (opd A a) (K .normal) else A.putK o.dst (opd A b) (K .normal)
  |_=>none
 |.panic x=>match opd A x with
  |.one (.ifc T t d)=>K (.panic (.one (.ifc T t d))) A
  |_=>none
 |.next it str=>match hid,str,opd A it with
  |[],true,.one (.ptr k 0)=>match A.ob[k]? with
   |some (some [.itr x])=>bif decide (x.2<(x.1.length:Int)) then
     AS.putK { A with ob:=A.ob.set k (some [.itr (x.1,x.2+(eZ x.1 x.2).2)]) } o.dst (.tup [(false,[.bool true]),(false,[.int .i64 x.2]),(false,[.int .i32 (eZ x.1 x.2).1])]) (K .normal)
     else A.putK o.dst (.tup [(false,[.bool false])]) (K .normal)
   |_=>none
  |_,_,_=>none
 |op=>match PB tt (cV kb (o.dst.getD 0)) A o.type op with
  |some (chk,v)=>bif chk then A.putK o.dst v (K .normal) else none
  |none=>match Nq tt kb A o.dst op with
   |some (chk,A')=>bif N9 A hid kb o&&chk then A'.force (K .normal) else none
   |none=>match op with
    |.call c=>match c.callee with
     |.value f=>match opd A f with
      |.one (.fn g m caps)=>hd R g (bif m then caps.map Cp.toV++c.args.toList.map (opd A) else c.args.toList.map (opd A)++caps.map Cp.toV) (cV kb (o.dst.getD 0)) A fun oc A'=>match oc with
       |.ret v ks=>bif Oa hid ks then A'.putK o.dst v (K .normal) else none
       |.pan v=>K (.panic v) A'
      |_=>none
     |_=>none
    |_=>none
def gD (ops:Array Oper){R:Type}(o:Oper)(A:AS)(f K:AS→Option R):Option R:=
 match o.guard with
 |none=>f A
 |some (j,want)=>match (ops[j]?).bind (·.dst) with
  |none=>none
  |some d=>match A.get d with
   |.tup []=>A.putK o.dst (.tup []) K
   |.one (.bool x)=>bif x
    then (bif want
     then A.putK (some d) (.one (.bool true)) f
     else A.putK (some d) (.one (.bool true)) fun A=>A.putK o.dst (.tup []) K)
    else (bif want
     then A.putK (some d) (.one (.bool false)) fun A=>A.putK o.dst (.tup []) K
     else A.putK (some d) (.one (.bool false)) f)
   |_=>none
def lN (tt:TT)(hd:Hd)(kb:Nat)(ops:Array Oper){R:Type}:List Nat→AS→(Ex→AS→Option R)→Option R
 |[],A,K=>K .normal A
 |i::is,A,K=>match ops[i]? with
  |none=>none
  |some o=>gD ops o A (fun A=>zd tt hd kb [] o A fun ex A'=>match ex with
    |.normal=>lN tt hd kb ops is A' K
    |ex=>K ex A') fun A=>lN tt hd kb ops is A K
def Ea (tt:TT)(src:Nat):Bool:=match (tt.at src).d with
 |.int _=>false
 |_=>true
def uy (tt:TT):Op→Bool
 |.load ..=>true
 |.convert src _ _=>Ea tt src
 |_=>false
def sK (A:AS):Op→List Nat
 |.load _ x=>match opd A x with
  |.one (.ptr k _)=>[k]
  |_=>[]
 |_=>[]
def gB (ops:Array Oper):Nat:=ops.toList.foldl (fun m o=>match o.dst with | some d=>m ||| 2 ^ d | none=>m) 0
def rI (m:Nat):Nat→List V→List V
 |_,[]=>[]
 |i,v::vs=>(bif m.testBit i then .any else v)::rI m (i+1) vs
def ui (ops:Array Oper):List (Nat×Nat)→List Nat
 |[]=>[]
 |(i,m)::is=>bif Nat.beq m 4 then (match (ops[i]?).bind (·.dst) with | some d=>d::ui ops is | none=>ui ops is) else ui ops is
def DW (tt:TT)(ops:Array Oper):List (Nat×Nat)→Bool
 |[]=>true
 |(i,m)::is=>(bif Nat.beq m 4 then (match ops[i]? with | some o=>(match o.op with | .alloc t=>(v8 tt t).isSome&&(tt.at t).zero.all Value.oneCell' | _=>false) | none=>false) else true)&&DW tt ops is
def AS.forgetO (A:AS)(k:Nat):AS:=
 let A':=A.map (C.noKey k)
 {A' with ob:=A'.ob.set k none }
def jz (kb:Nat):List Nat→AS→AS
 |[],A=>A
 |d::ds,A=>jz kb ds ((A.forgetO (kb+d)).put (some d) .any)
def V.hasKey (k:Nat):V→Bool
 |.one c=>c.hasKey k
 |.agg cs=>cs.any (·.hasKey k)
 |.tup ps=>ps.any fun p=>p.2.any (·.hasKey k)
 |.any=>false
def AS.uses (A:AS)(k:Nat):Bool:=
 A.tm.any (·.hasKey k) || A.stk.any (·.any (·.hasKey k)) || A.ob.any fun o=>match o with | some cs=>cs.any (·.hasKey k) | none=>false
def V.isAny:V→Bool
 |.any=>true
 |_=>false
def kJ (kb:Nat)(A:AS)(d:Nat):Bool:=
 !A.uses (kb+d)&&((match A.tm[d]? with | some v=>v.isAny | none=>true)&&(match A.ob[kb+d]? with | some (some _)=>false | _=>true))
def vN (tt:TT)(hd:Hd)(kb:Nat)(ops:Array Oper){R:Type}:List (Nat×Nat)→List Nat→AS→(Ex→AS→Option R)→Option R
 |[],_,A,K=>K .normal A
 |(i,m)::is,hid,A,K=>match ops[i]? with
  |none=>none
  |some o=>match m with
   |0=>gD ops o A (fun A=>match PB tt (cV kb (o.dst.getD 0)) A o.type o.op with
     |some (chk,v)=>bif chk then A.putK o.dst v fun A=>vN tt hd kb ops is hid A K else none
     |none=>none) fun A=>vN tt hd kb ops is hid A K
   |1=>gD ops o A (fun A=>match PB tt (cV kb (o.dst.getD 0)) A o.type o.op with
     |some (chk,v)=>bif chk then A.putK o.dst v fun A'=>vN tt hd kb ops is (sK A o.op++hid) A' K else none
     |none=>none) fun A=>vN tt hd kb ops is hid A K
   |2=>gD ops o A (fun A=>zd tt hd kb hid o A fun ex A'=>match ex with
     |.normal=>vN tt hd kb ops is hid A' K
     |.panic v=>K (.panic v) { A' with tm:=rI (gB ops) 0 A'.tm }
     |ex=>K ex A') fun A=>vN tt hd kb ops is hid A K
   |n+3=>bif Nat.beq n 1 then
     (jz kb (ui ops ((i,4)::is)) A).force fun A=>bif (DW tt ops ((i,4)::is)&&(ui ops ((i,4)::is)).all (kJ kb A))&&!(hid.any fun k=>(ui ops ((i,4)::is)).any fun d=>k == kb+d) then
      (match Nq tt kb A o.dst o.op with
       |some (chk,A')=>bif chk then A'.force fun A'=>vN tt hd kb ops is hid A' K else none
       |none=>none)
      else none
    else bif Nat.beq n 3 then
     (jz kb (ui ops is) A).force fun A=>bif (DW tt ops is&&(ui ops is).all (kJ kb A))&&!(hid.any fun k=>(ui ops is).any fun d=>k == kb+d) then
      gD ops o A (fun A=>zd tt hd kb ((ui ops is).map (kb + ·)++hid) o A fun ex A'=>match ex with
       |.normal=>vN tt hd kb ops is hid A' K
       |.panic v=>K (.panic v) { A' with tm:=rI (gB ops) 0 A'.tm }
       |ex=>K ex A') fun A=>vN tt hd kb ops is hid A K
      else none
    else gD ops o A (fun A=>zd tt hd kb [] o A fun ex A'=>match ex with
     |.normal=>vN tt hd kb ops is hid A' K
     |.panic v=>K (.panic v) { A' with tm:=rI (gB ops) 0 A'.tm }
     |ex=>K ex A') fun A=>vN tt hd kb ops is hid A K
def P5 (x:Bool):V→V→V
 |.one (.bool a),.one (.bool b)=>.one (.bool (bif x then a else b))
 |.one (.int k a),.one (.int k' b)=>bif decide (k=k') then .one (.int k (bif x then a else b)) else .any
 |_,_=>.any
def j1 (m lv:Nat)(x:Bool):Nat→List V→List V→List V→List V
 |i,v::vs,v1::vs1,v2::vs2=>(bif m.testBit i then (bif lv.testBit i then P5 x v1 v2 else .any) else v)::j1 m lv x (i+1) vs vs1 vs2
 |_,vs,_,_=>vs.map fun _=>.any
def mf (m:Nat)(A:AS)(dst:Option Nat)(v:V):Option AS:=match dst with
 |none=>some A
 |some d=>bif m.testBit d then some (A.put (some d) v) else none
def Rn:List (Nat×Bool)→Nat→Option Bool
 |[],_=>none
 |p::ps,d=>bif Nat.beq p.1 d then some p.2 else Rn ps d
def RI (kn:List (Nat×Bool)):Operand→Option Bool
 |.tmp d=>Rn kn d
 |_=>none
def JF (tt:TT)(kb m:Nat)(kn:List (Nat×Bool))(o:Oper)(A:AS):Option AS:=match o.op with
 |.pick c a b=>match opd A c with
  |.one (.bool x)=>match RI kn c with
   |some y=>bif x == y then mf m A o.dst (bif y then opd A a else opd A b) else none
   |none=>mf m A o.dst (P5 x (opd A a) (opd A b))
  |_=>none
 |op=>match PB tt (cV kb (o.dst.getD 0)) A o.type op with
  |some (chk,v)=>bif chk then mf m A o.dst v else none
  |none=>none
def AW (tt:TT)(kb:Nat)(ops:Array Oper)(m lv:Nat):List Nat→List (Nat×Bool)→AS→Option AS
 |[],_,A=>some A
 |i::is,kn,A=>match ops[i]? with
  |none=>none
  |some o=>match o.guard with
   |none=>match JF tt kb m kn o A with
    |some A1=>AW tt kb ops m lv is kn A1
    |none=>none
   |some (j,want)=>match (ops[j]?).bind (·.dst) with
    |none=>none
    |some d=>match A.get d with
     |.tup []=>match mf m A o.dst (.tup []) with
      |some A1=>AW tt kb ops m lv is kn A1
      |none=>none
     |.one (.bool x)=>match Rn kn d with
      |some y=>bif x == y then (bif y == want then (match JF tt kb m kn o A with
        |some A1=>AW tt kb ops m lv is kn A1
        |none=>none) else (match mf m A o.dst (.tup []) with
        |some A1=>AW tt kb ops m lv is kn A1
        |none=>none)) else none
      |none=>match mf m A (some d) (.one (.bool want)),mf m A (some d) (.one (.bool (!want))) with
       |some At,some Ae=>match JF tt kb m ((d,want)::kn) o At,mf m Ae o.dst (.tup []) with
        |some At,some Ae=>match AW tt kb ops m lv is ((d,want)::kn) At,AW tt kb ops m lv is ((d,!want)::kn) Ae with
         |some A1,some A2=>some { A with tm:=j1 m lv (bif want then x else !x) 0 A.tm A1.tm A2.tm }
         |_,_=>none
        |_,_=>none
       |_,_=>none
     |_=>none
def nl (m:Nat)(A:AS)(dst:Option Nat)(v:V)(K:AS→Option AS):Option AS:=match dst with
 |none=>K A
 |some d=>bif m.testBit d then A.putK (some d) v K else none
def Na (tt:TT)(kb m:Nat)(kn:List (Nat×Bool))(o:Oper)(A:AS)(K:AS→Option AS):Option AS:=match o.op with
 |.pick c a b=>match opd A c with
  |.one (.bool x)=>match RI kn c with
   |some y=>bif x == y then nl m A o.dst (bif y then opd A a else opd A b) K else none
   |none=>nl m A o.dst (P5 x (opd A a) (opd A b)) K
  |_=>none
 |op=>match PB tt (cV kb (o.dst.getD 0)) A o.type op with
  |some (chk,v)=>bif chk then nl m A o.dst v K else none
  |none=>none
def zc (tt:TT)(kb:Nat)(ops:Array Oper)(m lv:Nat):List Nat→List (Nat×Bool)→AS→Option AS
 |[],_,A=>some A
 |i::is,kn,A=>match ops[i]? with
  |none=>none
  |some o=>match o.guard with
   |none=>Na tt kb m kn o A fun A1=>zc tt kb ops m lv is kn A1
   |some (j,want)=>match (ops[j]?).bind (·.dst) with
    |none=>none
    |some d=>match A.get d with
     |.tup []=>nl m A o.dst (.tup []) fun A1=>zc tt kb ops m lv is kn A1
     |.one (.bool x)=>match Rn kn d with
      |some y=>bif x == y then (bif y == want then (Na tt kb m kn o A fun A1=>zc tt kb ops m lv is kn A1) else nl m A o.dst (.tup []) fun A1=>zc tt kb ops m lv is kn A1) else none
      |none=>match (nl m A (some d) (.one (.bool want)) fun At=>Na tt kb m ((d,want)::kn) o At fun At=>zc tt kb ops m lv is ((d,want)::kn) At),(nl m A (some d) (.one (.bool (!want))) fun Ae=>nl m Ae o.dst (.tup []) fun Ae=>zc tt kb ops m lv is ((d,!want)::kn) Ae) with
       |some A1,some A2=>some { A with tm:=j1 m lv (bif want then x else !x) 0 A.tm A1.tm A2.tm }
       |_,_=>none
     |_=>none
theorem CU (m:Nat)(A:AS)(dst:Option Nat)(v:V)(K:AS→Option AS):nl m A dst v K=match mf m A dst v with | some A'=>K A' | none=>none:=by
 cases dst with
 |none=>rfl
 |some d=>
  simp only[nl,mf,AS.putK_eq]
  cases m.testBit d <;> rfl
theorem Pl (tt:TT)(kb m:Nat)(kn:List (Nat×Bool))(o:Oper)(A:AS)(K:AS→Option AS):Na tt kb m kn o A K=match JF tt kb m kn o A with | some A'=>K A' | none=>none:=by
 unfold Na JF
 simp only[CU]
 split
 ·split
  ·split
   ·rename_i x _ _ y _
    cases x == y <;> rfl
   ·rfl
  ·rfl
 ·split
  ·rename_i chk v _
   cases chk <;> rfl
  ·rfl
theorem Gg (tt:TT)(kb:Nat)(ops:Array Oper)(m lv:Nat):∀(l:List Nat) (kn:List (Nat×Bool)) (A:AS),zc tt kb ops m lv l kn A=AW tt kb ops m lv l kn A
 |[],_,_=>rfl
 |i::is,kn,A=>by
  simp only[zc,AW,CU,Pl,Gg tt kb ops m lv is]
  split
  ·rfl
  ·rename_i o _
   split
   ·rfl
   ·rename_i j want _
    split
    ·rfl
    ·rename_i d _
     split
     ·rfl
     ·rename_i x _
      split
      ·rename_i y _
       cases x == y <;> rfl
      ·cases mf m A (some d) (.one (.bool want)) with
       |none=>rfl
       |some At=>
        cases mf m A (some d) (.one (.bool (!want))) with
        |none=>
         simp only
         cases JF tt kb m ((d,want)::kn) o At with
         |none=>rfl
         |some At'=>
          simp only
          cases AW tt kb ops m lv is ((d,want)::kn) At' <;> rfl
        |some Ae=>
         simp only
         cases JF tt kb m ((d,want)::kn) o At with
         |none=>rfl
         |some At'=>
          simp only
          cases mf m Ae o.dst (.tup []) with
          |none=>
           simp only
           cases AW tt kb ops m lv is ((d,want)::kn) At' <;> rfl
          |some Ae'=>rfl
     ·rfl
def Ph (tt:TT):Op→Bool
 |.move _=>true
 |.assign _=>true
 |.unOp _ _ _=>true
 |.convert _ _ _=>true
 |.field _ _ _=>true
 |.fieldAddr _ _ _=>true
 |.load _ _=>true
 |.extract _ _=>true
 |.pick _ _ _=>true
 |.build _ _=>true
 |.binOp op xT _ _ _=>match op with
  |.quo=>false
  |.rem=>false
  |.shl=>false
  |.shr=>false
  |.add=>(match (tt.at xT).d with | .int _=>true | _=>false)
  |_=>true
 |.call c=>match c.callee with | .builtin .len=>true | _=>false
 |_=>false
def Hf (tt:TT)(ops:Array Oper):Bool:=(ops.toList.any fun o=>o.guard.isSome)&&ops.toList.all fun o=>Ph tt o.op
def J0:Operand→Nat
 |.tmp t=>2 ^ t
 |_=>0
def GB (ops:Array Oper):List Oper→Nat→Nat
 |[],l=>l
 |o::os,l=>
  let l:=GB ops os l
  let l:=match o.dst with | some d=>if l.testBit d then l ^^^ 2 ^ d else l | none=>l
  let l:=o.op.operands.toList.foldl (fun l x=>l ||| J0 x) l
  match o.guard with
  |some (j,_)=>match (ops[j]?).bind (·.dst) with | some d=>l ||| 2 ^ d | none=>l
  |none=>l
def sj (lr:Nat):Code→Nat→List (Nat×Nat)→Nat
 |.region _ ops _,l,_=>GB ops ops.toList l
 |.seq a b,l,x=>sj lr a (sj lr b l x) x
 |.cond c t e,l,x=>J0 c ||| sj lr t l x ||| sj lr e l x
 |.block id b,l,x=>sj lr b l ((id,l)::x)
 |.loop b,_,x=>sj lr b 0 x
 |.exit id,_,x=>match x.find? (·.1 == id) with | some p=>p.2 | none=>0
 |.ret,_,_=>lr
 |.skip,l,_=>l
 |_,l,_=>l
def Ai (m:Nat):Nat→List V→List V
 |_,[]=>[]
 |i,v::vs=>(bif m.testBit i then v else .any)::Ai m (i+1) vs
def AS.drop (A:AS)(k:Nat):AS:=
 let A':=A.map (C.noKey k)
 {A' with ob:=A'.ob.set k none }
def AS.gc (A:AS):List Nat→AS
 |[]=>A
 |k::ks=>match A.ob[k]? with
  |some (some _)=>bif A.uses k then AS.gc A ks else AS.gc (A.drop k) ks
  |_=>AS.gc A ks
def E9 {α:Type}:List (Option α)→List (Option α)
 |[]=>[]
 |none::l=>match E9 l with | []=>[] | l'=>none::l'
 |some x::l=>some x::E9 l
def bv:List Nat→Bool
 |[]=>true
 |x::xs=>!xs.any (· == x)&&bv xs
def C.reOwn (ps:List (Nat×Nat)):C→C
 |.lst e t xs own=>.lst e t xs (bif own == 0 then 0 else match ps.find? (·.2 == own) with | some p=>p.1 | none=>0)
 |.ex e t lo xs i j=>match ps.find? (·.2 == i),ps.find? (·.2 == j) with
  |some p,some q=>bif Nat.beq p.1 0 || Nat.beq q.1 0 then .top else .ex e t lo xs p.1 q.1
  |_,_=>.top
 |.eel _ _ _ _ _=>.top
 |c=>c
def ux (kb:Nat):Nat→List V→List (Nat×Nat)
 |_,[]=>[]
 |i,.one (.lst _ _ _ own)::vs=>(bif own == 0 then [] else [(cV kb i,own)])++ux kb (i+1) vs
 |i,.one (.ex _ _ _ _ _ j)::vs=>(cV kb i,j)::ux kb (i+1) vs
 |i,_::vs=>ux kb (i+1) vs
def zj (key:Nat):Nat→List C→List (Nat×Nat)
 |_,[]=>[]
 |i,.lst _ _ _ own::cs=>(bif own == 0 then [] else [(cn key i,own)])++zj key (i+1) cs
 |i,.ex _ _ _ _ _ j::cs=>(cn key i,j)::zj key (i+1) cs
 |i,_::cs=>zj key (i+1) cs
def zk:Nat→List (Option (List C))→List (Nat×Nat)
 |_,[]=>[]
 |k,some cs::os=>zj k 0 cs++zk (k+1) os
 |k,none::os=>zk (k+1) os
def Al:List (Nat×Nat)→List (Nat×Nat)→List (Nat×Nat)
 |acc,[]=>acc
 |acc,p::ps=>bif acc.any (·.2 == p.2) then Al acc ps else Al (p::acc) ps
def HF (A:AS)(ps:List (Nat×Nat)):AS:=
 bif A.stk.isEmpty&&(bv (ps.map (·.1))&&bv (ps.map (·.2))) then A.map (C.reOwn ps) else A
def reown (kb:Nat)(A:AS):AS:=HF A (Al [] (ux kb 0 A.tm++zk 0 A.ob))
def canon0 (m kb:Nat)(A:AS):AS:=
 let A:={ A with tm:=Ai m 0 A.tm }
 let ks:=(List.range (A.ob.length - kb)).map (kb + ·)
 let A:=(A.gc ks).gc ks
 {A with ob:=E9 A.ob }
def canon (m kb:Nat)(A:AS):AS:=reown kb (canon0 m kb A)
def uE {R:Type}(m kb:Nat)(st:AS→(Ex→AS→Option R)→Option R):Nat→AS→(Ex→AS→Option R)→Option R
 |0,_,_=>none
 |n+1,A,K=>st A fun ex A'=>match ex with
  |.normal=>uE m kb st n (canon m kb A') K
  |ex=>K ex A'
abbrev Dr:=Array Oper→Option (List (Nat×Nat))
abbrev Lh:=(R:Type)→AS→(Ex→AS→Option R)→Option R
abbrev Lp:=Nat→Option Lh
def cY:Code→Nat
 |.region i _ _=>i+1
 |.seq a b=>match cY a with
  |0=>cY b
  |n=>n
 |.cond _ a b=>match cY a with
  |0=>cY b
  |n=>n
 |.block _ b=>cY b
 |.loop b=>1000000+cY b
 |_=>0
def ev (tt:TT)(hd:Hd)(okDraw:Dr)(lp:Lp)(kb lr:Nat){R:Type}:Code→Nat→List (Nat×Nat)→AS→(Ex→AS→Option R)→Option R
 |.skip,_,_,A,K=>K .normal A
 |.label _,_,_,A,K=>K .normal A
 |.region _ ops draw,l,_,A,K=>bif draw then (match okDraw ops with | some is=>vN tt hd kb ops is [] A K | none=>none) else
   bif (okDraw #[]).isNone&&Hf tt ops then (match zc tt kb ops (gB ops) l (List.range ops.size) [] A with | some A'=>A'.force (K .normal) | none=>none) else lN tt hd kb ops (List.range ops.size) A K
 |.seq a b,l,x,A,K=>ev tt hd okDraw lp kb lr a (sj lr b l x) x A fun ex A'=>match ex with
  |.normal=>ev tt hd okDraw lp kb lr b l x A' K
  |ex=>K ex A'
 |.cond c t e,l,x,A,K=>match opd A c with
  |.one (.bool b)=>bif b then ev tt hd okDraw lp kb lr t l x A K else ev tt hd okDraw lp kb lr e l x A K
  |_=>none
 |.block id b,l,x,A,K=>ev tt hd okDraw lp kb lr b l ((id,l)::x) A fun ex A'=>match ex with
  |.exit id'=>bif id' == id then K .normal A' else K (.exit id') A'
  |ex=>K ex A'
 |.loop b,_,x,A,K=>match lp (cY b) with
  |some h=>h R (canon (sj lr b 0 x) kb A) K
  |none=>none
 |.exit id,_,_,A,K=>K (.exit id) A
 |.ret,_,_,A,K=>K .ret A
 |_,_,_,_,_=>none
def bB (lr:Nat):Code→Nat→List (Nat×Nat)→List (Nat×Code×List (Nat×Nat))
 |.seq a b,l,x=>bB lr a (sj lr b l x) x++bB lr b l x
 |.cond _ t e,l,x=>bB lr t l x++bB lr e l x
 |.block id b,l,x=>bB lr b l ((id,l)::x)
 |.loop b,_,x=>[(sj lr b 0 x,b,x)]
 |_,_,_=>[]
end
end Go.Proofs.YthpcdhgpplmneaaGreatDoor.Sym
namespace Go.Proofs.YthpcdhgpplmneaaGreatDoor.Sym
open Go
def nK:TypeDesc→Ds
 |.bool=>.bool
 |.int k=>.int k
 |.string=>.str
 |.slice e=>.sl e
 |.struct fs=>.st (fs.toList.map fun f=>(f.offset,f.type))
 |.pointer e=>.pt e
 |.func _ _ _=>.fn
 |.interface _=>.ifc
 |.array n e=>.arr n e
 |_=>.oth
def vE:Value→Bool
 |.agg _=>true
 |_=>false
structure TIok (P:Program) (t:Nat) (ti:TI):Prop where
 und:∃d,P.underlying t=some d∧nK d=ti.d
 inf:∃i z,P.info? t=some i∧i.size=ti.size∧i.bytes=ti.bytes∧i.zero=some z∧z.cells.toList=ti.zero∧vE z=Eh ti.d
 eqs:ti.eqb=true→P.stoodInHeld t=false∧P.eqGuardType P.depth t=false∧∀F,P.underlying t=some (.struct F)→∀f∈F.toList,f.name≠"_"
def cJ (P:Program)(tt:TT):Prop:=∀t,(tt.at t).d≠.oth→TIok P t (tt.at t)
theorem Addr.add_plain (b o n:Nat):(⟨b,o,none⟩:Addr).add n=⟨b,o+n,none⟩:=by
 unfold Addr.add
 split
 ·rename_i h;subst h;rfl
 ·rfl
section
variable {G:Gh} {w:World}
theorem cU:∀(t:Ty) (c:C) (x:t.den) (v:Value),dC t c=some x→Rc G w c v→Rt G.S w t x [v]:=by
 intro t c x v h hr
 by_cases hp:∃v0 t' y,c=.pin v0 t' y
 ·obtain ⟨v0,t',y,rfl⟩:=hp
  simp only[dC] at h
  split at h
  ·rename_i e;subst e;cases h;exact hr.2
  ·cases h
 cases t with
 |int k=>
  cases c <;> first | exact absurd ⟨_,_,_,rfl⟩ hp | skip
  all_goals (simp only[dC] at h)
  all_goals (try cases h)
  rename_i k' n
  split at h
  ·rename_i e;cases e;cases h;exact ⟨by rw[hr.1],hr.2⟩
  ·cases h
 |bool=>
  cases c <;> first | exact absurd ⟨_,_,_,rfl⟩ hp | skip
  all_goals (simp only[dC] at h)
  all_goals (try cases h)
  simp only[Rt];rw[hr]
 |str=>
  cases c <;> first | exact absurd ⟨_,_,_,rfl⟩ hp | skip
  all_goals (simp only[dC] at h)
  all_goals (try cases h)
  exact ⟨by rw[hr.1],hr.2⟩
 |sl e t=>
  cases c <;> first | exact absurd ⟨_,_,_,rfl⟩ hp | skip
  all_goals (simp only[dC] at h)
  all_goals (try cases h)
  ·rename_i e' t' xs own
   split at h
   ·rename_i he;obtain ⟨rfl,rfl⟩:=he;cases h
    obtain ⟨A,cap,ev,h1,h2,h3,_⟩:=hr
    exact ⟨A,cap,by rw[ev],h1,h2,h3⟩
   ·cases h
  ·exact ⟨none,0,by rw[hr];rfl,by simp,by simp[maxLen],fun h=>absurd rfl h⟩
 |unit=>cases c <;> first | exact absurd ⟨_,_,_,rfl⟩ hp | simp[dC] at h
 |prod a b=>cases c <;> first | exact absurd ⟨_,_,_,rfl⟩ hp | simp[dC] at h
 |tree a e=>cases c <;> first | exact absurd ⟨_,_,_,rfl⟩ hp | simp[dC] at h
theorem pa:∀(t:Ty) (cs:List C) (x:t.den) (r:List C) (vs:List Value),bS t cs=some (x,r)→All2 (Rc G w) cs vs→
  ∃v1 v2,vs=v1++v2∧Rt G.S w t x v1∧All2 (Rc G w) r v2:=by
 intro t
 induction t with
 |unit=>intro cs x r vs h hr;simp only[bS,zC,zD] at h;obtain ⟨_,rfl⟩:=h;exact ⟨[],vs,rfl,rfl,hr⟩
 |prod a b iha ihb=>
  intro cs x r vs h hr
  simp only[bS] at h
  split at h
  ·rename_i xa ra ha
   split at h
   ·rename_i xb rb hb
    simp only[zC,zD] at h
    obtain ⟨rfl,rfl⟩:=h
    obtain ⟨v1,v2,rfl,h1,h2⟩:=iha _ _ _ _ ha hr
    obtain ⟨v3,v4,rfl,h3,h4⟩:=ihb _ _ _ _ hb h2
    exact ⟨v1++v3,v4,by simp,⟨v1,v3,rfl,h1,h3⟩,h4⟩
   ·cases h
  ·cases h
 |tree a e iha=>
  intro cs x r vs h hr
  simp only[bS] at h
  split at h
  ·rename_i xa c ra ha
   split at h
   ·rename_i ks hk
    simp only[zC,zD] at h
    obtain ⟨rfl,rfl⟩:=h
    obtain ⟨v1,v2,rfl,h1,h2⟩:=iha _ _ _ _ ha hr
    cases v2 with
    |nil=>exact h2.elim
    |cons v v2=>exact ⟨v1++[v],v2,by simp,Rt.tree_iff.2 ⟨v1,[v],rfl,h1,cU _ _ _ _ hk h2.1⟩,h2.2⟩
   ·cases h
  ·cases h
 |int k=>
  intro cs x r vs h hr
  cases cs with
  |nil=>simp[bS] at h
  |cons c cs=>
   simp only[bS] at h
   split at h
   ·rename_i y hy
    simp only[zC,zD] at h
    obtain ⟨rfl,rfl⟩:=h
    cases vs with
    |nil=>exact hr.elim
    |cons v vs=>exact ⟨[v],vs,rfl,cU _ _ _ _ hy hr.1,hr.2⟩
   ·cases h
 |bool=>
  intro cs x r vs h hr
  cases cs with
  |nil=>simp[bS] at h
  |cons c cs=>
   simp only[bS] at h
   split at h
   ·rename_i y hy
    simp only[zC,zD] at h
    obtain ⟨rfl,rfl⟩:=h
    cases vs with
    |nil=>exact hr.elim
    |cons v vs=>exact ⟨[v],vs,rfl,cU _ _ _ _ hy hr.1,hr.2⟩
   ·cases h
 |str=>
  intro cs x r vs h hr
  cases cs with
  |nil=>simp[bS] at h
  |cons c cs=>
   simp only[bS] at h
   split at h
   ·rename_i y hy
    simp only[zC,zD] at h
    obtain ⟨rfl,rfl⟩:=h
    cases vs with
    |nil=>exact hr.elim
    |cons v vs=>exact ⟨[v],vs,rfl,cU _ _ _ _ hy hr.1,hr.2⟩
   ·cases h
 |sl e t _=>
  intro cs x r vs h hr
  cases cs with
  |nil=>simp[bS] at h
  |cons c cs=>
   simp only[bS] at h
   split at h
   ·rename_i y hy
    simp only[zC,zD] at h
    obtain ⟨rfl,rfl⟩:=h
    cases vs with
    |nil=>exact hr.elim
    |cons v vs=>exact ⟨[v],vs,rfl,cU _ _ _ _ hy hr.1,hr.2⟩
   ·cases h
theorem cr:∀(t:Ty) (x:t.den) (vs:List Value),Rt G.S w t x vs→All2 (Rc G w) (qf t x) vs
 |.int _,_,_,h=>by rw[h.1];exact ⟨⟨rfl,h.2⟩,trivial⟩
 |.bool,_,_,h=>by rw[h];exact ⟨rfl,trivial⟩
 |.str,_,_,h=>by rw[h.1];exact ⟨⟨rfl,h.2⟩,trivial⟩
 |.sl _ _,_,_,h=>by
  obtain ⟨A,cap,e,h1,h2,h3⟩:=h
  rw[e]
  exact ⟨⟨A,cap,rfl,h1,h2,h3,.inl rfl⟩,trivial⟩
 |.unit,_,_,h=>by rw[h];trivial
 |.prod a b,_,_,⟨c1,c2,e,h1,h2⟩=>by rw[e];exact (cr a _ _ h1).append (cr b _ _ h2)
 |.tree a e,x,cs,h=>by
  obtain ⟨c1,c2,rfl,h1,h2⟩:=Rt.tree_iff.1 h
  refine (cr a _ _ h1).append ?_
  obtain ⟨A,cap,rfl,g1,g2,g3⟩:=h2
  exact ⟨⟨A,cap,rfl,g1,g2,g3,.inl rfl⟩,trivial⟩
theorem xd {c:C}{u:Value}(h:Rc G w c u):u.cells = #[u]:=by
 have hc:=Rc.cell h
 cases u <;> first | rfl | cases hc
theorem gl {t:Ty}{v:V}{x:t.den}{u:Value}(h:fO t v=some x)(hr:Rv G w v u):Rt G.S w t x u.cells.toList:=by
 cases v with
 |one c=>
  simp only[fO] at h
  rw[xd hr]
  split at h
  ·rename_i y hy
   cases h
   obtain ⟨v1,v2,e,h1,h2⟩:=pa (G:=G) (w:=w) t [c] x [] [u] hy ⟨hr,trivial⟩
   cases v2 with
   |nil=>simp only[List.append_nil] at e;rw[← e] at h1;exact h1
   |cons _ _=>exact h2.elim
  ·cases h
 |agg cs=>
  simp only[fO] at h
  obtain ⟨vs,rfl,hv⟩:=hr
  split at h
  ·rename_i y hy
   cases h
   obtain ⟨v1,v2,e,h1,h2⟩:=pa (G:=G) (w:=w) t cs x [] vs.toList hy hv
   cases v2 with
   |nil=>simp only[List.append_nil] at e;rw[← e] at h1;exact h1
   |cons _ _=>exact h2.elim
  ·cases h
 |tup ps=>simp[fO] at h
 |any=>simp[fO] at h
theorem o8 (v:Value)(hv:v.oneCell'=true):Rc G w (nI v) v:=by
 unfold nI
 split
 ·rename_i k n
  cases h:LA k n
  ·exact hv
  ·simp only[LA,zA,zB] at h;exact ⟨rfl,h⟩
 ·rfl
 ·rename_i s
  cases h:decide (s.size≤maxLen)
  ·exact hv
  ·have h':s.size≤maxLen:=of_decide_eq_true h
   have e:(jy s).length=s.size:=by rw[jy,List.length_map,Array.length_toList];rfl
   exact ⟨by rw[mc],se s,by rw[e];exact h'⟩
 ·rfl
 ·rfl
 ·rfl
 ·rfl
 ·exact hv
theorem ge:∀(vs:List Value),vs.all Value.oneCell'=true→All2 (Rc G w) (vs.map nI) vs
 |[],_=>trivial
 |v::vs,h=>by
  simp only[List.all_cons,zA] at h
  exact ⟨o8 v h.1,ge vs h.2⟩
theorem AN (v:Value):Rv G w (Fa v) v:=by
 unfold Fa
 split
 ·rename_i cs
  cases h:cs.toList.all Value.oneCell'
  ·trivial
  ·exact ⟨cs,rfl,ge _ h⟩
 ·rename_i vs
  split
  ·rename_i e;exact ⟨vs,rfl,by rw[e];trivial⟩
  ·trivial
 ·rename_i h1 h2
  refine o8 _ ?_
  cases v <;> first | rfl | exact absurd rfl (h1 _) | exact absurd rfl (h2 _)
theorem nm (id:Nat)(t:Option Ty){c:C}{v:Value}(h:Rc G w c v):Rc G w (s0 id t c) v:=by
 unfold s0
 split
 ·exact ⟨none,0,h,by simp,by simp[maxLen],fun h=>absurd rfl h,.inr (.inl ⟨rfl,rfl⟩)⟩
 ·exact h
theorem mi:∀(id:Nat) (ts:List Ty) (cs:List C) (vs:List Value),All2 (Rc G w) cs vs→All2 (Rc G w) (mh id ts cs) vs
 |_,[],_,_,h=>by simpa [mh] using h
 |_,_::_,[],_,h=>by simpa [mh] using h
 |_,_::_,_::_,[],h=>h.elim
 |id,t::ts,_::cs,_::vs,h=>⟨nm id _ h.1,mi (id+2) ts cs vs h.2⟩
theorem kX (tt:TT)(id t:Nat){v:V}{u:Value}(h:Rv G w v u):Rv G w (mg tt id t v) u:=by
 cases v with
 |one c=>exact nm _ _ h
 |agg cs=>exact h
 |tup ps=>exact h
 |any=>trivial
end
end Go.Proofs.YthpcdhgpplmneaaGreatDoor.Sym
namespace Go.Proofs.YthpcdhgpplmneaaGreatDoor.Sym
open Go
section
variable {P:Program} {tt:TT} {G:Gh} {w:World}
theorem bD {t:Nat}{i:TypeInfo}(h:P.info? t=some i)(w:World):(typeInfo t).run P w=.ok i w:=by
 simp[typeInfo,program,Sem.run,h]
theorem Eu {t:Nat}{i:TypeInfo}(h:P.info? t=some i)(w:World):(sizeOf t).run P w=.ok i.size w:=by
 simp[sizeOf,bD h]
theorem TIok.size {t:Nat}{ti:TI}(h:TIok P t ti)(w:World):(sizeOf t).run P w=.ok ti.size w:=by
 obtain ⟨i,z,hi,hs,_⟩:=h.inf
 rw[Eu hi,hs]
theorem AD {t:Nat}{fs:Array Field}(h:P.underlying t=some (.struct fs))(w:World):(isAgg t).run P w=.ok true w:=by
 simp[isAgg,run_underlying h]
theorem vX {t:Nat}{d:TypeDesc}(h:P.underlying t=some d)(hd:Il (nK d)=false)(ho:nK d≠.oth)(ha:∀n e,nK d≠.arr n e)(w:World):(isAgg t).run P w=.ok false w:=by
 cases d <;> simp_all [isAgg,run_underlying h,nK,Il]
theorem TIok.st {t:Nat}{ti:TI}(h:TIok P t ti){fs:List (Nat×Nat)}(hd:ti.d=.st fs):∃F:Array Field,P.underlying t=some (.struct F)∧F.toList.map (fun f=>(f.offset,f.type))=fs:=by
 obtain ⟨d,hu,e⟩:=h.und
 rw[hd] at e
 cases d <;> simp[nK] at e
 exact ⟨_,hu,e⟩
theorem TIok.sl {t:Nat}{ti:TI}(h:TIok P t ti){e:Nat}(hd:ti.d=.sl e):P.underlying t=some (.slice e):=by
 obtain ⟨d,hu,e'⟩:=h.und
 rw[hd] at e'
 cases d <;> simp[nK] at e'
 rw[hu,e']
theorem TIok.arr {t:Nat}{ti:TI}(h:TIok P t ti){n e:Nat}(hd:ti.d=.arr n e):P.underlying t=some (.array n e):=by
 obtain ⟨d,hu,e'⟩:=h.und
 rw[hd] at e'
 cases d <;> simp[nK] at e'
 rw[hu,e'.1,e'.2]
theorem TIok.str {t:Nat}{ti:TI}(h:TIok P t ti)(hd:ti.d=.str):P.underlying t=some .string:=by
 obtain ⟨d,hu,e'⟩:=h.und
 rw[hd] at e'
 cases d <;> simp[nK] at e'
 rw[hu]
theorem TIok.int {t:Nat}{ti:TI}(h:TIok P t ti){k:IntKind}(hd:ti.d=.int k):P.underlying t=some (.int k):=by
 obtain ⟨d,hu,e'⟩:=h.und
 rw[hd] at e'
 cases d <;> simp[nK] at e'
 rw[hu,e']
theorem TIok.bool {t:Nat}{ti:TI}(h:TIok P t ti)(hd:ti.d=.bool):P.underlying t=some .bool:=by
 obtain ⟨d,hu,e'⟩:=h.und
 rw[hd] at e'
 cases d <;> simp[nK] at e'
 rw[hu]
theorem uW (htt:cJ P tt){t:Nat}{cs:List C}{v:V}{vs:List Value}(h:iG tt t cs=some v)(hr:All2 (Rc G w) cs vs):
  ∃u,Rv G w v u∧((∀w',(isAgg t).run P w'=.ok true w')∧u=.agg vs.toArray∨(∀w',(isAgg t).run P w'=.ok false w')∧vs=[u]):=by
 unfold iG at h
 by_cases ho:(tt.at t).d=.oth
 ·rw[ho] at h;cases h
 have T:=htt t ho
 obtain ⟨d,hu,ed⟩:=T.und
 split at h
 ·cases h
 ·cases h
 ·rename_i fs hd
  cases h
  obtain ⟨F,hF,_⟩:=T.st hd
  exact ⟨.agg vs.toArray,⟨vs.toArray,rfl,by simpa using hr⟩,.inl ⟨AD hF,rfl⟩⟩
 ·rename_i hd1 hd3 hd2
  split at h
  ·rename_i c
   cases h
   have hs:Il (nK d)=false:=by
    rw[ed];revert hd2;cases (tt.at t).d <;> simp[Il]
   cases vs with
   |nil=>exact hr.elim
   |cons u us=>
    cases us with
    |nil=>exact ⟨u,hr.1,.inr ⟨vX hu hs (by rw[ed];exact ho) (by rw[ed];exact hd3),rfl⟩⟩
    |cons _ _=>exact hr.2.elim
  ·cases h
theorem gx (htt:cJ P tt){t:Nat}{cs:List C}{v:V}{vs:List Value}{b o:Nat}(h:iG tt t cs=some v)(hr:All2 (Rc G w) cs vs)
  (hl:cs.length=(tt.at t).size):∃u,(∀w':World,(∀j u,vs[j]?=some u→w'.cell? ⟨b,o+j,none⟩=some u)→(loadVar t ⟨b,o,none⟩).run P w'=.ok u w')∧Rv G w v u:=by
 obtain ⟨u,hu,h1 | h1⟩:=uW (P:=P) htt h hr
 ·have ho:(tt.at t).d≠.oth:=by intro e;unfold iG at h;rw[e] at h;cases h
  have hlen:=hr.length
  refine ⟨u,fun w' hc=>?_,hu⟩
  have hcells:=run_loadCells_list (P:=P) (w:=w') ⟨b,o,none⟩ vs (fun j v hv=>by rw[Addr.add_plain];exact hc j v hv)
  rw[← hlen,hl] at hcells
  simp[loadVar,h1.1,(htt t ho).size,hcells,h1.2]
 ·refine ⟨u,fun w' hc=>?_,hu⟩
  have h0:=hc 0 u (by rw[h1.2];rfl)
  simp[loadVar,h1.1,load,Sem.run,show w'.cell? ⟨b,o,none⟩=some u from h0]
theorem mo (htt:cJ P tt){t:Nat}{cs:List C}{v:V}{vs:List Value}{b o:Nat}(h:iG tt t cs=some v)(hr:All2 (Rc G w) cs vs)
  (hl:cs.length=(tt.at t).size) (hc:∀j u,vs[j]?=some u→w.cell? ⟨b,o+j,none⟩=some u):∃u,(loadVar t ⟨b,o,none⟩).run P w=.ok u w∧Rv G w v u:=by
 obtain ⟨u,hu,hr⟩:=gx (P:=P) (b:=b) (o:=o) htt h hr hl
 exact ⟨u,hu w hc,hr⟩
def Agr (H:Nat→Prop)(G:Gh)(w w':World):Prop:=
 (∀b o,G.S b o→w'.cell? ⟨b,o,none⟩=w.cell? ⟨b,o,none⟩)∧∀key b,H key→G.mu key=some b→w'.heap[b]?=w.heap[b]?
theorem Agr.refl (H:Nat→Prop)(G:Gh)(w:World):Agr H G w w:=⟨fun _ _ _=>rfl,fun _ _ _ _=>rfl⟩
theorem uV (htt:cJ P tt){t off:Nat}{cs:List C}{v:V}{vs:Array Value}(h:iG tt t ((cs.drop off).take (tt.at t).size)=some v)(hr:All2 (Rc G w) cs vs.toList)
  (hl:off+(tt.at t).size≤cs.length):∃u,(∀w',(part t vs off).run P w'=.ok u w')∧Rv G w v u:=by
 have hr':All2 (Rc G w) ((cs.drop off).take (tt.at t).size) ((vs.toList.drop off).take (tt.at t).size):=(hr.drop off).take _
 have ho:(tt.at t).d≠.oth:=by intro e;unfold iG at h;rw[e] at h;cases h
 obtain ⟨u,hu,h1 | h1⟩:=uW (P:=P) htt h hr'
 ·refine ⟨u,fun w'=>?_,hu⟩
  simp only[part,Sem.run_bind,h1.1,Result.andThen_ok,if_true,(htt t ho).size,Sem.run_pure,h1.2]
  congr 2
  apply Array.ext'
  simp[List.extract_eq_take_drop]
 ·refine ⟨u,fun w'=>?_,hu⟩
  have hg:vs[off]?=some u:=by
   have:=congrArg (·[0]?) h1.2
   simp only[List.getElem?_take,List.getElem?_drop,Nat.add_zero] at this
   split at this
   ·simpa using this
   ·simp at this
  simp[part,h1.1,hg]
theorem K3 (k:IntKind){x y:Int}(hx:bH k x)(hy:bH k y):k.wrap (x.tmod y)=x.tmod y:=by
 unfold bH at hx hy
 have h1:=Int.natAbs_tmod x y
 by_cases h0:y=0
 ·subst h0
  rw[Int.tmod_zero]
  revert hx
  cases k <;> simp[IntKind.wrap,IntKind.min,IntKind.max,IntKind.signed,IntKind.bits] <;> (try split) <;> omega
 have hlt:(x.tmod y).natAbs≤x.natAbs:=by rw[h1];exact Nat.mod_le _ _
 have hs:0≤x→0≤x.tmod y:=fun h=>Int.tmod_nonneg y h
 have hs':x≤0→x.tmod y≤0:=fun h=>by
  have:=Int.tmod_nonneg y (a:=-x) (by omega)
  rw[Int.neg_tmod] at this
  omega
 revert hx
 cases k <;> simp[IntKind.wrap,IntKind.min,IntKind.max,IntKind.signed,IntKind.bits] <;> (try split) <;> omega
theorem K2 (k:IntKind){x:Int}(n:Nat)(hx:bH k x):k.wrap (x.fdiv (2 ^ n))=x.fdiv (2 ^ n):=by
 unfold bH at hx
 have hp:(0:Int)<2 ^ n:=Int.pow_pos (by omega)
 have e:x.fdiv (2 ^ n)=x / (2 ^ n):=Int.fdiv_eq_ediv_of_nonneg _ (by omega)
 rw[e]
 have h1:0≤x→0≤x / (2 ^ n)∧x / (2 ^ n)≤x:=fun h=>⟨Int.ediv_nonneg h (by omega),Int.ediv_le_self _ h⟩
 have h2:x<0→x≤x / (2 ^ n)∧x / (2 ^ n)<0:=fun h=>by
  refine ⟨?_,Int.ediv_neg_of_neg_of_pos h hp⟩
  rw[Int.le_ediv_iff_mul_le hp]
  have:x*2 ^ n≤x*1:=Int.mul_le_mul_of_nonpos_left (by omega) (by omega)
  omega
 revert hx
 by_cases h0:0≤x
 ·have:=h1 h0
  cases k <;> simp[IntKind.wrap,IntKind.min,IntKind.max,IntKind.signed,IntKind.bits] <;> (try split) <;> omega
 ·have:=h2 (by omega)
  cases k <;> simp[IntKind.wrap,IntKind.min,IntKind.max,IntKind.signed,IntKind.bits] <;> (try split) <;> omega
theorem Cd {op:BinOp}{k:IntKind}{x y:Int}{chk:Bool}{c:C}(h:K4 op k x y=some (chk,c))(hc:chk=true)(hx:bH k x)(hy:bH k y)(hs:Og op=false)(xT:Nat):
  ∃u,(∀w',(binOp op xT (.int k x) (.int k y)).run P w'=.ok u w')∧Rc G w c u:=by
 subst hc
 cases op <;> simp only[K4,zC,zD,Og,Bool.true_eq_false,reduceCtorEq] at h hs <;> try (obtain ⟨h1,rfl⟩:=h)
 case quo=>exact ⟨_,fun w'=>by simp[binOp,Op.intDiv,of_decide_eq_true h1],⟨rfl,bL _ _⟩⟩
 case rem=>exact ⟨.int k (x.tmod y),fun w'=>by simp[binOp,Op.intDiv,of_decide_eq_true h1],⟨by rw[K3 k hx hy],bL _ _⟩⟩
 all_goals first
  |exact ⟨_,fun w'=>by simp[binOp,Op.intArith,Op.intBits,ey,nh,cq,Da],⟨rfl,bL _ _⟩⟩
  |exact ⟨_,fun w'=>by simp[binOp,Op.intCmp],rfl⟩
theorem EJ {op:BinOp}{k k':IntKind}{x y:Int}{chk:Bool}{c:C}(h:Qt op k x y=some (chk,c))(hc:chk=true)(hx:bH k x)(xT:Nat):
  ∃u,(∀w',(binOp op xT (.int k x) (.int k' y)).run P w'=.ok u w')∧Rc G w c u:=by
 subst hc
 cases op <;> simp only[Qt,zC,zD,reduceCtorEq] at h <;> (obtain ⟨h1,rfl⟩:=h) <;> have h1:=of_decide_eq_true h1
 ·exact ⟨_,fun w'=>by simp[binOp,Op.shift,show ¬ y<0 by omega];rfl,⟨rfl,bL _ _⟩⟩
 ·exact ⟨.int k (x.fdiv (2 ^ (min y.toNat k.bits))),fun w'=>by simp[binOp,Op.shift,show ¬ y<0 by omega],⟨by rw[fR,K2 k _ hx],bL _ _⟩⟩
end
end Go.Proofs.YthpcdhgpplmneaaGreatDoor.Sym
namespace Go.Proofs.YthpcdhgpplmneaaGreatDoor.Sym
open Go
open Go.IntKind (i8 i16 i32 i64 u8 u16 u32 u64)
section
variable {P:Program} {tt:TT} {G:Gh} {w:World}
theorem qV {op:BinOp}{b chk:Bool}{c:C}(h:neg op b=some (chk,c)):(op=.eql∧c=.bool b∨op=.neq∧c=.bool (!b))∧chk=true:=by
 cases op <;> simp[neg] at h
 ·exact ⟨.inl ⟨rfl,h.2.symm⟩,h.1⟩
 ·exact ⟨.inr ⟨rfl,h.2.symm⟩,h.1⟩
theorem AM {s t:LI}(hs:byteR s)(ht:byteR t):((aF s).toList == (aF t).toList)=decide (s=t):=by
 rw[Bool.eq_iff_iff]
 simp only[beq_iff_eq,zB]
 constructor
 ·intro h
  refine Iu hs ht ?_
  rw[ByteArray.toList_eq,ByteArray.toList_eq] at h
  exact ByteArray.ext (Array.ext' h)
 ·rintro rfl;rfl
theorem Ak (s t:LI):aF s++aF t=aF (s++t):=by
 apply ByteArray.ext
 apply Array.ext'
 simp[aF]
theorem mm {w:World}(t:Nat)(x y:Bool)(h:P.underlying t=some .bool):(Op.equal t (.bool x) (.bool y)).run P w=.ok (x == y) w:=by
 show (Op.equalIn (9999+1) t (.bool x) (.bool y)).run P w=_
 exact run_equalIn_bool' w 9999 t x y h
theorem yX (htt:cJ P tt){op:BinOp}{xT:Nat}{c d e:C}{u v:Value}{chk:Bool}(h:DZ tt op xT c d=some (chk,e))(hc:chk=true)(hu:Rc G w c u)(hv:Rc G w d v)(x y:Operand):
  ∃r,(∀w',(do eqGuard op xT x y u v;binOp op xT u v:Sem Value).run P w'=.ok r w')∧Rc G w e r:=by
 unfold DZ at h
 split at h
 ·rename_i k a k' b
  obtain ⟨rfl,hu⟩:=hu
  obtain ⟨rfl,hv⟩:=hv
  have hg:∀op w,(eqGuard op xT x y (.int k a) (.int k' b)).run P w=.ok () w:=by intro op w;cases op <;> simp[eqGuard]
  cases hs:Og op with
  |true=>
   simp only[hs,cond_true] at h
   obtain ⟨r,h1,h2⟩:=EJ (P:=P) (G:=G) (w:=w) (k':=k') h hc hu xT
   exact ⟨r,fun w'=>by simp[hg,h1],h2⟩
  |false=>
   simp only[hs,cond_false] at h
   cases hk:decide (k=k') with
   |false=>rw[hk] at h;cases h
   |true=>
    rw[hk] at h
    obtain rfl:=of_decide_eq_true hk
    obtain ⟨r,h1,h2⟩:=Cd (P:=P) (G:=G) (w:=w) h hc hu hv hs xT
    exact ⟨r,fun w'=>by simp[hg,h1],h2⟩
 ·rename_i a b
  obtain ⟨rfl,ha,hal⟩:=hu
  obtain ⟨rfl,hb,hbl⟩:=hv
  have hg:∀op w,(eqGuard op xT x y (.string (aF a)) (.string (aF b))).run P w=.ok () w:=by intro op w;cases op <;> simp[eqGuard]
  split at h
  ·simp only[zC,zD] at h
   obtain ⟨h1,rfl⟩:=h
   rw[hc] at h1
   have h1:=of_decide_eq_true h1
   refine ⟨.string (aF (a++b)),fun w'=>?_,rfl,?_,?_⟩
   ·have hm:¬ i64.max<((aF a).size:Int)+((aF b).size:Int):=by
     simp only[IntKind.max,IntKind.signed,IntKind.bits,b8];simp;omega
    simp only[binOp,Op.stringOp,Sem.run_bind,hg,Result.andThen_ok,Int.natCast_add]
    rw[if_neg (by simpa using hm)]
    simp[Ak]
   ·intro c hc'
    rcases List.mem_append.1 hc' with h | h
    ·exact ha c h
    ·exact hb c h
   ·rw[zH];simp only[maxLen];omega
  ·obtain ⟨h1,_⟩:=qV h
   rcases h1 with ⟨rfl,rfl⟩ | ⟨rfl,rfl⟩
   ·exact ⟨.bool (decide (a=b)),fun w'=>by simp[hg,binOp,Op.stringOp,AM ha hb],rfl⟩
   ·exact ⟨.bool (!decide (a=b)),fun w'=>by simp[hg,binOp,Op.stringOp,AM ha hb],rfl⟩
 ·rename_i a b
  obtain rfl:u=.bool a:=hu
  obtain rfl:v=.bool b:=hv
  have hg:∀op w,(eqGuard op xT x y (.bool a) (.bool b)).run P w=.ok () w:=by intro op w;cases op <;> simp[eqGuard]
  split at h
  ·rename_i hd
   have hx:=(htt xT (by rw[hd];simp)).bool hd
   obtain ⟨h1,_⟩:=qV h
   rcases h1 with ⟨rfl,rfl⟩ | ⟨rfl,rfl⟩
   ·exact ⟨.bool (a == b),fun w'=>by simp[hg,binOp,mm (P:=P) (w:=w') xT a b hx],rfl⟩
   ·exact ⟨.bool (!(a == b)),fun w'=>by simp[hg,binOp,mm (P:=P) (w:=w') xT a b hx],rfl⟩
  ·cases h
 ·cases h
 ·cases h
theorem Ky (htt:cJ P tt){d t:Nat}{c e:V}{u v:Value}{b:Bool}(h:PQ c e (tt.at t).d=some b)(hu:Rv G w c u)(hv:Rv G w e v)(w':World):(Op.equalIn (d+1) t u v).run P w'=.ok b w':=by
 unfold PQ at h
 split at h
 ·rename_i k x k' y k2 hd
  obtain ⟨rfl,_⟩:u=.int k x∧_:=hu
  obtain ⟨rfl,_⟩:v=.int k' y∧_:=hv
  cases hk:decide (k=k') with
  |false=>rw[hk] at h;cases h
  |true=>
   rw[hk] at h
   simp only[cond_true,zC] at h
   subst h
   obtain rfl:=of_decide_eq_true hk
   exact run_equalIn_int w' d t k k2 x y ((htt t (by rw[hd];simp)).int hd)
 ·rename_i x y hd
  obtain rfl:u=.bool x:=hu
  obtain rfl:v=.bool y:=hv
  cases h
  exact run_equalIn_bool' w' d t x y ((htt t (by rw[hd];simp)).bool hd)
 ·rename_i x y hd
  obtain ⟨rfl,hx,_⟩:u=.string (aF x)∧_:=hu
  obtain ⟨rfl,hy,_⟩:v=.string (aF y)∧_:=hv
  cases h
  rw[run_equalIn_string w' d t _ _ ((htt t (by rw[hd];simp)).str hd),AM hx hy]
 ·cases h
theorem BU (htt:cJ P tt){cs ds:List C}{xs ys:Array Value}(hx:All2 (Rc G w) cs xs.toList)(hy:All2 (Rc G w) ds ys.toList)(d:Nat):∀(F:List Field) (b:Bool),Kz tt cs ds (F.map fun f=>(f.offset,f.type))=some b→
  (∀f∈F,f.name≠"_")→∀w',(Op.eqFields (d+1) xs ys F).run P w'=.ok b w'
 |[],b,h,_,w'=>by
  simp only[List.map_nil,Kz,zC] at h
  subst h
  simp[Op.eqFields]
 |f::F,b,h,hn,w'=>by
  simp only[zL,Kz] at h
  split at h
  ·rename_i u v r hu hv hr
   cases hb:decide (f.offset+(tt.at f.type).size≤cs.length)&&decide (f.offset+(tt.at f.type).size≤ds.length) with
   |false=>rw[hb] at h;cases h
   |true=>
    rw[hb] at h
    simp only[cond_true] at h
    split at h
    ·rename_i b1 h1
     simp only[zC] at h
     subst h
     simp only[zA,zB] at hb
     obtain ⟨u',hu1,hu2⟩:=uV (P:=P) htt hu hx hb.1
     obtain ⟨v',hv1,hv2⟩:=uV (P:=P) htt hv hy hb.2
     have h2:=Ky (P:=P) htt (d:=d) h1 hu2 hv2
     have ih:=BU htt hx hy d F r hr fun g hg=>hn g (by simp[hg])
     simp only[Op.eqFields,if_pos (hn f (by simp)),Sem.run_bind,hu1,hv1,h2,Result.andThen_ok]
     cases b1
     ·simp
     ·simp[ih w']
    ·cases h
  ·cases h
theorem yY (htt:cJ P tt){op:BinOp}{xT:Nat}{c d e:V}{u v:Value}{chk:Bool}(h:D0 tt op xT c d=some (chk,e))(hc:chk=true)(hu:Rv G w c u)(hv:Rv G w d v)(x y:Operand):
  ∃r,(∀w',(do eqGuard op xT x y u v;binOp op xT u v:Sem Value).run P w'=.ok r w')∧Rv G w e r:=by
 unfold D0 at h
 split at h
 ·rename_i c d
  obtain ⟨⟨chk',e⟩,h1,h2⟩:=Option.map_eq_some_iff.1 h
  simp only[HU,zD] at h2
  obtain ⟨rfl,rfl⟩:=h2
  exact yX htt h1 hc hu hv x y
 ·rename_i cs ds
  obtain ⟨xs,rfl,hx⟩:=hu
  obtain ⟨ys,rfl,hy⟩:=hv
  split at h
  ·rename_i fs hd
   cases hb:NA (tt.at xT).eqb with
   |false=>rw[hb] at h;cases h
   |true=>
    rw[hb] at h
    simp only[cond_true] at h
    split at h
    ·rename_i b hb1
     obtain ⟨⟨chk',e⟩,h1,h2⟩:=Option.map_eq_some_iff.1 h
     simp only[HU,zD] at h2
     obtain ⟨rfl,rfl⟩:=h2
     rw[NB] at hb
     have hti:=htt xT (by rw[hd];simp)
     obtain ⟨F,hF,hfs⟩:=hti.st hd
     obtain ⟨g1,g2,g3⟩:=hti.eqs hb
     subst hfs
     have hfo:P.fieldsOf xT=F:=by unfold Program.fieldsOf;rw[hF]
     have hrun:∀w',(Op.equalIn 10000 xT (.agg xs) (.agg ys)).run P w'=.ok b w':=fun w'=>by
      show (Op.equalIn (9999+1) xT (.agg xs) (.agg ys)).run P w'=_
      rw[run_equalIn_struct w' 9999 xT xs ys (by rw[hfo];exact hF) g1,hfo]
      exact BU htt hx hy 9998 F.toList b hb1 (g3 F hF) w'
     have hg:∀w',(eqGuard op xT x y (.agg xs) (.agg ys)).run P w'=.ok () w':=fun w'=>run_eqGuard_agg w' op xT x y xs ys g2
     obtain ⟨n1,_⟩:=qV h1
     rcases n1 with ⟨rfl,rfl⟩ | ⟨rfl,rfl⟩
     ·exact ⟨.bool b,fun w'=>by simp only[Sem.run_bind,hg,Result.andThen_ok,run_eql_struct,hrun],rfl⟩
     ·exact ⟨.bool (!b),fun w'=>by simp only[Sem.run_bind,hg,Result.andThen_ok,run_neq_struct,hrun],rfl⟩
    ·cases h
  ·cases h
 ·cases h
theorem Dq {op:UnOp}{c d:C}{u:Value}(h:Nj op c=some d)(hu:Rc G w c u):∃r,(∀w',(Op.unary op u).run P w'=.ok r w')∧Rc G w d r:=by
 cases c <;> simp only[Nj] at h <;> try cases h
 ·rename_i k n
  obtain ⟨rfl,hn⟩:=hu
  cases op <;> simp only[zC,reduceCtorEq] at h
  ·subst h;exact ⟨_,fun w'=>by simp[Op.unary,Op.intArith],rfl,bL _ _⟩
  ·subst h;exact ⟨_,fun w'=>by simp[Op.unary,Op.intBits,vq],rfl,bL _ _⟩
 ·rename_i b
  obtain rfl:u=.bool b:=hu
  cases op <;> simp only[zC,reduceCtorEq] at h
  subst h
  exact ⟨_,fun w'=>by simp[Op.unary],rfl⟩
theorem Row.cellAt {S:Nat→Nat→Prop}{t:Ty}{A:Option Addr}{xs:List t.den}(h:Row S w t A xs){i:Nat}{x:t.den}(hx:xs[i]?=some x):
  ∃b o c,A=some ⟨b,o,none⟩∧Rt S w t x c∧At S w b (o+i*t.size) c:=by
 have hne:xs≠[]:=by rintro rfl;simp at hx
 obtain ⟨b,o,e,hh⟩:=h hne
 obtain ⟨c,h1,h2⟩:=hh i x hx
 exact ⟨b,o,c,e,h1,h2⟩
theorem Row.byteR {S:Nat→Nat→Prop}{A:Option Addr}{xs:LI}(h:Row S w (.int .u8) A xs):byteR xs:=by
 intro c hc
 obtain ⟨i,hi⟩:=List.getElem?_of_mem hc
 obtain ⟨b,o,cs,_,h1,_⟩:=h.cellAt (t:=.int .u8) hi
 have:=h1.2
 simp only[bH,IntKind.min,IntKind.max,IntKind.signed,IntKind.bits] at this
 simp at this
 omega
theorem Bt (htt:cJ P tt){src dst:Nat}{c d:C}{u:Value}(h:J9 tt src dst c=some d)(hu:Rc G w c u):∃r,(∀w',(Ea tt src=true→∀b o,G.S b o→w'.cell? ⟨b,o,none⟩=w.cell? ⟨b,o,none⟩)→(convert src dst u).run P w'=.ok r w')∧Rc G w d r:=by
 unfold J9 at h
 split at h
 ·rename_i k n
  obtain ⟨rfl,hn⟩:=hu
  split at h
  ·rename_i k1 k2 h1 h2
   cases h
   have e1:=(htt src (by rw[h1];simp)).int h1
   have e2:=(htt dst (by rw[h2];simp)).int h2
   exact ⟨_,fun w' _=>by simp[convert,run_underlying e1,run_underlying e2,Conv.intToInt],rfl,bL _ _⟩
  ·cases h
 ·rename_i s
  obtain ⟨rfl,hs⟩:=hu
  split at h
  ·rename_i h1 h2
   cases h
   have e1:=(htt src (by rw[h1];simp)).str h1
   have e2:=(htt dst (by rw[h2];simp)).str h2
   exact ⟨_,fun w' _=>by simp[convert,run_underlying e1,run_underlying e2],rfl,hs⟩
  ·cases h
 ·rename_i e t xs own
  split at h
  ·rename_i e' xs' h1 h2
   split at h
   ·rename_i h3
    cases h
    have e1:=(htt src (by rw[h1];simp)).sl h1
    have e2:=(htt dst (by rw[h2];simp)).str h2
    have e3:=(htt e' (by rw[h3];simp)).int h3
    obtain ⟨A,cap,rfl,hl,hcap,hrow,_⟩:=hu
    refine ⟨.string (aF xs'),fun w' hw'=>?_,rfl,hrow.byteR,Nat.le_trans hl hcap⟩
    by_cases hne:xs'=[]
    ·subst hne
     cases A with
     |none=>rw[run_convert_bytes_nil w' src e' e1 e3 _ _ dst e2];rfl
     |some ad=>
      have:(convert src dst (.slice (some ad) 0 cap)).run P w'=.ok (.string (aF [])) w':=by
       simp[convert,run_underlying e1,run_underlying e2,run_underlying e3,Conv.bytesToString,loadCells,loadCellsFrom];rfl
      simpa using this
    ·obtain ⟨b,o,rfl,hh⟩:=hrow hne
     refine run_convert_bytes_arg w' src e' e1 e3 b o xs'.length cap xs' rfl (fun i hi=>?_) dst e2
     obtain ⟨cs,hc1,hc2⟩:=hh i (xs'.getD i 0) (by simp[List.getD,hi])
     have hs:=hc2 0 (.int .u8 (xs'.getD i 0)) (by rw[hc1.1];rfl)
     have:=(hw' (by unfold Ea;rw[h1]) _ _ hs.1).trans hs.2
     simpa [Ty.size] using this
   ·cases h
  ·cases h
 ·cases h
end
end Go.Proofs.YthpcdhgpplmneaaGreatDoor.Sym
namespace Go.Proofs.YthpcdhgpplmneaaGreatDoor.Sym
open Go
section
variable {P:Program} {tt:TT} {G:Gh} {w:World}
theorem iS (htt:cJ P tt){t n:Nat}(h:v8 tt t=some n):TIok P t (tt.at t)∧n=(tt.at t).size:=by
 unfold v8 at h
 split at h
 ·cases h
 ·cases h
 ·rename_i hd _;cases h;exact ⟨htt t hd,rfl⟩
theorem bO (htt:cJ P tt){t n:Nat}(h:fM tt t n=true):TIok P t (tt.at t)∧(tt.at t).size=n∧0<n:=by
 unfold fM at h
 split at h
 ·rename_i m hm
  obtain ⟨h1,rfl⟩:=iS htt hm
  simp only[zA,beq_iff_eq,Bool.not_eq_true',beq_eq_false_iff_ne] at h
  exact ⟨h1,h.1.symm,by omega⟩
 ·cases h
theorem jB (htt:cJ P tt){s f off t sz:Nat}(h:sG tt s f=some (off,t,sz)):
  ∃(F:Array Field) (fd:Field),P.underlying s=some (.struct F)∧F[f]?=some fd∧fd.offset=off∧fd.type=t∧TIok P t (tt.at t)∧sz=(tt.at t).size:=by
 unfold sG at h
 split at h
 ·rename_i fs hd
  split at h
  ·rename_i off' t' hf
   split at h
   ·rename_i n hn
    simp only[zC,zD] at h
    obtain ⟨rfl,rfl,rfl⟩:=h
    obtain ⟨h1,h2⟩:=iS htt hn
    obtain ⟨F,hF,hfs⟩:=(htt s (by rw[hd];simp)).st hd
    rw[← hfs,List.getElem?_map] at hf
    obtain ⟨fd,hfd,he⟩:=Option.map_eq_some_iff.1 hf
    simp only[zD] at he
    exact ⟨F,fd,hF,by simpa using hfd,he.1,he.2,h1,h2⟩
   ·cases h
  ·cases h
 ·cases h
theorem Ty.sub_sound {S:Nat→Nat→Prop}{b:Nat}:∀(t:Ty) (x:t.den) (f:Nat) (t':Ty) (x':t'.den) (o:Nat) (cs:List Value),t.sub x f=some ⟨t',x'⟩→Rt S w t x cs→At S w b o cs→
  ∃cs',Rt S w t' x' cs'∧At S w b (o+t.offs f) cs'
 |.prod a c,x,0,t',x',o,cs,h,hr,ha=>by
  simp only[Ty.sub,zC,Sigma.mk.injEq] at h
  obtain ⟨rfl,h⟩:=h
  cases h
  obtain ⟨c1,c2,rfl,h1,h2⟩:=hr
  refine ⟨c1,h1,fun j v hv=>?_⟩
  have:=ha j v (by rw[List.getElem?_append_left (List.getElem?_eq_some_iff.1 hv).1];exact hv)
  simpa [Ty.offs] using this
 |.prod a c,x,f+1,t',x',o,cs,h,hr,ha=>by
  simp only[Ty.sub] at h
  obtain ⟨c1,c2,rfl,h1,h2⟩:=hr
  have hlen:=Rt.len a _ _ h1
  obtain ⟨cs',h3,h4⟩:=Ty.sub_sound c x.2 f t' x' (o+a.size) c2 h h2 (fun j v hv=>by
   have:=ha (c1.length+j) v (by rw[List.getElem?_append_right (by omega)];simpa using hv)
   rw[hlen] at this
   rw[Nat.add_assoc];exact this)
  exact ⟨cs',h3,by simpa [Ty.offs,Nat.add_assoc] using h4⟩
 |.tree a e,x,f,t',x',o,cs,h,hr,ha=>by
  obtain ⟨c1,c2,rfl,h1,h2⟩:=Rt.tree_iff.1 hr
  have hlen:=Rt.len a _ _ h1
  simp only[Ty.sub] at h
  simp only[Ty.offs]
  cases hf:Nat.beq f a.fields with
  |true=>
   rw[hf] at h
   simp only[cond_true,zC,Sigma.mk.injEq] at h
   obtain ⟨rfl,h⟩:=h
   cases h
   refine ⟨c2,h2,fun j v hv=>?_⟩
   have:=ha (c1.length+j) v (by rw[List.getElem?_append_right (by omega)];simpa using hv)
   rw[hlen] at this
   simp only[cond_true]
   rw[Nat.add_assoc];exact this
  |false=>
   rw[hf] at h
   simp only[cond_false] at h ⊢
   exact Ty.sub_sound a x.lab f t' x' o c1 h h1 fun j v hv=>ha j v (by rw[List.getElem?_append_left (List.getElem?_eq_some_iff.1 hv).1];exact hv)
 |.int _,_,_,_,_,_,_,h,_,_=>by simp[Ty.sub] at h
 |.bool,_,_,_,_,_,_,h,_,_=>by simp[Ty.sub] at h
 |.str,_,_,_,_,_,_,h,_,_=>by simp[Ty.sub] at h
 |.sl _ _,_,_,_,_,_,_,h,_,_=>by simp[Ty.sub] at h
 |.unit,_,_,_,_,_,_,h,_,_=>by simp[Ty.sub] at h
theorem eU {v:V}{k:IntKind}{n:Int}{u:Value}(h:Eg v=some (k,n))(hr:Rv G w v u):u=.int k n∧bH k n:=by
 unfold Eg at h
 split at h
 ·cases h;exact hr
 ·cases h
theorem Row.cut {S:Nat→Nat→Prop}{t:Ty}{A:Option Addr}{xs:List t.den}(h:Row S w t A xs)(lo hi:Nat)(hlo:lo≤hi)(hhi:hi≤xs.length)(cap:Nat)(hcap:hi≤cap):
  Row S w t (if cap=lo then A else A.map (·.add (lo*t.size))) ((xs.take hi).drop lo):=by
 intro hne
 have hlt:lo<hi:=by
  rcases Nat.lt_or_ge lo hi with h | h
  ·exact h
  ·exact absurd (zI (by simp;omega)) hne
 have hne':xs≠[]:=by rintro rfl;simp at hhi;omega
 obtain ⟨b,o,rfl,hh⟩:=h hne'
 rw[if_neg (by omega)]
 refine ⟨b,o+lo*t.size,by simp[Addr.add_plain],fun i x hx=>?_⟩
 rw[List.getElem?_drop,List.getElem?_take] at hx
 split at hx
 ·obtain ⟨c,h1,h2⟩:=hh (lo+i) x hx
  refine ⟨c,h1,?_⟩
  rw[Nat.add_mul] at h2
  rw[Nat.add_assoc];exact h2
 ·cases hx
theorem iW {A:AS}{a:Act}(hop:∀x,Rv G w (opd A x) (a.eval x)){d:Nat}{x:Option Operand}{n:Int}(h:gv A d x=some n):
  (x=none∧n=d)∨∃y k,x=some y∧a.eval y=.int k n:=by
 cases x with
 |none=>simp only[gv,zC] at h;exact .inl ⟨rfl,h.symm⟩
 |some y=>
  simp only[gv,Option.map_eq_some_iff] at h
  obtain ⟨⟨k,m⟩,h1,rfl⟩:=h
  exact .inr ⟨y,k,rfl,(eU h1 (hop y)).1⟩
theorem bC {w:World}{k:IntKind}{n:Int}{y:Nat}(code:BoundsCode)(h0:0≤n)(h1:n≤y):(Instr.sliceBound (.int k n) y code).run P w=.ok n.toNat w:=by
 simp[Instr.sliceBound,asIntOf,h0,h1]
theorem eK {w':World}{A:AS}{a:Act}(hop:∀x,Rv G w (opd A x) (a.eval x)){len cap:Nat}(isS:Bool){lo hi:Option Operand}{l h:Int}(hl:gv A 0 lo=some l)(hh:gv A len hi=some h)
  (h0:0≤l) (h1:l≤h) (h2:h≤len) (hlc:len≤cap):(Instr.sliceBounds isS len cap (lo.map a.eval) (hi.map a.eval) none).run P w'=.ok (l.toNat,h.toNat,cap) w':=by
 rcases iW hop hh with ⟨rfl,rfl⟩ | ⟨y,k,rfl,he⟩ <;> rcases iW (d:=0) hop hl with ⟨rfl,rfl⟩ | ⟨y',k',rfl,he'⟩
 ·simp[Instr.sliceBounds]
 ·simp[Instr.sliceBounds,he',bC (P:=P) (w:=w') (k:=k') _ h0 (show l≤(len:Int) by omega)]
 ·simp[Instr.sliceBounds,he,bC (P:=P) (w:=w') (k:=k) _ (show 0≤h by omega) (show h≤(cap:Int) by omega)]
 ·simp[Instr.sliceBounds,he,he',bC (P:=P) (w:=w') (k:=k) _ (show 0≤h by omega) (show h≤(cap:Int) by omega),
   bC (P:=P) (w:=w') (k:=k') (y:=h.toNat) _ h0 (show l≤(h.toNat:Int) by omega)]
theorem qY {w':World}{A:AS}{a:Act}(hop:∀x,Rv G w (opd A x) (a.eval x)){len cap:Nat}{lo:Option Operand}{hi:Operand}{m:Operand}{l h n:Int}{k:IntKind}(hl:gv A 0 lo=some l)(hh:gv A len (some hi)=some h)(hm:Eg (opd A m)=some (k,n))
  (h0:0≤l) (h1:l≤h) (h2:h≤n) (h3:n≤len) (hlc:len≤cap):(Instr.sliceBounds true len cap (lo.map a.eval) (some (a.eval hi)) (some (a.eval m))).run P w'=.ok (l.toNat,h.toNat,n.toNat) w':=by
 have hm':=(eU hm (hop m)).1
 rcases iW hop hh with ⟨e,_⟩ | ⟨y,k2,e,he⟩
 ·cases e
 ·cases e
  rcases iW (d:=0) hop hl with ⟨rfl,rfl⟩ | ⟨y',k',rfl,he'⟩
  ·simp[Instr.sliceBounds,he,hm',bC (P:=P) (w:=w') (k:=k) (y:=cap) _ (show 0≤n by omega) (show n≤(cap:Int) by omega),
    bC (P:=P) (w:=w') (k:=k2) (y:=n.toNat) _ (show 0≤h by omega) (show h≤(n.toNat:Int) by omega)]
  ·simp[Instr.sliceBounds,he,he',hm',bC (P:=P) (w:=w') (k:=k) (y:=cap) _ (show 0≤n by omega) (show n≤(cap:Int) by omega),
    bC (P:=P) (w:=w') (k:=k2) (y:=n.toNat) _ (show 0≤h by omega) (show h≤(n.toNat:Int) by omega),
    bC (P:=P) (w:=w') (k:=k') (y:=h.toNat) _ h0 (show l≤(h.toNat:Int) by omega)]
theorem Br {A:AS}{a:Act}(hop:∀x,Rv G w (opd A x) (a.eval x)){x:Operand}{c:Cp}(h:J6 A x=some c):Rcp G w c (a.eval x):=by
 unfold J6 at h
 split at h
 ·rename_i t
  have hx:=hop (.tmp t)
  simp only[opd] at hx
  split at h <;> rename_i e <;> first | (cases h;done) | (cases h;rw[e] at hx)
  ·exact hx
  ·exact ⟨by rw[hx.1],hx.2⟩
  ·simp only[Rcp,Rt];rw[show a.eval (.tmp t)=_ from hx]
  ·exact ⟨by rw[hx.1],hx.2⟩
  ·obtain ⟨A',cap,e1,h1,h2,h3,_⟩:=hx
   exact ⟨A',cap,by rw[e1],h1,h2,h3⟩
 ·cases h
theorem ka {A:AS}{a:Act}(hop:∀x,Rv G w (opd A x) (a.eval x)):∀{xs:List Operand} {cs:List Cp},qr A xs=some cs→All2 (Rcp G w) cs (xs.map a.eval)
 |[],_,h=>by simp only[qr,zC] at h;subst h;trivial
 |x::xs,cs,h=>by
  simp only[qr] at h
  split at h
  ·rename_i c cs' h1 h2
   cases h
   exact ⟨Br hop h1,ka hop h2⟩
  ·cases h
theorem vZ {α:Type}{cs new:List α}{off:Nat}(h:off+new.length≤cs.length):(splice cs off new).length=cs.length:=by
 simp[splice];omega
theorem All2.splice {α β:Type}{R:α→β→Prop}{as as':List α}{bs bs':List β}(off:Nat)(h:All2 R as bs)(h':All2 R as' bs'):All2 R (splice as off as') (splice bs off bs'):=by
 unfold Sym.splice
 rw[h'.length]
 exact ((h.take off).append h').append (h.drop _)
theorem xt (vs:List Value):∀(cs:Array Value) (off j:Nat),off+j+vs.length≤cs.size→
  ((vs.zipIdx j).foldl (fun cs (c,j)=>cs.setIfInBounds (off+j) c) cs).toList=splice cs.toList (off+j) vs:=by
 induction vs with
 |nil=>intro cs off j h;simp[splice]
 |cons v vs ih=>
  intro cs off j h
  simp only[zN] at h
  rw[List.zipIdx_cons,List.foldl_cons,ih _ off (j+1) (by simp;omega)]
  have hs:cs.toList.length=cs.size:=by simp
  have h1:(cs.toList.set (off+j) v).take (off+j+1)=cs.toList.take (off+j)++[v]:=by
   rw[List.take_succ_eq_append_getElem (by simp;omega)]
   simp[List.take_set_of_le]
  have h2:(cs.toList.set (off+j) v).drop (off+j+1+vs.length)=cs.toList.drop (off+j+1+vs.length):=List.drop_set_of_lt (by omega)
  simp only[splice,Array.toList_setIfInBounds,zN,← Nat.add_assoc]
  rw[h1,h2]
  simp[Nat.add_assoc,Nat.add_comm 1]
end
end Go.Proofs.YthpcdhgpplmneaaGreatDoor.Sym
namespace Go.Proofs.YthpcdhgpplmneaaGreatDoor.Sym
open Go
open Go.IntKind (i8 i16 i32 i64 u8 u16 u32 u64)
section
variable {P:Program} {tt:TT} {G:Gh} {w:World}
theorem np {α β:Type}(f:α→Sem β)(g:α→β):∀l:List α,(∀x∈l,(f x).run P w=.ok (g x) w)→(l.mapM f).run P w=.ok (l.map g) w
 |[],_=>by simp
 |x::l,h=>by
  have h1:=h x (by simp)
  have h2:=np f g l fun y hy=>h y (by simp[hy])
  simp[List.mapM_cons,h1,h2]
theorem vf {α β:Type}(f:α→Sem β)(g:α→β)(l:Array α)(h:∀x∈l.toList,(f x).run P w=.ok (g x) w):(l.mapM f).run P w=.ok (l.map g) w:=by
 have h1:=np (P:=P) (w:=w) f g l.toList h
 rw[Array.mapM_eq_mapM_toList]
 simp only[map_eq_pure_bind,Sem.run_bind,h1,Result.andThen_ok,Sem.run_pure]
 congr 1
 apply Array.ext'
 simp
theorem TIok.zero {t:Nat}{ti:TI}(h:TIok P t ti)(w:World):∃z,(zeroValue t).run P w=.ok z w∧z.cells.toList=ti.zero∧vE z=Eh ti.d:=by
 obtain ⟨i,z,hi,_,_,hz,h1,h2⟩:=h.inf
 exact ⟨z,by simp[zeroValue,bD hi,hz],h1,h2⟩
theorem TIok.zeroA {t:Nat}{ti:TI}(h:TIok P t ti):∃z,(∀w,(zeroValue t).run P w=.ok z w)∧z.cells.toList=ti.zero∧vE z=Eh ti.d:=by
 obtain ⟨i,z,hi,_,_,hz,h1,h2⟩:=h.inf
 exact ⟨z,fun w=>by simp[zeroValue,bD hi,hz],h1,h2⟩
theorem TIok.bytesOf {t:Nat}{ti:TI}(h:TIok P t ti):∃i z,P.info? t=some i∧i.size=ti.size∧i.bytes=ti.bytes∧i.zero=some z∧z.cells.toList=ti.zero:=by
 obtain ⟨i,z,hi,h1,h2,hz,h3,_⟩:=h.inf
 exact ⟨i,z,hi,h1,h2,hz,h3⟩
theorem fI (id t:Nat)(h:(tt.at t).zero.all Value.oneCell'=true):All2 (Rc G w) (iT tt id t) (tt.at t).zero:=by
 unfold iT
 split
 ·exact mi _ _ _ _ (ge _ h)
 ·exact ge _ h
theorem Rv.cells {v:V}{u:Value}(h:Rv G w v u)(hs:v.solid=true):All2 (Rc G w) v.cells u.cells.toList:=by
 cases v with
 |one c=>
  rw[xd h]
  exact ⟨h,trivial⟩
 |agg cs=>obtain ⟨vs,rfl,hv⟩:=h;exact hv
 |tup ps=>cases hs
 |any=>cases hs
theorem nj (htt:cJ P tt){A:AS}{a:Act}(hop:∀x,Rv G w (opd A x) (a.eval x)){fs:List (Nat×Nat)}(place:Nat→Option (Nat×Nat))
  (hp:∀i off t,fs[i]?=some (off,t)→place i=some (off,(tt.at t).size)):
  ∀(ps:List (Nat×Operand)) (cs cs':List C) (vs:Array Value),o7 tt A fs ps cs=some cs'→All2 (Rc G w) cs vs.toList→
   ∃vs',Instr.fill place vs (ps.map fun p=>(p.1,a.eval p.2))=some vs'∧All2 (Rc G w) cs' vs'.toList
 |[],cs,cs',vs,h,hr=>by
  simp only[o7,zC] at h
  subst h
  exact ⟨vs,by simp[Instr.fill],hr⟩
 |(i,x)::ps,cs,cs',vs,h,hr=>by
  simp only[o7] at h
  split at h
  ·cases h
  ·rename_i off t hf
   cases hb:(opd A x).solid&&(fM tt t (opd A x).cells.length&&decide (off+(opd A x).cells.length≤cs.length)) with
   |false=>rw[hb] at h;cases h
   |true=>
    rw[hb] at h
    simp only[zA,zB] at hb
    obtain ⟨hs,hz,hl⟩:=hb
    obtain ⟨hT,hsz,hpos⟩:=bO htt hz
    have hc:=(hop x).cells hs
    have hlen:=hc.length
    have hvl:=hr.length
    have hset:=xt (a.eval x).cells.toList vs off 0 (by rw[← hlen];simp at hvl ⊢;omega)
    obtain ⟨vs',h1,h2⟩:=nj htt hop place hp ps _ cs' ((a.eval x).cells.zipIdx.foldl (fun cs (c,j)=>cs.setIfInBounds (off+j) c) vs) h (by
     rw[← Array.foldl_toList,Array.toList_zipIdx]
     simp only[Nat.add_zero] at hset
     rw[hset]
     exact All2.splice off hr hc)
    refine ⟨vs',?_,h2⟩
    have hn:(a.eval x).cells.size=(tt.at t).size:=by rw[hsz];simp at hlen;omega
    have hb2:¬(vs.size<off+(tt.at t).size):=by simp at hvl;omega
    simp only[zL,Instr.fill,hp i off t hf,hn,ne_eq,not_true,decide_false,Bool.false_or,zB,gt_iff_lt,hb2,if_false]
    exact h1
def ObjOk (G:Gh)(w:World)(cs:List C)(o:Obj):Prop:=
 (∃cur el,o=.cells cur el (0,0)∧All2 (Rc G w) cs cur.toList)∨∃(s:LI) (n:Nat),cs=[.itr (s,n)]∧o=.stringIter (aF s) n∧byteR s∧s.length≤maxLen
def ObOk (G:Gh)(w:World)(A:AS):Prop:=
 ∀(key:Nat) (cs:List C),A.ob[key]?=some (some cs)→∃b o,G.mu key=some b∧w.heap[b]?=some o∧ObjOk G w cs o
theorem ObjOk.cells {cs:List C}{o:Obj}(h:ObjOk G w cs o)(hn:cs.any C.isItr=false):∃cur el,o=.cells cur el (0,0)∧All2 (Rc G w) cs cur.toList:=by
 rcases h with h | ⟨s,n,rfl,_⟩
 ·exact h
 ·simp[C.isItr] at hn
theorem ObOk.cells {A:AS}(h:ObOk G w A){key:Nat}{cs:List C}(hk:A.ob[key]?=some (some cs))(hn:cs.any C.isItr=false):∃b cur el,G.mu key=some b∧w.heap[b]?=some (.cells cur el (0,0))∧All2 (Rc G w) cs cur.toList:=by
 obtain ⟨b,o,h1,h2,h3⟩:=h key cs hk
 obtain ⟨cur,el,rfl,hr⟩:=h3.cells hn
 exact ⟨b,cur,el,h1,h2,hr⟩
theorem ObjOk.mono {G':Gh}{w':World}(hf:∀c v,Rc G w c v→Rc G' w' c v){cs:List C}{o:Obj}(h:ObjOk G w cs o):ObjOk G' w' cs o:=by
 rcases h with ⟨cur,el,rfl,hr⟩ | ⟨s,n,rfl,h2,h3,h4⟩
 ·exact .inl ⟨cur,el,rfl,hr.mono fun a _ v=>hf a v⟩
 ·exact .inr ⟨s,n,rfl,h2,h3,h4⟩
theorem ObjOk.map {G':Gh}{w':World}{f:C→C}(hf:∀c v,Rc G w c v→Rc G' w' (f c) v)(hi:∀x,f (.itr x)=.itr x){cs:List C}{o:Obj}(h:ObjOk G w cs o):ObjOk G' w' (cs.map f) o:=by
 rcases h with ⟨cur,el,rfl,hr⟩ | ⟨s,n,rfl,h2,h3,h4⟩
 ·exact .inl ⟨cur,el,rfl,hr.map_left f fun a v=>hf a v⟩
 ·exact .inr ⟨s,n,by simp[hi],h2,h3,h4⟩
theorem gA {b:Nat}{cur:Array Value}{el:TypeId}{fr:Nat×Nat}(h:w.heap[b]?=some (.cells cur el fr))(o:Nat):w.cell? ⟨b,o,none⟩=cur.toList[o]?:=by
 simp[World.cell?,h]
theorem ze {H:Nat→Prop}(htt:cJ P tt)(htab:oW G.S w){A:AS}{a:Act}(hop:∀x,Rv G w (opd A x) (a.eval x))(hob:ObOk G w A)(o:Oper){id:Nat}{chk:Bool}{v:V}
  (h:PB tt id A o.type o.op=some (chk,v)) (hc:chk=true) (hH:∀t x k j,o.op=.load t x→opd A x=.one (.ptr k j)→H k):
  ∃u,(∀w',(uy tt o.op=true→Agr H G w w')→(execOp a.eval o).run P w'=.ok (.value u) w')∧Rv G w v u:=by
 obtain ⟨dst,op,type,pos,after,guard⟩:=o
 simp only at h
 cases op <;> simp only[PB,reduceCtorEq] at h
 case move x=>
  simp only[zC,zD] at h
  obtain ⟨_,rfl⟩:=h
  exact ⟨_,fun w' hw'=>by simp[execOp],kX _ _ _ (hop x)⟩
 case assign x=>
  simp only[zC,zD] at h
  obtain ⟨_,rfl⟩:=h
  exact ⟨_,fun w' hw'=>by simp[execOp],kX _ _ _ (hop x)⟩
 case nilCheck x=>
  have hx:=hop x
  split at h <;> rename_i e <;> first | (cases h;done) | (rw[e] at hx;simp only[zC,zD] at h;obtain ⟨_,rfl⟩:=h)
  ·obtain ⟨b,hb,eu⟩:=hx
   exact ⟨_,fun w' hw'=>by simp[execOp,eu],⟨b,hb,rfl⟩⟩
  ·obtain ⟨b,o,cs,eu,h1,h2⟩:=hx
   exact ⟨_,fun w' hw'=>by simp[execOp,eu],⟨b,o,cs,rfl,h1,h2⟩⟩
  ·rename_i m c _
   obtain ⟨vs,eu,h1⟩:=hx
   refine ⟨_,fun w' hw'=>?_,⟨vs,rfl,h1⟩⟩
   cases m
   ·simp only[pg,cond_false] at eu
    simp[execOp,eu,pg]
   ·simp only[pg,cond_true] at eu
    simp[execOp,eu,pg]
 case binOp op xT x y yT=>
  have hx:=hop x
  have hy:=hop y
  obtain ⟨r,hr,hrc⟩:=yY htt h hc hx hy x y
  refine ⟨r,fun w' hw'=>?_,hrc⟩
  unfold execOp
  simp only[Sem.run_bind] at hr ⊢
  rw[hr]
  rfl
 case unOp op xT x=>
  have hx:=hop x
  split at h
  ·rename_i c e
   rw[e] at hx
   obtain ⟨d,h1,h2⟩:=Option.map_eq_some_iff.1 h
   simp only[zD] at h2
   obtain ⟨_,rfl⟩:=h2
   obtain ⟨r,hr,hrc⟩:=Dq (P:=P) h1 hx
   exact ⟨r,fun w' hw'=>by simp[execOp,hr],hrc⟩
  ·cases h
 case convert src dt x=>
  have hx:=hop x
  split at h
  ·rename_i c e
   rw[e] at hx
   obtain ⟨d,h1,h2⟩:=Option.map_eq_some_iff.1 h
   simp only[zD] at h2
   obtain ⟨_,rfl⟩:=h2
   obtain ⟨r,hr,hrc⟩:=Bt htt h1 hx
   exact ⟨r,fun w' hw'=>by simp[execOp,hr w' fun hcv=>(hw' hcv).1],hrc⟩
  ·cases h
 case fieldAddr s x f=>
  have hx:=hop x
  split at h
  ·rename_i off t sz k o hf e
   rw[e] at hx
   obtain ⟨F,fd,hF,hfd,h1,h2,hT,hsz⟩:=jB htt hf
   cases hz:sz == 0 with
   |true=>rw[hz] at h;cases h
   |false=>
    rw[hz] at h
    simp only[cond_false,zC,zD] at h
    obtain ⟨_,rfl⟩:=h
    obtain ⟨b,hb,eu⟩:=hx
    have hz':¬(tt.at t).size=0:=by rw[← hsz];simpa using hz
    refine ⟨.pointer (some ⟨b,o+off,none⟩),fun w' hw'=>?_,⟨b,hb,rfl⟩⟩
    have hs:=hT.size w'
    simp[execOp,Instr.fieldAt,run_underlying hF,hfd,eu,Instr.sureAddr,fieldPlace,hs,h2,hz',h1,Addr.add_plain]
  ·rename_i off t sz t0 d hf e
   rw[e] at hx
   obtain ⟨F,fd,hF,hfd,h1,h2,hT,hsz⟩:=jB htt hf
   split at h
   ·rename_i t' d' hs'
    cases hz:(sz == 0) || !(t'.size == sz) || !(t0.offs f == off) with
    |true=>rw[hz] at h;cases h
    |false=>
     rw[hz] at h
     simp only[cond_false,zC,zD] at h
     obtain ⟨_,rfl⟩:=h
     simp only[Bool.or_eq_false_iff,Bool.not_eq_false',beq_iff_eq,beq_eq_false_iff_ne] at hz
     obtain ⟨⟨hz1,hz2⟩,hz3⟩:=hz
     obtain ⟨b,o,cs,eu,hr,ha⟩:=hx
     obtain ⟨cs',hr',ha'⟩:=Ty.sub_sound t0 d f t' d' o cs hs' hr ha
     rw[hz3] at ha'
     have hz':¬(tt.at t).size=0:=by rw[← hsz];exact hz1
     refine ⟨.pointer (some ⟨b,o+off,none⟩),fun w' hw'=>?_,⟨b,o+off,cs',rfl,hr',ha'⟩⟩
     have hs:=hT.size w'
     simp[execOp,Instr.fieldAt,run_underlying hF,hfd,eu,Instr.sureAddr,fieldPlace,hs,h2,hz',h1,Addr.add_plain]
   ·cases h
  ·cases h
 case field s x f=>
  have hx:=hop x
  split at h
  ·rename_i off t sz cs hf e
   rw[e] at hx
   obtain ⟨F,fd,hF,hfd,h1,h2,hT,hsz⟩:=jB htt hf
   obtain ⟨v',hv',h3⟩:=Option.map_eq_some_iff.1 h
   simp only[zD] at h3
   obtain ⟨rfl,rfl⟩:=h3
   obtain ⟨vs,eu,hr⟩:=hx
   subst hsz
   obtain ⟨u,hu,hru⟩:=uV (P:=P) htt hv' hr (of_decide_eq_true hc)
   refine ⟨u,fun w' hw'=>?_,hru⟩
   simp[execOp,Instr.field,run_underlying hF,hfd,eu,asAgg,h1,h2,hu]
  ·cases h
 case indexAddr t x i=>
  have hx:=hop x
  split at h
  ·rename_i e e' t' xs own k n hd e1 e2
   rw[e1] at hx
   obtain ⟨hi,_⟩:=eU e2 (hop i)
   cases hz:(e == e')&&fM tt e t'.size with
   |false=>rw[hz] at h;cases h
   |true=>
    rw[hz] at h
    simp only[cond_true,zC,zD] at h
    obtain ⟨rfl,rfl⟩:=h
    simp only[zA,zB,beq_iff_eq] at hz hc
    obtain ⟨hee,hz⟩:=hz
    obtain ⟨hT,hsz,hpos⟩:=bO htt hz
    have hS:=(htt t (by rw[hd];simp)).sl hd
    obtain ⟨A',cap,eu,hl,hcap,hrow,_⟩:=hx
    have hn:n.toNat<xs.length:=by omega
    obtain ⟨b,o,c,rfl,h1,h2⟩:=hrow.cellAt (x:=xs.getD n.toNat t'.zero) (i:=n.toNat) (by simp[List.getD,hn])
    refine ⟨.pointer (some ⟨b,o+n.toNat*t'.size,none⟩),fun w' hw'=>?_,⟨b,o+n.toNat*t'.size,c,rfl,h1,h2⟩⟩
    simp[execOp,Instr.indexAt,hi,asIntOf,run_underlying hS,eu,hc.1,hc.2,hT.size,hsz,Addr.add_plain]
  ·rename_i e v0 e' t' xs k n hd e1 e2
   rw[e1] at hx
   obtain ⟨hi,_⟩:=eU e2 (hop i)
   cases hz:fM tt e t'.size with
   |false=>rw[hz] at h;cases h
   |true=>
    rw[hz] at h
    simp only[cond_true,zC,zD] at h
    obtain ⟨rfl,rfl⟩:=h
    simp only[zA,zB] at hc
    obtain ⟨hT,hsz,hpos⟩:=bO htt hz
    have hS:=(htt t (by rw[hd];simp)).sl hd
    obtain ⟨eu0,hx2⟩:=hx
    obtain ⟨A',cap,eu,hl,hcap,hrow'⟩:=hx2
    have hrow:Row G.S w t' A' xs:=hrow'
    simp only[List.cons.injEq,and_true] at eu
    have hn:n.toNat<List.length xs:=by omega
    obtain ⟨b,o,c,rfl,h1,h2⟩:=hrow.cellAt (x:=List.getD xs n.toNat t'.zero) (i:=n.toNat) (by simp[List.getD,hn])
    refine ⟨.pointer (some ⟨b,o+n.toNat*t'.size,none⟩),fun w' hw'=>?_,⟨b,o+n.toNat*t'.size,c,rfl,h1,h2⟩⟩
    simp[execOp,Instr.indexAt,hi,asIntOf,run_underlying hS,eu,hc.1,hc.2,hT.size,hsz,Addr.add_plain]
  ·rename_i e e' t' lo xs ia ib k n hd e1 e2
   rw[e1] at hx
   obtain ⟨hi,_⟩:=eU e2 (hop i)
   cases hz:(e == e')&&fM tt e t'.size with
   |false=>rw[hz] at h;cases h
   |true=>
    rw[hz] at h
    simp only[cond_true,zC,zD] at h
    obtain ⟨rfl,rfl⟩:=h
    simp only[zA,zB,beq_iff_eq] at hz hc
    obtain ⟨rfl,hz⟩:=hz
    obtain ⟨hT,hsz,hpos⟩:=bO htt hz
    have hS:=(htt t (by rw[hd];simp)).sl hd
    rcases hx with ⟨rfl,rfl,_⟩ | ⟨b,cap,eu,ho,cur,el,hh,h1,h2,h3,h4⟩
    ·simp at hc;omega
    ·have hn:n.toNat - lo<xs.length:=by omega
     have hlt:n.toNat<cap:=by omega
     have h0:0≤n:=by omega
     have hn2:n<(lo:Int)+(xs.length:Int):=hc.2
     refine ⟨.pointer (some ⟨b,n.toNat*t'.size,none⟩),fun w' hw'=>?_,b,cap,rfl,ho,cur,el,hh,h1,?_,h3,?_⟩
     ·have hn3:n<((lo+xs.length:Nat):Int):=by omega
      simp[execOp,Instr.indexAt,hi,asIntOf,run_underlying hS,eu,h0,hn2,hT.size,hsz,Addr.add_plain]
     ·simp;omega
     ·intro k' x' hx'
      cases k' with
      |succ k'=>simp at hx'
      |zero=>
       simp only[List.getElem?_cons_zero,zC] at hx'
       subst hx'
       have:=h4 (n.toNat - lo) (xs.getD (n.toNat - lo) t'.zero) (by simp[List.getD,hn])
       rw[show lo+(n.toNat - lo)=n.toNat by omega] at this
       simpa using this
  ·rename_i nn e k n hd e2
   obtain ⟨hi,_⟩:=eU e2 (hop i)
   split at h
   ·rename_i g
    cases hz:Pm g&&(Nat.beq nn rf.length&&(Nat.ble 2 nn&&fM tt e 1)) with
    |false=>rw[hz] at h;cases h
    |true=>
     rw[hz] at h
     simp only[cond_true,zC,zD] at h
     obtain ⟨rfl,rfl⟩:=h
     simp only[zA,zB] at hz hc
     obtain ⟨hg,hl,h2,hz⟩:=hz
     have hl:nn=rf.length:=Nat.eq_of_beq_eq_true hl
     have h2:2≤nn:=Nat.le_of_ble_eq_true h2
     obtain ⟨hT,hsz,hpos⟩:=bO htt hz
     have hS:=(htt t (by rw[hd];simp)).arr hd
     obtain ⟨m,rfl⟩:=Int.eq_ofNat_of_zero_le hc.1
     have hm:m<nn:=by have:=hc.2;omega
     obtain ⟨t1,t2⟩:=htab g m hg (by omega)
     have ha:a.eval (.global g)=.pointer (some ⟨g,0,none⟩):=rfl
     refine ⟨.pointer (some ⟨g,0+m*1,none⟩),fun w' hw'=>?_,⟨g,0+m*1,[.int .u32 (eY (m:Int))],rfl,⟨rfl,E2 _⟩,?_⟩⟩
     ·have ht:decide (nn≤1)=false:=decide_eq_false (by omega)
      simp[execOp,Instr.indexAt,hi,asIntOf,run_underlying hS,ha,Instr.sureAddr,ht,hm,hT.size,hsz,Addr.add_plain]
     ·intro j v hv
      cases j with
      |zero=>simp only[List.getElem?_cons_zero,zC] at hv;subst hv;simpa using ⟨t1,t2⟩
      |succ j=>simp at hv
   ·cases h
  ·cases h
 case index t x i=>
  have hx:=hop x
  split at h
  ·rename_i s k n hd e1 e2
   rw[e1] at hx
   obtain ⟨hi,_⟩:=eU e2 (hop i)
   simp only[zC,zD] at h
   obtain ⟨rfl,rfl⟩:=h
   simp only[zA,zB] at hc
   have hS:=(htt t (by rw[hd];simp)).str hd
   obtain ⟨eu,hb,hl⟩:=hx
   have hn:n.toNat<s.length:=by omega
   have hcr:=hb (s.getD n.toNat 0) (by simp[List.getD,hn])
   refine ⟨.int .u8 (s.getD n.toNat 0),fun w' hw'=>?_,⟨rfl,?_⟩⟩
   ·have hg:(aF s)[n.toNat]?=some (UInt8.ofNat (s.getD n.toNat 0).toNat):=by
     rw[ByteArray.getElem?_lt' _ _ (by rw[b8];exact hn)]
     congr 1
     show (aF s).data[n.toNat]'_=_
     simp[aF,List.getD,hn]
    have e3:((UInt8.ofNat (s.getD n.toNat 0).toNat).toNat:Int)=s.getD n.toNat 0:=by
     rw[UInt8.toNat_ofNat',Nat.mod_eq_of_lt (by omega)];omega
    simp only[execOp,Instr.index,Sem.run_bind,hi,asIntOf,Sem.run_pure,Result.andThen_ok,run_underlying hS,eu,if_pos hc.1,hg,e3]
   ·generalize s.getD n.toNat 0=z at hcr
    simp[bH,IntKind.min,IntKind.max,IntKind.signed,IntKind.bits];omega
  ·cases h
 case slice t x lo hi mx=>
  have hx:=hop x
  split at h
  ·rename_i e t' xs own e1
   rw[e1] at hx
   split at h
   ·rename_i e' l hh hd hl hh'
    cases hz:(e == e')&&fM tt e t'.size with
    |false=>rw[hz] at h;cases h
    |true=>
     rw[hz] at h
     simp only[cond_true,zC,zD] at h
     obtain ⟨rfl,rfl⟩:=h
     simp only[zA,zB,beq_iff_eq] at hz hc
     obtain ⟨rfl,hz⟩:=hz
     obtain ⟨hT,hsz,hpos⟩:=bO htt hz
     have hS:=(htt t (by rw[hd];simp)).sl hd
     obtain ⟨A',cap,eu,hlen,hcap,hrow,_⟩:=hx
     have hb:=fun w'=>eK (P:=P) (w:=w) (w':=w') (A:=A) (a:=a) hop true hl hh' hc.1 hc.2.1 hc.2.2 hlen
     refine ⟨.slice (if cap=l.toNat then A' else A'.map (·.add (l.toNat*t'.size))) (hh.toNat - l.toNat) (cap - l.toNat),fun w' hw'=>?_,?_⟩
     ·simp[execOp,Instr.sliceAt,Instr.slice,run_underlying hS,eu,hb,hT.size,hsz]
     ·have hcl:(cut xs l hh).length=hh.toNat - l.toNat:=by simp[cut];omega
      refine ⟨_,_,by rw[hcl],by rw[hcl];omega,by omega,?_,.inl rfl⟩
      exact hrow.cut l.toNat hh.toNat (by omega) (by omega) cap (by omega)
   ·rename_i e' l hh m hd hl hh'
    split at h
    ·rename_i hiO _ k n hm
     cases hz:(e == e')&&fM tt e t'.size with
     |false=>rw[hz] at h;cases h
     |true=>
      rw[hz] at h
      simp only[cond_true,zC,zD] at h
      obtain ⟨rfl,rfl⟩:=h
      simp only[zA,zB,beq_iff_eq] at hz hc
      obtain ⟨rfl,hz⟩:=hz
      obtain ⟨hT,hsz,hpos⟩:=bO htt hz
      have hS:=(htt t (by rw[hd];simp)).sl hd
      obtain ⟨A',cap,eu,hlen,hcap,hrow,_⟩:=hx
      have hb:=fun w'=>qY (P:=P) (w:=w) (w':=w') (A:=A) (a:=a) hop hl hh' hm hc.1 hc.2.1 hc.2.2.1 hc.2.2.2 hlen
      refine ⟨.slice (if n.toNat=l.toNat then A' else A'.map (·.add (l.toNat*t'.size))) (hh.toNat - l.toNat) (n.toNat - l.toNat),fun w' hw'=>?_,?_⟩
      ·simp[execOp,Instr.sliceAt,Instr.slice,run_underlying hS,eu,hb,hT.size,hsz]
      ·have hcl:(cut xs l hh).length=hh.toNat - l.toNat:=by simp[cut];omega
       refine ⟨_,_,by rw[hcl],by rw[hcl];omega,by omega,?_,.inl rfl⟩
       exact hrow.cut l.toNat hh.toNat (by omega) (by omega) n.toNat (by omega)
    ·cases h
   ·cases h
  ·rename_i e t' l0 xs ia ib e1
   rw[e1] at hx
   split at h
   ·rename_i e' hh hd hh'
    cases hz:(e == e')&&(fM tt e t'.size&&Nat.beq l0 0) with
    |false=>rw[hz] at h;cases h
    |true=>
     rw[hz] at h
     simp only[cond_true,zC,zD] at h
     obtain ⟨rfl,rfl⟩:=h
     simp only[zA,zB,beq_iff_eq] at hz hc
     obtain ⟨rfl,hz,hl0⟩:=hz
     have hl0:=Nat.eq_of_beq_eq_true hl0
     subst hl0
     obtain ⟨hT,hsz,hpos⟩:=bO htt hz
     have hS:=(htt t (by rw[hd];simp)).sl hd
     have hcl:(xs.take hh.toNat).length=hh.toNat:=by simp;omega
     rcases hx with ⟨_,rfl,eu⟩ | ⟨b,cap,eu,ho,cur,el,hcur,h1,h2,h3,h4⟩
     ·have hb:=fun w'=>eK (P:=P) (w:=w) (w':=w') (A:=A) (a:=a) (lo:=none) (l:=0) hop true rfl hh' (Int.le_refl _) hc.1 hc.2 (cap:=0) (by simp)
      have h0:hh=0:=by have:=hc.2;simp at this;omega
      subst h0
      refine ⟨.slice none 0 0,fun w' hw'=>?_,.inl ⟨rfl,by simp,rfl⟩⟩
      have hb':=hb w'
      simp only[Option.map_none,List.length_nil] at hb'
      simp[execOp,Instr.sliceAt,Instr.slice,run_underlying hS,eu,hb',hT.size,hsz]
     ·rw[Nat.zero_add] at eu h2
      have hb:=fun w'=>eK (P:=P) (w:=w) (w':=w') (A:=A) (a:=a) (lo:=none) (l:=0) hop true rfl hh' (Int.le_refl _) hc.1 hc.2 h2
      refine ⟨.slice (some ⟨b,0,none⟩) hh.toNat cap,fun w' hw'=>?_,.inr ⟨b,cap,by rw[hcl,Nat.zero_add],ho,cur,el,hcur,h1,by rw[hcl];omega,h3,?_⟩⟩
      ·have hb':=hb w'
       simp only[Option.map_none] at hb'
       simp[execOp,Instr.sliceAt,Instr.slice,run_underlying hS,eu,hb',hT.size,hsz,Addr.add_plain]
      ·intro k x hx
       refine h4 k x ?_
       rw[List.getElem?_take] at hx
       split at hx
       ·exact hx
       ·cases hx
   ·cases h
  ·rename_i s e1
   rw[e1] at hx
   split at h
   ·rename_i l hh hd hl hh'
    simp only[zC,zD] at h
    obtain ⟨rfl,rfl⟩:=h
    simp only[zA,zB] at hc
    have hS:=(htt t (by rw[hd];simp)).str hd
    obtain ⟨eu,hbr,hlen⟩:=hx
    have hb:=fun w'=>eK (P:=P) (w:=w) (w':=w') (A:=A) (a:=a) hop false hl hh' hc.1 hc.2.1 hc.2.2 (Nat.le_refl _)
    refine ⟨.string ((aF s).extract l.toNat hh.toNat),fun w' hw'=>?_,?_,?_,?_⟩
    ·rw[← b8] at hb
     simp[execOp,Instr.sliceAt,Instr.slice,run_underlying hS,eu,hb]
    ·congr 1
     apply ByteArray.ext
     apply Array.ext'
     simp[aF,cut,List.extract_eq_take_drop,List.map_drop,List.map_take,List.drop_take]
    ·intro c hc'
     exact hbr c (List.mem_of_mem_take (List.mem_of_mem_drop hc'))
    ·simp only[cut,List.length_drop,List.length_take];omega
   ·cases h
  ·cases h
 case load t x=>
  have hx:=hop x
  split at h
  ·rename_i k o e1
   rw[e1] at hx
   split at h
   ·rename_i cs hcs
    cases hni:cs.any C.isItr with
    |true=>rw[hni] at h;cases h
    |false=>
    rw[hni] at h
    simp only[cond_false] at h
    obtain ⟨v',hv',h3⟩:=Option.map_eq_some_iff.1 h
    simp only[zD] at h3
    obtain ⟨rfl,rfl⟩:=h3
    have hc:=of_decide_eq_true hc
    obtain ⟨b,hb,eu⟩:=hx
    obtain ⟨b',cur,el,hb',hh,hr⟩:=hob.cells hcs hni
    rw[hb] at hb';cases hb'
    have hr':All2 (Rc G w) ((cs.drop o).take (tt.at t).size) ((cur.toList.drop o).take (tt.at t).size):=(hr.drop o).take _
    obtain ⟨u,hu,hru⟩:=gx (P:=P) (b:=b) (o:=o) htt hv' hr' (by simp;omega)
    refine ⟨u,fun w' hw'=>?_,hru⟩
    have hu':=hu w' (fun j u hj=>by
     rw[gA (((hw' rfl).2 k b (hH t x k o rfl e1) hb).trans hh)]
     rw[List.getElem?_take] at hj
     split at hj
     ·rw[List.getElem?_drop] at hj;exact hj
     ·cases hj)
    simp[execOp,Instr.loadAt,eu,Instr.sureAddr,hu']
   ·cases h
  ·rename_i t' d e1
   rw[e1] at hx
   cases hz:t'.size == (tt.at t).size with
   |false=>rw[hz] at h;cases h
   |true=>
    rw[hz] at h
    obtain ⟨v',hv',h3⟩:=Option.map_eq_some_iff.1 h
    simp only[zD] at h3
    obtain ⟨_,rfl⟩:=h3
    obtain ⟨b,o,cs,eu,hr,ha⟩:=hx
    have h2:=cr t' d cs hr
    obtain ⟨u,hu,hru⟩:=gx (P:=P) (b:=b) (o:=o) htt hv' h2 (by rw[h2.length,Rt.len _ _ _ hr];simpa using hz)
    refine ⟨u,fun w' hw'=>?_,hru⟩
    have hu':=hu w' (fun j u hj=>((hw' rfl).1 _ _ (ha j u hj).1).trans (ha j u hj).2)
    simp[execOp,Instr.loadAt,eu,Instr.sureAddr,hu']
  ·cases h
 case extract x i=>
  have hx:=hop x
  split at h
  ·rename_i ps e1
   rw[e1] at hx
   obtain ⟨us,eu,hr⟩:=hx
   split at h
   ·rename_i cs hi
    simp only[zC,zD] at h
    obtain ⟨_,rfl⟩:=h
    obtain ⟨u,hu,hru⟩:=hr.get hi
    rcases hru with ⟨_,vs,e,h2⟩ | ⟨h1,_⟩
    ·exact ⟨u,fun w' hw'=>by simp[execOp,Instr.extract,eu,show us[i]?=some u by simpa using hu],⟨vs,e,h2⟩⟩
    ·cases h1
   ·rename_i c hi
    simp only[zC,zD] at h
    obtain ⟨_,rfl⟩:=h
    obtain ⟨u,hu,hru⟩:=hr.get hi
    rcases hru with ⟨h1,_⟩ | ⟨_,c',e,h2⟩
    ·cases h1
    ·simp only[List.cons.injEq,and_true] at e
     subst e
     exact ⟨u,fun w' hw'=>by simp[execOp,Instr.extract,eu,show us[i]?=some u by simpa using hu],h2⟩
   ·cases h
  ·cases h
 case build t parts=>
  split at h
  ·rename_i fs hd
   cases hz:fs.all (fun f=>(v8 tt f.2).isSome)&&(tt.at t).zero.all Value.oneCell' with
   |false=>rw[hz] at h;cases h
   |true=>
    rw[hz] at h
    obtain ⟨cs',hcs',h3⟩:=Option.map_eq_some_iff.1 h
    simp only[zD] at h3
    obtain ⟨_,rfl⟩:=h3
    simp only[zA] at hz
    have hT:=htt t (by rw[hd];simp)
    obtain ⟨F,hF,hfs⟩:=hT.st hd
    obtain ⟨z,hzr,hzc,_⟩:=hT.zeroA
    have hmap:=fun w'=>vf (P:=P) (w:=w') (fun f:Field=>do pure (f.offset,← sizeOf f.type)) (fun f=>(f.offset,(tt.at f.type).size)) F (by
     intro f hf
     have hin:(f.offset,f.type)∈fs:=by rw[← hfs];exact List.mem_map.2 ⟨f,hf,rfl⟩
     have:=List.all_eq_true.1 hz.1 _ hin
     obtain ⟨n,hn⟩:=Option.isSome_iff_exists.1 this
     obtain ⟨hTf,_⟩:=iS htt hn
     simp[hTf.size])
    have hz0:All2 (Rc G w) (iT tt id t) z.cells.toList:=by rw[hzc];exact fI _ _ hz.2
    obtain ⟨vs',h1,h2⟩:=nj htt hop ((F.map fun f=>(f.offset,(tt.at f.type).size))[·]?) (fun i off t' hi=>by
     rw[← hfs,List.getElem?_map] at hi
     obtain ⟨fd,hfd,he⟩:=Option.map_eq_some_iff.1 hi
     simp only[zD] at he
     obtain ⟨rfl,rfl⟩:=he
     simp[show F[i]?=some fd by simpa using hfd]) parts.toList (iT tt id t) cs' z.cells hcs' hz0
    refine ⟨.agg vs',fun w' hw'=>?_,⟨vs',rfl,h2⟩⟩
    have hp:(parts.map fun (i,x)=>(i,a.eval x)).toList=parts.toList.map fun p=>(p.1,a.eval p.2):=by simp
    simp only[execOp,Instr.build,Sem.run_bind,hzr,Result.andThen_ok,run_underlying hF,hmap,hp,h1,Sem.run_pure]
  ·cases h
 case makeFunc fn first captured=>
  split at h
  ·rename_i f hf
   split at h
   ·rename_i cs hcs
    simp only[zC,zD] at h
    obtain ⟨_,rfl⟩:=h
    have hfe:first = #[]:=by apply Array.ext';simpa using hf
    subst hfe
    exact ⟨_,fun w' hw'=>by simp[execOp,Instr.makeFunc];rfl,⟨_,rfl,by simpa using ka hop hcs⟩⟩
   ·cases h
  ·rename_i f x xs hf
   split at h
   ·rename_i hc
    split at h
    ·rename_i cs hcs
     simp only[zC,zD] at h
     obtain ⟨_,rfl⟩:=h
     have hce:captured = #[]:=by apply Array.ext';simpa using hc
     subst hce
     refine ⟨.func (.func f) (first.map a.eval) #[],fun w' hw'=>by simp[execOp,Instr.makeFunc],⟨_,rfl,?_⟩⟩
     have:=ka hop hcs
     rwa [← hf,← Array.toList_map] at this
    ·cases h
   ·cases h
  ·cases h
 case makeInterface t x=>
  have hx:=hop x
  split at h
  ·cases h
  ·cases h
  ·cases h
  ·rename_i ty hty hnifc hnoth _
   cases hz:(Il (tt.at t).d == (opd A x).isAgg)&&(!ty.isProd || (opd A x).isAgg) with
   |false=>rw[hz] at h;cases h
   |true=>
    rw[hz] at h
    have hag:ty.isProd=true→(opd A x).isAgg=true:=by
     intro hp
     rw[hp] at hz
     simp only[zA,Bool.not_true,Bool.false_or] at hz
     exact hz.2
    obtain ⟨d,hd,h3⟩:=Option.map_eq_some_iff.1 h
    simp only[zD] at h3
    obtain ⟨_,rfl⟩:=h3
    have hT:=htt t (fun e=>hnoth e)
    obtain ⟨D,hu,ed⟩:=hT.und
    have hcast:=gl hd hx
    refine ⟨.iface t (a.eval x),fun w' hw'=>?_,⟨a.eval x,rfl,?_,fun hp=>?_⟩⟩
    ·have:∀ms,D≠.interface ms:=by rintro ms rfl;exact hnifc ed.symm
     simp only[execOp,Instr.makeInterface,Sem.run_bind,run_underlying hu,Result.andThen_ok]
     cases D <;> first | simp | exact absurd rfl (this _)
    ·exact hcast
    ·have:=hag hp
     cases hv:opd A x <;> rw[hv] at this hx <;> simp[V.isAgg] at this
     obtain ⟨vs,e,_⟩:=hx
     exact ⟨vs,e⟩
  ·cases h
 case typeAssert x xT a' ok=>
  cases ok with
  |false=>simp only at h;cases h
  |true=>
   have hx:=hop x
   simp only at h
   split at h
   ·rename_i fs ty T t d hd hty e1
    have hTI:=htt a' (by rw[hd];simp)
    obtain ⟨D,hu,ed⟩:=hTI.und
    have hni:∀ms,D≠.interface ms:=by rintro ms rfl;rw[hd] at ed;cases ed
    rw[e1] at hx
    obtain ⟨u,eu,hr,hag⟩:=hx
    cases hz:(T == a')&&(decide (t=ty)&&ty.isProd) with
    |true=>
     rw[hz] at h
     simp only[zA,beq_iff_eq,zB] at hz
     obtain ⟨rfl,rfl,hp⟩:=hz
     simp only[cond_true,zC,zD] at h
     obtain ⟨_,rfl⟩:=h
     obtain ⟨vs,rfl⟩:=hag hp
     refine ⟨.tuple #[.agg vs,.bool true],fun w' hw'=>?_,⟨_,rfl,?_⟩⟩
     ·simp only[execOp,Instr.typeAssert,Sem.run_bind,run_underlying hu,Result.andThen_ok,eu]
      cases D <;> first | simp | exact absurd rfl (hni _)
     ·refine ⟨.inl ⟨rfl,vs,rfl,?_⟩,.inr ⟨rfl,_,rfl,rfl⟩,trivial⟩
      exact cr t d _ hr
    |false=>
     rw[hz] at h
     simp only[cond_false] at h
     cases hz2 : !(T == a')&&(tt.at a').zero.all Value.oneCell' with
     |false=>rw[hz2] at h;cases h
     |true=>
      rw[hz2] at h
      simp only[zA,Bool.not_eq_true',beq_eq_false_iff_ne,ne_eq] at hz2
      simp only[cond_true,zC,zD] at h
      obtain ⟨_,rfl⟩:=h
      obtain ⟨z,hz3,hzc,hza⟩:=hTI.zeroA
      rw[hd] at hza
      have:∃vs,z=.agg vs:=by cases z <;> simp[vE,Eh] at hza;exact ⟨_,rfl⟩
      obtain ⟨vs,rfl⟩:=this
      refine ⟨.tuple #[.agg vs,.bool false],fun w' hw'=>?_,⟨_,rfl,?_⟩⟩
      ·simp only[execOp,Instr.typeAssert,Sem.run_bind,run_underlying hu,Result.andThen_ok,eu]
       cases D <;> first | simp[hz2.1,hz3] | exact absurd rfl (hni _)
      ·refine ⟨.inl ⟨rfl,vs,rfl,?_⟩,.inr ⟨rfl,_,rfl,rfl⟩,trivial⟩
       have:=fI (G:=G) (w:=w) id a' hz2.2
       rw[← hzc] at this
       exact this
   ·rename_i fs ty hd hty e1
    have hTI:=htt a' (by rw[hd];simp)
    obtain ⟨D,hu,ed⟩:=hTI.und
    have hni:∀ms,D≠.interface ms:=by rintro ms rfl;rw[hd] at ed;cases ed
    rw[e1] at hx
    have eu:a.eval x=.nilIface:=hx
    cases hz2:(tt.at a').zero.all Value.oneCell' with
    |false=>rw[hz2] at h;cases h
    |true=>
     rw[hz2] at h
     simp only[cond_true,zC,zD] at h
     obtain ⟨_,rfl⟩:=h
     obtain ⟨z,hz3,hzc,hza⟩:=hTI.zeroA
     rw[hd] at hza
     have:∃vs,z=.agg vs:=by cases z <;> simp[vE,Eh] at hza;exact ⟨_,rfl⟩
     obtain ⟨vs,rfl⟩:=this
     refine ⟨.tuple #[.agg vs,.bool false],fun w' hw'=>?_,⟨_,rfl,?_⟩⟩
     ·simp only[execOp,Instr.typeAssert,Sem.run_bind,run_underlying hu,Result.andThen_ok,eu]
      cases D <;> first | simp[hz3] | exact absurd rfl (hni _)
     ·refine ⟨.inl ⟨rfl,vs,rfl,?_⟩,.inr ⟨rfl,_,rfl,rfl⟩,trivial⟩
      have:=fI (G:=G) (w:=w) id a' hz2
      rw[← hzc] at this
      exact this
   ·cases h
 case call c=>
  obtain ⟨callee,args,argTypes⟩:=c
  simp only at h
  split at h
  ·split at h
   ·rename_i x t ts hargs hts
    have hx:=hop x
    have ea:args = #[x]:=by apply Array.ext';simpa using hargs
    have et:argTypes[0]?=some t:=by
     have:=congrArg (·[0]?) hts
     simpa using this
    subst ea
    split at h <;> rename_i hd e1 <;> first | (cases h;done) | (rw[e1] at hx;simp only[zC,zD] at h;obtain ⟨_,rfl⟩:=h)
    ·have hS:=(htt t (by rw[hd];simp)).str hd
     obtain ⟨eu,_,hl⟩:=hx
     refine ⟨_,fun w' hw'=>by simp[execOp,resolve,invoke,builtin,Builtin.len_,et,eu,run_underlying hS,goInt,b8],rfl,?_⟩
     simp only[bH,IntKind.min,IntKind.max,IntKind.signed,IntKind.bits,maxLen] at hl ⊢
     simp;omega
    ·have hS:=(htt t (by rw[hd];simp)).sl hd
     obtain ⟨A',cap,eu,h1,h2,_⟩:=hx
     refine ⟨_,fun w' hw'=>by simp[execOp,resolve,invoke,builtin,Builtin.len_,et,eu,run_underlying hS,goInt],rfl,?_⟩
     simp only[bH,IntKind.min,IntKind.max,IntKind.signed,IntKind.bits,maxLen] at h2 ⊢
     simp;omega
    ·have hS:=(htt t (by rw[hd];simp)).sl hd
     have eu:a.eval x=.slice none 0 0:=hx
     refine ⟨_,fun w' hw'=>by simp[execOp,resolve,invoke,builtin,Builtin.len_,et,eu,run_underlying hS,goInt],rfl,?_⟩
     simp[bH,IntKind.min,IntKind.max,IntKind.signed,IntKind.bits]
    ·have hS:=(htt t (by rw[hd];simp)).sl hd
     obtain ⟨eu0,hx2⟩:=hx
     obtain ⟨A',cap,eu,h1,h2,_⟩:=hx2
     simp only[List.cons.injEq,and_true] at eu
     refine ⟨_,fun w' hw'=>by simp[execOp,resolve,invoke,builtin,Builtin.len_,et,eu,run_underlying hS,goInt],rfl,?_⟩
     simp only[bH,IntKind.min,IntKind.max,IntKind.signed,IntKind.bits,maxLen] at h2 ⊢
     simp;omega
    ·have hS:=(htt t (by rw[hd];simp)).sl hd
     rcases hx with ⟨rfl,rfl,eu⟩ | ⟨b,cap,eu,ho,cur,el,hh,h1,h2,h3,h4⟩
     ·refine ⟨_,fun w' hw'=>by simp[execOp,resolve,invoke,builtin,Builtin.len_,et,eu,run_underlying hS,goInt],rfl,?_⟩
      simp[bH,IntKind.min,IntKind.max,IntKind.signed,IntKind.bits]
     ·refine ⟨_,fun w' hw'=>by simp[execOp,resolve,invoke,builtin,Builtin.len_,et,eu,run_underlying hS,goInt],rfl,?_⟩
      simp only[bH,IntKind.min,IntKind.max,IntKind.signed,IntKind.bits,maxLen] at h3 ⊢
      simp;omega
   ·cases h
  ·split at h
   ·rename_i x y hargs
    have hx:=hop x
    have hy:=hop y
    have ea:args = #[x,y]:=by apply Array.ext';simpa using hargs
    subst ea
    split at h
    ·rename_i k n k' m e1 e2
     rw[e1] at hx;rw[e2] at hy
     cases hk:decide (k=k') with
     |false=>rw[hk] at h;cases h
     |true=>
      rw[hk] at h
      obtain rfl:=of_decide_eq_true hk
      simp only[cond_true,zC,zD] at h
      obtain ⟨_,rfl⟩:=h
      exact ⟨_,fun w' hw'=>by simp[execOp,resolve,invoke,builtin,Builtin.min_,hx.1,hy.1,Builtin.min2,List.foldlM,pS],rfl,by unfold pS;split;exact hy.2;exact hx.2⟩
    ·cases h
   ·cases h
  ·split at h
   ·rename_i x y hargs
    have hx:=hop x
    have hy:=hop y
    have ea:args = #[x,y]:=by apply Array.ext';simpa using hargs
    subst ea
    split at h
    ·rename_i k n k' m e1 e2
     rw[e1] at hx;rw[e2] at hy
     cases hk:decide (k=k') with
     |false=>rw[hk] at h;cases h
     |true=>
      rw[hk] at h
      obtain rfl:=of_decide_eq_true hk
      simp only[cond_true,zC,zD] at h
      obtain ⟨_,rfl⟩:=h
      exact ⟨_,fun w' hw'=>by simp[execOp,resolve,invoke,builtin,Builtin.max_,hx.1,hy.1,Builtin.max2,List.foldlM,cp],rfl,by unfold cp;split;exact hy.2;exact hx.2⟩
    ·cases h
   ·cases h
  ·cases h
theorem qy (htt:cJ P tt)(htab:oW G.S w){A:AS}{a:Act}(hop:∀x,Rv G w (opd A x) (a.eval x))(hob:ObOk G w A)(o:Oper){id:Nat}{chk:Bool}{v:V}
  (h:PB tt id A o.type o.op=some (chk,v)) (hc:chk=true):∃u,(execOp a.eval o).run P w=.ok (.value u) w∧Rv G w v u:=by
 obtain ⟨u,h1,h2⟩:=ze (H:=fun _=>True) htt htab hop hob o h hc fun _ _ _ _ _ _=>trivial
 exact ⟨u,h1 w (fun _=>Agr.refl _ _ _),h2⟩
end
end Go.Proofs.YthpcdhgpplmneaaGreatDoor.Sym
namespace Go.Proofs.YthpcdhgpplmneaaGreatDoor.Sym
open Go
structure Fra where
 w0:World
 X:Nat→Prop
 S0:Nat→Nat→Prop
 mu0:Nat→Option Nat
def Fra.mine (F:Fra)(b:Nat):Prop:=F.w0.heap.size≤b∨F.X b
structure Fra.ok (F:Fra) (w:World):Prop where
 os:w.os=F.w0.os
 tape:w.tape=F.w0.tape
 output:w.output=F.w0.output
 size:F.w0.heap.size≤w.heap.size
 block:∀k,k<F.w0.heap.size→¬ F.X k→w.heap[k]?=F.w0.heap[k]?
structure GhOk (F:Fra) (G:Gh) (w:World):Prop where
 mu:∀key b,G.mu key=some b→F.mine b∧(∀o,¬ G.S b o)∧b<w.heap.size
 muI:∀key key' b,G.mu key=some b→G.mu key'=some b→key=key'
 ow:∀i b l,G.ow i=some (b,l)→(∀o,l≤o→¬ G.S b o)∧F.mine b∧b<w.heap.size∧∀key,G.mu key≠some b
 owI:∀i j b l l',G.ow i=some (b,l)→G.ow j=some (b,l')→i=j
 sB:∀b o,G.S b o→b<w.heap.size
 fr:F.ok w
 sub:∀b o,F.S0 b o→G.S b o
 sup:∀b o,G.S b o→F.S0 b o∨F.mine b
 keep:∀b o,F.S0 b o→w.cell? ⟨b,o,none⟩=F.w0.cell? ⟨b,o,none⟩
 fix_:∀key b,F.mu0 key=some b→G.mu key=some b
 tab:oW F.S0 F.w0
theorem GhOk.tabs {F:Fra}{G:Gh}{w:World}(h:GhOk F G w):oW G.S w:=fun g i hg hi=>⟨h.sub _ _ (h.tab g i hg hi).1,(h.keep _ _ (h.tab g i hg hi).1).trans (h.tab g i hg hi).2⟩
structure Rel (F:Fra) (G:Gh) (A:AS) (ts:Array Value) (cst:List (Array Value)) (w:World):Prop where
 tm:All2 (Rv G w) A.tm ts.toList
 stk:All2 (fun vs (t:Array Value)=>All2 (Rv G w) vs t.toList) A.stk cst
 ob:ObOk G w A
 gh:GhOk F G w
theorem Rv.any {G:Gh}{w:World}{v:Value}:Rv G w .any v:=trivial
theorem Rel.get {F:Fra}{G:Gh}{A:AS}{ts:Array Value}{cst:List (Array Value)}{w:World}(R:Rel F G A ts cst w)(t:Nat):Rv G w (A.get t) (ts.getD t undef):=by
 unfold AS.get
 cases h:A.tm[t]? with
 |none=>rw[List.getD_eq_getElem?_getD,h];trivial
 |some v=>
  obtain ⟨u,hu,hr⟩:=R.tm.get h
  have:ts.getD t undef=u:=by
   have hu':ts[t]?=some u:=by simpa using hu
   simp[Array.getD_eq_getD_getElem?,hu']
  rw[List.getD_eq_getElem?_getD,h,this]
  exact hr
theorem Rel.opd {F:Fra}{G:Gh}{A:AS}{a:Act}{cst:List (Array Value)}{w:World}(R:Rel F G A a.tmps cst w)(x:Operand):Rv G w (opd A x) (a.eval x):=by
 cases x with
 |tmp t=>exact R.get t
 |const v=>exact AN v
 |global g=>trivial
 |func f=>exact ⟨#[],rfl,trivial⟩
theorem AS.map_ob {f:C→C}{A:AS}{key:Nat}{cs:List C}(h:(A.map f).ob[key]?=some (some cs)):∃cs0,A.ob[key]?=some (some cs0)∧cs=cs0.map f:=by
 simp only[AS.map,List.getElem?_map] at h
 cases h0:A.ob[key]? with
 |none=>rw[h0] at h;cases h
 |some o=>
  rw[h0] at h
  cases o with
  |none=>cases h
  |some cs0=>
   simp only[Option.map_some,zC] at h
   exact ⟨cs0,rfl,h.symm⟩
theorem ObOk.map {G G':Gh}{w w':World}{A:AS}{f:C→C}(hf:∀c v,Rc G w c v→Rc G' w' (f c) v)(hi:∀x,f (.itr x)=.itr x)
  (hb:∀key b,G.mu key=some b→G'.mu key=some b∧w'.heap[b]?=w.heap[b]?) (h:ObOk G w A):ObOk G' w' (A.map f):=by
 intro key cs hk
 obtain ⟨cs0,h0,rfl⟩:=AS.map_ob hk
 obtain ⟨b,o,hm,hh,hr⟩:=h key cs0 h0
 obtain ⟨h1,h2⟩:=hb key b hm
 exact ⟨b,o,h1,h2.trans hh,hr.map hf hi⟩
theorem Rel.map {F:Fra}{G G':Gh}{A:AS}{ts:Array Value}{cst:List (Array Value)}{w w':World}(R:Rel F G A ts cst w){f:C→C}(hf:∀c v,Rc G w c v→Rc G' w' (f c) v)(hi:∀x,f (.itr x)=.itr x)
  (hb:∀key b,G.mu key=some b→G'.mu key=some b∧w'.heap[b]?=w.heap[b]?) (hg:GhOk F G' w'):Rel F G' (A.map f) ts cst w':=
 ⟨R.tm.map_left _ fun a b h=>Rv.map hf h,R.stk.map_left _ fun a b h=>h.map_left _ fun a b h=>Rv.map hf h,R.ob.map hf hi hb,hg⟩
theorem V.map_id (v:V):v.map id=v:=by
 cases v with
 |one c=>rfl
 |agg cs=>simp[V.map]
 |tup ps=>simp[V.map]
 |any=>rfl
theorem AS.map_id (A:AS):A.map id=A:=by
 obtain ⟨tm,stk,ob⟩:=A
 have e:V.map id=id:=funext V.map_id
 simp[AS.map,e]
theorem Rel.put {F:Fra}{G:Gh}{A:AS}{ts:Array Value}{cst:List (Array Value)}{w:World}(R:Rel F G A ts cst w){v:V}{u:Value}(h:Rv G w v u)(d:Nat):Rel F G (A.put (some d) v) (ts.setIfInBounds d u) cst w:=
 ⟨by simpa [AS.put] using R.tm.set d h,R.stk,R.ob,R.gh⟩
theorem Rel.puts {F:Fra}{G:Gh}{A:AS}{a:Act}{cst:List (Array Value)}{w:World}(R:Rel F G A a.tmps cst w){v:V}{u:Value}(h:Rv G w v u)(dst:Option Tmp):Rel F G (A.put dst v) (a.put dst u).tmps cst w:=by
 cases dst with
 |none=>exact R
 |some d=>exact R.put h d
theorem Fra.ok.alloc {F:Fra}{w w':World}(h:F.ok w)(ho:w'.os=w.os)(ht:w'.tape=w.tape)(hp:w'.output=w.output)(hs:w.heap.size≤w'.heap.size)(hb:∀k,k<w.heap.size→w'.heap[k]?=w.heap[k]?):F.ok w':=
 ⟨ho.trans h.os,ht.trans h.tape,hp.trans h.output,Nat.le_trans h.size hs,fun k hk hx=>(hb k (Nat.lt_of_lt_of_le hk h.size)).trans (h.block k hk hx)⟩
structure Grew (w w':World):Prop where
 os:w'.os=w.os
 tape:w'.tape=w.tape
 output:w'.output=w.output
 size:w'.heap.size=w.heap.size+1
 old:∀k,k<w.heap.size→w'.heap[k]?=w.heap[k]?
theorem Grew.alloc (w:World)(o:Obj):Grew w (w.alloc o):=⟨rfl,rfl,rfl,by simp,fun k hk=>heap_alloc_old w o hk⟩
theorem Grew.drewAlloc (w:World)(o:Obj):Grew w (w.drew.alloc o):=⟨rfl,rfl,rfl,by simp,fun k hk=>heap_alloc_old w.drew o hk⟩
theorem Grew.cell {w w':World}(g:Grew w w'){b o:Nat}(hb:b<w.heap.size):w'.cell? ⟨b,o,none⟩=w.cell? ⟨b,o,none⟩:=by
 simp[World.cell?,g.old b hb]
def Gh.fresh (G:Gh)(b n id:Nat):Gh:=⟨fun b' o=>G.S b' o∨(b'=b∧o<n),G.mu,fun j=>if j=id then some (b,n) else G.ow j⟩
theorem GhOk.fresh {F:Fra}{G:Gh}{w w':World}(h:GhOk F G w)(g:Grew w w')(n id:Nat):GhOk F (G.fresh w.heap.size n id) w' where
 mu:=fun key b hb=>by
  obtain ⟨h1,h2,h3⟩:=h.mu key b hb
  refine ⟨h1,fun o ho=>?_,by rw[g.size];omega⟩
  rcases ho with ho | ⟨rfl,_⟩
  ·exact h2 o ho
  ·omega
 muI:=h.muI
 ow:=fun i b l hi=>by
  simp only[Gh.fresh] at hi ⊢
  split at hi
  ·cases hi
   refine ⟨fun o ho hs=>?_,.inl h.fr.size,by rw[g.size];omega,fun key hk=>by have:=(h.mu key _ hk).2.2;omega⟩
   rcases hs with hs | ⟨_,hs⟩
   ·have:=h.sB _ _ hs;omega
   ·omega
  ·obtain ⟨h1,h2,h3,h4⟩:=h.ow i b l hi
   refine ⟨fun o ho hs=>?_,h2,by rw[g.size];omega,h4⟩
   rcases hs with hs | ⟨rfl,_⟩
   ·exact h1 o ho hs
   ·omega
 owI:=fun i j b l l' hi hj=>by
  simp only[Gh.fresh] at hi hj
  split at hi <;> split at hj
  ·rename_i e1 e2;exact e1.trans e2.symm
  ·cases hi;have:=(h.ow j _ _ hj).2.2.1;omega
  ·cases hj;have:=(h.ow i _ _ hi).2.2.1;omega
  ·exact h.owI i j b l l' hi hj
 sB:=fun b o hs=>by
  rw[g.size]
  rcases hs with hs | ⟨rfl,_⟩
  ·have:=h.sB _ _ hs;omega
  ·omega
 fr:=h.fr.alloc g.os g.tape g.output (by rw[g.size];omega) g.old
 sub:=fun b o hs=>.inl (h.sub b o hs)
 sup:=fun b o hs=>by
  rcases hs with hs | ⟨rfl,_⟩
  ·exact h.sup b o hs
  ·exact .inr (.inl h.fr.size)
 keep:=fun b o hs=>(g.cell (h.sB _ _ (h.sub b o hs))).trans (h.keep b o hs)
 fix_:=h.fix_
 tab:=h.tab
theorem Goes.fresh {F:Fra}{G:Gh}{w w':World}(h:GhOk F G w)(g:Grew w w')(n id:Nat):Goes G (G.fresh w.heap.size n id) w w' none (some id) where
 kept:=fun b o hs=>⟨.inl hs,g.cell (h.sB _ _ hs)⟩
 mu:=fun _ _ h _=>h
 ow:=fun j b l hj hne=>by
  have:j≠id:=fun e=>hne (by rw[e])
  exact ⟨by simp[Gh.fresh,this,hj],g.old b (h.ow j b l hj).2.2.1⟩
theorem Rel.fresh {F:Fra}{G:Gh}{A:AS}{ts:Array Value}{cst:List (Array Value)}{w w':World}(R:Rel F G A ts cst w)(g:Grew w w')(n id:Nat):Rel F (G.fresh w.heap.size n id) (A.map (C.noOwn id)) ts cst w':=
 R.map (fun c v h=>h.noOwn (Goes.fresh R.gh g n id)) (fun _=>rfl) (fun key b hb=>⟨hb,g.old b (R.gh.mu key b hb).2.2⟩) (R.gh.fresh g n id)
def Gh.newOb (G:Gh)(key b:Nat):Gh:=⟨G.S,fun k=>if k=key then some b else G.mu k,G.ow⟩
theorem GhOk.newOb {F:Fra}{G:Gh}{w w':World}(h:GhOk F G w)(g:Grew w w')(key:Nat)(hk0:F.mu0 key=none):GhOk F (G.newOb key w.heap.size) w' where
 mu:=fun k b hb=>by
  simp only[Gh.newOb] at hb ⊢
  split at hb
  ·cases hb
   exact ⟨.inl h.fr.size,fun o hs=>by have:=h.sB _ _ hs;omega,by rw[g.size];omega⟩
  ·obtain ⟨h1,h2,h3⟩:=h.mu k b hb
   exact ⟨h1,h2,by rw[g.size];omega⟩
 muI:=fun k k' b hk hk'=>by
  simp only[Gh.newOb] at hk hk'
  split at hk <;> split at hk'
  ·rename_i e1 e2;exact e1.trans e2.symm
  ·cases hk;have:=(h.mu _ _ hk').2.2;omega
  ·cases hk';have:=(h.mu _ _ hk).2.2;omega
  ·exact h.muI k k' b hk hk'
 ow:=fun i b l hi=>by
  obtain ⟨h1,h2,h3,h4⟩:=h.ow i b l hi
  refine ⟨h1,h2,by rw[g.size];omega,fun k hk=>?_⟩
  simp only[Gh.newOb] at hk
  split at hk
  ·cases hk;omega
  ·exact h4 k hk
 owI:=h.owI
 sB:=fun b o hs=>by rw[g.size];have:=h.sB _ _ hs;omega
 fr:=h.fr.alloc g.os g.tape g.output (by rw[g.size];omega) g.old
 sub:=h.sub
 sup:=h.sup
 keep:=fun b o hs=>(g.cell (h.sB _ _ (h.sub b o hs))).trans (h.keep b o hs)
 fix_:=fun k b hb=>by
  have:k≠key:=by rintro rfl;rw[hk0] at hb;cases hb
  simp[Gh.newOb,this,h.fix_ k b hb]
 tab:=h.tab
theorem Goes.newOb {F:Fra}{G:Gh}{w w':World}(h:GhOk F G w)(g:Grew w w')(key:Nat):Goes G (G.newOb key w.heap.size) w w' (some key) none where
 kept:=fun b o hs=>⟨hs,g.cell (h.sB _ _ hs)⟩
 mu:=fun k b hk hne=>by
  have:k≠key:=fun e=>hne (by rw[e])
  simp[Gh.newOb,this,hk]
 ow:=fun j b l hj _=>⟨hj,g.old b (h.ow j b l hj).2.2.1⟩
theorem lc {α:Type}(l:List (Option α))(key k:Nat)(x y:α):((l++List.replicate (key+1 - l.length) none).set key (some x))[k]?=some (some y)→(k=key∧y=x)∨(k≠key∧l[k]?=some (some y)):=by
 intro h
 rw[List.getElem?_set] at h
 split at h
 ·rename_i e
  split at h
  ·cases h;exact .inl ⟨e.symm,rfl⟩
  ·cases h
 ·rename_i hne
  right
  refine ⟨Ne.symm hne,?_⟩
  rw[List.getElem?_append] at h
  split at h
  ·exact h
  ·rw[List.getElem?_replicate] at h
   split at h
   ·cases h
   ·cases h
theorem j3 (key:Nat)(x:LI×Int):C.noKey key (.itr x)=.itr x:=by simp[C.noKey,C.hasKey]
theorem Rel.newObj {F:Fra}{G:Gh}{A:AS}{ts:Array Value}{cst:List (Array Value)}{w w':World}(R:Rel F G A ts cst w)(g:Grew w w')(key:Nat)(hk0:F.mu0 key=none){cs:List C}{o:Obj}
  (hh:w'.heap[w.heap.size]?=some o) (hr:ObjOk (G.newOb key w.heap.size) w' cs o):Rel F (G.newOb key w.heap.size) (A.newOb key cs) ts cst w':=by
 have go:=Goes.newOb R.gh g key
 have hf:∀c v,Rc G w c v→Rc (G.newOb key w.heap.size) w' (c.noKey key) v:=fun c v h=>h.noKey go
 refine ⟨R.tm.map_left _ fun a b h=>Rv.map hf h,R.stk.map_left _ fun a b h=>h.map_left _ fun a b h=>Rv.map hf h,?_,R.gh.newOb g key hk0⟩
 intro k cs' hk
 simp only[AS.newOb] at hk
 rcases lc _ key k cs cs' hk with ⟨rfl,rfl⟩ | ⟨hne,hk'⟩
 ·exact ⟨w.heap.size,o,by simp[Gh.newOb],hh,hr⟩
 ·obtain ⟨cs0,h0,rfl⟩:=AS.map_ob hk'
  obtain ⟨b,o',hm,hh',hr'⟩:=R.ob k cs0 h0
  exact ⟨b,o',by simp[Gh.newOb,hne,hm],(g.old b (R.gh.mu k b hm).2.2).trans hh',hr'.map hf (j3 key)⟩
theorem Rel.newOb {F:Fra}{G:Gh}{A:AS}{ts:Array Value}{cst:List (Array Value)}{w w':World}(R:Rel F G A ts cst w)(g:Grew w w')(key:Nat)(hk0:F.mu0 key=none){cs:List C}{cur:Array Value}{el:TypeId}
  (hh:w'.heap[w.heap.size]?=some (.cells cur el (0,0))) (hr:All2 (Rc (G.newOb key w.heap.size) w') cs cur.toList):Rel F (G.newOb key w.heap.size) (A.newOb key cs) ts cst w':=
 R.newObj g key hk0 hh (.inl ⟨cur,el,rfl,hr⟩)
structure Wrote (w w':World) (b:Nat):Prop where
 os:w'.os=w.os
 tape:w'.tape=w.tape
 output:w'.output=w.output
 size:w'.heap.size=w.heap.size
 other:∀k,k≠b→w'.heap[k]?=w.heap[k]?
theorem Wrote.setRow (w:World)(b:Nat)(cs:Array Value):Wrote w (w.setRow b cs) b:=⟨rfl,rfl,rfl,by simp,fun k hk=>setRow_other w b k cs hk⟩
theorem Fra.ok.wrote {F:Fra}{w w':World}{b:Nat}(h:F.ok w)(g:Wrote w w' b)(hm:F.mine b):F.ok w':=
 ⟨g.os.trans h.os,g.tape.trans h.tape,g.output.trans h.output,by rw[g.size];exact h.size,fun k hk hx=>by
  have:k≠b:=by rintro rfl;rcases hm with hm | hm;omega;exact hx hm
  exact (g.other k this).trans (h.block k hk hx)⟩
theorem GhOk.store {F:Fra}{G:Gh}{w w':World}{b key:Nat}(h:GhOk F G w)(g:Wrote w w' b)(hk:G.mu key=some b):GhOk F G w' where
 mu:=fun k b' hb=>by rw[g.size];exact h.mu k b' hb
 muI:=h.muI
 ow:=fun i b' l hi=>by rw[g.size];exact h.ow i b' l hi
 owI:=h.owI
 sB:=fun b' o hs=>by rw[g.size];exact h.sB b' o hs
 fr:=h.fr.wrote g (h.mu key b hk).1
 sub:=h.sub
 sup:=h.sup
 keep:=fun b' o hs=>by
  have:b'≠b:=by rintro rfl;exact (h.mu key _ hk).2.1 o (h.sub _ o hs)
  rw[← h.keep b' o hs]
  simp[World.cell?,g.other b' this]
 fix_:=h.fix_
 tab:=h.tab
theorem Goes.store {F:Fra}{G:Gh}{w w':World}{b key:Nat}(h:GhOk F G w)(hk:G.mu key=some b)(g:Wrote w w' b):Goes G G w w' none none where
 kept:=fun b' o hs=>⟨hs,by
  have:b'≠b:=by rintro rfl;exact (h.mu key _ hk).2.1 o hs
  simp[World.cell?,g.other b' this]⟩
 mu:=fun _ _ h _=>h
 ow:=fun j b' l hj _=>⟨hj,g.other b' (by rintro rfl;exact (h.ow j _ _ hj).2.2.2 key hk)⟩
theorem Rel.storeObj {F:Fra}{G:Gh}{A:AS}{ts:Array Value}{cst:List (Array Value)}{w w':World}(R:Rel F G A ts cst w){key b:Nat}(hk:G.mu key=some b)(g:Wrote w w' b){cs:List C}{o:Obj}
  (hh:w'.heap[b]?=some o) (hr:ObjOk G w cs o):Rel F G { A with ob:=A.ob.set key (some cs) } ts cst w':=by
 have go:=Goes.store R.gh hk g
 have hf:∀c v,Rc G w c v→Rc G w' c v:=fun c v h=>h.goes go (fun _ e=>by cases e) (fun _ e=>by cases e)
 have hv:∀v u,Rv G w v u→Rv G w' v u:=fun v u h=>h.goes go
 refine ⟨R.tm.mono fun a _ b=>hv a b,R.stk.mono fun a _ b h=>h.mono fun a _ b=>hv a b,?_,R.gh.store g hk⟩
 intro k cs' hk'
 simp only[List.getElem?_set] at hk'
 split at hk'
 ·rename_i e
  split at hk'
  ·cases hk'
   subst e
   exact ⟨b,o,hk,hh,hr.mono hf⟩
  ·cases hk'
 ·rename_i hne
  obtain ⟨b',o',hm,hh',hr'⟩:=R.ob k cs' hk'
  have:b'≠b:=by rintro rfl;exact hne (R.gh.muI _ _ _ hk hm)
  exact ⟨b',o',hm,(g.other b' this).trans hh',hr'.mono hf⟩
theorem Rel.store {F:Fra}{G:Gh}{A:AS}{ts:Array Value}{cst:List (Array Value)}{w w':World}(R:Rel F G A ts cst w){key b:Nat}(hk:G.mu key=some b)(g:Wrote w w' b){cs:List C}{cur:Array Value}{el:TypeId}
  (hh:w'.heap[b]?=some (.cells cur el (0,0))) (hr:All2 (Rc G w) cs cur.toList):Rel F G { A with ob:=A.ob.set key (some cs) } ts cst w':=
 R.storeObj hk g hh (.inl ⟨cur,el,rfl,hr⟩)
def Gh.more (G:Gh)(b n id:Nat):Gh:=⟨fun b' o=>G.S b' o∨(b'=b∧o<n),G.mu,fun j=>if j=id then some (b,n) else G.ow j⟩
theorem GhOk.more {F:Fra}{G:Gh}{w w':World}{b l n id:Nat}(h:GhOk F G w)(hi:G.ow id=some (b,l))(hln:l≤n)(g:Wrote w w' b)(hc:∀o,o<l→w'.cell? ⟨b,o,none⟩=w.cell? ⟨b,o,none⟩):GhOk F (G.more b n id) w' where
 mu:=fun key b' hb=>by
  obtain ⟨h1,h2,h3⟩:=h.mu key b' hb
  refine ⟨h1,fun o ho=>?_,by rw[g.size];exact h3⟩
  rcases ho with ho | ⟨rfl,_⟩
  ·exact h2 o ho
  ·exact (h.ow id _ _ hi).2.2.2 key hb
 muI:=h.muI
 ow:=fun i b' l' hi'=>by
  simp only[Gh.more] at hi' ⊢
  obtain ⟨k1,k2,k3,k4⟩:=h.ow id b l hi
  split at hi'
  ·cases hi'
   refine ⟨fun o ho hs=>?_,k2,by rw[g.size];exact k3,k4⟩
   rcases hs with hs | ⟨_,hs⟩
   ·exact k1 o (by omega) hs
   ·omega
  ·rename_i hne
   obtain ⟨h1,h2,h3,h4⟩:=h.ow i b' l' hi'
   refine ⟨fun o ho hs=>?_,h2,by rw[g.size];exact h3,h4⟩
   rcases hs with hs | ⟨rfl,_⟩
   ·exact h1 o ho hs
   ·exact hne (h.owI _ _ _ _ _ hi' hi)
 owI:=fun i j b' l1 l2 h1 h2=>by
  simp only[Gh.more] at h1 h2
  split at h1 <;> split at h2
  ·rename_i e1 e2;exact e1.trans e2.symm
  ·rename_i e1 e2;cases h1;exact absurd (h.owI _ _ _ _ _ h2 hi) e2
  ·rename_i e1 e2;cases h2;exact absurd (h.owI _ _ _ _ _ h1 hi) e1
  ·exact h.owI i j b' l1 l2 h1 h2
 sB:=fun b' o hs=>by
  rw[g.size]
  rcases hs with hs | ⟨rfl,_⟩
  ·exact h.sB _ _ hs
  ·exact (h.ow id _ _ hi).2.2.1
 fr:=h.fr.wrote g (h.ow id _ _ hi).2.1
 sub:=fun b' o hs=>.inl (h.sub b' o hs)
 sup:=fun b' o hs=>by
  rcases hs with hs | ⟨rfl,_⟩
  ·exact h.sup b' o hs
  ·exact .inr (h.ow id _ _ hi).2.1
 keep:=fun b' o hs=>by
  rw[← h.keep b' o hs]
  by_cases e:b'=b
  ·subst e
   rcases Nat.lt_or_ge o l with h' | h'
   ·exact hc o h'
   ·exact absurd (h.sub _ o hs) ((h.ow id _ _ hi).1 o h')
  ·simp[World.cell?,g.other b' e]
 fix_:=h.fix_
 tab:=h.tab
theorem Goes.more {F:Fra}{G:Gh}{w w':World}{b l n id:Nat}(h:GhOk F G w)(hi:G.ow id=some (b,l))(g:Wrote w w' b)(hc:∀o,o<l→w'.cell? ⟨b,o,none⟩=w.cell? ⟨b,o,none⟩):Goes G (G.more b n id) w w' none (some id) where
 kept:=fun b' o hs=>⟨.inl hs,by
  by_cases e:b'=b
  ·subst e
   rcases Nat.lt_or_ge o l with h' | h'
   ·exact hc o h'
   ·exact absurd hs ((h.ow id _ _ hi).1 o h')
  ·simp[World.cell?,g.other b' e]⟩
 mu:=fun _ _ h _=>h
 ow:=fun j b' l' hj hne=>by
  have hj':j≠id:=fun e=>hne (by rw[e])
  exact ⟨by simp[Gh.more,hj',hj],g.other b' (by rintro rfl;exact hj' (h.owI _ _ _ _ _ hj hi))⟩
theorem Rel.more {F:Fra}{G:Gh}{A:AS}{ts:Array Value}{cst:List (Array Value)}{w w':World}(R:Rel F G A ts cst w){b l n id:Nat}(hi:G.ow id=some (b,l))(hln:l≤n)(g:Wrote w w' b)
  (hc:∀o,o<l→w'.cell? ⟨b,o,none⟩=w.cell? ⟨b,o,none⟩):Rel F (G.more b n id) (A.map (C.noOwn id)) ts cst w':=
 R.map (fun c v h=>h.noOwn (Goes.more R.gh hi g hc)) (fun _=>rfl) (fun key b' hb=>⟨hb,g.other b' (by rintro rfl;exact (R.gh.ow id _ _ hi).2.2.2 key hb)⟩) (R.gh.more hi hln g hc)
theorem Gh.more_zero {G:Gh}{b id:Nat}(hi:G.ow id=some (b,0)):G.more b 0 id=G:=by
 obtain ⟨S,mu,ow⟩:=G
 simp only[Gh.more,Nat.not_lt_zero,and_false,or_false,Gh.mk.injEq,true_and]
 funext j
 by_cases h:j=id
 ·subst h;rw[if_pos rfl];exact hi.symm
 ·rw[if_neg h]
theorem Goes.exWrote {F:Fra}{G:Gh}{w w':World}{b id:Nat}(h:GhOk F G w)(hi:G.ow id=some (b,0))(g:Wrote w w' b):Goes G G w w' none (some id):=by
 have:=Goes.more (n:=0) h hi g (fun o ho=>absurd ho (Nat.not_lt_zero _))
 rwa [Gh.more_zero hi] at this
theorem GhOk.exWrote {F:Fra}{G:Gh}{w w':World}{b id:Nat}(h:GhOk F G w)(hi:G.ow id=some (b,0))(g:Wrote w w' b):GhOk F G w':=by
 have:=h.more hi (Nat.le_refl 0) g (fun o ho=>absurd ho (Nat.not_lt_zero _))
 rwa [Gh.more_zero hi] at this
theorem Rel.exWrote {F:Fra}{G:Gh}{A:AS}{ts:Array Value}{cst:List (Array Value)}{w w':World}(R:Rel F G A ts cst w){b id:Nat}(hi:G.ow id=some (b,0))(g:Wrote w w' b)
  {f:C→C} (hf:∀c v,Rc G w c v→Rc G w' (f c) v) (hit:∀x,f (.itr x)=.itr x):Rel F G (A.map f) ts cst w':=
 R.map hf hit (fun key b' hb=>⟨hb,g.other b' (by rintro rfl;exact (R.gh.ow id _ _ hi).2.2.2 key hb)⟩) (R.gh.exWrote hi g)
theorem Rc.beyond {F:Fra}{G:Gh}{w w':World}{b id:Nat}(h:GhOk F G w)(hi:G.ow id=some (b,0))(g:Wrote w w' b){cur cur':Array Value}{el:TypeId}(hh:w.heap[b]?=some (.cells cur el (0,0)))
  (hh':w'.heap[b]?=some (.cells cur' el (0,0))) (hsz:cur'.size=cur.size) {c:C} {v:Value}
  (hex:∀t lo xs i j cap,(c=.eel t lo (xs.getD 0 t.zero) i j∧xs.length=1∨∃e,c=.ex e t lo xs i j)→ExAt G w t lo xs i j b cap→ExAt G w' t lo xs i j b cap) (hc:Rc G w c v):Rc G w' c v:=by
 have go:=Goes.exWrote h hi g
 have hin:∀j b',G.ow j=some (b',0)→b'≠b→w'.heap[b']?=w.heap[b']?:=fun j b' _ hne=>g.other b' hne
 cases c with
 |lst e t xs own=>
  obtain ⟨A,cap,e,h1,h2,h3,h4⟩:=hc
  refine ⟨A,cap,e,h1,h2,h3.kept go.kept,?_⟩
  rcases h4 with h4 | h4 | ⟨b',cu,el',ea,ho,hb,hs⟩
  ·exact .inl h4
  ·exact .inr (.inl h4)
  ·by_cases e:b'=b
   ·subst e
    rw[hh] at hb
    cases hb
    exact .inr (.inr ⟨b',cur',el,ea,ho,hh',hsz.trans hs⟩)
   ·exact .inr (.inr ⟨b',cu,el',ea,ho,(g.other b' e).trans hb,hs⟩)
 |ex e t lo xs i j=>
  rcases hc with hc | ⟨bl,cap,e',hx⟩
  ·exact .inl hc
  ·by_cases e0:bl=b
   ·subst e0;exact .inr ⟨bl,cap,e',hex t lo xs i j cap (.inr ⟨_,rfl⟩) hx⟩
   ·obtain ⟨ho,cu,el',hb,h1,h2,h3,h4⟩:=hx
    exact .inr ⟨bl,cap,e',ho,cu,el',(g.other bl e0).trans hb,h1,h2,h3,fun q x hq=>let ⟨c,hc,hu⟩:=h4 q x hq;⟨c,Rt.kept go.kept t x c hc,hu⟩⟩
 |eel t k x i j=>
  obtain ⟨bl,cap,e',hx⟩:=hc
  by_cases e0:bl=b
  ·subst e0;exact ⟨bl,cap,e',hex t k [x] i j cap (.inl ⟨rfl,rfl⟩) hx⟩
  ·obtain ⟨ho,cu,el',hb,h1,h2,h3,h4⟩:=hx
   exact ⟨bl,cap,e',ho,cu,el',(g.other bl e0).trans hb,h1,h2,h3,fun q x hq=>let ⟨c,hc,hu⟩:=h4 q x hq;⟨c,Rt.kept go.kept t x c hc,hu⟩⟩
 |ptr k o=>exact hc
 |fn f m caps=>exact hc.goes go (fun _ e=>by cases e) (fun _ _=>rfl)
 |ro t x=>exact hc.goes go (fun _ e=>by cases e) (fun _ _=>rfl)
 |ifc T t x=>exact hc.goes go (fun _ e=>by cases e) (fun _ _=>rfl)
 |pin v0 t x=>exact hc.goes go (fun _ e=>by cases e) (fun _ _=>rfl)
 |_=>exact hc
theorem Goes.drew (G:Gh)(w:World):Goes G G w { w with drawn:=w.drawn+1 } none none:=⟨fun _ _ h=>⟨h,rfl⟩,fun _ _ h _=>h,fun _ _ _ h _=>⟨h,rfl⟩⟩
theorem GhOk.drew {F:Fra}{G:Gh}{w:World}(h:GhOk F G w):GhOk F G { w with drawn:=w.drawn+1 }:=⟨h.mu,h.muI,h.ow,h.owI,h.sB,⟨h.fr.os,h.fr.tape,h.fr.output,h.fr.size,h.fr.block⟩,h.sub,h.sup,h.keep,h.fix_,h.tab⟩
theorem Rel.drew {F:Fra}{G:Gh}{A:AS}{ts:Array Value}{cst:List (Array Value)}{w:World}(R:Rel F G A ts cst w):Rel F G A ts cst { w with drawn:=w.drawn+1 }:=by
 have:=R.map (f:=id) (fun c v h=>h.goes (Goes.drew G w) (fun _ e=>by cases e) (fun _ e=>by cases e)) (fun _=>rfl) (fun key b hb=>⟨hb,rfl⟩) R.gh.drew
 rwa [AS.map_id] at this
end Go.Proofs.YthpcdhgpplmneaaGreatDoor.Sym
namespace Go.Proofs.YthpcdhgpplmneaaGreatDoor.Sym
open Go
def Rows (S:Nat→Nat→Prop)(w:World)(t:Ty)(b o:Nat)(xs:List t.den):Prop:=
 ∀i x,xs[i]?=some x→∃c,Rt S w t x c∧At S w b (o+i*t.size) c
theorem Rows.row {S:Nat→Nat→Prop}{w:World}{t:Ty}{b o:Nat}{xs:List t.den}(h:Rows S w t b o xs):Row S w t (some ⟨b,o,none⟩) xs:=fun _=>⟨b,o,rfl,h⟩
theorem pe {α:Type}{n:Nat}:∀(css:List (List α)),(∀c∈css,c.length=n)→∀i j,j<n→css.flatten[i*n+j]?=css[i]?.bind (·[j]?)
 |[],_,i,j,_=>by simp
 |c::css,h,0,j,hj=>by
  have hc:c.length=n:=h c (by simp)
  simp[List.flatten_cons,List.getElem?_append_left (show j<c.length by omega)]
 |c::css,h,i+1,j,hj=>by
  have hc:c.length=n:=h c (by simp)
  rw[List.flatten_cons,List.getElem?_append_right (by rw[hc,Nat.add_mul];omega)]
  have:=pe css (fun c hc=>h c (by simp[hc])) i j hj
  rw[hc,show (i+1)*n+j - n=i*n+j by rw[Nat.add_mul];omega,this]
  simp
theorem dD {α:Type}{n:Nat}:∀(css:List (List α)),(∀c∈css,c.length=n)→css.flatten.length=css.length*n
 |[],_=>by simp
 |c::css,h=>by
  rw[List.flatten_cons,zH,dD css (fun c hc=>h c (by simp[hc])),h c (by simp),zN,Nat.add_mul];omega
structure Flat (S:Nat→Nat→Prop) (w:World) (t:Ty) (xs:List t.den) (css:List (List Value)):Prop where
 len:css.length=xs.length
 at_:∀(i:Nat) (x:t.den),xs[i]?=some x→∃c:List Value,css[i]?=some c∧Rt S w t x c
theorem Flat.size {S:Nat→Nat→Prop}{w:World}{t:Ty}{xs:List t.den}{css:List (List Value)}(h:Flat S w t xs css):∀c∈css,c.length=t.size:=by
 intro c hc
 obtain ⟨i,hi⟩:=List.getElem?_of_mem hc
 have hlt:i<xs.length:=by rw[← h.len];exact (List.getElem?_eq_some_iff.1 hi).1
 obtain ⟨c',hc',hr⟩:=h.at_ i xs[i] (List.getElem?_eq_getElem hlt)
 rw[hi] at hc';cases hc'
 exact Rt.len _ _ _ hr
theorem Flat.one {S:Nat→Nat→Prop}{w:World}{t:Ty}{xs:List t.den}{css:List (List Value)}(h:Flat S w t xs css):∀u∈css.flatten,u.oneCell'=true:=by
 intro u hu
 obtain ⟨c,hc,huc⟩:=List.mem_flatten.1 hu
 obtain ⟨i,hi⟩:=List.getElem?_of_mem hc
 have hlt:i<xs.length:=by rw[← h.len];exact (List.getElem?_eq_some_iff.1 hi).1
 obtain ⟨c',hc',hr⟩:=h.at_ i xs[i] (List.getElem?_eq_getElem hlt)
 rw[hi] at hc';cases hc'
 exact Rt.cell _ _ _ hr u huc
theorem Flat.kept {S S':Nat→Nat→Prop}{w w':World}{t:Ty}{xs:List t.den}{css:List (List Value)}(h:Flat S w t xs css)(k:Kept S S' w w'):Flat S' w' t xs css:=
 ⟨h.len,fun i x hx=>let ⟨c,hc,hr⟩:=h.at_ i x hx;⟨c,hc,Rt.kept k t x c hr⟩⟩
theorem Flat.append {S:Nat→Nat→Prop}{w:World}{t:Ty}{xs ys:List t.den}{css dss:List (List Value)}(h:Flat S w t xs css)(h':Flat S w t ys dss):Flat S w t (xs++ys) (css++dss) where
 len:=by rw[zH,zH,h.len,h'.len]
 at_:=fun i x hx=>by
  rw[List.getElem?_append] at hx ⊢
  rw[h.len]
  split at hx
  ·rename_i hlt;rw[if_pos hlt];exact h.at_ i x hx
  ·rename_i hlt;rw[if_neg hlt];exact h'.at_ _ x hx
theorem Flat.rows {S:Nat→Nat→Prop}{w:World}{t:Ty}{xs:List t.den}{css:List (List Value)}(h:Flat S w t xs css){b o:Nat}
  (hc:∀j v,css.flatten[j]?=some v→S b (o+j)∧w.cell? ⟨b,o+j,none⟩=some v):Rows S w t b o xs:=by
 intro i x hx
 obtain ⟨c,hci,hr⟩:=h.at_ i x hx
 refine ⟨c,hr,fun j v hv=>?_⟩
 have hj:j<t.size:=by rw[← Rt.len _ _ _ hr];exact (List.getElem?_eq_some_iff.1 hv).1
 have:=hc (i*t.size+j) v (by rw[pe css h.size i j hj,hci];exact hv)
 rw[Nat.add_assoc];exact this
theorem Row.flat {S:Nat→Nat→Prop}{w:World}{t:Ty}{A:Option Addr}{xs:List t.den}(h:Row S w t A xs):
  ∃css,Flat S w t xs css∧(xs≠[]→∃b o,A=some ⟨b,o,none⟩∧∀j v,css.flatten[j]?=some v→S b (o+j)∧w.cell? ⟨b,o+j,none⟩=some v):=by
 by_cases hne:xs=[]
 ·subst hne
  exact ⟨[],⟨rfl,fun i x hx=>by simp at hx⟩,fun h=>absurd rfl h⟩
 ·obtain ⟨b,o,rfl,hh⟩:=h hne
  let css:=(List.range xs.length).map fun i=>(List.range t.size).map fun j=>(w.cell? ⟨b,o+i*t.size+j,none⟩).getD undef
  have hF:Flat S w t xs css:=by
   refine ⟨by simp[css],fun i x hx=>?_⟩
   obtain ⟨c,hr,ha⟩:=hh i x hx
   have hi:i<xs.length:=(List.getElem?_eq_some_iff.1 hx).1
   refine ⟨c,?_,hr⟩
   simp only[css,List.getElem?_map,List.getElem?_range hi,Option.map_some,zC]
   apply List.ext_getElem?
   intro j
   rw[List.getElem?_map]
   by_cases hj:j<t.size
   ·have hjc:j<c.length:=by rw[Rt.len _ _ _ hr];exact hj
    rw[List.getElem?_range hj,List.getElem?_eq_getElem hjc,Option.map_some,(ha j _ (List.getElem?_eq_getElem hjc)).2]
    rfl
   ·rw[List.getElem?_eq_none (by simp;omega),List.getElem?_eq_none (by rw[Rt.len _ _ _ hr];omega)]
    rfl
  refine ⟨css,hF,fun _=>⟨b,o,rfl,fun j v hv=>?_⟩⟩
  have hl:=dD css hF.size
  have hjl:j<css.length*t.size:=by rw[← hl];exact (List.getElem?_eq_some_iff.1 hv).1
  have hpos:0<t.size:=by
   rcases Nat.eq_zero_or_pos t.size with h0 | h0
   ·rw[h0] at hjl;omega
   ·exact h0
  have hi:j / t.size<xs.length:=by rw[← hF.len];exact Nat.div_lt_of_lt_mul (by rw[Nat.mul_comm];exact hjl)
  obtain ⟨c,hr,ha⟩:=hh (j / t.size) xs[j / t.size] (List.getElem?_eq_getElem hi)
  obtain ⟨c',hc',hr'⟩:=hF.at_ (j / t.size) xs[j / t.size] (List.getElem?_eq_getElem hi)
  have hm:j % t.size<t.size:=Nat.mod_lt _ hpos
  have hdm:j / t.size*t.size+j % t.size=j:=by rw[Nat.mul_comm];exact Nat.div_add_mod j t.size
  have hg:=pe css hF.size (j / t.size) (j % t.size) hm
  rw[hdm,hv,hc'] at hg
  have hmc:j % t.size<c.length:=by rw[Rt.len _ _ _ hr];exact hm
  have hac:=ha (j % t.size) _ (List.getElem?_eq_getElem hmc)
  rw[Nat.add_assoc,hdm] at hac
  refine ⟨hac.1,?_⟩
  have hv':c'[j % t.size]?=some v:=hg.symm
  have:c'=(List.range t.size).map fun k=>(w.cell? ⟨b,o+j / t.size*t.size+k,none⟩).getD undef:=by
   simp only[css,List.getElem?_map,List.getElem?_range hi,Option.map_some,zC] at hc'
   exact hc'.symm
  rw[this,List.getElem?_map,List.getElem?_range hm,Option.map_some,Nat.add_assoc,hdm,hac.2] at hv'
  rw[hac.2]
  simpa using hv'
section
variable {P:Program} {w:World}
theorem lg {t tx ty e:TypeId}{i:TypeInfo}{d:TypeDesc}(ht:P.underlying t=some (.slice e))(hi:P.info? e=some i)(htx:P.underlying tx=some d)(hd:(∃e',d=.slice e')∨d=.string)
  (A:Option Addr) (len cap:Nat) (hl:len≤cap) (x:Value) (hlen:Builtin.lenOf x=Sem.pure 0) (hf:(Builtin.firstCells i.size 0 x).run P w=.ok #[] w):
  (Builtin.append_ #[t,tx] ty #[.slice A len cap,x]).run P w=.ok (.slice A len cap) w:=by
 rcases hd with ⟨e',rfl⟩ | rfl
 ·cases A with
  |none=>simp[Builtin.append_,run_underlying ht,run_underlying htx,sizeOf,bD hi,hlen,hl,hf]
  |some a=>simp[Builtin.append_,run_underlying ht,run_underlying htx,sizeOf,bD hi,hlen,hl,hf,storeCells]
 ·cases A with
  |none=>simp[Builtin.append_,run_underlying ht,run_underlying htx,sizeOf,bD hi,hlen,hl,hf]
  |some a=>simp[Builtin.append_,run_underlying ht,run_underlying htx,sizeOf,bD hi,hlen,hl,hf,storeCells]
theorem mj {t tx ty e:TypeId}{i:TypeInfo}{d:TypeDesc}(ht:P.underlying t=some (.slice e))(hi:P.info? e=some i)(htx:P.underlying tx=some d)(hd:(∃e',d=.slice e')∨d=.string)
  (g len cap n:Nat) (cur:Array Value) (el:TypeId) (hg:w.heap[g]?=some (.cells cur el (0,0))) (x:Value) (news:List Value) (hlen:Builtin.lenOf x=Sem.pure n)
  (hf:(Builtin.firstCells i.size n x).run P w=.ok news.toArray w) (h1:∀u∈news,u.oneCell'=true) (hroom:len+n≤cap) (hfit:len*i.size+news.length≤cur.size):
  (Builtin.append_ #[t,tx] ty #[.slice (some ⟨g,0,none⟩) len cap,x]).run P w=
   .ok (.slice (some ⟨g,0,none⟩) (len+n) cap) (w.setRow g (cur.toList.take (len*i.size)++news++cur.toList.drop (len*i.size+news.length)).toArray):=by
 have hst:=run_storeCells_at P g (len*i.size) el news 0 cur w hg (by simpa using hfit) h1
 simp only[Nat.add_zero] at hst
 rcases hd with ⟨e',rfl⟩ | rfl
 ·simp[Builtin.append_,run_underlying ht,run_underlying htx,sizeOf,bD hi,hlen,hroom,hf,Addr.add_plain,hst]
 ·simp[Builtin.append_,run_underlying ht,run_underlying htx,sizeOf,bD hi,hlen,hroom,hf,Addr.add_plain,hst]
theorem ml {t tx ty e:TypeId}{i:TypeInfo}{d:TypeDesc}{z:Value}(ht:P.underlying t=some (.slice e))(hi:P.info? e=some i)(hz:i.zero=some z)(htx:P.underlying tx=some d)(hd:(∃e',d=.slice e')∨d=.string)
  (A:Option Addr) (len cap n:Nat) (olds:List Value) (holds:(Builtin.firstCells i.size len (.slice A len cap)).run P w.drew=.ok olds.toArray w.drew)
  (x:Value) (news:List Value) (hlen:Builtin.lenOf x=Sem.pure n) (hf:(Builtin.firstCells i.size n x).run P w.drew=.ok news.toArray w.drew)
  (hg:cap<len+n) (h63:((len+n:Nat):Int)≤9223372036854775807) (hfit:Builtin.nextslicecap (len+n) cap*i.bytes≤281474976710656):
  (Builtin.append_ #[t,tx] ty #[.slice A len cap,x]).run P w=
   .ok (.slice (some ⟨w.heap.size,0,none⟩) (len+n) (grownCap w (len+n) cap e))
    (w.drew.alloc (.cells (olds.toArray++news.toArray++Builtin.zeroCells z.cells (grownCap w (len+n) cap e - (len+n))) e)):=by
 have hn:¬(len+n≤cap):=by omega
 have h63':¬(9223372036854775807<((len:Int)+(n:Int))):=by omega
 have h48':¬(281474976710656<Builtin.nextslicecap (len+n) cap*i.bytes):=by omega
 rcases hd with ⟨e',rfl⟩ | rfl
 ·simp[Builtin.append_,run_underlying ht,run_underlying htx,sizeOf,bD hi,zeroValue,hz,hlen,hn,h63',h48',Question.forced,hf,holds,newRow,grownCap]
  congr 2
  apply Array.ext'
  simp
 ·simp[Builtin.append_,run_underlying ht,run_underlying htx,sizeOf,bD hi,zeroValue,hz,hlen,hn,h63',h48',Question.forced,hf,holds,newRow,grownCap]
  congr 2
  apply Array.ext'
  simp
end
end Go.Proofs.YthpcdhgpplmneaaGreatDoor.Sym
namespace Go.Proofs.YthpcdhgpplmneaaGreatDoor.Sym
open Go
open Go.IntKind (i8 i16 i32 i64 u8 u16 u32 u64)
section
variable {P:Program} {tt:TT}
theorem Ep:C.noOwn 0=id:=by
 funext c
 cases c with
 |lst e t xs own=>
  simp only[C.noOwn,id]
  split
  ·rename_i h;rw[beq_iff_eq] at h;rw[h]
  ·rfl
 |_=>rfl
theorem V.solid_map (f:C→C)(v:V):(v.map f).solid=v.solid:=by cases v <;> rfl
theorem AC (id t:Nat)(v:V):(mg tt id t v).cells.length=v.cells.length∧(mg tt id t v).solid=v.solid:=by cases v <;> exact ⟨rfl,rfl⟩
theorem iJ (w:World)(t:TypeId)(cs:Array Value):(newRow t cs).run P w=.ok ⟨w.heap.size,0,none⟩ (w.alloc (.cells cs t)):=by
 simp[newRow,newObj,Sem.run]
theorem BW (size:Nat):∀(ps:List (Nat×Value)) (k:Nat) (cur:Array Value),(∀j p,ps[j]?=some p→p.1=k+j∧p.2.cells.size=size)→(k+ps.length)*size≤cur.size→
  ∃cur',Instr.fill (fun i=>some (i*size,size)) cur ps=some cur'∧cur'.toList=cur.toList.take (k*size)++(ps.map fun p=>p.2.cells.toList).flatten++cur.toList.drop ((k+ps.length)*size)
 |[],k,cur,_,_=>⟨cur,by simp[Instr.fill],by simp⟩
 |(i,v)::ps,k,cur,h,hl=>by
  obtain ⟨hi,hv⟩:=h 0 (i,v) rfl
  simp only[Nat.add_zero] at hi hv
  subst hi
  simp only[zN] at hl
  have hl1:i*size+size≤cur.size:=by
   have:(i+1)*size≤(i+(ps.length+1))*size:=Nat.mul_le_mul_right _ (by omega)
   rw[Nat.add_mul,Nat.one_mul] at this;omega
  have hset:=xt v.cells.toList cur (i*size) 0 (by simp;omega)
  have hsz:((v.cells.zipIdx.foldl (fun cs (c,j)=>cs.setIfInBounds (i*size+j) c) cur)).toList=splice cur.toList (i*size) v.cells.toList:=by
   rw[← Array.foldl_toList,Array.toList_zipIdx]
   simpa using hset
  have hlen:(v.cells.zipIdx.foldl (fun cs (c,j)=>cs.setIfInBounds (i*size+j) c) cur).size=cur.size:=by
   have:=congrArg List.length hsz
   rw[vZ (by simp;omega)] at this
   simpa using this
  obtain ⟨cur',h1,h2⟩:=BW size ps (i+1) (v.cells.zipIdx.foldl (fun cs (c,j)=>cs.setIfInBounds (i*size+j) c) cur) (fun j p hp=>by
   have:=h (j+1) p (by simpa using hp)
   exact ⟨by omega,this.2⟩) (by rw[hlen];have:i+1+ps.length=i+(ps.length+1):=(by omega);rw[this];exact hl)
  refine ⟨cur',?_,?_⟩
  ·have hb:¬(cur.size<i*size+size):=by omega
   simp only[Instr.fill,hv,ne_eq,not_true,decide_false,Bool.false_or,zB,gt_iff_lt,hb,if_false]
   exact h1
  ·rw[h2,hsz]
   simp only[splice,zL,List.flatten_cons,zN]
   have e0:v.cells.toList.length=size:=by simpa using hv
   have e1:(i+1)*size=i*size+size:=by rw[Nat.add_mul,Nat.one_mul]
   have e2:(cur.toList.take (i*size)).length=i*size:=by simp;omega
   rw[show i+1+ps.length=i+(ps.length+1) by omega]
   have t1:(cur.toList.take (i*size)++v.cells.toList++cur.toList.drop (i*size+v.cells.toList.length)).take ((i+1)*size)=cur.toList.take (i*size)++v.cells.toList:=by
    rw[List.take_append_of_le_length (by rw[zH,e2,e0,e1];exact Nat.le_refl _)]
    exact List.take_of_length_le (by rw[zH,e2,e0,e1];exact Nat.le_refl _)
   have t2:(cur.toList.take (i*size)++v.cells.toList++cur.toList.drop (i*size+v.cells.toList.length)).drop ((i+(ps.length+1))*size)=cur.toList.drop ((i+(ps.length+1))*size):=by
    have hle:(i+1)*size≤(i+(ps.length+1))*size:=Nat.mul_le_mul_right _ (by omega)
    rw[List.drop_append,zI (by rw[zH,e2,e0];omega),List.nil_append,List.drop_drop,zH,e2,e0]
    congr 1
    omega
   rw[t1,t2]
   simp
theorem nk {F:Fra}{G:Gh}{A:AS}{a:Act}{cst:List (Array Value)}{w:World}(R:Rel F G A a.tmps cst w)(ty:Ty):∀(ps:List (Nat×Operand)) (n:Nat) (xs:List ty.den),o9 ty A n ps=some xs→
  Flat G.S w ty xs (ps.map fun p=>(a.eval p.2).cells.toList)∧∀j p,ps[j]?=some p→p.1=n+j
 |[],n,xs,h=>by
  simp only[o9,zC] at h
  subst h
  exact ⟨⟨rfl,fun i x hx=>by simp at hx⟩,fun j p hp=>by simp at hp⟩
 |(i,x)::ps,n,xs,h=>by
  simp only[o9] at h
  cases hi:i == n with
  |false=>rw[hi] at h;cases h
  |true=>
   rw[hi] at h
   simp only[cond_true] at h
   rw[beq_iff_eq] at hi
   split at h
   ·rename_i d ds h1 h2
    cases h
    obtain ⟨hF,hI⟩:=nk R ty ps (n+1) ds h2
    have hr:=gl h1 (R.opd x)
    refine ⟨⟨by simp[hF.len],fun j y hy=>?_⟩,fun j p hp=>?_⟩
    ·cases j with
     |zero=>simp only[List.getElem?_cons_zero,zC] at hy;subst hy;exact ⟨_,rfl,hr⟩
     |succ j=>simpa using hF.at_ j y (by simpa using hy)
    ·cases j with
     |zero=>simp only[List.getElem?_cons_zero,zC] at hp;subst hp;exact hi
     |succ j=>have:=hI j p (by simpa using hp);omega
   ·cases h
theorem rD {α β:Type}(f:α→β):∀l:List α,(l.map fun c=>[f c]).flatten=l.map f
 |[]=>rfl
 |x::l=>by rw[zL,List.flatten_cons,rD f l];rfl
theorem o4 (htt:cJ P tt){G:Gh}{w:World}{e:Nat}{ty:Ty}{t:Nat}{v:V}{u:Value}{ys:List ty.den}(h:qp tt e ty t v=some ys)(hr:Rv G w v u):
  ∃(d:TypeDesc) (css:List (List Value)),P.underlying t=some d∧((∃e',d=.slice e')∨d=.string)∧Builtin.lenOf u=Sem.pure ys.length∧Flat G.S w ty ys css∧ys.length≤maxLen∧
   ∀w':World,Kept G.S G.S w w'→(Builtin.firstCells ty.size ys.length u).run P w'=.ok css.flatten.toArray w':=by
 unfold qp at h
 split at h
 ·rename_i e' c hd
  cases hz:e' == e with
  |false=>rw[hz] at h;cases h
  |true=>
   rw[hz] at h
   have hrt:=cU _ _ _ _ h hr
   obtain ⟨A,cap,ev,h1,h2,h3⟩:=hrt
   simp only[List.cons.injEq,and_true] at ev
   have hrow:Row G.S w ty A ys:=h3
   obtain ⟨css,hF,hc⟩:=hrow.flat
   refine ⟨_,css,(htt t (by rw[hd];simp)).sl hd,.inl ⟨_,rfl⟩,by rw[ev];rfl,hF,Nat.le_trans h1 h2,fun w' k=>?_⟩
   have hlen:css.flatten.length=ys.length*ty.size:=by rw[dD css hF.size,hF.len]
   rw[ev]
   by_cases hne:ys=[]
   ·subst hne
    have:css=[]:=zF hF.len
    subst this
    cases A with
    |none=>simp[Builtin.firstCells]
    |some ad=>simp[Builtin.firstCells,loadCells,loadCellsFrom]
   ·obtain ⟨b,o,rfl,hcc⟩:=hc hne
    refine run_firstCells_some (P:=P) w' ty.size ys.length ⟨b,o,none⟩ _ cap css.flatten hlen fun j v hv=>?_
    rw[Addr.add_plain]
    obtain ⟨hs,hcell⟩:=hcc j v hv
    rw[(k b (o+j) hs).2];exact hcell
 ·rename_i s hd
  split at h
  ·rename_i hty
   subst hty
   simp only[zC] at h
   subst h
   obtain ⟨ev,hb,hl⟩:=hr
   have hF:Flat G.S w (.int .u8) (s:List (Ty.den (.int .u8))) (s.map fun c=>[Value.int .u8 c]):=by
    refine ⟨by simp,fun i x hx=>?_⟩
    have hm:x∈s:=List.mem_of_getElem? hx
    have:=hb x hm
    refine ⟨[.int .u8 x],by simp[hx],rfl,?_⟩
    simp[bH,IntKind.min,IntKind.max,IntKind.signed,IntKind.bits];omega
   refine ⟨_,_,(htt t (by rw[hd];simp)).str hd,.inr rfl,by rw[ev];simp[Builtin.lenOf,b8];rfl,hF,hl,fun w' _=>?_⟩
   rw[ev]
   have:=Lib.run_firstCells_string (P:=P) w' 1 (aF s)
   rw[b8] at this
   rw[show (Ty.int u8).size=1 from rfl,this]
   congr 2
   simp only[Lib.strCells,aF,List.map_map]
   rw[rD]
   refine List.map_congr_left fun c hc=>?_
   have:=hb c hc
   simp only[Function.comp_apply]
   rw[UInt8.toNat_ofNat',Nat.mod_eq_of_lt (by omega)]
   congr 1
   omega
  ·cases h
 ·cases h
end
end Go.Proofs.YthpcdhgpplmneaaGreatDoor.Sym
