/- Regions that may be carried out in several orders: one canonical order tells of all. -/
import Derived.OrdersHeld
import Derived.Recover
import Derived.Test.YtomeplopmndbgaaGreatProg
import Derived.Test.YtomeplopmndbgaaGreatRows
import Derived.WalkKit
import Derived.ProofKit
import Derived.OpenShut
import Derived.JoinedCond
import Derived.ChangeStays
import Derived.DataReads
import Derived.Test.YtomeplopmndbgaaGreatQ2

namespace Go.Proofs.YtomeplopmndbgaaGreat.Sym
open Go
set_option linter.unusedSimpArgs false
set_option linter.unusedVariables false
section
variable {P:Program} {ops:Array Oper} {Q:Exit→Act→World→Prop} {md:Region.Mode} {T:List Nat} {S0:World→Prop}
def V9 (T:List Nat)(S0:World→Prop)(listed:Array Bool)(w:World):Prop:=(∀j∈T,listed.getD j false=false)→S0 w
def wpAnyL (P:Program)(md:Region.Mode)(ops:Array Oper)(Q:Exit→Act→World→Prop)(T:List Nat)(S0:World→Prop):Nat→Array Bool→Act→World→Prop
 |0,listed,a,w=>Region.ready md ops listed=[]∧Q .normal a w
 |n+1,listed,a,w=>(Region.ready md ops listed=[]→Q .normal a w)∧
  ∀i∈Region.ready md ops listed,wpOp P ops Q i (fun a' w'=>V9 T S0 (listed.setIfInBounds i true) w'∧wpAnyL P md ops Q T S0 n (listed.setIfInBounds i true) a' w') a w
theorem wpAnyL.any:∀(n:Nat) {listed:Array Bool} {a:Act} {w:World},wpAnyL P md ops Q T S0 n listed a w→wpAny P md ops Q n listed a w
 |0,_,_,_,h=>h
 |n+1,_,_,_,h=>⟨h.1,fun i hi=>wpOp_mono (fun _ _ h'=>wpAnyL.any n h'.2) (h.2 i hi)⟩
theorem wpAnyL.weaken {S1:World→Prop}(hS:∀w,S0 w→S1 w):∀(n:Nat) {listed:Array Bool} {a:Act} {w:World},wpAnyL P md ops Q T S0 n listed a w→wpAnyL P md ops Q T S1 n listed a w
 |0,_,_,_,h=>h
 |n+1,_,_,_,h=>⟨h.1,fun i hi=>wpOp_mono (fun _ _ h'=>⟨fun ht=>hS _ (h'.1 ht),wpAnyL.weaken hS n h'.2⟩) (h.2 i hi)⟩
theorem wpAnyL.first {i:Nat}{oi:Oper}{v:Value}(hi:ops[i]?=some oi)(hsel:∀(j:Nat) (o:Oper) cs b,ops[j]?=some o→o.op≠.select cs b)
  (hQ:∀c a w,Q (.panic c) (a.put oi.dst v) w→Q (.panic c) a w) {Z:List Nat} (hTZ:∀j∈T,j∈Z) (hZ:∀j∈Z,j≠i∧∀oj,ops[j]?=some oj→∃e∈oj.after,Region.binds md e=true∧(e.on=i∨e.on∈Z)):
  ∀(n:Nat) (listed:Array Bool) (a:Act) (w:World),
   (∀j oj,ops[j]?=some oj→j≠i→listed.getD j true=false→(∀e∈oj.after,Region.binds md e=true→e.on≠i)→oi.apart ops oj=true)→
   i∈Region.ready md ops listed→YieldsIf P ops S0 oi v a→S0 w→(∀j∈Z,listed.getD j false=false)→
   wpAnyL P md ops Q T S0 n (listed.setIfInBounds i true) (a.put oi.dst v) w→wpAnyL P md ops Q T S0 (n+1) listed a w:=by
 intro n
 induction n with
 |zero=>
  intro listed a w _ hr hy hS hno h
  refine ⟨fun e=>(by rw[e] at hr;cases hr),fun j hj=>?_⟩
  by_cases hji:j=i
  ·subst hji;exact hy.wpOp hi hS ⟨fun _=>hS,h⟩
  ·have:=ready_mono hj hji
   rw[h.1] at this
   cases this
 |succ n ih=>
  intro listed a w hfree hr hy hS hno h
  refine ⟨fun e=>(by rw[e] at hr;cases hr),fun j hj=>?_⟩
  by_cases hji:j=i
  ·subst hji;exact hy.wpOp hi hS ⟨fun _=>hS,h⟩
  ·have h1:=h.2 j (ready_mono hj hji)
   obtain ⟨hjun,oj,hoj,hall⟩:=mem_ready.1 hj
   have hnot:∀e∈oj.after,Region.binds md e=true→e.on≠i:=fun e he hb heq=>by
    have h2:=hall e he hb
    have h0:=(mem_ready.1 hr).1
    rw[heq] at h2
    rcases Nat.lt_or_ge i listed.size with h' | h'
    ·simp[h'] at h0 h2;rw[h0] at h2;cases h2
    ·simp[Array.getElem?_eq_none h'] at h2
   have hjZ:j ∉ Z:=fun hin=>by
    obtain ⟨e,he,hb,heq⟩:=(hZ j hin).2 oj hoj
    rcases heq with heq | heq
    ·exact hnot e he hb heq
    ·have h2:=hall e he hb
     have h0:=hno e.on heq
     rw[Array.getD_eq_getD_getElem?] at h0
     rcases Nat.lt_or_ge e.on listed.size with h' | h'
     ·simp[h'] at h0 h2;rw[h0] at h2;cases h2
     ·simp[Array.getElem?_eq_none h'] at h2
   have h2:=wpOp_putIf hoj (hfree j oj hoj hji hjun hnot) (fun cs b=>hsel i oi cs b hi) (fun cs b=>hsel j oj cs b hoj) hQ hy h1
   have hfree':∀k ok,ops[k]?=some ok→k≠i→(listed.setIfInBounds j true).getD k true=false→
     (∀e∈ok.after,Region.binds md e=true→e.on≠i)→oi.apart ops ok=true:=fun k ok hk hki hun hno=>by
    refine hfree k ok hk hki ?_ hno
    by_cases hjk:j=k
    ·subst hjk;exact hjun
    ·rw[getD_set_ne true hjk] at hun;exact hun
   have hno':∀k∈Z,(listed.setIfInBounds j true).getD k false=false:=fun k hk=>by
    rw[getD_set_ne false (fun e=>hjZ (by rw[e];exact hk))];exact hno k hk
   refine wpOp_mono (fun a' w' h3=>?_) h2
   have hs:S0 w':=h3.2.1 fun k hk=>by
    rw[getD_set_ne false (fun e=>hjZ (by rw[e];exact hTZ k hk)),getD_set_ne false (Ne.symm (hZ k (hTZ k hk)).1)];exact hno k (hTZ k hk)
   refine ⟨fun _=>hs,ih (listed.setIfInBounds j true) a' w' hfree' (ready_mono hr (Ne.symm hji)) h3.1 hs hno' ?_⟩
   rw[Array.setIfInBounds_comm _ _ hji]
   exact h3.2.2
theorem Oper.wp_monoQ {o:Oper}{a:Act}{w:World}{K:Act→World→Prop}{Q':Exit→Act→World→Prop}(h:∀e a w,Q e a w→Q' e a w)(hh:o.wp P a w K Q):o.wp P a w K Q':=by
 unfold Oper.wp at *
 generalize (execOp a.eval o).run P w=r at *
 cases r with
 |ok n w'=>
  cases n <;> simp only[Oper.upon] at hh ⊢ <;>
   first
    |exact hh
    |exact h _ _ _ hh
    |exact Calls.mono hh (fun e w'' he=>by cases e <;> first | exact he | (obtain ⟨a0,w0,h0⟩:=he;exact ⟨a0,w0,h _ _ _ h0⟩) | exact h _ _ _ he)
    |exact Rows.mono hh (fun _ _ he=>he)
 |halt x w'=>cases x <;> simp only[Oper.upon] at hh ⊢ <;> first | exact hh | exact h _ _ _ hh
theorem Mk {i:Nat}{K:Act→World→Prop}{Q':Exit→Act→World→Prop}(h:∀e a w,Q e a w→Q' e a w){a:Act}{w:World}(hh:wpOp P ops Q i K a w):wpOp P ops Q' i K a w:=by
 unfold wpOp at *
 split
 ·rename_i ho
  simpa only [ho] using hh
 ·rename_i o ho
  simp only[ho] at hh
  split
  ·rename_i hw
   simp only[hw,if_true] at hh
   rcases hh with hh | ⟨h1,a0,w0,h2⟩
   ·exact .inl (Oper.wp_monoQ h hh)
   ·exact .inr ⟨h1,a0,w0,h _ _ _ h2⟩
  ·rename_i hw
   simpa [hw] using hh
theorem w8 {Q':Exit→Act→World→Prop}(h:∀e a w,Q e a w→Q' e a w):∀(n:Nat) {listed:Array Bool} {a:Act} {w:World},wpAny P md ops Q n listed a w→wpAny P md ops Q' n listed a w
 |0,_,_,_,hh=>⟨hh.1,h _ _ _ hh.2⟩
 |n+1,_,_,_,hh=>⟨fun e=>h _ _ _ (hh.1 e),fun i hi=>Mk h (wpOp_mono (fun _ _ h'=>w8 h n h') (hh.2 i hi))⟩
def aa5 (ops:Array Oper)(a a':Act):Prop:=
 a'.defers=a.defers∧a'.tmps.size=a.tmps.size∧∀t,(∀(j:Nat) (oj:Oper),ops[j]?=some oj→oj.dst≠some t)→a'.tmps[t]?=a.tmps[t]?
def Qh (ops:Array Oper)(Q:Exit→Act→World→Prop):Exit→Act→World→Prop
 |.panic c,a,w=>∀a',aa5 ops a a'→Q (.panic c) a' w
 |e,a,w=>Q e a w
theorem Qh.of {e:Exit}{a:Act}{w:World}(h:Qh ops Q e a w):Q e a w:=by
 cases e <;> first | exact h | exact h a ⟨rfl,rfl,fun _ _=>rfl⟩
theorem Qh.put {i:Nat}{oi:Oper}(hi:ops[i]?=some oi)(v:Value)(c:List PanicEntry)(a:Act)(w:World)(h:Qh ops Q (.panic c) (a.put oi.dst v) w):Qh ops Q (.panic c) a w:=by
 intro a' ⟨h1,h2,h3⟩
 refine h a' ⟨h1.trans (Act.put_defers' _ _ _).symm,?_,fun t ht=>?_⟩
 ·rw[h2];cases oi.dst <;> simp[Act.put]
 ·rw[h3 t ht]
  cases hd:oi.dst with
  |none=>rfl
  |some d=>
   have:d≠t:=by rintro rfl;exact ht i oi hi hd
   simp[Act.put,Array.getElem?_setIfInBounds_ne this]
end
theorem HF {ops:Array Oper}{j t:Nat}{oj:Oper}(hj:ops[j]?=some oj)(hd:oj.dst=some t):(jX ops).testBit t=true:=by
 unfold jX
 have hm:oj∈ops.toList:=List.mem_of_getElem? (by simpa using hj)
 generalize ops.toList=l at hm
 have mono:∀(l:List Oper) (m:Nat),m.testBit t=true→(l.foldl (fun m o=>match o.dst with | some d=>m ||| 2 ^ d | none=>m) m).testBit t=true:=by
  intro l
  induction l with
  |nil=>intro m h;exact h
  |cons o l ih=>
   intro m h
   rw[List.foldl_cons]
   refine ih _ ?_
   split
   ·rw[Nat.testBit_or,h];rfl
   ·exact h
 generalize 0=m
 induction l generalizing m with
 |nil=>cases hm
 |cons o l ih=>
  rw[List.foldl_cons]
  rcases List.mem_cons.1 hm with rfl | hm
  ·refine mono l _ ?_
   rw[hd]
   simp only
   rw[Nat.testBit_or,Nat.testBit_two_pow_self,Bool.or_true]
  ·exact ih hm _
theorem wF {G:Gh}{w:World}(m:Nat):∀(i:Nat) {vs:List V} {us us':List Value},All2 (Rv G w) vs us→us'.length=us.length→(∀t,m.testBit (i+t)=false→us'[t]?=us[t]?)→All2 (Rv G w) (wE m i vs) us'
 |_,[],[],[],_,_,_=>trivial
 |i,v::vs,u::us,u'::us',h,hl,ht=>by
  refine ⟨?_,wF m (i+1) h.2 (by simpa using hl) fun t h'=>?_⟩
  ·cases hb:m.testBit i with
   |true=>trivial
   |false=>
    have:=ht 0 (by simpa using hb)
    simp only[List.getElem?_cons_zero,Option.some.injEq] at this
    rw[this];exact h.1
  ·have:=ht (t+1) (by rw[← h'];congr 1;omega)
   simpa using this
 |_,[],_::_,_,h,_,_=>h.elim
 |_,_::_,[],_,h,_,_=>h.elim
 |_,[],[],_::_,_,hl,_=>by simp at hl
 |_,_::_,_::_,[],_,hl,_=>by simp at hl
theorem Rel.mask {F:Fra}{G:Gh}{A:AS}{a a':Act}{cst:List (Array Value)}{w:World}(R:Rel F G A a.tmps cst w){ops:Array Oper}(hn:aa5 ops a a'):
  Rel F G { A with tm:=wE (jX ops) 0 A.tm } a'.tmps cst w:=
 ⟨wF _ 0 R.tm (by simpa using hn.2.1) fun t ht=>by
  have:=hn.2.2 t fun j oj hj hd=>by rw[Nat.zero_add,HF hj hd] at ht;cases ht
  simpa using this,R.stk,R.ob,R.gh⟩
def xu (ops:Array Oper)(i:Nat)(Z:List Nat)(j:Nat):List Nat:=match ops[j]? with
 |some o=>bif o.after.any fun e=>Region.binds .any e&&(e.on == i || Z.any (· == e.on)) then j::Z else Z
 |none=>Z
def uL (ops:Array Oper)(i:Nat):List Nat:=(List.range ops.size).foldl (xu ops i) []
def Gp (ops:Array Oper)(j i:Nat):Bool:=(uL ops i).any (· == j)
def xK (ops:Array Oper)(T:List Nat)(listed:Array Bool)(i:Nat):Bool:=
 Region.free .any ops listed i&&((Region.ready .any ops listed).contains i&&((T.all fun j=>Gp ops j i)&&(uL ops i).all fun j=>!(j == i)&&!listed.getD j false))
theorem wm (ops:Array Oper)(i:Nat):∀j∈uL ops i,∀oj,ops[j]?=some oj→∃e∈oj.after,Region.binds .any e=true∧(e.on=i∨e.on∈uL ops i):=by
 have key:∀(l Z:List Nat),(∀j∈Z,∀oj,ops[j]?=some oj→∃e∈oj.after,Region.binds .any e=true∧(e.on=i∨e.on∈Z))→
   ∀j∈l.foldl (xu ops i) Z,∀oj,ops[j]?=some oj→∃e∈oj.after,Region.binds .any e=true∧(e.on=i∨e.on∈l.foldl (xu ops i) Z):=by
  intro l
  induction l with
  |nil=>intro Z h;exact h
  |cons k l ih=>
   intro Z h
   rw[List.foldl_cons]
   refine ih _ fun j hj oj hoj=>?_
   unfold xu at hj ⊢
   cases hk:ops[k]? with
   |none=>rw[hk] at hj;exact h j hj oj hoj
   |some o=>
    rw[hk] at hj
    simp only at hj ⊢
    cases hc:o.after.any fun e=>Region.binds .any e&&(e.on == i || Z.any (· == e.on)) with
    |false=>rw[hc] at hj;exact h j hj oj hoj
    |true=>
     rw[hc] at hj
     simp only[cond_true] at hj ⊢
     rcases List.mem_cons.1 hj with rfl | hj
     ·rw[hk] at hoj;cases hoj
      obtain ⟨e,he,hb⟩:=Array.any_eq_true'.1 hc
      simp only[Bool.and_eq_true,Bool.or_eq_true,beq_iff_eq,List.any_eq_true,exists_eq_right] at hb
      exact ⟨e,he,hb.1,hb.2.imp id fun h=>List.mem_cons_of_mem _ h⟩
     ·obtain ⟨e,he,hb,h2⟩:=h j hj oj hoj
      exact ⟨e,he,hb,h2.imp id fun h=>List.mem_cons_of_mem _ h⟩
 exact key _ [] fun j hj=>by cases hj
def F6 (ops:Array Oper)(listed:Array Bool)(i:Nat):Bool:=match Region.ready .any ops listed with
 |[j]=>j == i
 |_=>false
def FZ (tt:TT)(ops:Array Oper)(i:Nat):Bool:=match ops[i]? with
 |some o=>!zx tt o.op
 |none=>false
def iS:List (Nat×Nat)→List Nat
 |[]=>[]
 |(i,m)::is=>bif Nat.beq m 4 then i::iS is else iS is
def sJ (l:Array Bool):List Nat→Array Bool
 |[]=>l
 |j::js=>sJ (l.setIfInBounds j true) js
def qb (ops:Array Oper)(j:Nat):Bool:=match ops[j]? with
 |some o=>(match o.op with | .alloc _=>true | _=>false)&&(o.after.isEmpty&&(o.guard.isNone&&(match o.dst with
  |some d=>(List.range ops.size).all fun k=>k == j || (match ops[k]? with | some o'=>!(o'.dst == some d) | none=>true)
  |none=>false)))
 |none=>false
def my (ops:Array Oper)(l0:Array Bool)(pf:List Nat):Bool:=pf.all fun j=>qb ops j&&!l0.getD j true
def Y1 (ops:Array Oper)(l0:Array Bool)(pf:List Nat)(i:Nat):Bool:=(Region.ready .any ops l0).contains i&&(Region.ready .any ops (sJ l0 pf)).all (· == i)
def O6:Op→Bool
 |.pick ..=>true
 |_=>false
def FX (ops:Array Oper)(i:Nat):Bool:=match ops[i]? with
 |some o=>O6 o.op
 |none=>false
def rj (tt:TT)(ops:Array Oper)(T:List Nat):Bool→Array Bool→List (Nat×Nat)→Bool
 |_,listed,[]=>(Region.ready .any ops listed).isEmpty
 |ph,listed,(i,m)::is=>match m with
  |0=>xK ops T listed i&&FZ tt ops i&&(!(iS is).contains i&&my ops listed (iS is))&&rj tt ops T ph (listed.setIfInBounds i true) is
  |1=>xK ops T listed i&&ph&&(!(iS is).contains i&&my ops listed (iS is))&&rj tt ops T ph (listed.setIfInBounds i true) is
  |2=>F6 ops listed i&&T.all (fun j=>!(j == i))&&(iS is).isEmpty&&rj tt ops T (ph&&FX ops i) (listed.setIfInBounds i true) is
  |n+3=>bif Nat.beq n 1 then (!(iS is).contains i&&my ops listed (i::iS is))&&(Region.ready .any ops (sJ listed (iS is))).all (· == i)&&rj tt ops T false (listed.setIfInBounds i true) is
   else bif Nat.beq n 3 then Y1 ops listed (iS is) i&&T.all (fun j=>!(j == i))&&(!(iS is).contains i&&my ops listed (iS is))&&rj tt ops T false (listed.setIfInBounds i true) is
   else F6 ops listed i&&(T.any (· == i)&&decide (i<listed.size))&&(iS is).isEmpty&&rj tt ops T false (listed.setIfInBounds i true) is
section
variable {P:Program} {tt:TT} {ops:Array Oper} {T:List Nat}
theorem Qh.post {R:Type}{F:Fra}{G':Gh}{A':AS}{a':Act}{cst:List (Array Value)}{w':World}{r:R}{K:Ex→AS→Option R}{Q:Exit→Act→World→Prop}{dfs:List Deferred}(hK:Bv F cst dfs r K Q)
  (R':Rel F G' A' a'.tmps cst w') (hd:a'.defers=dfs) {v:V} (hk:K (.panic v) { A' with tm:=wE (jX ops) 0 A'.tm }=some r) (u:Value) (hu:Rv G' w' v u):
  Qh ops Q (.panic [{ v:=u,recovered:=false }]) a' w':=by
 intro a'' hn
 exact hK (.panic v) _ G' a'' w' (R'.mask hn) (hn.1.trans hd) hk u hu
structure Hold (G0:Gh) (w0:World) (hid:List Nat) (G:Gh) (w:World):Prop where
 sub:∀b o,G0.S b o→G.S b o
 mu:∀key∈hid,∀b,G0.mu key=some b→G.mu key=some b
 agr:Agr (·∈hid) G0 w0 w
theorem Hold.step {G0 G G':Gh}{w0 w w':World}{hid:List Nat}(h:Hold G0 w0 hid G w)(u:UntH G hid w G' w'):Hold G0 w0 hid G' w' where
 sub:=fun b o hs=>(u.1 b o (h.sub b o hs)).1
 mu:=fun key hk b hb=>(u.2 key hk b (h.mu key hk b hb)).1
 agr:=⟨fun b o hs=>(u.1 b o (h.sub b o hs)).2.trans (h.agr.1 b o hs),fun key b hk hb=>(u.2 key hk b (h.mu key hk b hb)).2.trans (h.agr.2 key b hk hb)⟩
theorem BZ:∀(X:List Nat) (l:Array Bool) (k:Nat),k ∉ X→(sJ l X)[k]?=l[k]?
 |[],_,_,_=>rfl
 |j::js,l,k,h=>by
  rw[sJ,BZ js _ k (fun e=>h (List.mem_cons_of_mem _ e)),Array.getElem?_setIfInBounds_ne]
  exact fun e=>h (e▸List.mem_cons_self)
theorem rh:∀(X:List Nat) (l:Array Bool) (k:Nat),l.getD k false=true→(sJ l X).getD k false=true
 |[],_,_,h=>h
 |j::js,l,k,h=>rh js _ k (getD_set_true h)
theorem B0:∀(X:List Nat) (l:Array Bool) (k:Nat),k∈X→k<l.size→(sJ l X).getD k false=true
 |j::js,l,k,h,hk=>by
  rw[sJ]
  rcases List.mem_cons.1 h with rfl | h
  ·exact rh js _ _ (by simp[hk])
  ·exact B0 js _ k h (by simpa using hk)
theorem FW:∀is:List (Nat×Nat),(iS is).length≤is.length
 |[]=>Nat.le_refl _
 |(i,m)::is=>by
  rw[iS]
  cases Nat.beq m 4 with
  |true=>have:=FW is;simp only[cond_true,List.length_cons];omega
  |false=>have:=FW is;simp only[cond_false,List.length_cons];omega
theorem nh:∀(is:List (Nat×Nat)) {j d:Nat} {o:Oper},j∈iS is→ops[j]?=some o→o.dst=some d→d∈zf ops is
 |[],_,_,_,hj,_,_=>by simp[iS] at hj
 |(i,m)::is,j,d,o,hj,ho,hd=>by
  rw[iS] at hj
  rw[zf]
  cases hm:Nat.beq m 4 with
  |true=>
   rw[hm] at hj
   simp only[cond_true] at hj ⊢
   rcases List.mem_cons.1 hj with rfl | hj
   ·rw[ho,Option.bind_some,hd];simp
   ·have:=nh is hj ho hd
    split
    ·exact List.mem_cons_of_mem _ this
    ·exact this
  |false=>rw[hm] at hj;exact nh is hj ho hd
theorem sK {tt:TT}{kb:Nat}:∀(is:List (Nat×Nat)),J2 tt ops is=true→∀{j:Nat},j∈iS is→∀o t d,ops[j]?=some o→o.op=.alloc t→o.dst=some d→∀z,∃A',V6 tt kb z o.dst o.op=some (true,A')
 |[],_,j,hj=>by simp[iS] at hj
 |(i,m)::is,h,j,hj=>by
  intro o t d ho hop hd z
  rw[iS] at hj
  rw[J2] at h
  simp only[Bool.and_eq_true] at h
  cases hm:Nat.beq m 4 with
  |true=>
   rw[hm] at hj h
   simp only[cond_true] at hj h
   rcases List.mem_cons.1 hj with rfl | hj
   ·have h1:=h.1
    rw[ho] at h1
    simp only[hop] at h1
    rw[hop,hd]
    simp only[V6]
    rw[h1]
    exact ⟨_,rfl⟩
   ·exact sK is h.2 hj o t d ho hop hd z
  |false=>rw[hm] at hj;exact sK is h.2 hj o t d ho hop hd z
theorem jY {j:Nat}(h:qb ops j=true):∃o t d,ops[j]?=some o∧o.op=.alloc t∧o.after = #[]∧o.guard=none∧o.dst=some d∧∀k o',k≠j→ops[k]?=some o'→o'.dst≠some d:=by
 unfold qb at h
 split at h
 ·rename_i o ho
  simp only[Bool.and_eq_true] at h
  obtain ⟨h1,h2,h3,h4⟩:=h
  split at h1
  ·rename_i t ht
   split at h4
   ·rename_i d hd
    refine ⟨o,t,d,ho,ht,by simpa using h2,by simpa using h3,hd,fun k o' hk hk'=>?_⟩
    simp only[List.all_eq_true,List.mem_range,Bool.or_eq_true,beq_iff_eq] at h4
    have:=(h4 k (Array.getElem?_eq_some_iff.1 hk').1).resolve_left hk
    rw[hk'] at this
    simpa using this
   ·cases h4
  ·cases h1
 ·cases h
theorem cN {l0:Array Bool}{pf:List Nat}(h:my ops l0 pf=true):∀j∈pf,qb ops j=true∧l0.getD j true=false:=by
 intro j hj
 have:=List.all_eq_true.1 h j hj
 simpa using this
theorem V.map_noKey {v:V}{k:Nat}(h:v.hasKey k=false):v.map (C.noKey k)=v:=by
 have hl:∀cs:List C,cs.any (·.hasKey k)=false→cs.map (C.noKey k)=cs:=fun cs h=>by
  conv=>rhs;rw[← List.map_id cs]
  refine List.map_congr_left fun c hc=>?_
  have:=List.any_eq_false.1 h c hc
  simp[C.noKey,this]
 cases v with
 |one c=>simp only[V.map];simp only[V.hasKey] at h;simp[C.noKey,h]
 |agg cs=>simp only[V.map];rw[hl cs h]
 |tup ps=>
  simp only[V.map]
  congr 1
  conv=>rhs;rw[← List.map_id ps]
  refine List.map_congr_left fun p hp=>?_
  have:=List.any_eq_false.1 h p hp
  rw[hl p.2 (by simpa using this)];rfl
 |any=>rfl
theorem AS.map_noKey {A:AS}{k:Nat}(h:A.uses k=false):A.map (C.noKey k)=A:=by
 unfold AS.uses at h
 simp only[Bool.or_eq_false_iff] at h
 obtain ⟨⟨h1,h2⟩,h3⟩:=h
 obtain ⟨tm,stk,ob⟩:=A
 have ht:∀vs:List V,(∀v∈vs,v.map (C.noKey k)=v)→vs.map (V.map (C.noKey k))=vs:=fun vs h=>by
  conv=>rhs;rw[← List.map_id vs]
  exact List.map_congr_left h
 simp only[AS.map]
 congr 1
 ·exact ht tm fun v hv=>V.map_noKey (by have:=List.any_eq_false.1 h1 v hv;simpa using this)
 ·conv=>rhs;rw[← List.map_id stk]
  refine List.map_congr_left fun vs hvs=>?_
  have:=List.any_eq_false.1 h2 vs hvs
  exact ht vs fun v hv=>V.map_noKey (by
   have h':vs.any (·.hasKey k)=false:=by simpa using this
   have:=List.any_eq_false.1 h' v hv;simpa using this)
 ·conv=>rhs;rw[← List.map_id ob]
  refine List.map_congr_left fun o ho=>?_
  have:=List.any_eq_false.1 h3 o ho
  cases o with
  |none=>rfl
  |some cs=>
   have h':cs.any (·.hasKey k)=false:=by simpa using this
   simp only[Option.map_some,id]
   congr 1
   conv=>rhs;rw[← List.map_id cs]
   refine List.map_congr_left fun c hc=>?_
   have:=List.any_eq_false.1 h' c hc
   simp[C.noKey,this]
theorem Rc.noKey' {G:Gh}{w:World}{c:C}{v:Value}(k:Nat)(h:Rc G w c v):Rc G w (c.noKey k) v:=by
 unfold C.noKey
 split
 ·exact h.cell
 ·exact h
theorem Rel.forgetO {F:Fra}{G:Gh}{A:AS}{ts:Array Value}{cst:List (Array Value)}{w:World}(R:Rel F G A ts cst w)(k:Nat):Rel F G (A.forgetO k) ts cst w:=by
 have R':=R.map (f:=C.noKey k) (fun c v h=>h.noKey' k) (mQ k) (fun _ _ h=>⟨h,rfl⟩) R.gh
 refine ⟨R'.tm,R'.stk,fun j cs hj=>?_,R.gh⟩
 simp only[AS.forgetO,List.getElem?_set] at hj
 split at hj
 ·split at hj <;> cases hj
 ·exact R'.ob j cs hj
theorem Rel.anyT {F:Fra}{G:Gh}{A:AS}{ts:Array Value}{cst:List (Array Value)}{w:World}(R:Rel F G A ts cst w)(d:Nat):Rel F G (A.put (some d) .any) ts cst w:=
 ⟨R.tm.set_left d fun _ _=>trivial,R.stk,R.ob,R.gh⟩
theorem Rel.clean {F:Fra}{G:Gh}{ts:Array Value}{cst:List (Array Value)}{w:World}{kb:Nat}:∀(ds:List Nat) {A:AS},Rel F G A ts cst w→Rel F G (ma kb ds A) ts cst w
 |[],_,R=>R
 |d::ds,_,R=>Rel.clean ds ((R.forgetO (kb+d)).anyT d)
theorem All2.set_right {α β:Type}{R:α→β→Prop}:∀{xs:List α} {ys:List β} (n:Nat) {b:β},All2 R xs ys→(∀a,xs[n]?=some a→R a b)→All2 R xs (ys.set n b)
 |[],[],_,_,_,_=>by simp[All2]
 |_::_,_::_,0,_,h,h'=>⟨h' _ rfl,h.2⟩
 |_::_,_::_,n+1,_,h,h'=>⟨h.1,All2.set_right n h.2 fun b hb=>h' b (by simpa using hb)⟩
 |[],_::_,_,_,h,_=>h.elim
 |_::_,[],_,_,h,_=>h.elim
theorem Rel.newFl {F:Fra}{G:Gh}{A:AS}{ts:Array Value}{cst:List (Array Value)}{w w':World}{kb d:Nat}(R:Rel F G A ts cst w)(g:Grew w w')(hk0:F.mu0 (kb+d)=none)(hc:nS kb A d=true)(u:Value):
  Rel F (G.newOb (kb+d) w.heap.size) A (ts.setIfInBounds d u) cst w':=by
 unfold nS at hc
 simp only[Bool.and_eq_true,Bool.not_eq_true'] at hc
 obtain ⟨h1,h2,h3⟩:=hc
 have e:=AS.map_noKey h1
 have go:=Goes.newOb R.gh g (kb+d)
 have hf:∀c v,Rc G w c v→Rc (G.newOb (kb+d) w.heap.size) w' (c.noKey (kb+d)) v:=fun c v h=>h.noKey go
 have ht:All2 (Rv (G.newOb (kb+d) w.heap.size) w') (A.map (C.noKey (kb+d))).tm ts.toList:=R.tm.map_left _ fun a b h=>Rv.map hf h
 have hs:All2 (fun vs (t:Array Value)=>All2 (Rv (G.newOb (kb+d) w.heap.size) w') vs t.toList) (A.map (C.noKey (kb+d))).stk cst:=R.stk.map_left _ fun a b h=>h.map_left _ fun a b h=>Rv.map hf h
 rw[e] at ht hs
 refine ⟨?_,hs,fun k cs hk=>?_,R.gh.newOb g (kb+d) hk0⟩
 ·rw[Array.toList_setIfInBounds]
  refine ht.set_right d fun v hv=>?_
  rw[hv] at h2
  cases v <;> first | trivial | cases h2
 ·have hne:k≠kb+d:=by rintro rfl;rw[hk] at h3;cases h3
  have hk':(A.map (C.noKey (kb+d))).ob[k]?=some (some cs):=by rw[e];exact hk
  obtain ⟨cs0,h0,rfl⟩:=AS.map_ob hk'
  obtain ⟨b,o',hm,hh',hr'⟩:=R.ob k cs0 h0
  exact ⟨b,o',by simp[Gh.newOb,hne,hm],(g.old b (R.gh.mu k b hm).2.2).trans hh',hr'.map hf (mQ _)⟩
theorem As (htt:d0 P tt){o:Oper}{t d kb:Nat}{A A':AS}{chk:Bool}(ho:o.op=.alloc t)(hd:o.dst=some d)(h:V6 tt kb A o.dst o.op=some (chk,A'))(a:Act)(w:World):
  ∃cur:Array Value,(execOp a.eval o).run P w=.ok (.value (.pointer (some ⟨w.heap.size,0,none⟩))) (w.alloc (.cells cur t))∧cur.toList=(tt.at t).zero∧(tt.at t).zero.all Value.oneCell'=true∧
   A'=(A.newOb (kb+d) (ly tt (dv (kb+d) 0) t)).put (some d) (.one (.ptr (kb+d) 0)):=by
 rw[ho,hd] at h
 simp only[V6] at h
 cases hz:(BK tt t).isSome&&(tt.at t).zero.all Value.oneCell' with
 |false=>rw[hz] at h;cases h
 |true=>
  rw[hz] at h
  simp only[cond_true,Option.some.injEq,Prod.mk.injEq] at h
  obtain ⟨_,rfl⟩:=h
  simp only[Bool.and_eq_true] at hz
  obtain ⟨n,hn⟩:=Option.isSome_iff_exists.1 hz.1
  obtain ⟨hT,_⟩:=lw htt hn
  obtain ⟨z,hzr,hzc,_⟩:=hT.zero w
  refine ⟨z.cells,?_,hzc,hz.2,rfl⟩
  obtain ⟨dst,op,type,pos,after,guard⟩:=o
  simp only at ho hd
  subst ho
  simp[execOp,Instr.alloc,hzr,newVar,kW]
def FlDone (tt:TT)(ops:Array Oper)(kb j:Nat)(G:Gh)(a:Act)(w:World):Prop:=
 ∃(o:Oper) (t d b:Nat) (cur:Array Value),ops[j]?=some o∧o.op=.alloc t∧o.dst=some d∧G.mu (kb+d)=some b∧(∀u,a.tmps[d]?=some u→u=.pointer (some ⟨b,0,none⟩))∧
  w.heap[b]?=some (.cells cur t (0,0))∧cur.toList=(tt.at t).zero
theorem Act.put_get {a:Act}{dst:Option Tmp}{d:Nat}(h:dst≠some d)(u:Value):(a.put dst u).tmps[d]?=a.tmps[d]?:=by
 cases dst with
 |none=>rfl
 |some d'=>
  have:d'≠d:=fun e=>h (by rw[e])
  simp[Act.put,Array.getElem?_setIfInBounds_ne this]
theorem FlDone.put {kb i j:Nat}{oi:Oper}{G:Gh}{a:Act}{w:World}(h:FlDone tt ops kb j G a w)(hf:qb ops j=true)(hi:ops[i]?=some oi)(hne:i≠j)(u:Value):FlDone tt ops kb j G (a.put oi.dst u) w:=by
 obtain ⟨o,t,d,b,cur,ho,h1,h2,h3,h4,h5,h6⟩:=h
 refine ⟨o,t,d,b,cur,ho,h1,h2,h3,fun v hv=>h4 v ?_,h5,h6⟩
 obtain ⟨o',t',d',ho',_,_,_,hd',hall⟩:=jY hf
 rw[ho] at ho';cases ho'
 rw[h2] at hd';cases hd'
 rw[Act.put_get (hall i oi hne hi)] at hv
 exact hv
theorem FlDone.unt {kb j:Nat}{ks:List Nat}{G G':Gh}{a:Act}{w w':World}(h:FlDone tt ops kb j G a w)(hk:∀o d,ops[j]?=some o→o.dst=some d→kb+d∈ks)(hu:UntH G ks w G' w'):FlDone tt ops kb j G' a w':=by
 obtain ⟨o,t,d,b,cur,ho,h1,h2,h3,h4,h5,h6⟩:=h
 obtain ⟨e1,e2⟩:=hu.2 _ (hk o d ho h2) b h3
 exact ⟨o,t,d,b,cur,ho,h1,h2,e1,h4,e2.trans h5,h6⟩
theorem Rel.found {F:Fra}{G:Gh}{A:AS}{a:Act}{cst:List (Array Value)}{w:World}{kb d t b:Nat}{cur:Array Value}(R:Rel F G A a.tmps cst w)(h3:G.mu (kb+d)=some b)(h4:∀u,a.tmps[d]?=some u→u=.pointer (some ⟨b,0,none⟩))
  (h5:w.heap[b]?=some (.cells cur t (0,0))) (h6:cur.toList=(tt.at t).zero) (hz:(tt.at t).zero.all Value.oneCell'=true):
  Rel F G ((A.newOb (kb+d) (ly tt (dv (kb+d) 0) t)).put (some d) (.one (.ptr (kb+d) 0))) a.tmps cst w:=by
 have R':=R.map (f:=C.noKey (kb+d)) (fun c v h=>h.noKey' (kb+d)) (mQ _) (fun _ _ h=>⟨h,rfl⟩) R.gh
 refine ⟨?_,R'.stk,?_,R.gh⟩
 ·refine R'.tm.set_left d fun u hu=>?_
  rw[Array.getElem?_toList] at hu
  exact ⟨b,h3,h4 u hu⟩
 ·intro k cs hk
  rcases oD _ (kb+d) k _ cs hk with ⟨rfl,rfl⟩ | ⟨hne,hk'⟩
  ·exact ⟨b,_,h3,h5,.inl ⟨cur,t,rfl,by rw[h6];exact iR _ _ hz⟩⟩
  ·exact R'.ob k cs hk'
structure FlSt (P:Program) (tt:TT) (ops:Array Oper) (T:List Nat) (kb:Nat) (F:Fra) (cst:List (Array Value)) (dfs:List Deferred) (A:AS) (hid:List Nat) (G0:Gh) (w0:World) (l0:Array Bool) (pf:List Nat) (L:Nat)
  (ud:List Nat) (n:Nat) (listed:Array Bool) (G:Gh) (a:Act) (w:World):Prop where
 size:listed.size=l0.size
 get:∀k,k ∉ pf→listed[k]?=l0[k]?
 nodup:ud.Nodup
 und:∀j∈ud,j∈pf∧listed[j]?=l0[j]?
 done:∀j∈pf,j ∉ ud→listed.getD j false=true∧FlDone tt ops kb j G a w
 cnt:n+pf.length=L+ud.length
 rel:Rel F G A a.tmps cst w
 hold:(∀j∈T,listed.getD j false=false)→Hold G0 w0 hid G w
 dfs:a.defers=dfs
theorem cL {l l':Array Bool}{k:Nat}(h:l[k]?=l'[k]?)(d:Bool):l.getD k d=l'.getD k d:=by
 rw[Array.getD_eq_getD_getElem?,Array.getD_eq_getD_getElem?,h]
theorem FlSt.fl (htt:d0 P tt){kb:Nat}{F:Fra}(hkb:∀d,F.mu0 (kb+d)=none){cst:List (Array Value)}{dfs:List Deferred}{A:AS}{hid:List Nat}{G0:Gh}{w0:World}{l0:Array Bool}{pf:List Nat}{L:Nat}
  {ud:List Nat} {n:Nat} {listed:Array Bool} {G:Gh} {a:Act} {w:World} (S:FlSt P tt ops T kb F cst dfs A hid G0 w0 l0 pf L ud (n+1) listed G a w) (hp:my ops l0 pf=true)
  (hcl:∀j∈pf,∀o d,ops[j]?=some o→o.dst=some d→nS kb A d=true) (hal:∀j∈pf,∀o t d,ops[j]?=some o→o.op=.alloc t→o.dst=some d→∀z,∃A',V6 tt kb z o.dst o.op=some (true,A'))
  (hhid:∀j∈pf,∀o d,ops[j]?=some o→o.dst=some d→kb+d ∉ hid)
  {Q:Exit→Act→World→Prop} {k:Nat} (hk:k∈ud):wpOp P ops Q k (fun a' w'=>∃G',FlSt P tt ops T kb F cst dfs A hid G0 w0 l0 pf L (ud.erase k) n (listed.setIfInBounds k true) G' a' w') a w:=by
 obtain ⟨hkp,hkl⟩:=S.und k hk
 obtain ⟨hf,hu0⟩:=cN hp k hkp
 obtain ⟨o,t,d,ho,hop,haf,hgd,hd,hall⟩:=jY hf
 obtain ⟨A',hz⟩:=hal k hkp o t d ho hop hd A
 obtain ⟨cur,hrun,hcur,hzz,_⟩:=As htt hop hd hz a w
 have hlt:k<l0.size:=by
  rcases Nat.lt_or_ge k l0.size with h | h
  ·exact h
  ·rw[Array.getD_eq_getD_getElem?,Array.getElem?_eq_none h] at hu0;cases hu0
 unfold wpOp
 rw[ho]
 simp only
 rw[if_pos (by simp[Region.wanted,hgd])]
 refine .inl ?_
 unfold Oper.wp
 rw[hrun]
 simp only[Oper.upon]
 have hg:=Grew.alloc w (.cells cur t)
 have go:=Goes.newOb S.rel.gh hg (kb+d)
 have hh:(w.alloc (.cells cur t)).heap[w.heap.size]?=some (.cells cur t (0,0)):=heap_alloc_new w _
 refine ⟨G.newOb (kb+d) w.heap.size,⟨by simp[S.size],fun j hj=>?_,S.nodup.erase _,fun j hj=>?_,fun j hj hju=>?_,?_,?_,fun hT=>?_,(Act.put_defers' _ _ _).trans S.dfs⟩⟩
 ·rw[Array.getElem?_setIfInBounds_ne (by rintro rfl;exact hj hkp)];exact S.get j hj
 ·have hjk:j≠k:=by rintro rfl;exact absurd hj (by rw[S.nodup.mem_erase_iff];simp)
  obtain ⟨h1,h2⟩:=S.und j (List.mem_of_mem_erase hj)
  exact ⟨h1,by rw[Array.getElem?_setIfInBounds_ne (Ne.symm hjk)];exact h2⟩
 ·by_cases hjk:j=k
  ·subst hjk
   refine ⟨by simp[S.size,hlt],o,t,d,w.heap.size,cur,ho,hop,hd,by simp[Gh.newOb],fun u hu=>?_,hh,hcur⟩
   rw[hd] at hu
   simp only[Act.put,Array.getElem?_setIfInBounds_self] at hu
   split at hu
   ·cases hu;rfl
   ·cases hu
  ·have hju':j ∉ ud:=fun h=>hju (by rw[S.nodup.mem_erase_iff];exact ⟨hjk,h⟩)
   obtain ⟨h1,h2⟩:=S.done j hj hju'
   refine ⟨getD_set_true h1,?_⟩
   have h3:=h2.put (cN hp j hj).1 ho (Ne.symm hjk) (.pointer (some ⟨w.heap.size,0,none⟩))
   obtain ⟨o',t',d',b',cur',ho',g1,g2,g3,g4,g5,g6⟩:=h3
   have hdd:d'≠d:=by rintro rfl;exact hall j o' hjk ho' g2
   exact ⟨o',t',d',b',cur',ho',g1,g2,by simp[Gh.newOb,hdd,g3],g4,(hg.old b' (S.rel.gh.mu _ b' g3).2.2).trans g5,g6⟩
 ·have h1:=S.cnt
  have h2:(ud.erase k).length+1=ud.length:=by
   have:=List.length_erase_of_mem hk
   have:=List.length_pos_of_mem hk
   omega
  omega
 ·have:=S.rel.newFl hg (hkb d) (hcl k hkp o d ho hd) (.pointer (some ⟨w.heap.size,0,none⟩))
  rw[hd]
  exact this
 ·have h0:=S.hold fun j hj=>by
   cases hh:listed.getD j false with
   |false=>rfl
   |true=>have:=hT j hj;rw[getD_set_true hh] at this;cases this
  refine h0.step ⟨go.kept,fun key hkey b hb=>?_⟩
  have:key≠kb+d:=by rintro rfl;exact hhid k hkp o d ho hd hkey
  exact ⟨by simp[Gh.newOb,this,hb],hg.old b (S.rel.gh.mu key b hb).2.2⟩
theorem Ut {l0 listed:Array Bool}{pf:List Nat}(hp:my ops l0 pf=true)(hg:∀k,k ∉ pf→listed[k]?=l0[k]?){i:Nat}(hip:i ∉ pf)(hr:i∈Region.ready .any ops l0):i∈Region.ready .any ops listed:=by
 rw[mem_ready] at hr ⊢
 obtain ⟨h1,o',h2,h3⟩:=hr
 refine ⟨by rw[cL (hg i hip)];exact h1,o',h2,fun e he hb=>?_⟩
 have h4:=h3 e he hb
 by_cases hep:e.on∈pf
 ·have:=(cN hp _ hep).2
  rw[Array.getD_eq_getD_getElem?] at this h4
  cases hx:l0[e.on]? with
  |none=>rw[hx] at this;cases this
  |some x=>rw[hx] at this h4;simp at this h4;rw[this] at h4;cases h4
 ·rw[cL (hg _ hep)];exact h4
theorem FV {l0:Array Bool}{pf:List Nat}(hp:my ops l0 pf=true){j:Nat}(hj:j∈pf):j<l0.size:=by
 have:=(cN hp j hj).2
 rcases Nat.lt_or_ge j l0.size with h | h
 ·exact h
 ·rw[Array.getD_eq_getD_getElem?,Array.getElem?_eq_none h] at this;cases this
theorem IU {l0 listed:Array Bool}{X:List Nat}{k:Nat}(hX:∀j∈X,j<l0.size)(hl:∀j,listed.getD j false=true→j∈X∨l0.getD j false=true)(hkX:k ∉ X)(hk:listed[k]?=l0[k]?)(hr:k∈Region.ready .any ops listed):
  k∈Region.ready .any ops (sJ l0 X):=by
 rw[mem_ready] at hr ⊢
 obtain ⟨h1,o',h2,h3⟩:=hr
 refine ⟨?_,o',h2,fun e he hb=>?_⟩
 ·rw[cL ((BZ X l0 k hkX).trans hk.symm)];exact h1
 ·rcases hl _ (h3 e he hb) with h | h
  ·exact B0 X l0 _ h (hX _ h)
  ·exact rh X l0 _ h
theorem Du {listed:Array Bool}{k:Nat}(h:listed.getD k false=true):k ∉ Region.ready .any ops listed:=by
 intro hr
 have h0:=(mem_ready.1 hr).1
 rw[Array.getD_eq_getD_getElem?] at h h0
 cases hx:listed[k]? with
 |none=>rw[hx] at h0;cases h0
 |some x=>rw[hx] at h h0;simp at h h0;rw[h] at h0;cases h0
theorem FlSt.next {kb:Nat}{F:Fra}{cst:List (Array Value)}{dfs:List Deferred}{A A':AS}{hid hid':List Nat}{G0:Gh}{w0:World}{l0:Array Bool}{pf:List Nat}{L:Nat}
  {ud:List Nat} {n:Nat} {listed:Array Bool} {G G':Gh} {a:Act} {w w':World} (S:FlSt P tt ops T kb F cst dfs A hid G0 w0 l0 pf (L+1) ud (n+1) listed G a w) {i:Nat} {o:Oper} (ho:ops[i]?=some o) (hip:i ∉ pf)
  (hpe:my ops l0 pf=true) {u:Value} {ks:List Nat} (hk:∀j∈pf,∀o d,ops[j]?=some o→o.dst=some d→kb+d∈ks) (hu:UntH G ks w G' w') (hR:Rel F G' A' (a.put o.dst u).tmps cst w')
  (hold:(∀j∈T,listed.getD j false=false)→Hold G0 w0 hid' G' w'):
  FlSt P tt ops T kb F cst dfs A' hid' G0 w0 (l0.setIfInBounds i true) pf L ud n (listed.setIfInBounds i true) G' (a.put o.dst u) w':=by
 refine ⟨by simp[S.size],fun k hk=>?_,S.nodup,fun j hj=>?_,fun j hj hju=>?_,?_,hR,fun hT'=>?_,(Act.put_defers' _ _ _).trans S.dfs⟩
 ·by_cases hki:k=i
  ·rw[hki,Array.getElem?_setIfInBounds_self,Array.getElem?_setIfInBounds_self,S.size]
  ·rw[Array.getElem?_setIfInBounds_ne (Ne.symm hki),Array.getElem?_setIfInBounds_ne (Ne.symm hki)];exact S.get k hk
 ·obtain ⟨h1,h2⟩:=S.und j hj
  have hji:i≠j:=by rintro rfl;exact hip h1
  exact ⟨h1,by rw[Array.getElem?_setIfInBounds_ne hji,Array.getElem?_setIfInBounds_ne hji];exact h2⟩
 ·obtain ⟨h1,h2⟩:=S.done j hj hju
  exact ⟨getD_set_true h1,(h2.unt (hk j hj) hu).put (cN hpe j hj).1 ho (by rintro rfl;exact hip hj) u⟩
 ·have:=S.cnt;omega
 ·exact hold fun j hj=>by
   cases hh:listed.getD j false with
   |false=>rfl
   |true=>have:=hT' j hj;rw[getD_set_true hh] at this;cases this
theorem HI (htt:d0 P tt){hd:Hd}(hh:sI P hd){R:Type}{F:Fra}{G:Gh}{A:AS}{a:Act}{cst:List (Array Value)}{w:World}(Rl:Rel F G A a.tmps cst w){kb:Nat}(hkb:∀d,F.mu0 (kb+d)=none)(hid:List Nat)(o:Oper){K:Ex→AS→Option R}{r:R}
  (h:E3 tt hd kb hid o A K=some r) {N:Act→World→Prop} {Q:Exit→Act→World→Prop} (hK:YC F cst a.defers r K (fun G' a' w'=>UntH G hid w G' w'∧(O6 o.op=true→G'=G∧w'=w)) N Q):o.wp P a w N Q:=by
 cases hp:O6 o.op with
 |false=>
  refine rp htt hh Rl hkb hid o h fun ex A' G' a' w' hR hd hk=>?_
  have:=hK ex A' G' a' w' hR hd hk
  cases ex with
  |normal=>exact fun hu=>this ⟨hu.1,fun e=>by rw[hp] at e;cases e⟩
  |exit id=>exact this
  |ret=>exact this
  |panic v=>exact this
 |true=>
  unfold E3 at h
  simp only[AS.putK_eq,AS.force_eq] at h
  unfold Oper.wp
  split at h
  ·rename_i c x y hop
   have hc:=Rl.opd c
   split at h
   ·rename_i b e1
    rw[e1] at hc
    have hc':a.eval c=.bool b:=hc
    have hrun:(execOp a.eval o).run P w=.ok (.value (if b then a.eval x else a.eval y)) w:=by
     simp only[execOp,hop,Sem.run_bind,hc',asBool,Sem.run_pure,Result.andThen_ok]
    rw[hrun]
    simp only[Oper.upon]
    cases b with
    |true=>exact hK .normal _ _ _ _ (Rl.puts (Rl.opd x) o.dst) (Act.put_defers' _ _ _) h ⟨.refl _ _ _,fun _=>⟨rfl,rfl⟩⟩
    |false=>exact hK .normal _ _ _ _ (Rl.puts (Rl.opd y) o.dst) (Act.put_defers' _ _ _) h ⟨.refl _ _ _,fun _=>⟨rfl,rfl⟩⟩
   ·cases h
  all_goals
   exfalso
   unfold O6 at hp
   split at hp
   ·simp_all
   ·cases hp
theorem gV (htt:d0 P tt){hd:Hd}(hh:sI P hd)(hs:Region.noSelect ops=true){R:Type}{F:Fra}{cst:List (Array Value)}{kb:Nat}(hkb:∀d,F.mu0 (kb+d)=none){r:R}{Q:Exit→Act→World→Prop}{G0:Gh}{w0:World}:
  ∀(is:List (Nat×Nat)) {ph:Bool} {l0 listed:Array Bool} {ud:List Nat} {n:Nat} {hid:List Nat} {G:Gh} {A:AS} {a:Act} {w:World} {K:Ex→AS→Option R} {dfs:List Deferred},
  rj tt ops T ph l0 is=true→Bu tt hd kb ops is hid A K=some r→Bv F cst dfs r K Q→
  FlSt P tt ops T kb F cst dfs A hid G0 w0 l0 (iS is) is.length ud n listed G a w→(ph=true→G=G0∧w=w0)→
  wpAnyL P .any ops (Qh ops Q) T (Agr (·∈hid) G0 w0) n listed a w
 |[],ph,l0,listed,ud,n,hid,G,A,a,w,K,dfs,hc,h,hK,S,hph=>by
  simp only[rj,List.isEmpty_iff] at hc
  have hud:ud=[]:=by
   cases ud with
   |nil=>rfl
   |cons x xs=>exact absurd (S.und x (by simp)).1 (by simp[iS])
  have hn:n=0:=by have:=S.cnt;subst hud;simp[iS] at this;exact this
  have hl:listed=l0:=Array.ext_getElem? fun k=>S.get k (by simp[iS])
  subst hn hl
  exact ⟨hc,hK .normal A G a w S.rel S.dfs h⟩
 |(i,m)::is,ph,l0,listed,ud,n,hid,G,A,a,w,K,dfs,hc,h,hK,S,hph=>by
  obtain rfl:=S.dfs
  simp only[Bu] at h
  cases ho:ops[i]? with
  |none=>rw[ho] at h;cases h
  |some o=>
   rw[ho] at h
   simp only at h
   have hpl:=FW is
   have quiet:∀(hid':List Nat),iS ((i,m)::is)=iS is→xK ops T l0 i=true→(!(iS is).contains i&&my ops l0 (iS is))=true→(∀w',Agr (·∈hid') G0 w0 w'→Agr (·∈hid) G0 w0 w')→((∀j∈T,listed.getD j false=false)→Hold G0 w0 hid' G w)→
     ∀v,YieldsIf P ops (Agr (·∈hid') G0 w0) o v a→∀A',Rel F G A' (a.put o.dst v).tmps cst w→
     (∀n',FlSt P tt ops T kb F cst (a.put o.dst v).defers A' hid' G0 w0 (l0.setIfInBounds i true) (iS is) is.length ud n' (listed.setIfInBounds i true) G (a.put o.dst v) w→wpAnyL P .any ops (Qh ops Q) T (Agr (·∈hid') G0 w0) n' (listed.setIfInBounds i true) (a.put o.dst v) w)→
     wpAnyL P .any ops (Qh ops Q) T (Agr (·∈hid) G0 w0) n listed a w:=by
    intro hid' hpf hq hpe hm hA v hy A' hR hrest
    rw[hpf] at S
    simp only[Bool.and_eq_true,Bool.not_eq_true',List.contains_eq_mem,decide_eq_false_iff_not] at hpe
    obtain ⟨hip,hpe⟩:=hpe
    simp only[xK,Bool.and_eq_true,List.all_eq_true,Bool.not_eq_true',beq_eq_false_iff_ne,Gp,List.any_eq_true,beq_iff_eq,exists_eq_right] at hq
    obtain ⟨hf,hr,hT,hZ⟩:=hq
    have hnZ:∀j∈uL ops i,j ∉ iS is:=fun j hj hjp=>by
     obtain ⟨o',t,d,ho',_,haf,_⟩:=jY (cN hpe j hjp).1
     obtain ⟨e,he,_⟩:=wm ops i j hj o' ho'
     rw[haf] at he;simp at he
    have hZl:∀j∈uL ops i,listed.getD j false=false:=fun j hj=>by rw[cL (S.get j (hnZ j hj))];exact (hZ j hj).2
    have hir:i∈Region.ready .any ops listed:=by
     have hr':i∈Region.ready .any ops l0:=by simpa using hr
     rw[mem_ready] at hr' ⊢
     obtain ⟨h1,o',h2,h3⟩:=hr'
     refine ⟨by rw[cL (S.get i hip)];exact h1,o',h2,fun e he hb=>?_⟩
     have h4:=h3 e he hb
     by_cases hep:e.on∈iS is
     ·have:=(cN hpe _ hep).2
      rw[Array.getD_eq_getD_getElem?] at this h4
      cases hx:l0[e.on]? with
      |none=>rw[hx] at this;cases this
      |some x=>rw[hx] at this h4;simp at this h4;rw[this] at h4;cases h4
     ·rw[cL (S.get _ hep)];exact h4
    obtain ⟨n',rfl⟩:∃n',n=n'+1:=⟨n - 1,by have:=S.cnt;simp only[List.length_cons] at this;omega⟩
    refine (wpAnyL.first ho (Region.noSelect_spec hs) (fun c a w=>Qh.put ho v c a w) hT (fun j hj=>⟨(hZ j hj).1,wm ops i j hj⟩) n' listed a w (fun j oj hoj hji hjl hjd=>?_) hir hy
     (hA fun j hj=>hZl j (hT j hj)).agr hZl (hrest n' ⟨by simp[S.size],fun k hk=>?_,S.nodup,fun j hj=>?_,fun j hj hju=>?_,?_,hR,fun hT'=>?_,rfl⟩)).weaken hm
    ·refine Region.free_spec ho hf j oj hoj hji ?_ hjd
     by_cases hjp:j∈iS is
     ·exact (cN hpe j hjp).2
     ·rw[← cL (S.get j hjp)];exact hjl
    ·by_cases hki:k=i
     ·rw[hki,Array.getElem?_setIfInBounds_self,Array.getElem?_setIfInBounds_self,S.size]
     ·rw[Array.getElem?_setIfInBounds_ne (Ne.symm hki),Array.getElem?_setIfInBounds_ne (Ne.symm hki)];exact S.get k hk
    ·obtain ⟨h1,h2⟩:=S.und j hj
     have hji:i≠j:=by rintro rfl;exact hip h1
     exact ⟨h1,by rw[Array.getElem?_setIfInBounds_ne hji,Array.getElem?_setIfInBounds_ne hji];exact h2⟩
    ·obtain ⟨h1,h2⟩:=S.done j hj hju
     exact ⟨getD_set_true h1,h2.put (cN hpe j hj).1 ho (by rintro rfl;exact hip hj) v⟩
    ·have h1:=S.cnt;have h2:((i,m)::is).length=is.length+1:=List.length_cons;omega
    ·exact hA fun j hj=>by
      cases hh:listed.getD j false with
      |false=>rfl
      |true=>have:=hT' j hj;rw[getD_set_true hh] at this;cases this
   have hset:∀j∈T,j≠i→(listed.setIfInBounds i true).getD j false=listed.getD j false:=fun j _ hne=>getD_set_ne false (Ne.symm hne)
   have sole:∀(ph':Bool) (hid':List Nat),iS is=[]→iS ((i,m)::is)=iS is→F6 ops l0 i=true→(∀(a':Act) (w':World) (G':Gh) (A':AS),Rel F G' A' a'.tmps cst w'→a'.defers=a.defers→UntH G hid' w G' w'→(O6 o.op=true→G'=G∧w'=w)→Bu tt hd kb ops is hid A' K=some r→
      (V9 T (Agr (·∈hid) G0 w0) (listed.setIfInBounds i true) w'∧(Hold G0 w0 hid G' w'∨¬ ∀j∈T,(listed.setIfInBounds i true).getD j false=false))∧(ph'=true→G'=G0∧w'=w0))→
     rj tt ops T ph' (l0.setIfInBounds i true) is=true→
     jZ ops o A (fun A=>E3 tt hd kb hid' o A fun ex A'=>match ex with
      |.normal=>Bu tt hd kb ops is hid A' K
      |.panic v=>K (.panic v) { A' with tm:=wE (jX ops) 0 A'.tm }
      |ex=>K ex A') (fun A=>Bu tt hd kb ops is hid A K)=some r→
     wpAnyL P .any ops (Qh ops Q) T (Agr (·∈hid) G0 w0) n listed a w:=by
    intro ph' hid' hpe hpf hs1 hho hc hgd
    rw[hpf,hpe] at S
    have hud:ud=[]:=by
     cases ud with
     |nil=>rfl
     |cons x xs=>exact absurd (S.und x (by simp)).1 (by simp)
    have hn:n=is.length+1:=by have:=S.cnt;subst hud;simp at this;exact this
    have hl:listed=l0:=Array.ext_getElem? fun k=>S.get k (by simp)
    subst hn hl hud
    have hr:Region.ready .any ops listed=[i]:=by
     unfold F6 at hs1
     split at hs1
     ·rename_i j e
      rw[e,beq_iff_eq.1 hs1]
     ·cases hs1
    have hrest:∀(a':Act) (w':World) (G':Gh) (A':AS),Rel F G' A' a'.tmps cst w'→a'.defers=a.defers→UntH G hid' w G' w'→(O6 o.op=true→G'=G∧w'=w)→Bu tt hd kb ops is hid A' K=some r→
      V9 T (Agr (·∈hid) G0 w0) (listed.setIfInBounds i true) w'∧wpAnyL P .any ops (Qh ops Q) T (Agr (·∈hid) G0 w0) is.length (listed.setIfInBounds i true) a' w':=by
     intro a' w' G' A' hR hd' hu hpk hk
     obtain ⟨⟨h1,h2⟩,h3⟩:=hho a' w' G' A' hR hd' hu hpk hk
     refine ⟨h1,gV htt hh hs hkb is hc hk hK ⟨rfl,fun _ _=>rfl,S.nodup,fun j hj=>(by cases hj),fun j hj=>(by rw[hpe] at hj;cases hj),(by rw[hpe]),hR,fun hT=>h2.resolve_right fun h=>h hT,hd'⟩ h3⟩
    refine ⟨fun e=>(by rw[e] at hr;cases hr),fun j hj=>?_⟩
    rw[hr,List.mem_singleton] at hj
    subst hj
    unfold wpOp
    rw[ho]
    simp only
    rcases gm S.rel hgd with ⟨hw,A1,R1,h1⟩ | ⟨hw,A1,R1,h1⟩
    ·rw[if_pos hw]
     refine .inl (HI htt hh R1 hkb hid' o h1 ?_)
     intro ex A' G' a' w' R' hd' hk
     cases ex with
     |normal=>exact fun hu=>hrest a' w' G' A' R' hd' hu.1 hu.2 hk
     |exit id=>exact hK _ A' G' a' w' R' hd' hk
     |ret=>exact hK _ A' G' a' w' R' hd' hk
     |panic v=>exact fun u hu=>Qh.post hK R' hd' hk u hu
    ·rw[if_neg (by simp[hw])]
     exact hrest _ w G A1 R1 (Act.put_defers' _ _ _) (.refl _ _ _) (fun _=>⟨rfl,rfl⟩) h1
   match m,hc,h with
   |0,hc,h=>
    simp only[rj,Bool.and_eq_true] at hc
    obtain ⟨⟨⟨hq,hrd⟩,hpe⟩,hc⟩:=hc
    have hrd':zx tt o.op=false:=by simpa [FZ,ho] using hrd
    rcases gm S.rel h with ⟨hw,A1,R1,h1⟩ | ⟨hw,A1,R1,h1⟩
    ·split at h1
     ·rename_i chk v hv
      cases chk with
      |false=>cases h1
      |true=>
       simp only[cond_true,AS.putK_eq] at h1
       obtain ⟨u,hu,hr⟩:=E4 (H:=fun _=>True) htt (fun x=>R1.opd x) R1.ob o hv rfl fun _ _ _ _ _ _=>trivial
       refine quiet hid rfl hq (by simpa using hpe) (fun _ h=>h) S.hold u (.inl ⟨hw,fun w' _=>hu w' fun e=>by rw[hrd'] at e;cases e⟩) _ (R1.puts hr o.dst) fun n' S'=>?_
       exact gV htt hh hs hkb is hc h1 (by rw[Act.put_defers'];exact hK) S' hph
     ·cases h1
    ·refine quiet hid rfl hq (by simpa using hpe) (fun _ h=>h) S.hold undef (.inr ⟨hw,rfl⟩) _ R1 fun n' S'=>?_
     exact gV htt hh hs hkb is hc h1 (by rw[Act.put_defers'];exact hK) S' hph
   |1,hc,h=>
    simp only[rj,Bool.and_eq_true] at hc
    obtain ⟨⟨⟨hq,rfl⟩,hpe⟩,hc⟩:=hc
    obtain ⟨rfl,rfl⟩:=hph rfl
    rcases gm S.rel h with ⟨hw,A1,R1,h1⟩ | ⟨hw,A1,R1,h1⟩
    ·split at h1
     ·rename_i chk v hv
      cases chk with
      |false=>cases h1
      |true=>
       simp only[cond_true,AS.putK_eq] at h1
       obtain ⟨u,hu,hr⟩:=E4 (H:=(·∈xB A1 o.op++hid)) htt (fun x=>R1.opd x) R1.ob o hv rfl fun t x k j e1 e2=>by
        rw[e1];simp only[xB,e2];simp
       refine quiet (xB A1 o.op++hid) rfl hq (by simpa using hpe) (fun w' h=>⟨h.1,fun key b hk hb=>h.2 key b (List.mem_append_right _ hk) hb⟩) (fun _=>⟨fun _ _ h=>h,fun _ _ _ h=>h,Agr.refl _ _ _⟩) u (.inl ⟨hw,fun w' h'=>hu w' fun _=>h'⟩) _ (R1.puts hr o.dst) fun n' S'=>?_
       exact gV htt hh hs hkb is hc h1 (by rw[Act.put_defers'];exact hK) S' fun _=>⟨rfl,rfl⟩
     ·cases h1
    ·refine quiet hid rfl hq (by simpa using hpe) (fun _ h=>h) S.hold undef (.inr ⟨hw,rfl⟩) _ R1 fun n' S'=>?_
     exact gV htt hh hs hkb is hc h1 (by rw[Act.put_defers'];exact hK) S' fun _=>⟨rfl,rfl⟩
   |2,hc,h=>
    simp only[rj,Bool.and_eq_true,List.all_eq_true,Bool.not_eq_true',beq_eq_false_iff_ne,List.isEmpty_iff] at hc
    obtain ⟨⟨⟨hso,hiT⟩,hpe⟩,hc⟩:=hc
    refine sole (ph&&FX ops i) hid hpe rfl hso (fun a' w' G' A' R' hd' hu hpk hk=>⟨?_,fun e=>?_⟩) hc h
    rotate_left
    ·rw[Bool.and_eq_true] at e
     obtain ⟨rfl,rfl⟩:=hpk (by simpa [FX,ho] using e.2)
     exact hph e.1
    have hold:(∀j∈T,(listed.setIfInBounds i true).getD j false=false)→Hold G0 w0 hid G' w':=fun hT=>(S.hold fun j hj=>by rw[← hset j hj (hiT j hj)];exact hT j hj).step hu
    exact ⟨fun hT=>(hold hT).agr,(Classical.em _).imp hold id⟩
   |n0+3,hc,h=>
    simp only[rj] at hc
    rename_i hx0
    clear hx0
    simp only[AS.force_eq] at h
    cases h4:Nat.beq n0 1 with
    |true=>
     obtain rfl:n0=1:=Nat.eq_of_beq_eq_true h4
     rw[h4] at hc h
     simp only[cond_true,Bool.and_eq_true,Bool.not_eq_true',List.contains_eq_mem,decide_eq_false_iff_not] at hc
     obtain ⟨⟨⟨hip,hpe⟩,hso⟩,hc⟩:=hc
     have hpf:iS ((i,1+3)::is)=i::iS is:=rfl
     simp only[cond_true] at h
     cases hcl:(J2 tt ops ((i,4)::is)&&(zf ops ((i,4)::is)).all (nS kb (ma kb (zf ops ((i,4)::is)) A)))&&!(hid.any fun k=>(zf ops ((i,4)::is)).any fun d=>k == kb+d) with
     |false=>rw[hcl] at h;cases h
     |true=>
      rw[hcl] at h
      simp only[cond_true] at h
      have S1:FlSt P tt ops T kb F cst a.defers (ma kb (zf ops ((i,4)::is)) A) hid G0 w0 l0 (iS ((i,1+3)::is)) ((i,1+3)::is).length ud n listed G a w:={ S with rel:=S.rel.clean _ }
      generalize ma kb (zf ops ((i,4)::is)) A=A1 at h hcl S1
      clear S
      simp only[Bool.and_eq_true,Bool.not_eq_true',List.all_eq_true,List.any_eq_false,List.any_eq_true,beq_iff_eq,not_exists,not_and] at hcl
      cases hA:V6 tt kb A1 o.dst o.op with
      |none=>rw[hA] at h;cases h
      |some p=>
       obtain ⟨chk,A'⟩:=p
       rw[hA] at h
       cases chk with
       |false=>cases h
       |true=>
        simp only[cond_true] at h
        have hpall:=cN hpe
        have key:∀(N:Nat) (ud:List Nat) (n:Nat) (listed:Array Bool) (G:Gh) (a':Act) (w:World),ud.length=N→
          FlSt P tt ops T kb F cst a.defers A1 hid G0 w0 l0 (i::iS is) (is.length+1) ud n listed G a' w→wpAnyL P .any ops (Qh ops Q) T (Agr (·∈hid) G0 w0) n listed a' w:=by
         intro N
         induction N using Nat.strongRecOn with
         |ind N ih=>
         intro ud n listed G a' w hN S
         by_cases hiu:i∈ud
         ·have hlen:=List.length_pos_of_mem hiu
          obtain ⟨n',rfl⟩:∃n',n=n'+1:=⟨n - 1,by have:=S.cnt;simp only[List.length_cons] at this;omega⟩
          have hir:i∈Region.ready .any ops listed:=by
           obtain ⟨o',t,d,ho',_,haf,_⟩:=jY (hpall i (by simp)).1
           rw[mem_ready]
           refine ⟨by rw[cL (S.und i hiu).2];exact (hpall i (by simp)).2,o',ho',fun e he=>by rw[haf] at he;simp at he⟩
          refine ⟨fun e=>(by rw[e] at hir;cases hir),fun k hk=>?_⟩
          by_cases hku:k∈ud
          ·refine wpOp_mono (fun a'' w'' ⟨G',S'⟩=>⟨fun hT=>(S'.hold hT).agr,ih _ ?_ _ _ _ _ _ _ rfl S'⟩) (S.fl htt hkb hpe (fun j hj o' d ho' hd'=>hcl.1.2 d (nh ((i,4)::is) hj ho' hd')) (fun j hj=>sK ((i,4)::is) hcl.1.1 hj) (fun j hj o' d ho' hd' hin=>hcl.2 _ hin d (nh ((i,4)::is) hj ho' hd') rfl) hku)
           rw[List.length_erase_of_mem hku];have:=List.length_pos_of_mem hku;omega
          ·exfalso
           have hkp:k ∉ i::iS is:=fun h=>Du (S.done k h hku).1 hk
           have:=IU (X:=iS is) (l0:=l0) (fun j hj=>FV hpe (List.mem_cons_of_mem _ hj)) (fun j hj=>?_) (fun h=>hkp (List.mem_cons_of_mem _ h)) (S.get k hkp) hk
           ·have:=List.all_eq_true.1 hso k this
            exact hkp (by rw[beq_iff_eq.1 this];simp)
           ·by_cases hjp:j∈i::iS is
            ·rcases List.mem_cons.1 hjp with rfl | h
             ·rw[cL (S.und j hiu).2] at hj;exact .inr hj
             ·exact .inl h
            ·rw[cL (S.get j hjp)] at hj;exact .inr hj
         ·obtain ⟨hli,o',t,d,b,cur,ho',hop,hd',hmu,htm,hhp,hcz⟩:=S.done i (by simp) hiu
          rw[ho] at ho';cases ho'
          obtain ⟨_,_,_,hzz,eA⟩:=As htt hop hd' hA a' w
          subst eA
          refine gV htt hh hs hkb is hc h hK ⟨by simp[S.size],fun k hk=>?_,S.nodup,fun j hj=>?_,fun j hj hju=>S.done j (by simp[hj]) hju,?_,S.rel.found hmu htm hhp hcz hzz,S.hold,S.dfs⟩ fun e=>by cases e
          ·by_cases hki:k=i
           ·have hlt:=FV hpe (j:=i) (by simp)
            rw[hki,Array.getElem?_setIfInBounds_self,if_pos hlt]
            rw[Array.getD_eq_getD_getElem?] at hli
            cases hx:listed[i]? with
            |none=>rw[hx] at hli;cases hli
            |some x=>rw[hx] at hli;simp at hli;rw[hli]
           ·rw[Array.getElem?_setIfInBounds_ne (Ne.symm hki)]
            exact S.get k (by simp[hki,hk])
          ·obtain ⟨h1,h2⟩:=S.und j hj
           have hji:j≠i:=by rintro rfl;exact hiu hj
           refine ⟨(List.mem_cons.1 h1).resolve_left hji,?_⟩
           rw[Array.getElem?_setIfInBounds_ne (Ne.symm hji)];exact h2
          ·have:=S.cnt;simp only[List.length_cons] at this;omega
        exact key _ ud n listed G a w rfl S1
    |false=>
     rw[h4] at hc h
     simp only[cond_false] at hc h
     cases h6:Nat.beq n0 3 with
     |true=>
      obtain rfl:n0=3:=Nat.eq_of_beq_eq_true h6
      rw[h6] at hc h
      simp only[cond_true,Bool.and_eq_true,Bool.not_eq_true',List.contains_eq_mem,decide_eq_false_iff_not,List.all_eq_true,beq_eq_false_iff_ne] at hc
      obtain ⟨⟨⟨hso,hiT⟩,hip,hpe⟩,hc⟩:=hc
      have hpf:iS ((i,3+3)::is)=iS is:=rfl
      simp only[cond_true] at h
      cases hcl:(J2 tt ops is&&(zf ops is).all (nS kb (ma kb (zf ops is) A)))&&!(hid.any fun k=>(zf ops is).any fun d=>k == kb+d) with
      |false=>rw[hcl] at h;cases h
      |true=>
       rw[hcl] at h
       simp only[cond_true] at h
       have S1:FlSt P tt ops T kb F cst a.defers (ma kb (zf ops is) A) hid G0 w0 l0 (iS ((i,3+3)::is)) ((i,3+3)::is).length ud n listed G a w:={ S with rel:=S.rel.clean _ }
       generalize ma kb (zf ops is) A=A1 at h hcl S1
       clear S
       simp only[Bool.and_eq_true,Bool.not_eq_true',List.all_eq_true,List.any_eq_false,List.any_eq_true,beq_iff_eq,not_exists,not_and] at hcl
       have hpall:=cN hpe
       simp only[Y1,Bool.and_eq_true,List.contains_eq_mem,decide_eq_true_eq,List.all_eq_true,beq_iff_eq] at hso
       have key:∀(N:Nat) (ud:List Nat) (n:Nat) (listed:Array Bool) (G:Gh) (a':Act) (w:World),ud.length=N→
         FlSt P tt ops T kb F cst a.defers A1 hid G0 w0 l0 (iS is) (is.length+1) ud n listed G a' w→wpAnyL P .any ops (Qh ops Q) T (Agr (·∈hid) G0 w0) n listed a' w:=by
        intro N
        induction N using Nat.strongRecOn with
        |ind N ih=>
        intro ud n listed G a' w hN S
        obtain ⟨n',rfl⟩:∃n',n=n'+1:=⟨n - 1,by have:=S.cnt;omega⟩
        have hir:i∈Region.ready .any ops listed:=Ut hpe S.get hip hso.1
        refine ⟨fun e=>(by rw[e] at hir;cases hir),fun k hk=>?_⟩
        by_cases hku:k∈ud
        ·refine wpOp_mono (fun a'' w'' ⟨G',S'⟩=>⟨fun hT=>(S'.hold hT).agr,ih _ ?_ _ _ _ _ _ _ rfl S'⟩) (S.fl htt hkb hpe (fun j hj o' d ho' hd'=>hcl.1.2 d (nh is hj ho' hd')) (fun j hj=>sK is hcl.1.1 hj) (fun j hj o' d ho' hd' hin=>hcl.2 _ hin d (nh is hj ho' hd') rfl) hku)
         rw[List.length_erase_of_mem hku];have:=List.length_pos_of_mem hku;omega
        ·have hkp:k ∉ iS is:=fun h=>Du (S.done k h hku).1 hk
         have hki:=IU (X:=iS is) (l0:=l0) (fun j hj=>FV hpe hj) (fun j hj=>by
          by_cases hjp:j∈iS is
          ·exact .inl hjp
          ·rw[cL (S.get j hjp)] at hj;exact .inr hj) hkp (S.get k hkp) hk
         obtain rfl:=hso.2 k hki
         have hset':∀j∈T,j≠k→(listed.setIfInBounds k true).getD j false=listed.getD j false:=fun j _ hne=>getD_set_ne false (Ne.symm hne)
         have hrest:∀(u:Value) (w':World) (G':Gh) (A':AS),Rel F G' A' (a'.put o.dst u).tmps cst w'→UntH G ((zf ops is).map (kb + ·)++hid) w G' w'→Bu tt hd kb ops is hid A' K=some r→
           V9 T (Agr (·∈hid) G0 w0) (listed.setIfInBounds k true) w'∧wpAnyL P .any ops (Qh ops Q) T (Agr (·∈hid) G0 w0) n' (listed.setIfInBounds k true) (a'.put o.dst u) w':=by
          intro u w' G' A' hR hu hk'
          have hold:(∀j∈T,listed.getD j false=false)→Hold G0 w0 hid G' w':=fun hT=>(S.hold hT).step ⟨hu.1,fun key hkey=>hu.2 key (List.mem_append_right _ hkey)⟩
          refine ⟨fun hT=>(hold fun j hj=>by rw[← hset' j hj (hiT j hj)];exact hT j hj).agr,?_⟩
          refine gV htt hh hs hkb is hc hk' hK (S.next ho hip hpe (fun j hj o' d ho' hd'=>List.mem_append_left _ (List.mem_map_of_mem (nh is hj ho' hd'))) hu hR hold) fun e=>by cases e
         unfold wpOp
         rw[ho]
         simp only
         rcases gm S.rel h with ⟨hw,A2,R2,h2⟩ | ⟨hw,A2,R2,h2⟩
         ·rw[if_pos hw]
          refine .inl (rp htt hh R2 hkb _ o h2 ?_)
          intro ex A' G' a'' w' R' hd' hk'
          cases ex with
          |normal=>
           rintro ⟨hu,u,rfl⟩
           exact hrest u w' G' A' R' hu hk'
          |exit id=>exact hK _ A' G' a'' w' R' (hd'.trans S.dfs) hk'
          |ret=>exact hK _ A' G' a'' w' R' (hd'.trans S.dfs) hk'
          |panic v=>exact fun u hu=>Qh.post hK R' (hd'.trans S.dfs) hk' u hu
         ·rw[if_neg (by simp[hw])]
          exact hrest undef w G A2 R2 (.refl _ _ _) h2
       exact key _ ud n listed G a w rfl S1
     |false=>
      rw[h6] at hc h
      simp only[cond_false,Bool.and_eq_true,List.any_eq_true,beq_iff_eq,exists_eq_right,decide_eq_true_eq,List.isEmpty_iff] at hc h
      obtain ⟨⟨⟨hso,hiT,hil⟩,hpe⟩,hc⟩:=hc
      have hpf:iS ((i,n0+3)::is)=iS is:=by
       have:Nat.beq (n0+3) 4=Nat.beq n0 1:=rfl
       rw[iS,this,h4];rfl
      have hlsz:i<listed.size:=by rw[S.size];exact hil
      have hno:¬ ∀j∈T,(listed.setIfInBounds i true).getD j false=false:=fun hT=>by
       have:=hT i hiT
       simp[hlsz] at this
      exact sole false [] hpe hpf hso (fun a' w' G' A' R' hd' hu _ hk=>⟨⟨fun hT=>absurd hT hno,.inr hno⟩,fun e=>by cases e⟩) hc h
def Oe (tt:TT):Op→Bool
 |.move _ | .nilCheck _ | .binOp .. | .unOp .. | .fieldAddr .. | .field .. | .indexAddr .. | .index .. | .slice .. | .load .. | .extract .. | .build .. | .makeInterface .. | .makeFunc ..=>true
 |.convert _ d _=>match (tt.at d).d with | .sl _=>false | _=>true
 |.call c=>match c.callee with | .builtin .len=>true | .builtin .min=>true | .builtin .max=>true | _=>false
 |_=>false
def E5 (tt:TT)(ops:Array Oper)(t0:Nat):Nat→Bool→Array Bool→List (Nat×Nat)
 |0,_,_=>[]
 |n+1,ph,listed=>
  let rd:=Region.ready .any ops listed
  match rd.find? fun i=>Nat.blt i t0&&(match ops[i]? with | some o=>Oe tt o.op&&(ph || !zx tt o.op) | none=>false) with
  |some i=>(i,bif FZ tt ops i then 0 else 1)::E5 tt ops t0 n ph (listed.setIfInBounds i true)
  |none=>match rd with
   |i::_=>(i,bif Nat.blt i t0 then 2 else 3)::E5 tt ops t0 n (ph&&FX ops i) (listed.setIfInBounds i true)
   |[]=>[]
def xx (tt:TT)(ops:Array Oper)(t0:Nat)(fl:List Nat):Nat→Bool→Array Bool→List (Nat×Nat)
 |0,_,_=>[]
 |n+1,ph,listed=>
  let rd:=(Region.ready .any ops listed).filter fun i=>!fl.contains i
  match rd.find? fun i=>Nat.blt i t0&&(match ops[i]? with | some o=>Oe tt o.op&&(ph || !zx tt o.op) | none=>false) with
  |some i=>(i,bif FZ tt ops i then 0 else 1)::xx tt ops t0 fl n ph (listed.setIfInBounds i true)
  |none=>match rd with
   |i::_=>(i,bif Nat.blt i t0 then (bif fl.all fun j=>listed.getD j false then 2 else 6) else 3)::xx tt ops t0 fl n false (listed.setIfInBounds i true)
   |[]=>match fl.find? fun j=>!listed.getD j true with
    |some j=>(j,4)::xx tt ops t0 fl n false (listed.setIfInBounds j true)
    |none=>[]
def Za (ops:Array Oper):Nat→Nat
 |0=>0
 |t+1=>bif (List.range t).all fun i=>Gp ops t i then Za ops t else t+1
def xJ (tt:TT)(ops:Array Oper)(t0:Nat)(is:List (Nat×Nat)):Option (List (Nat×Nat)):=
 bif Region.noSelect ops&&(is.length == ops.size&&(bK (iS is)&&rj tt ops ((List.range (ops.size - t0)).map (t0 + ·)) true (Array.replicate ops.size false) is)) then some is else none
def FT (tt:TT)(t0:Nat):Dr:=fun ops=>
 match xJ tt ops t0 (E5 tt ops t0 ops.size true (Array.replicate ops.size false)) with
 |some is=>some is
 |none=>xJ tt ops t0 (xx tt ops t0 ((List.range ops.size).filter (qb ops)) ops.size true (Array.replicate ops.size false))
def Ab (tt:TT):Dr:=fun ops=>FT tt (Za ops ops.size) ops
theorem tG:∀l:List Nat,bK l=true→l.Nodup
 |[],_=>List.nodup_nil
 |x::xs,h=>by
  simp only[bK,Bool.and_eq_true,Bool.not_eq_true',List.any_eq_false,beq_iff_eq] at h
  exact List.nodup_cons.2 ⟨fun hx=>h.1 x hx rfl,tG xs h.2⟩
theorem Ac (htt:d0 P tt){hd:Hd}(hh:sI P hd){R:Type}{F:Fra}{cst:List (Array Value)}{kb:Nat}{ops:Array Oper}{is' is:List (Nat×Nat)}{r:R}{Q:Exit→Act→World→Prop}{G:Gh}{A:AS}{a:Act}{w:World}{K:Ex→AS→Option R}
  (hkb:∀d,F.mu0 (kb+d)=none) {t0:Nat} (ho:xJ tt ops t0 is'=some is) (h:Bu tt hd kb ops is [] A K=some r) (Rl:Rel F G A a.tmps cst w) (hK:Bv F cst a.defers r K Q):
  wpAny P .any ops Q ops.size (Array.replicate ops.size false) a { w with drawn:=w.drawn+1 }:=by
 unfold xJ at ho
 cases hc:Region.noSelect ops&&(is'.length == ops.size&&(bK (iS is')&&rj tt ops ((List.range (ops.size - t0)).map (t0 + ·)) true (Array.replicate ops.size false) is')) with
 |false=>rw[hc] at ho;cases ho
 |true=>
  rw[hc] at ho
  simp only[cond_true,Option.some.injEq] at ho
  subst ho
  simp only[Bool.and_eq_true,beq_iff_eq] at hc
  obtain ⟨hs,hl,hnd,hc⟩:=hc
  have Rl':Rel F G A a.tmps cst { w with drawn:=w.drawn+1 }:=Rl.drew
  have:=gV (T:=(List.range (ops.size - t0)).map (t0 + ·)) (G0:=G) (w0:={ w with drawn:=w.drawn+1 }) (ud:=iS is') (n:=is'.length) (listed:=Array.replicate ops.size false) htt hh hs hkb is' hc h hK
   ⟨rfl,fun _ _=>rfl,tG _ hnd,fun j hj=>⟨hj,rfl⟩,fun j hj h=>absurd hj h,rfl,Rl',fun _=>⟨fun _ _ h=>h,fun _ _ _ h=>h,Agr.refl _ _ _⟩,rfl⟩ fun _=>⟨rfl,rfl⟩
  rw[hl] at this
  exact w8 (fun e a w=>Qh.of) _ (wpAnyL.any _ this)
theorem K5 (htt:d0 P tt){hd:Hd}(hh:sI P hd){R:Type}{F:Fra}{cst:List (Array Value)}{kb:Nat}{ops:Array Oper}{is:List (Nat×Nat)}{r:R}{Q:Exit→Act→World→Prop}{G:Gh}{A:AS}{a:Act}{w:World}{K:Ex→AS→Option R}
  (hkb:∀d,F.mu0 (kb+d)=none) {t0:Nat} (ho:FT tt t0 ops=some is) (h:Bu tt hd kb ops is [] A K=some r) (Rl:Rel F G A a.tmps cst w) (hK:Bv F cst a.defers r K Q):
  wpAny P .any ops Q ops.size (Array.replicate ops.size false) a { w with drawn:=w.drawn+1 }:=by
 unfold FT at ho
 split at ho
 ·rename_i is1 h1
  cases ho
  exact Ac htt hh hkb h1 h Rl hK
 ·exact Ac htt hh hkb ho h Rl hK
theorem mS (htt:d0 P tt):rg P tt (Ab tt):=by
 intro hd hh R F cst kb ops is r Q G A a w K hkb ho h Rl hK
 exact K5 htt hh hkb ho h Rl hK
end
end Go.Proofs.YtomeplopmndbgaaGreat.Sym
namespace Go.Proofs.YtomeplopmndbgaaGreat.Sym
open Go
set_option linter.unusedSimpArgs false
set_option linter.unusedVariables false
def aaD (f:Nat→Option Ty):List Field→Option Ty
 |[]=>some .unit
 |x::xs=>match f x.type with
  |some a=>match aaD f xs with
   |some b=>some (.prod a b)
   |none=>none
  |none=>none
def aas (P:Program)(t:Nat)(fs:List Field):Option Nat:=match fs.getLast? with
 |some x=>match P.underlying x.type with
  |some (.slice e)=>bif Nat.beq e t then some e else none
  |_=>none
 |none=>none
def Yr (P:Program):Nat→Nat→Option Ty
 |0,_=>none
 |n+1,t=>match P.underlying t with
  |some .bool=>some .bool
  |some (.int k)=>some (.int k)
  |some .string=>some .str
  |some (.slice e)=>match Yr P n e with
   |some t=>some (.sl e t)
   |none=>none
  |some (.struct fs)=>match aas P t fs.toList with
   |some e=>match aaD (Yr P n) fs.toList.dropLast with
    |some a=>some (.tree a e)
    |none=>none
   |none=>aaD (Yr P n) fs.toList
  |_=>none
def Sw (P:Program)(t:Nat):Bool:=!P.stoodInHeld t&&(!P.eqGuardType P.depth t&&match P.underlying t with
 |some (.struct F)=>F.toList.all fun f=>f.name != "_"
 |_=>true)
theorem Sx {P:Program}{t:Nat}(h:Sw P t=true):P.stoodInHeld t=false∧P.eqGuardType P.depth t=false∧∀F,P.underlying t=some (.struct F)→∀f∈F.toList,f.name≠"_":=by
 unfold Sw at h
 simp only[Bool.and_eq_true,Bool.not_eq_true'] at h
 refine ⟨h.1,h.2.1,fun F hF f hf=>?_⟩
 have h2:=h.2.2
 rw[hF] at h2
 simp only[List.all_eq_true,bne_iff_ne] at h2
 exact h2 f hf
def aaB (P:Program)(t:Nat):TI:=match P.info? t with
 |some i=>match P.underlying t with
  |some d=>match i.zero with
   |some z=>bif Bs z == uV (uM d) then ⟨uM d,Yr P 8 t,i.size,i.bytes,z.cells.toList,Sw P t⟩ else .none
   |none=>.none
  |none=>.none
 |none=>.none
def xh (P:Program)(n:Nat):TT:=(List.range n).map (aaB P)
theorem gH (P:Program)(n:Nat):d0 P (xh P n):=by
 intro t ht
 have e:(xh P n).at t=if t<n then aaB P t else .none:=by
  unfold xh TT.at
  rw[List.getD_eq_getElem?_getD,List.getElem?_map]
  by_cases h:t<n
  ·rw[List.getElem?_range h,if_pos h];rfl
  ·rw[List.getElem?_eq_none (by simp;omega),if_neg h];rfl
 rw[e] at ht ⊢
 by_cases h:t<n
 ·rw[if_pos h] at ht ⊢
  unfold aaB at ht ⊢
  split
  ·rename_i i hi
   rw[hi] at ht
   simp only at ht
   split
   ·rename_i d hd
    rw[hd] at ht
    simp only at ht
    split
    ·rename_i z hz
     rw[hz] at ht
     simp only at ht
     cases hb:Bs z == uV (uM d) with
     |false=>rw[hb] at ht;exact absurd rfl ht
     |true=>exact ⟨⟨d,hd,rfl⟩,⟨i,z,hi,rfl,rfl,hz,rfl,by simpa using hb⟩,fun h=>Sx h⟩
    ·rename_i hz;rw[hz] at ht;exact absurd rfl ht
   ·rename_i hd;rw[hd] at ht;exact absurd rfl ht
  ·rename_i hi;rw[hi] at ht;exact absurd rfl ht
 ·rw[if_neg h] at ht;exact absurd rfl ht
abbrev Hc:=(R:Type)→List V→Nat→AS→(Oc→AS→Option R)→Option R
def Wo:List (Nat×Hc)→Nat→Option Hc
 |[],_=>none
 |(g,h)::l,f=>bif Nat.beq g f then some h else Wo l f
def bz (l:List (Nat×Hc)):Hd:=fun R f args id A K=>match Wo l f with
 |some h=>h R args id A K
 |none=>none
def HcsOk (P:Program):List (Nat×Hc)→Prop
 |[]=>True
 |p::l=>HcOk P p.1 p.2∧HcsOk P l
theorem HcsOk.nil {P:Program}:HcsOk P []:=trivial
theorem HcsOk.cons {P:Program}{f:Nat}{h:Hc}{l:List (Nat×Hc)}(a:HcOk P f h)(b:HcsOk P l):HcsOk P ((f,h)::l):=⟨a,b⟩
theorem Nh {P:Program}:∀{l:List (Nat×Hc)} {f:Nat} {h:Hc},HcsOk P l→Wo l f=some h→HcOk P f h
 |[],_,_,_,e=>by cases e
 |(g,h')::l,f,h,hl,e=>by
  simp only[Wo] at e
  cases hb:Nat.beq g f with
  |true=>
   rw[hb] at e
   simp only[cond_true,Option.some.injEq] at e
   subst e
   have:=Nat.eq_of_beq_eq_true hb
   subst this
   exact hl.1
  |false=>
   rw[hb] at e
   exact Nh hl.2 e
def n7 (sel:List V→AS→Bool)(h1 h2:Hc):Hc:=fun R args id A K=>bif sel args A then h1 R args id A K else h2 R args id A K
theorem cM {P:Program}{f:Nat}{sel:List V→AS→Bool}{h1 h2:Hc}(a:HcOk P f h1)(b:HcOk P f h2):HcOk P f (n7 sel h1 h2):=by
 intro R args id A K r F G ts cst w vals hid h Rl hv
 unfold n7 at h
 cases hs:sel args A with
 |true=>rw[hs] at h;exact a R args id A K r F G ts cst w vals hid h Rl hv
 |false=>rw[hs] at h;exact b R args id A K r F G ts cst w vals hid h Rl hv
def YZ (A:AS)(k:Nat):Bool:=match A.ob.getD k Option.none with
 |some (.nilp::_)=>true
 |_=>false
def kx (args:List V)(A:AS):Bool:=args.any fun v=>match v with
 |.one (.ptr k _)=>YZ A k || (match A.ob.getD k Option.none with
  |some (.ptr k' _::_)=>YZ A k'
  |_=>false)
 |_=>false
theorem zi {P:Program}{l:List (Nat×Hc)}(hl:HcsOk P l):sI P (bz l):=by
 intro R f args id A K r F G ts cst w vals hid h Rl hv
 unfold bz at h
 split at h
 ·rename_i hc e
  exact Nh hl e R args id A K r F G ts cst w vals hid h Rl hv
 ·cases h
inductive SC where
 |hol (t:Ty)
 |onl (e:Nat) (t:Ty) (own:Nat)
 |exl (e:Nat) (t:Ty) (i j:Nat)
 |ext (e:Nat) (t:Ty) (i j:Nat)
 |ptr (key off:Nat)
 |fnp (f:Nat) (q:Bool) (ks:List Nat)
 |nils | nilp | top | itr
@[reducible] def SC.den:SC→Type
 |.hol t=>t.den
 |.onl _ t _=>List t.den
 |.exl _ t _ _=>List t.den
 |.ext _ t _ _=>Nat×List t.den
 |.itr=>List Int×Int
 |_=>Unit
@[reducible] def SCs.den:List SC→Type
 |[]=>Unit
 |.hol t::ss=>t.den×SCs.den ss
 |.onl _ t _::ss=>List t.den×SCs.den ss
 |.exl _ t _ _::ss=>List t.den×SCs.den ss
 |.ext _ t _ _::ss=>(Nat×List t.den)×SCs.den ss
 |.ptr _ _::ss=>SCs.den ss
 |.fnp _ _ _::ss=>SCs.den ss
 |.nils::ss=>SCs.den ss
 |.nilp::ss=>SCs.den ss
 |.top::ss=>SCs.den ss
 |.itr::ss=>(List Int×Int)×SCs.den ss
def Wd:List Cp→Option (List Nat)
 |[]=>some []
 |.ptr k o::cs=>bif Nat.beq o 0 then (match Wd cs with | some ks=>some (k::ks) | none=>none) else none
 |_=>none
def SC.dec:(s:SC)→C→Option s.den
 |.hol t,c=>fA t c
 |.onl e t own,.lst e' t' xs own'=>if h:e=e'∧t'=t∧own=own' then some (h.2.1▸xs) else none
 |.exl e t i j,.ex e' t' lo xs i' j'=>bif !(Nat.beq j 0)&&(Nat.beq i i'&&(Nat.beq j j' || Nat.beq i' j')) then (bif Nat.beq lo 0 then (if h:e=e'∧t'=t then some (h.2▸xs) else none) else none) else none
 |.ext e t i j,.ex e' t' lo xs i' j'=>bif !(Nat.beq j 0)&&(Nat.beq i i'&&(Nat.beq j j' || Nat.beq i' j')) then (if h:e=e'∧t'=t then some (lo,h.2▸xs) else none) else none
 |.ptr k o,.ptr k' o'=>bif Nat.beq k k'&&Nat.beq o o' then some () else none
 |.fnp f q ks,.fn f' q' cs=>match Wd cs with | some ks'=>(if f=f'∧q=q'∧ks=ks' then some () else none) | none=>none
 |.nils,.nils=>some ()
 |.nilp,.nilp=>some ()
 |.top,_=>some ()
 |_,_=>none
def SC.mk:(s:SC)→s.den→C
 |.hol (.int k),x=>.int k x
 |.hol .bool,x=>.bool x
 |.hol .str,x=>.str x
 |.hol (.sl e t),x=>.lst e t x 0
 |.hol _,_=>.top
 |.onl e t own,x=>.lst e t x own
 |.exl e t i j,x=>.ex e t 0 x i j
 |.ext e t i j,x=>.ex e t x.1 x.2 i j
 |.ptr k o,_=>.ptr k o
 |.fnp f q ks,_=>.fn f q (ks.map (.ptr · 0))
 |.nils,_=>.nils
 |.nilp,_=>.nilp
 |.top,_=>.top
 |.itr,x=>.itr x
def SCs.dec:(ss:List SC)→List C→Option (SCs.den ss)
 |[],[]=>some ()
 |.hol t::ss,c::cs=>match SC.dec (.hol t) c with | some x=>(match SCs.dec ss cs with | some xs=>some (x,xs) | none=>none) | none=>none
 |.onl e t own::ss,c::cs=>match SC.dec (.onl e t own) c with | some x=>(match SCs.dec ss cs with | some xs=>some (x,xs) | none=>none) | none=>none
 |.exl e t i j::ss,c::cs=>match SC.dec (.exl e t i j) c with | some x=>(match SCs.dec ss cs with | some xs=>some (x,xs) | none=>none) | none=>none
 |.ext e t i j::ss,c::cs=>match SC.dec (.ext e t i j) c with | some x=>(match SCs.dec ss cs with | some xs=>some (x,xs) | none=>none) | none=>none
 |.ptr k o::ss,c::cs=>match SC.dec (.ptr k o) c with | some _=>SCs.dec ss cs | none=>none
 |.fnp f q ks::ss,c::cs=>match SC.dec (.fnp f q ks) c with | some _=>SCs.dec ss cs | none=>none
 |.nils::ss,c::cs=>match SC.dec .nils c with | some _=>SCs.dec ss cs | none=>none
 |.nilp::ss,c::cs=>match SC.dec .nilp c with | some _=>SCs.dec ss cs | none=>none
 |.top::ss,_::cs=>SCs.dec ss cs
 |_,_=>none
def SCs.mk:(ss:List SC)→SCs.den ss→List C
 |[],_=>[]
 |.hol t::ss,x=>SC.mk (.hol t) x.1::SCs.mk ss x.2
 |.onl e t own::ss,x=>SC.mk (.onl e t own) x.1::SCs.mk ss x.2
 |.exl e t i j::ss,x=>SC.mk (.exl e t i j) x.1::SCs.mk ss x.2
 |.ext e t i j::ss,x=>SC.mk (.ext e t i j) x.1::SCs.mk ss x.2
 |.ptr k o::ss,x=>.ptr k o::SCs.mk ss x
 |.fnp f q ks::ss,x=>.fn f q (ks.map (.ptr · 0))::SCs.mk ss x
 |.nils::ss,x=>.nils::SCs.mk ss x
 |.nilp::ss,x=>.nilp::SCs.mk ss x
 |.top::ss,x=>.top::SCs.mk ss x
 |.itr::ss,x=>.itr x.1::SCs.mk ss x.2
def SC.wf:(s:SC)→s.den→Prop
 |.hol t,x=>t.wf x
 |.onl _ t _,xs=>xs.length≤maxLen∧∀x∈xs,t.wf x
 |.exl _ t _ _,xs=>xs.length≤maxLen∧∀x∈xs,t.wf x
 |.ext _ t _ _,xs=>xs.1+xs.2.length≤maxLen∧∀x∈xs.2,t.wf x
 |_,_=>True
def SCs.wf:(ss:List SC)→SCs.den ss→Prop
 |[],_=>True
 |.hol t::ss,x=>t.wf x.1∧SCs.wf ss x.2
 |.onl _ t _::ss,x=>(x.1.length≤maxLen∧∀y∈x.1,t.wf y)∧SCs.wf ss x.2
 |.exl _ t _ _::ss,x=>(x.1.length≤maxLen∧∀y∈x.1,t.wf y)∧SCs.wf ss x.2
 |.ext _ t _ _::ss,x=>(x.1.1+x.1.2.length≤maxLen∧∀y∈x.1.2,t.wf y)∧SCs.wf ss x.2
 |.ptr _ _::ss,x=>SCs.wf ss x
 |.fnp _ _ _::ss,x=>SCs.wf ss x
 |.nils::ss,x=>SCs.wf ss x
 |.nilp::ss,x=>SCs.wf ss x
 |.top::ss,x=>SCs.wf ss x
 |.itr::ss,x=>(byteR x.1.1∧x.1.1.length≤maxLen∧0≤x.1.2)∧SCs.wf ss x.2
section
variable {G:Gh} {w:World}
theorem OC {t:Ty}{c:C}{x:t.den}{v:Value}(h:fA t c=some x)(hv:Rc G w c v):Rc G w (SC.mk (.hol t) x) v:=by
 have hcell:=hv.cell
 have hr:=eF (G:=G) (w:=w) t c x v h hv
 have hs:=cZ (G:=G) (w:=w) t x [v] hr
 cases t <;> first | exact hs.1 | exact hcell
theorem exw {e:Nat}{t:Ty}{lo:Nat}{xs:List t.den}{i j i' j':Nat}{v:Value}(hb:(!(Nat.beq j 0)&&(Nat.beq i i'&&(Nat.beq j j' || Nat.beq i' j')))=true)(hv:Rc G w (.ex e t lo xs i' j') v):Rc G w (.ex e t lo xs i j) v:=by
 simp only[Bool.and_eq_true,Bool.not_eq_true',Bool.or_eq_true] at hb
 obtain ⟨h0,h1,h2⟩:=hb
 have h1:=Nat.eq_of_beq_eq_true h1
 subst h1
 have hj:j≠0:=by rintro rfl;cases h0
 rcases hv with hv | ⟨b,cap,e0,⟨n1,n2,ho⟩,hx⟩
 ·exact .inl hv
 ·refine .inr ⟨b,cap,e0,⟨n1,hj,?_⟩,hx⟩
  rcases h2 with h2 | h2
  ·rw[Nat.eq_of_beq_eq_true h2];exact ho
  ·have h2:=Nat.eq_of_beq_eq_true h2
   subst h2
   rcases ho with ho | ho <;> exact .inl ho
theorem abh {e:Nat}{t:Ty}{lo:Nat}{xs:List t.den}{i j:Nat}{v:Value}(hv:Rc G w (.ex e t lo xs i j) v):lo+xs.length≤maxLen∧∀x∈xs,t.wf x:=by
 rcases hv with ⟨rfl,rfl,_⟩ | ⟨b,cap,e0,_,cur,el,_,_,h2,h3,h4⟩
 ·exact ⟨Nat.zero_le _,fun x hx=>by simp at hx⟩
 ·refine ⟨Nat.le_trans h2 h3,fun x hx=>?_⟩
  obtain ⟨k,hk⟩:=List.getElem?_of_mem hx
  obtain ⟨c,hc,_⟩:=h4 k x hk
  exact Rt.wf _ x c hc
theorem MJ:∀{cs:List Cp} {ks:List Nat},Wd cs=some ks→cs=ks.map (Cp.ptr · 0)
 |[],_,h=>by cases h;rfl
 |.dat _ _::_,_,h=>by cases h
 |.ptr k o::cs,_,h=>by
  simp only[Wd] at h
  cases ho:Nat.beq o 0 with
  |false=>rw[ho] at h;cases h
  |true=>
   rw[ho] at h
   simp only[cond_true] at h
   split at h
   ·rename_i ks hk
    cases h
    rw[Nat.eq_of_beq_eq_true ho,MJ hk];rfl
   ·cases h
theorem SC.dec_sound:∀{s:SC} {c:C} {x:s.den} {v:Value},s.dec c=some x→Rc G w c v→Rc G w (s.mk x) v∧s.wf x:=by
 intro s c x v h hv
 cases s with
 |hol t=>exact ⟨OC h hv,Rt.wf (w:=w) t x [v] (eF t c x v h hv)⟩
 |onl e t own=>
  cases c <;> simp only[SC.dec] at h <;> try cases h
  rename_i e' t' xs own'
  split at h
  ·rename_i hh
   obtain ⟨rfl,rfl,rfl⟩:=hh
   cases h
   refine ⟨hv,?_⟩
   obtain ⟨A,cap,_,h1,h2,hrow,_⟩:=hv
   refine ⟨Nat.le_trans h1 h2,fun y hy=>?_⟩
   obtain ⟨i,hi⟩:=List.getElem?_of_mem hy
   obtain ⟨b,o,c,_,hc,_⟩:=hrow.cellAt hi
   exact Rt.wf _ y c hc
  ·cases h
 |exl e t i j=>
  cases c <;> simp only[SC.dec] at h <;> try cases h
  rename_i e' t' lo xs i' j'
  cases hb : !(Nat.beq j 0)&&(Nat.beq i i'&&(Nat.beq j j' || Nat.beq i' j')) with
  |false=>rw[hb] at h;cases h
  |true=>
   rw[hb] at h
   simp only[cond_true] at h
   cases hl:Nat.beq lo 0 with
   |false=>rw[hl] at h;cases h
   |true=>
    rw[hl] at h
    simp only[cond_true] at h
    have hl:=Nat.eq_of_beq_eq_true hl
    subst hl
    split at h
    ·rename_i hh
     obtain ⟨rfl,rfl⟩:=hh
     cases h
     exact ⟨exw hb hv,by have:=abh hv;rwa [Nat.zero_add] at this⟩
    ·cases h
 |ext e t i j=>
  cases c <;> simp only[SC.dec] at h <;> try cases h
  rename_i e' t' lo xs i' j'
  cases hb : !(Nat.beq j 0)&&(Nat.beq i i'&&(Nat.beq j j' || Nat.beq i' j')) with
  |false=>rw[hb] at h;cases h
  |true=>
   rw[hb] at h
   simp only[cond_true] at h
   split at h
   ·rename_i hh
    obtain ⟨rfl,rfl⟩:=hh
    cases h
    exact ⟨exw hb hv,abh hv⟩
   ·cases h
 |ptr k o=>
  cases c <;> simp only[SC.dec] at h <;> try cases h
  rename_i k' o'
  cases hb:Nat.beq k k'&&Nat.beq o o' with
  |false=>rw[hb] at h;cases h
  |true=>
   simp only[Bool.and_eq_true] at hb
   have e1:=Nat.eq_of_beq_eq_true hb.1
   have e2:=Nat.eq_of_beq_eq_true hb.2
   subst e1;subst e2
   exact ⟨hv,trivial⟩
 |fnp f q ks=>
  cases c <;> simp only[SC.dec] at h <;> try cases h
  rename_i f' q' cs
  split at h
  ·rename_i ks' hk
   split at h
   ·rename_i hh
    obtain ⟨rfl,rfl,rfl⟩:=hh
    rw[MJ hk] at hv
    exact ⟨hv,trivial⟩
   ·cases h
  ·cases h
 |nils=>cases c <;> simp only[SC.dec] at h <;> first | exact ⟨hv,trivial⟩ | cases h
 |nilp=>cases c <;> simp only[SC.dec] at h <;> first | exact ⟨hv,trivial⟩ | cases h
 |top=>exact ⟨hv.cell,trivial⟩
 |itr=>cases c <;> simp[SC.dec] at h
theorem SCs.dec_sound:∀{ss:List SC} {cs:List C} {x:SCs.den ss} {vs:List Value},SCs.dec ss cs=some x→All2 (Rc G w) cs vs→All2 (Rc G w) (SCs.mk ss x) vs∧SCs.wf ss x
 |[],[],_,vs,_,hv=>⟨hv,trivial⟩
 |[],_::_,_,_,h,_=>by simp[SCs.dec] at h
 |s::ss,[],_,_,h,_=>by cases s <;> simp[SCs.dec] at h
 |s::ss,c::cs,x,[],h,hv=>hv.elim
 |s::ss,c::cs,x,v::vs,h,hv=>by
  cases s <;> simp only[SCs.dec] at h
  case hol t=>
   split at h
   ·rename_i y hy
    split at h
    ·rename_i ys hys
     cases h
     obtain ⟨h1,h2⟩:=SC.dec_sound hy hv.1
     obtain ⟨h3,h4⟩:=SCs.dec_sound hys hv.2
     exact ⟨⟨h1,h3⟩,h2,h4⟩
    ·cases h
   ·cases h
  case onl e t own=>
   split at h
   ·rename_i y hy
    split at h
    ·rename_i ys hys
     cases h
     obtain ⟨h1,h2⟩:=SC.dec_sound hy hv.1
     obtain ⟨h3,h4⟩:=SCs.dec_sound hys hv.2
     exact ⟨⟨h1,h3⟩,h2,h4⟩
    ·cases h
   ·cases h
  case exl e t i j=>
   split at h
   ·rename_i y hy
    split at h
    ·rename_i ys hys
     cases h
     obtain ⟨h1,h2⟩:=SC.dec_sound hy hv.1
     obtain ⟨h3,h4⟩:=SCs.dec_sound hys hv.2
     exact ⟨⟨h1,h3⟩,h2,h4⟩
    ·cases h
   ·cases h
  case ext e t i j=>
   split at h
   ·rename_i y hy
    split at h
    ·rename_i ys hys
     cases h
     obtain ⟨h1,h2⟩:=SC.dec_sound hy hv.1
     obtain ⟨h3,h4⟩:=SCs.dec_sound hys hv.2
     exact ⟨⟨h1,h3⟩,h2,h4⟩
    ·cases h
   ·cases h
  case top=>
   obtain ⟨h3,h4⟩:=SCs.dec_sound h hv.2
   exact ⟨⟨hv.1.cell,h3⟩,h4⟩
  case itr=>cases h
  all_goals
   split at h
   ·rename_i y hy
    obtain ⟨h1,_⟩:=SC.dec_sound hy hv.1
    obtain ⟨h3,h4⟩:=SCs.dec_sound h hv.2
    exact ⟨⟨h1,h3⟩,h4⟩
   ·cases h
end
inductive SV where
 |one (s:SC) | agg (ss:List SC) | any
def SV.cs:SV→List SC
 |.one s=>[s]
 |.agg ss=>ss
 |.any=>[]
abbrev be (l:List SV):List SV:=.any::.any::l
abbrev bJ (l:List SV):List SV:=.any::.any::.any::.any::l
abbrev dE (l:List SV):List SV:=bJ (bJ l)
abbrev ai (l:List SV):List SV:=dE (dE l)
@[reducible] def oO:List SV→Type
 |[]=>Unit
 |.any::vs=>oO vs
 |.one (.ptr _ _)::vs=>oO vs
 |.one (.fnp _ _ _)::vs=>oO vs
 |.one .nils::vs=>oO vs
 |.one .nilp::vs=>oO vs
 |.one .top::vs=>oO vs
 |.one .itr::vs=>oO vs
 |.one (.hol t)::vs=>t.den×oO vs
 |.one (.onl _ t _)::vs=>List t.den×oO vs
 |.one (.exl _ t _ _)::vs=>List t.den×oO vs
 |.one (.ext _ t _ _)::vs=>(Nat×List t.den)×oO vs
 |.agg ss::vs=>SCs.den ss×oO vs
def mc:(vs:List SV)→List V→Option (oO vs)
 |[],[]=>some ()
 |.any::vs,_::us=>mc vs us
 |.one (.ptr k o)::vs,.one c::us=>match SC.dec (.ptr k o) c with | some _=>mc vs us | none=>none
 |.one (.fnp f q ks)::vs,.one c::us=>match SC.dec (.fnp f q ks) c with | some _=>mc vs us | none=>none
 |.one .nils::vs,.one c::us=>match SC.dec .nils c with | some _=>mc vs us | none=>none
 |.one .nilp::vs,.one c::us=>match SC.dec .nilp c with | some _=>mc vs us | none=>none
 |.one .top::vs,.one _::us=>mc vs us
 |.one (.hol t)::vs,.one c::us=>match SC.dec (.hol t) c with | some x=>(match mc vs us with | some xs=>some (x,xs) | none=>none) | none=>none
 |.one (.onl e t own)::vs,.one c::us=>match SC.dec (.onl e t own) c with | some x=>(match mc vs us with | some xs=>some (x,xs) | none=>none) | none=>none
 |.one (.exl e t i j)::vs,.one c::us=>match SC.dec (.exl e t i j) c with | some x=>(match mc vs us with | some xs=>some (x,xs) | none=>none) | none=>none
 |.one (.ext e t i j)::vs,.one c::us=>match SC.dec (.ext e t i j) c with | some x=>(match mc vs us with | some xs=>some (x,xs) | none=>none) | none=>none
 |.agg ss::vs,.agg cs::us=>match SCs.dec ss cs with | some x=>(match mc vs us with | some xs=>some (x,xs) | none=>none) | none=>none
 |_,_=>none
def NY:(vs:List SV)→oO vs→List V
 |[],_=>[]
 |.any::vs,x=>.any::NY vs x
 |.one (.ptr k o)::vs,x=>.one (.ptr k o)::NY vs x
 |.one (.fnp f q ks)::vs,x=>.one (.fn f q (ks.map (.ptr · 0)))::NY vs x
 |.one .nils::vs,x=>.one .nils::NY vs x
 |.one .nilp::vs,x=>.one .nilp::NY vs x
 |.one .top::vs,x=>.one .top::NY vs x
 |.one .itr::vs,x=>.any::NY vs x
 |.one (.hol t)::vs,x=>.one (SC.mk (.hol t) x.1)::NY vs x.2
 |.one (.onl e t own)::vs,x=>.one (SC.mk (.onl e t own) x.1)::NY vs x.2
 |.one (.exl e t i j)::vs,x=>.one (SC.mk (.exl e t i j) x.1)::NY vs x.2
 |.one (.ext e t i j)::vs,x=>.one (SC.mk (.ext e t i j) x.1)::NY vs x.2
 |.agg ss::vs,x=>.agg (SCs.mk ss x.1)::NY vs x.2
def Or:(vs:List SV)→oO vs→Prop
 |[],_=>True
 |.any::vs,x=>Or vs x
 |.one (.ptr _ _)::vs,x=>Or vs x
 |.one (.fnp _ _ _)::vs,x=>Or vs x
 |.one .nils::vs,x=>Or vs x
 |.one .nilp::vs,x=>Or vs x
 |.one .top::vs,x=>Or vs x
 |.one .itr::vs,x=>Or vs x
 |.one (.hol t)::vs,x=>t.wf x.1∧Or vs x.2
 |.one (.onl _ t _)::vs,x=>(x.1.length≤maxLen∧∀y∈x.1,t.wf y)∧Or vs x.2
 |.one (.exl _ t _ _)::vs,x=>(x.1.length≤maxLen∧∀y∈x.1,t.wf y)∧Or vs x.2
 |.one (.ext _ t _ _)::vs,x=>(x.1.1+x.1.2.length≤maxLen∧∀y∈x.1.2,t.wf y)∧Or vs x.2
 |.agg ss::vs,x=>SCs.wf ss x.1∧Or vs x.2
theorem eI {G:Gh}{w:World}:∀{vs:List SV} {us:List V} {x:oO vs} {zs:List Value},mc vs us=some x→All2 (Rv G w) us zs→All2 (Rv G w) (NY vs x) zs∧Or vs x
 |[],[],_,zs,_,hv=>⟨hv,trivial⟩
 |[],_::_,_,_,h,_=>by simp[mc] at h
 |v::vs,[],_,_,h,_=>by
  cases v with
  |one s=>cases s <;> simp[mc] at h
  |agg ss=>simp[mc] at h
  |any=>simp[mc] at h
 |v::vs,u::us,x,[],h,hv=>hv.elim
 |v::vs,u::us,x,z::zs,h,hv=>by
  cases v with
  |any=>
   simp only[mc] at h
   obtain ⟨h3,h4⟩:=eI h hv.2
   exact ⟨⟨trivial,h3⟩,h4⟩
  |agg ss=>
   cases u <;> simp only[mc] at h <;> try cases h
   rename_i cs
   split at h
   ·rename_i y hy
    split at h
    ·rename_i ys hys
     cases h
     obtain ⟨us',rfl,hu⟩:=hv.1
     obtain ⟨h1,h2⟩:=SCs.dec_sound hy hu
     obtain ⟨h3,h4⟩:=eI hys hv.2
     exact ⟨⟨⟨us',rfl,h1⟩,h3⟩,h2,h4⟩
    ·cases h
   ·cases h
  |one s=>
   cases u with
   |one c=>
    cases s <;> simp only[mc] at h
    case hol t=>
     split at h
     ·rename_i y hy
      split at h
      ·rename_i ys hys
       cases h
       obtain ⟨h1,h2⟩:=SC.dec_sound hy hv.1
       obtain ⟨h3,h4⟩:=eI hys hv.2
       exact ⟨⟨h1,h3⟩,h2,h4⟩
      ·cases h
     ·cases h
    case onl e t own=>
     split at h
     ·rename_i y hy
      split at h
      ·rename_i ys hys
       cases h
       obtain ⟨h1,h2⟩:=SC.dec_sound hy hv.1
       obtain ⟨h3,h4⟩:=eI hys hv.2
       exact ⟨⟨h1,h3⟩,h2,h4⟩
      ·cases h
     ·cases h
    case exl e t i j=>
     split at h
     ·rename_i y hy
      split at h
      ·rename_i ys hys
       cases h
       obtain ⟨h1,h2⟩:=SC.dec_sound hy hv.1
       obtain ⟨h3,h4⟩:=eI hys hv.2
       exact ⟨⟨h1,h3⟩,h2,h4⟩
      ·cases h
     ·cases h
    case ext e t i j=>
     split at h
     ·rename_i y hy
      split at h
      ·rename_i ys hys
       cases h
       obtain ⟨h1,h2⟩:=SC.dec_sound hy hv.1
       obtain ⟨h3,h4⟩:=eI hys hv.2
       exact ⟨⟨h1,h3⟩,h2,h4⟩
      ·cases h
     ·cases h
    case top=>
     obtain ⟨h3,h4⟩:=eI h hv.2
     exact ⟨⟨Rc.cell hv.1,h3⟩,h4⟩
    case itr=>cases h
    all_goals
     split at h
     ·rename_i y hy
      obtain ⟨h1,_⟩:=SC.dec_sound hy hv.1
      obtain ⟨h3,h4⟩:=eI h hv.2
      exact ⟨⟨h1,h3⟩,h4⟩
     ·cases h
   |_=>cases s <;> simp[mc] at h
@[reducible] def JN:List (Option (List SC))→Type
 |[]=>Unit
 |none::os=>JN os
 |some ss::os=>SCs.den ss×JN os
def Zx:(ss:List SC)→List C→Option (SCs.den ss)
 |[.itr],[.itr x]=>some (x,())
 |_,_=>none
def Bw:(os:List (Option (List SC)))→List (Option (List C))→Option (JN os)
 |[],_=>some ()
 |none::os,_::bs=>Bw os bs
 |none::os,[]=>Bw os []
 |some ss::os,some cs::bs=>match (bif cs.any C.isItr then Zx ss cs else SCs.dec ss cs) with | some x=>(match Bw os bs with | some xs=>some (x,xs) | none=>none) | none=>none
 |_,_=>none
def TK:(os:List (Option (List SC)))→JN os→List (Option (List C))
 |[],_=>[]
 |none::os,x=>none::TK os x
 |some ss::os,x=>some (SCs.mk ss x.1)::TK os x.2
def wfB:(os:List (Option (List SC)))→JN os→Prop
 |[],_=>True
 |none::os,x=>wfB os x
 |some ss::os,x=>SCs.wf ss x.1∧wfB os x.2
theorem ET {G:Gh}{w:World}{ss:List SC}{cs:List C}{y:SCs.den ss}(h:(bif cs.any C.isItr then Zx ss cs else SCs.dec ss cs)=some y)(ho:∃o:Obj,ObjOk G w cs o):
  SCs.wf ss y∧∀o,ObjOk G w cs o→ObjOk G w (SCs.mk ss y) o:=by
 obtain ⟨o,ho⟩:=ho
 cases hn:cs.any C.isItr with
 |false=>
  rw[hn] at h
  obtain ⟨cur,el,_,hr⟩:=ho.cells hn
  refine ⟨(SCs.dec_sound h hr).2,fun o' ho'=>?_⟩
  obtain ⟨cur',el',e',hr'⟩:=ho'.cells hn
  exact .inl ⟨cur',el',e',(SCs.dec_sound h hr').1⟩
 |true=>
  rw[hn] at h
  simp only[cond_true] at h
  unfold Zx at h
  split at h
  ·rename_i x
   cases h
   refine ⟨?_,fun o' ho'=>ho'⟩
   rcases ho with ⟨cur,el,_,hr⟩ | ⟨s,n,e2,rfl,hbr,hlen⟩
   ·match hcl:cur.toList,hr with
    |[],hr=>exact hr.elim
    |_::_,hr=>exact hr.1.elim
   ·simp only[List.cons.injEq,C.itr.injEq,and_true] at e2
    subst e2
    exact ⟨⟨hbr,hlen,Int.natCast_nonneg n⟩,trivial⟩
  ·cases h
theorem ng {G:Gh}{w:World}:∀{os:List (Option (List SC))} {bs:List (Option (List C))} {x:JN os},Bw os bs=some x→
  (∀(k:Nat) (cs:List C),bs[k]?=some (some cs)→∃o:Obj,ObjOk G w cs o)→
  wfB os x∧∀(k:Nat) (cs:List C),(TK os x)[k]?=some (some cs)→∃cs0:List C,bs[k]?=some (some cs0)∧∀o,ObjOk G w cs0 o→ObjOk G w cs o
 |[],_,_,_,_=>⟨trivial,fun k cs h=>by simp[TK] at h⟩
 |none::os,[],x,h,hb=>by
  simp only[Bw] at h
  obtain ⟨h1,h2⟩:=ng h hb
  refine ⟨h1,fun k cs hk=>?_⟩
  cases k with
  |zero=>simp[TK] at hk
  |succ k=>obtain ⟨cs0,h3,_⟩:=h2 k cs (by simpa [TK] using hk);simp at h3
 |none::os,b::bs,x,h,hb=>by
  simp only[Bw] at h
  obtain ⟨h1,h2⟩:=ng h fun k cs hk=>hb (k+1) cs (by simpa using hk)
  refine ⟨h1,fun k cs hk=>?_⟩
  cases k with
  |zero=>simp[TK] at hk
  |succ k=>obtain ⟨cs0,h3,h4⟩:=h2 k cs (by simpa [TK] using hk);exact ⟨cs0,by simpa using h3,h4⟩
 |some ss::os,[],x,h,hb=>by simp[Bw] at h
 |some ss::os,none::bs,x,h,hb=>by simp[Bw] at h
 |some ss::os,some cs::bs,x,h,hb=>by
  simp only[Bw] at h
  split at h
  ·rename_i y hy
   split at h
   ·rename_i ys hys
    cases h
    obtain ⟨h1,h2⟩:=ng hys fun k cs hk=>hb (k+1) cs (by simpa using hk)
    obtain ⟨h6,h7⟩:=ET hy (hb 0 cs rfl)
    refine ⟨⟨h6,h1⟩,fun k cs' hk=>?_⟩
    cases k with
    |zero=>
     simp only[TK,List.getElem?_cons_zero,Option.some.injEq] at hk
     subst hk
     exact ⟨cs,rfl,h7⟩
    |succ k=>obtain ⟨cs0,h3,h4⟩:=h2 k cs' (by simpa [TK] using hk);exact ⟨cs0,by simpa using h3,h4⟩
   ·cases h
  ·cases h
structure Ls where
 tm:List SV
 ob:List (Option (List SC))
abbrev Ls.den (s:Ls):Type:=oO s.tm×JN s.ob
def Ls.mk' (s:Ls)(x:s.den):AS:=⟨NY s.tm x.1,[],TK s.ob x.2⟩
def Ls.dec (s:Ls)(A:AS):Option s.den:=match A with
 |⟨tm,[],ob⟩=>match mc s.tm tm with
  |some x=>match Bw s.ob ob with
   |some y=>some (x,y)
   |none=>none
  |none=>none
 |_=>none
def Ls.wf (s:Ls)(x:s.den):Prop:=Or s.tm x.1∧wfB s.ob x.2
theorem Ls.dec_sound {s:Ls}{A:AS}{x:s.den}(h:s.dec A=some x){F:Fra}{G:Gh}{ts:Array Value}{cst:List (Array Value)}{w:World}(R:Rel F G A ts cst w):Rel F G (s.mk' x) ts cst w∧s.wf x:=by
 obtain ⟨tm,stk,ob⟩:=A
 unfold Ls.dec at h
 split at h
 ·rename_i tm' ob' e
  cases e
  split at h
  ·rename_i y hy
   split at h
   ·rename_i z hz
    cases h
    obtain ⟨h1,h2⟩:=eI hy R.tm
    obtain ⟨h3,h4⟩:=ng (G:=G) (w:=w) hz fun k cs hk=>let ⟨b,o,_,_,hr⟩:=R.ob k cs hk;⟨_,hr⟩
    refine ⟨⟨h1,R.stk,fun k cs hk=>?_,R.gh⟩,h2,h3⟩
    obtain ⟨cs0,h5,h6⟩:=h4 k cs hk
    obtain ⟨b,o,hm,hh,hr⟩:=R.ob k cs0 h5
    exact ⟨b,o,hm,hh,h6 _ hr⟩
   ·cases h
  ·cases h
 ·cases h
inductive Lx where
 |exit (id:Nat) | ret | normal | panic (T:Nat) (t:Ty)
@[reducible] def Lx.den:Lx→Type
 |.panic _ t=>t.den
 |_=>Unit
def Lx.ex:(e:Lx)→e.den→Ex
 |.exit id,_=>.exit id
 |.ret,_=>.ret
 |.normal,_=>.normal
 |.panic T t,x=>.panic (.one (.ifc T t x))
def Lx.dec:(e:Lx)→Ex→Option e.den
 |.exit id,.exit id'=>bif Nat.beq id id' then some () else none
 |.ret,.ret=>some ()
 |.panic T t,.panic (.one (.ifc T' t' x))=>if h:T=T'∧t'=t then some (h.2▸x) else none
 |_,_=>none
@[reducible] def ax:List (Lx×Ls)→Type
 |[]=>Empty
 |x::xs=>Out (x.1.den×x.2.den) (ax xs)
def bI:(xs:List (Lx×Ls))→Ex→AS→Option (ax xs)
 |[],_,_=>none
 |x::xs,e,A=>match x.1.dec e with
  |some p=>match x.2.dec A with
   |some d=>some (.ret (p,d))
   |none=>match bI xs e A with
    |some y=>some (.pan y)
    |none=>none
  |none=>match bI xs e A with
   |some y=>some (.pan y)
   |none=>none
def mkX {R:Type}:(xs:List (Lx×Ls))→ax xs→(Ex→AS→Option R)→Option R
 |[],x,_=>nomatch x
 |x::_,.ret d,K=>K (x.1.ex d.1) (x.2.mk' d.2)
 |_::xs,.pan y,K=>mkX xs y K
structure Lo where
 st:Ls
 xs:List (Lx×Ls)
def aP (lo:Lo)(Fn:lo.st.den→Tr (ax lo.xs)):Lh:=fun R A K=>match lo.st.dec A with
 |some x=>(Fn x).run fun y=>mkX lo.xs y K
 |none=>none
theorem zc {R:Type}{F:Fra}{G:Gh}{A:AS}{a:Act}{cst:List (Array Value)}{w:World}(Rl:Rel F G A a.tmps cst w){K:Ex→AS→Option R}{r:R}{Q:Exit→Act→World→Prop}{dfs:List Deferred}(hd:a.defers=dfs)(hK:Bv F cst dfs r K Q):
  ∀{xs:List (Lx×Ls)} {e:Ex} {y:ax xs},bI xs e A=some y→mkX xs y K=some r→
   match e with
   |.normal=>Q .normal a w
   |.exit id=>Q (.exit id) a w
   |.ret=>Q .ret a w
   |.panic v=>∀u,Rv G w v u→Q (.panic [{ v:=u,recovered:=false }]) a w
 |[],e,y,h,_=>by simp[bI] at h
 |(l,s)::xs,e,y,h,hm=>by
  simp only[bI] at h
  have rest:∀{y':ax xs},bI xs e A=some y'→mkX xs y' K=some r→_:=fun h1 h2=>zc Rl hd hK h1 h2
  split at h
  ·rename_i p hp
   split at h
   ·rename_i d hdd
    cases h
    simp only[mkX] at hm
    have R':=(Ls.dec_sound hdd Rl).1
    cases l with
    |normal=>cases e <;> simp[Lx.dec] at hp
    |ret=>
     cases e <;> simp only[Lx.dec] at hp <;> try cases hp
     exact hK .ret _ G a w R' hd hm
    |exit id=>
     cases e <;> simp only[Lx.dec] at hp <;> try cases hp
     rename_i id'
     cases hb:Nat.beq id id' with
     |false=>rw[hb] at hp;cases hp
     |true=>
      have:=Nat.eq_of_beq_eq_true hb
      subst this
      exact hK (.exit id) _ G a w R' hd hm
    |panic T t=>
     cases e with
     |panic v=>
      cases v with
      |one c=>
       cases c <;> simp only[Lx.dec] at hp <;> try cases hp
       rename_i T' t' x
       split at hp
       ·rename_i hh
        obtain ⟨rfl,rfl⟩:=hh
        cases hp
        exact hK (.panic _) _ G a w R' hd hm
       ·cases hp
      |_=>simp[Lx.dec] at hp
     |_=>simp[Lx.dec] at hp
   ·split at h
    ·rename_i y' hy'
     cases h
     exact rest hy' hm
    ·cases h
  ·split at h
   ·rename_i y' hy'
    cases h
    exact rest hy' hm
   ·cases h
theorem Ta {P:Program}{tt:TT}(htt:d0 P tt)(hm:P.follows .mixedOrders=true){hd:Hd}(hh:sI P hd){okDraw:Dr}(hdr:rg P tt okDraw){lp:Lp}{kb lr:Nat}{m:Nat}{b:Code}{x:List (Nat×Nat)}
  (hlp:∀e∈df lr b m x,∀h,lp (dC e.2.1)=some h→EB P kb e.2.1 h) (lo:Lo) (Fn:lo.st.den→Tr (ax lo.xs))
  (hF:∀d y,lo.st.wf d→(Fn d).val=some y→∃n,zF m kb (fun A K=>ev tt hd okDraw lp kb lr b m x A K) n (lo.st.mk' d) (bI lo.xs)=some y):EB P kb b (aP lo Fn):=by
 intro R F cst r Q G A a w K hkb h Rl hK
 unfold aP at h
 split at h
 ·rename_i d hdec
  obtain ⟨y,hy,h⟩:=Tr.run_val h
  obtain ⟨R1,hwf⟩:=Ls.dec_sound hdec Rl
  obtain ⟨n,hn⟩:=hF d y hwf hy
  refine HY htt hm hh hdr hkb hlp hn R1 ?_
  intro ex A' G' a' w' R' hd' hk
  have:=zc R' hd' hK hk h
  cases ex <;> exact this
 ·cases h
abbrev Le:=Nat×Code×List (Nat×Nat)
def jD:Le:=(0,.skip,[])
def ni (fn:Func):Code:=match fn.body with
 |some c=>c
 |none=>.skip
def c6 (fn:Func):List Le:=df (zT fn) (ni fn) (zT fn) []
def QX (fn:Func)(e:Le):List Le:=df (zT fn) e.2.1 e.1 e.2.2
def cI (fn:Func)(j:Nat):Le:=(c6 fn).getD j jD
def vQ (fn:Func)(e:Le)(j:Nat):Le:=(QX fn e).getD j jD
def bo:List (Nat×Lh)→Lp
 |[],_=>none
 |(g,h)::l,f=>bif Nat.beq g f then some h else bo l f
def gk (tt:TT)(hd:Hd)(dr:Dr)(lp:Lp)(kb:Nat)(fn:Func)(e:Le){R:Type}(n:Nat)(A:AS)(K:Ex→AS→Option R):Option R:=
 zF e.1 kb (fun A K=>ev tt hd dr lp kb (zT fn) e.2.1 e.1 e.2.2 A K) n A K
def LpsOk (P:Program)(kb:Nat)(lp:Lp)(es:List Le)(i:Nat):Prop:=∀j,i≤j→j<es.length→∀h,lp (dC (es.getD j jD).2.1)=some h→EB P kb (es.getD j jD).2.1 h
theorem LpsOk.done {P:Program}{kb:Nat}{lp:Lp}{es:List Le}{i:Nat}(h:Nat.ble es.length i=true):LpsOk P kb lp es i:=fun j h1 h2=>by
 have:=Nat.le_of_ble_eq_true h
 omega
theorem LpsOk.step {P:Program}{kb:Nat}{lp:Lp}{es:List Le}{i:Nat}{h0:Lh}(e:lp (dC (es.getD i jD).2.1)=some h0)(h:EB P kb (es.getD i jD).2.1 h0)(r:LpsOk P kb lp es (i+1)):LpsOk P kb lp es i:=fun j h1 h2 g hg=>by
 by_cases hj:j=i
 ·subst hj
  rw[e] at hg
  cases hg
  exact h
 ·exact r j (by omega) h2 g hg
theorem LpsOk.all {P:Program}{kb:Nat}{lp:Lp}{es:List Le}(h:LpsOk P kb lp es 0):∀e∈es,∀g,lp (dC e.2.1)=some g→EB P kb e.2.1 g:=by
 intro e he g hg
 obtain ⟨j,hj⟩:=List.getElem?_of_mem he
 have hlt:=(List.getElem?_eq_some_iff.1 hj).1
 have e0:es.getD j jD=e:=by rw[List.getD_eq_getElem?_getD,hj];rfl
 have:=h j (Nat.zero_le _) hlt g
 rw[e0] at this
 exact this hg
theorem aw {P:Program}{n:Nat}(hm:P.follows .mixedOrders=true){cs:List (Nat×Hc)}(hcs:HcsOk P cs){lp:Lp}{kb:Nat}{fn:Func}{e:Le}(hsub:LpsOk P kb lp (QX fn e) 0)(lo:Lo)(Fn:lo.st.den→Tr (ax lo.xs))
  (hF:∀d y,lo.st.wf d→(Fn d).val=some y→∃k,gk (xh P n) (bz cs) (Ab (xh P n)) lp kb fn e k (lo.st.mk' d) (bI lo.xs)=some y):EB P kb e.2.1 (aP lo Fn):=
 Ta (gH P n) hm (zi hcs) (mS (gH P n)) hsub.all lo Fn hF
theorem aj {P:Program}{n:Nat}(hm:P.follows .mixedOrders=true){cs:List (Nat×Hc)}(hcs:HcsOk P cs){lp:Lp}{f:Nat}{fn:Func}(hf:P.funcs[f]?=some fn)(hname:(fn.name == "runtime.NumGoroutine")=false) (hbody:fn.body.isNone=false)
  (io:Io) (hlp:LpsOk P io.obs.length lp (c6 fn) 0) (Fn:io.In→Tr io.Res) (hF:∀d out,io.wf d→(Fn d).val=some out→io.run (xh P n) (bz cs) (Ab (xh P n)) lp fn d=some out):HcOk P f (ah io Fn):=by
 refine HV (gH P n) hm (zi hcs) (mS (gH P n)) hf hname io lp (fun c hc=>?_) Fn (fun d out=>hF d out) hbody
 have:ni fn=c:=by unfold ni;rw[hc]
 have h:=hlp.all
 unfold c6 at h
 rw[this] at h
 exact h
noncomputable def FB (tt:TT):Dr:=fun ops=>bif Nat.beq ops.size 0 then none else Ab tt ops
theorem Pf {P:Program}{tt:TT}(htt:d0 P tt):rg P tt (FB tt):=by
 intro hd hh R F cst kb ops is r Q G A a w K hkb ho
 unfold FB at ho
 cases hz:Nat.beq ops.size 0 with
 |true=>rw[hz] at ho;cases ho
 |false=>rw[hz] at ho;exact mS htt hd hh R F cst kb ops is r Q G A a w K hkb ho
theorem CX {P:Program}{n:Nat}(hm:P.follows .mixedOrders=true){cs:List (Nat×Hc)}(hcs:HcsOk P cs){lp:Lp}{f:Nat}{fn:Func}(hf:P.funcs[f]?=some fn)(hname:(fn.name == "runtime.NumGoroutine")=false) (hbody:fn.body.isNone=false)
  (io:Io) (hlp:LpsOk P io.obs.length lp (c6 fn) 0) (Fn:io.In→Tr io.Res) (hF:∀d out,io.wf d→(Fn d).val=some out→io.run (xh P n) (bz cs) (FB (xh P n)) lp fn d=some out):HcOk P f (ah io Fn):=by
 refine HV (gH P n) hm (zi hcs) (Pf (gH P n)) hf hname io lp (fun c hc=>?_) Fn (fun d out=>hF d out) hbody
 have:ni fn=c:=by unfold ni;rw[hc]
 have h:=hlp.all
 unfold c6 at h
 rw[this] at h
 exact h
end Go.Proofs.YtomeplopmndbgaaGreat.Sym
namespace Go.Proofs.YtomeplopmndbgaaGreat.Sym
open Go
set_option linter.unusedSimpArgs false
set_option linter.unusedVariables false
def BE:Code→Code
 |.seq a _=>a
 |c=>c
def I4:Code→Code
 |.seq _ b=>b
 |c=>c
def abb:Code→Code
 |.cond _ t _=>t
 |c=>c
def Ao:Code→Array Oper
 |.region _ ops _=>ops
 |_=>#[]
theorem FE {Pr:(Nat×Code×List (Nat×Nat))→Prop}{lr l:Nat}{c:Code}{x:List (Nat×Nat)}(h:df lr c l x=[]):∀e∈df lr c l x,Pr e:=by
 intro e he
 rw[h] at he
 cases he
noncomputable section
section
variable {P:Program} {tt:TT}
end
end
end Go.Proofs.YtomeplopmndbgaaGreat.Sym
namespace Go.Proofs.YtomeplopmndbgaaGreat.Sym
open Go
set_option linter.unusedSimpArgs false
set_option linter.unusedVariables false
noncomputable section
abbrev tt:TT:=xh Tryz.prog 400
def dr:Dr:=Ab (xh Tryz.prog 400)
def drG:Dr:=FB (xh Tryz.prog 400)
theorem hm:Tryz.prog.follows .mixedOrders=true:=by kernel_rfl
abbrev prog:Program:=Tryz.prog
abbrev bs:Ty:=.sl 5 (.int .u8)
abbrev dL:Sh:=.dat bs false false
abbrev dO:Sh:=.dat bs false true
abbrev dI:Sh:=.dat (.int .i64) false false
abbrev dB:Sh:=.dat .bool false false
abbrev dU:Sh:=.dat (.int .u8) false false
theorem dD {k:IntKind}{n:Int}(h:eE k n):k.wrap n=n:=by
 unfold eE at h
 cases k <;> simp[IntKind.wrap,IntKind.min,IntKind.max,IntKind.signed,IntKind.bits] at * <;> (try split) <;> omega
theorem az {n:Int}(h0 : -9223372036854775808≤n)(h:n≤9223372036854775807):IntKind.wrap .i64 n=n:=by
 apply dD
 simp[eE,IntKind.min,IntKind.max,IntKind.signed,IntKind.bits]
 omega
theorem dp:maxLen=9223372036854775807:=rfl
theorem bb {i n:Nat}(h:i<n)(hn:n≤maxLen):IntKind.wrap .i64 ((i:Int)+1)=((i+1:Nat):Int):=by
 rw[az] <;> rw[dp] at hn <;> omega
theorem aa {α:Type}{c:Bool}(h:c=true)(a b:α):(bif c then a else b)=a:=by rw[h];rfl
theorem ab {α:Type}{c:Bool}(h:c=false)(a b:α):(bif c then a else b)=b:=by rw[h];rfl
theorem aH {α:Type}{xs:List α}{i:Nat}{d:α}(h:i<xs.length):xs.getD i d=xs[i]:=by simp[List.getD,h]
theorem Tr.val_ret {α:Type}(a:α):(Tr.ret a).val=some a:=rfl
theorem Tr.val_ite {α:Type}(c:Bool)(t e:Tr α):(Tr.ite c t e).val=if c=true then t.val else e.val:=by cases c <;> rfl
theorem Tr.run_ret {α R:Type}(a:α)(K:α→Option R):(Tr.ret a).run K=K a:=rfl
theorem Tr.run_ite {α R:Type}(c:Bool)(t e:Tr α)(K:α→Option R):(Tr.ite c t e).run K=if c=true then t.run K else e.run K:=by cases c <;> rfl
theorem Tr.guard {α:Type}{c:Bool}{t:Tr α}{y:α}(h:(Tr.ite c t .no).val=some y):c=true∧t.val=some y:=by
 cases c with
 |true=>exact ⟨rfl,h⟩
 |false=>cases h
theorem dZ {i:Int}(h:0≤i):∃n:Nat,i=n:=⟨i.toNat,by omega⟩
abbrev np:Io:=⟨[dL,dL],[],[],[dB],none⟩
def Gr (d:np.In):Tr np.Res:=.ret (.ret ((decide (d.1.1=d.1.2.1),()),()))
abbrev Kd:List (Nat×Hc):=[]
def SA:Hd:=bz Kd
abbrev iB:Lo:=⟨⟨(.one (.hol (.sl 5 (Ty.int IntKind.u8)))::.one (.hol (.sl 5 (Ty.int IntKind.u8)))::.any::be (.one (.hol (.int IntKind.i64))::ai (bJ []))),[]⟩,[(.ret,⟨(bJ (.one (.hol .bool)::.any::ai (bJ []))),[]⟩),(.exit 0,⟨(ai (dE (be []))),[]⟩)]⟩
def pQ (d:iB.st.den):Tr (ax iB.xs):=
 .ite (decide (0≤d.1.2.2.1)&&decide (d.1.1.length=d.1.2.1.length)) (.ite (decide (d.1.1.drop d.1.2.2.1.toNat=d.1.2.1.drop d.1.2.2.1.toNat)) (.ret (.pan (.ret ((),((),()))))) (.ret (.ret ((),((false,()),()))))) .no
def Fv:Lp:=bo [(5,aP iB pQ)]
def sc {R:Type}(h2 h3:List Int)(h4:Int)(next:List Int→List Int→Int→Option R)(out:ax iB.xs→Option R):Option R:=bif decide (h4<(↑h2.length:Int)) then bif decide (0≤h4)&&decide (h4<(↑h2.length:Int)) then bif decide (0≤h4)&&decide (h4<(↑h3.length:Int)) then bif h2.getD h4.toNat 0 != h3.getD h4.toNat 0 then out (.ret ((),((false,()),()))) else next (h2) (h3) (IntKind.i64.wrap (h4+1)) else none else none else out (.pan (.ret ((),((),()))))
def tp (n:Nat)(h2 h3:List Int)(h4:Int):Option (ax iB.xs):=gk tt SA dr Fv 0 Tryz.f28 (cI Tryz.f28 0) n (iB.st.mk' ((h2,(h3,(h4,()))),())) (bI iB.xs)
theorem I6 (n:Nat)(h2 h3:List Int)(h4:Int):tp (n+1) h2 h3 h4=sc h2 h3 h4 (tp n) some:=by kernel_rfl
theorem Tc (xs ys:List Int)(hl:xs.length=ys.length)(hb:xs.length≤maxLen):∀(k i:Nat),i≤xs.length→xs.length<i+k→
  tp k xs ys (i:Int)=if xs.drop i=ys.drop i then some (.pan (.ret ((),((),())))) else some (.ret ((),((false,()),()))):=by
 intro k
 induction k with
 |zero=>intro i h h';omega
 |succ k ih=>
  intro i hi h
  rw[I6]
  unfold sc
  by_cases h1:i<xs.length
  ·have h2:i<ys.length:=by omega
   rw[bb h1 hb,ih (i+1) h1 (by omega)]
   have e:(xs.drop i=ys.drop i)↔(xs[i]=ys[i]∧xs.drop (i+1)=ys.drop (i+1)):=by rw[List.drop_eq_getElem_cons h1,List.drop_eq_getElem_cons h2,List.cons.injEq]
   simp only[Int.toNat_natCast,aH h1,aH h2]
   by_cases he:xs[i]=ys[i] <;> simp[h1,h2,he,e,cond_eq_ite]
  ·rw[List.drop_of_length_le (by omega),List.drop_of_length_le (by omega)]
   simp[h1]
def GE (a0 a1:List Int):Option np.Res:=bif (↑a0.length:Int) != (↑a1.length:Int) then some (Out.ret ((false,()),())) else (pQ ((a0,(a1,(0,()))),())).run fun y=>match y with | .ret ((),((x9,()),()))=>(some (Out.ret ((x9,()),()))) | .pan (.ret ((),((),())))=>(some (Out.ret ((true,()),())))
theorem Xx (a0 a1:List Int):Io.run tt SA dr Fv np Tryz.f28 ((a0,a1,()),())=GE a0 a1:=by kernel_rfl
theorem FH:HcOk prog 28 (ah np Gr):=by
 refine aj (n:=400) hm (cs:=Kd) HcsOk.nil (lp:=Fv) (fn:=Tryz.f28) (by kernel_rfl) (by kernel_rfl) (by kernel_rfl) np
  (.step (h0:=aP iB pQ) (by kernel_rfl) (aw (n:=400) hm (cs:=Kd) HcsOk.nil (lp:=Fv) (fn:=Tryz.f28) (.done (by kernel_rfl)) iB pQ ?_) (.done (by kernel_rfl))) Gr ?_
 ·rintro ⟨⟨xs,ys,i,⟨⟩⟩,⟨⟩⟩ y hw hy
  obtain ⟨hg,hy⟩:=Tr.guard hy
  simp only[Bool.and_eq_true,decide_eq_true_eq] at hg
  obtain ⟨n,rfl⟩:=dZ hg.1
  by_cases hn:n≤xs.length
  ·refine ⟨xs.length+1,(Tc xs ys hg.2 hw.1.1.1 _ n hn (by omega)).trans ?_⟩
   rw[← hy]
   simp only[Tr.val_ite,decide_eq_true_eq,Int.toNat_natCast,Tr.val_ret]
  ·refine ⟨1,?_⟩
   show tp (0+1) xs ys n=_
   rw[I6,← hy]
   unfold sc
   have h1:¬ n<xs.length:=by omega
   simp[Tr.val_ite,Tr.val_ret,h1,List.drop_of_length_le (show xs.length≤n by omega),List.drop_of_length_le (show ys.length≤n by omega)]
 ·rintro ⟨⟨xs,ys,⟨⟩⟩,⟨⟩⟩ out hw ho
  refine (Xx xs ys).trans ?_
  cases ho
  unfold GE
  by_cases hl:xs.length=ys.length
  ·by_cases he:xs=ys
   ·subst he;simp[pQ,Tr.run]
   ·simp[pQ,Tr.run,hl,he]
  ·have:xs≠ys:=fun e=>hl (by rw[e])
   have h2:(xs.length:Int)≠ys.length:=by omega
   simp[this,h2,cond_eq_ite]
end
end Go.Proofs.YtomeplopmndbgaaGreat.Sym
namespace Go.Proofs.YtomeplopmndbgaaGreat.Sym
open Go
open Go.ChangeShapes Go.WideShapes Go.ChangeAt Go.RowKit
set_option linter.unusedSimpArgs false
set_option linter.unusedVariables false
def gf (P:Program):Ty→(TypeId ⊕ (List Field×Nat))→Bool
 |.int k,.inl t=>match P.underlying t with
  |some (.int k')=>decide (k'=k)
  |_=>false
 |.bool,.inl t=>match P.underlying t with
  |some .bool=>true
  |_=>false
 |.str,.inl t=>match P.underlying t with
  |some .string=>true
  |_=>false
 |.sl e ty,.inl t=>match P.underlying t with
  |some (.slice e')=>(e' == e)&&(gf P ty (.inl e)&&((P.cellsOf e == ty.size)&&!(ty.size == 0)))
  |_=>false
 |.prod a b,.inl t=>match P.underlying t with
  |some (.struct fs)=>(P.cellsOf t == a.size+b.size)&&match fs.toList with
   |f::fs'=>(f.offset == 0)&&((P.cellsOf f.type == a.size)&&(gf P a (.inl f.type)&&gf P b (.inr (fs',a.size))))
   |[]=>false
  |_=>false
 |.unit,.inr ([],_)=>true
 |.prod a b,.inr (f::fs,off)=>(f.offset == off)&&((P.cellsOf f.type == a.size)&&(gf P a (.inl f.type)&&gf P b (.inr (fs,off+a.size))))
 |_,_=>false
def iU:(t:Ty)→t.den→Nat
 |.int _,_=>1
 |.bool,_=>1
 |.str,s=>List.length (α:=Int) s+1
 |.sl _ t,xs=>(List.map (iU t) xs).sum+1
 |.unit,_=>0
 |.prod a b,x=>iU a x.1+iU b x.2
 |.tree _ _,_=>0
def S0 (W:World)(b o:Nat):Prop:=∃v,W.cell? ⟨b,o,none⟩=some v
section
variable {P:Program} {W:World} {H:Type} {enc:TypeId×Value→H} {sp:Nat→Bool} {held:Bool}
theorem RL {a:Addr}{n:Nat}{cs:List Value}(h:W.cells? 0 a n=some cs)(hn:0<n):a.spot=none∧cs.length=n∧At (S0 W) W a.block a.off cs:=by
 simp only[World.cells?,Nat.zero_le,if_true] at h
 have hl:=mapM_some_length h
 rw[List.length_range] at hl
 have hg:∀i,i<n→W.cell? (a.add i)=cs[i]?:=fun i hi=>mapM_some_get h i i (by simp[hi])
 have hsp:a.spot=none:=by
  have h0:=hg 0 hn
  rw[List.getElem?_eq_getElem (by omega)] at h0
  unfold World.cell? at h0
  split at h0
  ·split at h0
   ·cases h0
   ·rename_i hs
    cases e:a.spot with
    |none=>rfl
    |some x=>simp[Addr.add,e] at hs
  ·cases h0
 refine ⟨hsp,hl,fun j v hv=>?_⟩
 have hj:j<n:=by rw[← hl];exact (List.getElem?_eq_some_iff.1 hv).1
 have:=hg j hj
 rw[hv] at this
 have e:a.add j=⟨a.block,a.off+j,none⟩:=by
  obtain ⟨b,o,s⟩:=a
  simp only at hsp
  subst hsp
  exact Addr.add_plain ..
 rw[e] at this
 exact ⟨⟨v,this⟩,this⟩
theorem uu (ub:DataW H→Nat)(uba:List (DataW H)→Nat)(u1:∀l,1≤ub (.lit l))(u2:∀bs,bs.length+1≤ub (.lit (.string bs)))(u3:1≤ub .nil)(u4:∀es ss,uba es+1≤ub (.slice es ss))(u5:∀ps,uba ps≤ub (.agg ps))
  (u6:∀d ds,uba (d::ds)=ub d+uba ds) (u7:uba []=0):
  ∀(ty:Ty),(∀(t:TypeId),gf P ty (.inl t)=true→∀(fuel:Nat) (cs:List Value) (x:DataW H×List MemPlace),DataW.trod enc P W 0 sp held fuel t cs=some x→∃y:ty.den,Rt (S0 W) W ty y cs∧iU ty y≤ub x.1)∧
   (∀(fs:List Field) (off:Nat),gf P ty (.inr (fs,off))=true→∀(fuel:Nat) (cs:List Value) (xs:List (DataW H×List MemPlace)),fs.mapM (fun f=>DataW.trod enc P W 0 sp held fuel f.type ((cs.drop f.offset).take (P.cellsOf f.type)))=some xs→
    (cs.drop off).length=ty.size→∃y:ty.den,Rt (S0 W) W ty y (cs.drop off)∧iU ty y≤uba (xs.map (·.1)))
 |.int k=>by
  refine ⟨fun t ht fuel cs x h=>?_,fun fs off ht=>by cases fs <;> simp[gf] at ht⟩
  simp only[gf] at ht
  split at ht
  ·rename_i k' hu
   have ht:=of_decide_eq_true ht
   subst ht
   obtain ⟨n2,rfl,rfl,hw⟩:=DataW.trod_int hu h
   refine ⟨n2,⟨rfl,?_⟩,u1 _⟩
   simpa [Lit.wf,eE] using hw
  ·cases ht
 |.bool=>by
  refine ⟨fun t ht fuel cs x h=>?_,fun fs off ht=>by cases fs <;> simp[gf] at ht⟩
  simp only[gf] at ht
  split at ht
  ·rename_i hu
   obtain ⟨b,rfl,rfl⟩:=DataW.trod_bool hu h
   exact ⟨b,rfl,u1 _⟩
  ·cases ht
 |.str=>by
  refine ⟨fun t ht fuel cs x h=>?_,fun fs off ht=>by cases fs <;> simp[gf] at ht⟩
  simp only[gf] at ht
  split at ht
  ·rename_i hu
   obtain ⟨s,rfl,rfl,hl⟩:=DataW.trod_string hu h
   refine ⟨l9 s,⟨by rw[pr],w6 s,?_⟩,?_⟩
   ·have:(l9 s).length=s.size:=by rw[← cV,pr]
    rw[this];exact hl
   ·have:(l9 s).length=s.data.toList.length:=by unfold l9;exact List.length_map _
    show (l9 s).length+1≤_
    rw[this]
    exact u2 _
  ·cases ht
 |.unit=>by
  refine ⟨fun t ht=>by simp[gf] at ht,fun fs off ht fuel cs xs h hl=>?_⟩
  refine ⟨(),?_,Nat.zero_le _⟩
  exact List.eq_nil_of_length_eq_zero hl
 |.sl e ty=>by
  refine ⟨fun t ht fuel cs x h=>?_,fun fs off ht=>by cases fs <;> simp[gf] at ht⟩
  simp only[gf] at ht
  split at ht
  ·rename_i e' hu
   simp only[Bool.and_eq_true,beq_iff_eq,Bool.not_eq_true',beq_eq_false_iff_ne] at ht
   obtain ⟨rfl,hT,hsz,hpos⟩:=ht
   have ih:=(uu ub uba u1 u2 u3 u4 u5 u6 u7 ty).1 e' hT
   rcases DataW.trod_slice hu h with ⟨rfl,rfl⟩ | ⟨a,len,cap,elems,rest,n,_,rfl,rfl,hb,hl,hm,hlen,hel,_,_⟩
   ·exact ⟨[],⟨none,0,rfl,Nat.le_refl _,Nat.zero_le _,fun h=>absurd rfl h⟩,u3⟩
   ·have each:∀i,i<len→∃y:ty.den,(∃c,Rt (S0 W) W ty y c∧(i=0→a.spot=none)∧At (S0 W) W a.block (a.off+i*ty.size) c)∧∃d,elems[i]?=some d∧iU ty y≤ub d.1:=by
     intro i hi
     have h1:=hel i hi
     rw[List.getElem?_eq_getElem (by omega)] at h1
     obtain ⟨c,hc,hd⟩:=Option.bind_eq_some_iff.1 h1
     obtain ⟨y,hy,hs⟩:=ih _ _ _ hd
     rw[hsz] at hc
     obtain ⟨h2,h3,h4⟩:=RL hc (by omega)
     have e1:(a.add (i*ty.size)).block=a.block:=by unfold Addr.add;split <;> rfl
     have e2:(a.add (i*ty.size)).off=a.off+i*ty.size:=by
      unfold Addr.add
      split
      ·rename_i h0;rw[h0];rfl
      ·rfl
     rw[e1,e2] at h4
     refine ⟨y,⟨c,hy,fun h0=>?_,h4⟩,elems[i],by simp,hs⟩
     subst h0
     simpa [Addr.add] using h2
    have mk:∀m,m≤len→∃ys:List ty.den,ys.length=m∧(∀i y,ys[i]?=some y→∃c,Rt (S0 W) W ty y c∧(i=0→a.spot=none)∧At (S0 W) W a.block (a.off+i*ty.size) c)∧(ys.map (iU ty)).sum≤uba ((elems.take m).map (·.1)):=by
     intro m
     induction m with
     |zero=>intro _;exact ⟨[],rfl,fun i y h=>by simp at h,by simp⟩
     |succ m ihm=>
      intro hm'
      obtain ⟨ys,g1,g2,g3⟩:=ihm (by omega)
      obtain ⟨y,g4,d,g5,g6⟩:=each m (by omega)
      refine ⟨ys++[y],by simp[g1],fun i z hz=>?_,?_⟩
      ·rw[List.getElem?_append] at hz
       split at hz
       ·exact g2 i z hz
       ·rename_i hlt
        have:i=m:=by
         have:=(List.getElem?_eq_some_iff.1 hz).1
         simp at this;omega
        subst this
        simp[g1] at hz
        subst hz
        exact g4
      ·have hap:∀(xs bs:List (DataW H)),uba (xs++bs)=uba xs+uba bs:=by
        intro xs bs
        induction xs with
        |nil=>simp[u7]
        |cons c xs ih=>rw[List.cons_append,u6,u6,ih];omega
       rw[List.take_add_one,g5]
       simp only[List.map_append,List.sum_append,hap,Option.toList,List.map_cons,List.map_nil,List.sum_cons,List.sum_nil,u6,u7]
       omega
    obtain ⟨ys,g1,g2,g3⟩:=mk len (Nat.le_refl _)
    refine ⟨ys,⟨some a,cap,by rw[g1],by omega,hm,fun hne=>?_⟩,?_⟩
    ·have h0:0<ys.length:=List.length_pos_iff.2 hne
     obtain ⟨c,_,hsp,_⟩:=g2 0 ys[0] (by simp)
     have hsp:=hsp rfl
     refine ⟨a.block,a.off,?_,fun i y hy=>?_⟩
     ·obtain ⟨b,o,s⟩:=a
      simp only at hsp
      rw[hsp]
     ·obtain ⟨c,hc,_,hat⟩:=g2 i y hy
      exact ⟨c,hc,hat⟩
    ·rw[List.take_of_length_le (by omega)] at g3
     show (ys.map (iU ty)).sum+1≤_
     exact Nat.le_trans (by omega) (u4 _ _)
  ·cases ht
 |.tree a e=>⟨fun t ht=>by simp[gf] at ht,fun fs off ht=>by cases fs <;> simp[gf] at ht⟩
 |.prod a b=>by
  have step:∀(f:Field) (fs:List Field) (off:Nat),((f.offset == off)&&((P.cellsOf f.type == a.size)&&(gf P a (.inl f.type)&&gf P b (.inr (fs,off+a.size)))))=true→
    ∀(fuel:Nat) (cs:List Value) (xs:List (DataW H×List MemPlace)),(f::fs).mapM (fun f=>DataW.trod enc P W 0 sp held fuel f.type ((cs.drop f.offset).take (P.cellsOf f.type)))=some xs→
    (cs.drop off).length=a.size+b.size→∃y:a.den×b.den,Rt (S0 W) W (.prod a b) y (cs.drop off)∧iU a y.1+iU b y.2≤uba (xs.map (·.1)):=by
   intro f fs off ht fuel cs xs h hl
   simp only[Bool.and_eq_true,beq_iff_eq] at ht
   obtain ⟨rfl,hs,hA,hB⟩:=ht
   simp only[List.mapM_cons,Option.bind_eq_bind,Option.bind_eq_some_iff] at h
   obtain ⟨x0,h0,xs',h1,h2⟩:=h
   simp only[Option.pure_def,Option.some.injEq] at h2
   subst h2
   rw[hs] at h0
   obtain ⟨y1,hy1,hd1⟩:=(uu ub uba u1 u2 u3 u4 u5 u6 u7 a).1 f.type hA _ _ _ h0
   have hl2:(cs.drop (f.offset+a.size)).length=b.size:=by
    simp only[List.length_drop] at hl ⊢
    omega
   obtain ⟨y2,hy2,hd2⟩:=(uu ub uba u1 u2 u3 u4 u5 u6 u7 b).2 fs _ hB _ _ _ h1 hl2
   refine ⟨(y1,y2),⟨_,_,?_,hy1,hy2⟩,?_⟩
   ·rw[← List.drop_drop,List.take_append_drop]
   ·simp only[List.map_cons,u6]
    omega
  refine ⟨fun t ht fuel cs x h=>?_,fun fs off ht fuel cs xs h hl=>?_⟩
  ·simp only[gf] at ht
   split at ht
   ·rename_i fs hu
    simp only[Bool.and_eq_true,beq_iff_eq] at ht
    obtain ⟨hsz,ht⟩:=ht
    split at ht
    ·rename_i f fs' hfs
     cases fuel with
     |zero=>simp[DataW.trod] at h
     |succ n=>
      unfold DataW.trod at h
      rw[hu] at h
      simp only at h
      split at h
      ·rename_i hlen
       obtain ⟨xs,hxs,rfl⟩:=Option.map_eq_some_iff.1 h
       rw[hfs] at hxs
       obtain ⟨y,hy,hd⟩:=step f fs' 0 (by simpa using ht) n cs xs hxs (by simpa [hsz] using hlen)
       exact ⟨y,by simpa using hy,Nat.le_trans hd (u5 _)⟩
      ·cases h
    ·cases ht
   ·cases ht
  ·cases fs with
   |nil=>simp[gf] at ht
   |cons f fs=>exact step f fs off (by simpa only [gf] using ht) fuel cs xs h hl
theorem abg {ty:Ty}{t:TypeId}(ht:gf P ty (.inl t)=true){fuel:Nat}{cs:List Value}{d:DataW H}{ps:List MemPlace}(h:DataW.trod enc P W 0 sp held fuel t cs=some (d,ps)):∃y:ty.den,Rt (S0 W) W ty y cs∧iU ty y≤Rows.uptoBulk d:=
 (uu Rows.uptoBulk Rows.uptoBulkAll (fun l=>by cases l <;> simp[Rows.uptoBulk]) (fun bs=>by simp[Rows.uptoBulk]) (by simp[Rows.uptoBulk]) (fun es ss=>by simp[Rows.uptoBulk]) (fun ps=>by simp[Rows.uptoBulk]) (fun d ds=>by simp[Rows.uptoBulkAll]) (by simp[Rows.uptoBulkAll]) ty).1 t ht fuel cs _ h
def G0 (W:World):Gh:=⟨S0 W,fun _=>none,fun _=>none⟩
def F0 (W:World):Fra:=⟨W,fun _=>False,S0 W,fun _=>none⟩
theorem ab2 (W:World):Rel (F0 W) (G0 W) ⟨[],[],[]⟩ #[] [] W where
 tm:=trivial
 stk:=trivial
 ob:=fun k cs h=>by simp at h
 gh:=⟨fun _ _ h=>(by cases h),fun _ _ _ h=>(by cases h),fun _ _ _ h=>(by cases h),fun _ _ _ _ _ h=>(by cases h),fun b o h=>(by
   obtain ⟨v,h⟩:=h
   unfold World.cell? at h
   split at h
   ·rename_i e
    exact (Array.getElem?_eq_some_iff.1 e).1
   ·cases h),⟨rfl,rfl,rfl,Nat.le_refl _,fun _ _ _=>rfl⟩,fun _ _ h=>h,fun _ _ h=>.inl h,fun _ _ _=>rfl,fun _ _ h=>(by cases h)⟩
def O7 (oc:Oc)(A:AS):Option Unit:=match oc with
 |.ret (.one (.bool true)) _=>some ()
 |_=>none
theorem O8 {f:Nat}{io:Io}{Fn:io.In→Tr io.Res}(hok:HcOk P f (ah io Fn)){args:List V}{vals:Array Value}(hargs:All2 (Rv (G0 W) W) args vals.toList)(hrun:ah io Fn Unit args 1 ⟨[],[],[]⟩ O7=some ()):
  Calls P f vals W fun e w'=>e=.returned (.bool true)∧w'.os=W.os∧w'.output=W.output∧∀i,i<W.heap.size→w'.heap[i]?=W.heap[i]?:=by
 refine (hok Unit args 1 _ O7 () (F0 W) (G0 W) #[] [] W vals (fun _=>rfl) hrun (ab2 W) hargs).2.mono ?_
 rintro e w' ⟨G',A',v,u,R',hv,h⟩
 have hfr:=R'.gh.fr
 refine ⟨?_,hfr.os,hfr.output,fun i hi=>hfr.block i hi (fun h=>h)⟩
 rcases h with ⟨rfl,ks,_,hk⟩ | ⟨rfl,hk⟩
 ·unfold O7 at hk
  split at hk
  ·rename_i e
   cases e
   rw[show u=.bool true from hv]
  ·cases hk
 ·cases hk
def Rq (ty:Ty)(y:ty.den):V:=bif ty.isProd then .agg (qM ty y) else match qM ty y with
 |[c]=>.one c
 |_=>.any
theorem J4 {G:Gh}{ty:Ty}{y:ty.den}{v:Value}(h:Rt G.S W ty y v.cells.toList)(hp:ty.isProd=true→∃vs,v=.agg vs)(hn:ty.isProd=false→v.cells = #[v]):Rv G W (Rq ty y) v:=by
 have hs:=cZ (G:=G) (w:=W) ty y _ h
 unfold Rq
 cases hb:ty.isProd with
 |true=>
  obtain ⟨vs,rfl⟩:=hp hb
  exact ⟨vs,rfl,hs⟩
 |false=>
  rw[hn hb] at hs
  simp only[cond_false]
  split
  ·rename_i c e
   rw[e] at hs
   exact hs.1
  ·trivial
theorem Ov {ty:Ty}{t:TypeId}(ht:gf P ty (.inl t)=true){r:Reach}{base:Nat}{v:Value}(hval:Value.okWide P W r base t v):(ty.isProd=true→∃vs,v=.agg vs)∧(ty.isProd=false→v.cells = #[v]):=by
 cases ty with
 |tree a e=>simp[gf] at ht
 |int k=>
  refine ⟨fun h=>(by cases h),fun _=>?_⟩
  simp only[gf] at ht
  split at ht
  ·rename_i k' hu
   cases v <;> simp[Value.okWide,hu,Cell.okWide,Cell.ok] at hval <;> rfl
  ·cases ht
 |bool=>
  refine ⟨fun h=>(by cases h),fun _=>?_⟩
  simp only[gf] at ht
  split at ht
  ·rename_i hu
   cases v <;> simp[Value.okWide,hu,Cell.okWide,Cell.ok] at hval <;> rfl
  ·cases ht
 |str=>
  refine ⟨fun h=>(by cases h),fun _=>?_⟩
  simp only[gf] at ht
  split at ht
  ·rename_i hu
   cases v <;> simp[Value.okWide,hu,Cell.okWide,Cell.ok] at hval <;> rfl
  ·cases ht
 |sl e ty=>
  refine ⟨fun h=>(by cases h),fun _=>?_⟩
  simp only[gf] at ht
  split at ht
  ·rename_i e' hu
   cases v <;> simp[Value.okWide,hu,Cell.okWide,Cell.ok] at hval <;> rfl
  ·cases ht
 |unit=>simp[gf] at ht
 |prod a b=>
  refine ⟨fun _=>?_,fun h=>(by cases h)⟩
  simp only[gf] at ht
  split at ht
  ·rename_i fs hu
   simp only[Value.okWide,hu] at hval
   obtain ⟨cs,rfl,_⟩:=hval
   exact ⟨cs,rfl⟩
  ·cases ht
def xM (P:Program):Bool:=(List.range P.types.size).all fun t=>match P.underlying t with
 |some (.slice e)=>decide (0<P.cellsOf e)
 |_=>true
theorem B1 (hl:laidOutB P=true)(hm:mapsRowed P=true)(hs:xM P=true){W':World}(hk:∀i,i<W.heap.size→W'.heap[i]?=W.heap[i]?):∀{ts:List TypeId} {vs:List Value} {ds:List (DataW H)} {ps:List MemPlace},
  (∀t∈ts,t<P.types.size)→DataW.TrodAll enc P W 0 (fun _=>true) true ts vs ds ps→(∀p∈ps,sp p.block=true)→DataW.TrodAll enc P W' 0 sp true ts vs ds ps
 |[],[],[],_,_,h,_=>h
 |t::ts,v::vs,d::ds,ps,hT,⟨p,q,⟨fuel,h1⟩,h2,e⟩,hsp=>by
  refine ⟨p,q,⟨fuel,DataW.trod_stays (kids_rows hl hm) (fun {t e} ht hu=>?_) (fun h=>(by cases h)) (hT t (by simp)) h1 (fun x hx=>?_) fun x hx=>hsp x (by rw[e];exact List.mem_append_left _ hx)⟩,
   B1 hl hm hs hk (fun t ht=>hT t (by simp[ht])) h2 (fun x hx=>hsp x (by rw[e];exact List.mem_append_right _ hx)),e⟩
  ·have:=List.all_eq_true.1 hs t (by simpa using ht)
   rw[hu] at this
   exact of_decide_eq_true this
  ·have hb:=DataW.trod_lt _ _ _ _ h1 x hx
   cases x with
   |cell b off=>simp[World.sameAt,World.cell?,hk b hb]
   |map b=>exact hk b hb
 |[],[],_::_,_,_,h,_=>h.elim
 |[],_::_,_,_,_,h,_=>h.elim
 |_::_,[],_,_,_,h,_=>h.elim
 |_::_,_::_,[],_,_,h,_=>h.elim
theorem Us {f:Func}{s:ChangeSpec}{apart fresh handsOn again:Bool}{W':World}{args:Array Value}{ds gs:List (DataW H)}{before:List MemPlace}
  (hl:laidOutB P=true) (hm:mapsRowed P=true) (hs:xM P=true) (hT:∀t∈f.params.toList,t<P.types.size) {tb:TypeId} (hr:f.resultTypes = #[tb]) (htb:P.underlying tb=some .bool) (hv:s.vars=[])
  (hW:DataW.Whole enc P f.params.toList s.vars apart W args.toList ds gs before) (hfn:s.fn H (ds++gs)={ results:=[.lit (.bool true)],args:=ds })
  (hos:W'.os=W.os) (hout:W'.output=W.output) (hk:∀i,i<W.heap.size→W'.heap[i]?=W.heap[i]?):s.post enc P f apart fresh handsOn again W args (.bool true) W':=by
 have hlt:=hW.lt
 obtain ⟨p,q,hA,hV,hpq,hfz,hnd⟩:=id hW
 rw[hv] at hV
 obtain ⟨rfl,rfl⟩:=trodVars_none hV
 rw[List.append_nil] at hpq
 subst hpq
 have hres:∀(b:Nat) (sp:Nat→Bool) (hd:Bool),DataW.TrodAll enc P W' b sp hd f.resultTypes.toList ((Value.bool true).resultList f.resultTypes.size) [.lit (.bool true)] []:=by
  intro b sp hd
  rw[hr]
  exact trodAll_cons_mk (shut_bool htb _) trodAll_mk0
 have hargs:∀sp:Nat→Bool,(∀x∈before,sp x.block=true)→DataW.TrodAll enc P W' 0 sp true f.params.toList args.toList ds before:=
  fun sp hsp=>B1 hl hm hs hk hT hA hsp
 have hvars:∀sp:Nat→Bool,DataW.TrodVars enc P W' sp s.vars [] []:=by
  intro sp
  rw[hv]
  rfl
 have hold:∀x∈before,(fun b=>decide (b<W.heap.size)) x.block=true:=fun x hx=>by simpa using hlt x hx
 have hkept:∀may:MemPlace→Prop,W.keptBut W' may:=fun may=>⟨hos,hout,fun i hi=>by
  rw[hk i hi]
  cases h:W.heap[i]? with
  |none=>rfl
  |some o=>cases o <;> simp⟩
 refine ⟨ds,[],before,[],before,[],hW,by rw[hfn];exact hres _ _ _,by rw[hfn];exact hargs _ hold,by rw[hfn];exact hvars _,hkept _,fun _=>?_⟩
 refine ⟨ok_one hr rfl (okWide_bool_mk htb true),[.lit (.bool true)]++ds,[],[]++before,⟨[]++before,[],trodAll_append (hargs _ fun _ _=>rfl) (hres _ _ _),hvars _,by simp,fun b off hx=>?_,fun ha=>by simpa using hnd ha⟩,fun x hx _=>by simpa using hx⟩
 have hx:MemPlace.cell b off∈before:=by simpa using hx
 rw[← hfz b off hx]
 simp[World.frozen?,hk b (hlt _ hx)]
@[reducible] def uG:List Ty→Type
 |[]=>Unit
 |t::ts=>t.den×uG ts
def My:(tys:List Ty)→uG tys→List V
 |[],_=>[]
 |t::ts,y=>Rq t y.1::My ts y.2
def Ss:(tys:List Ty)→uG tys→Nat
 |[],_=>0
 |t::ts,y=>iU t y.1+Ss ts y.2
def wfs:(tys:List Ty)→uG tys→Prop
 |[],_=>True
 |t::ts,y=>t.wf y.1∧wfs ts y.2
def W5 (P:Program):List Ty→List TypeId→Bool
 |[],[]=>true
 |ty::tys,t::ts=>gf P ty (.inl t)&&W5 P tys ts
 |_,_=>false
theorem GA {r:Reach}{base:Nat}:∀(tys:List Ty) (ts:List TypeId),W5 P tys ts=true→∀{vs:List Value} {ds:List (DataW H)} {ps:List MemPlace},DataW.TrodAll enc P W 0 sp held ts vs ds ps→
  (∀(j:Nat) t v,ts[j]?=some t→vs[j]?=some v→Value.okWide P W r base t v)→
  ∃ys:uG tys,All2 (Rv (G0 W) W) (My tys ys) vs∧Ss tys ys≤Rows.uptoBulkAll ds∧wfs tys ys∧ds.length=tys.length
 |[],[],_,[],[],_,_,_=>⟨(),trivial,Nat.zero_le _,trivial,rfl⟩
 |ty::tys,t::ts,ht,v::vs,d::ds,_,⟨p,q,⟨fuel,h1⟩,h2,_⟩,hv=>by
  simp only[W5,Bool.and_eq_true] at ht
  obtain ⟨y,hy,hs⟩:=abg ht.1 h1
  obtain ⟨k1,k2⟩:=Ov ht.1 (hv 0 t v rfl rfl)
  obtain ⟨ys,g1,g2,g3,g4⟩:=GA tys ts ht.2 h2 fun j t' v' e1 e2=>hv (j+1) t' v' (by simpa using e1) (by simpa using e2)
  refine ⟨(y,ys),⟨J4 hy k1 k2,g1⟩,?_,⟨Rt.wf ty y _ hy,g3⟩,by simp[g4]⟩
  simp only[Ss,Rows.uptoBulkAll]
  omega
 |[],[],_,[],_::_,_,h,_=>h.elim
 |[],[],_,_::_,_,_,h,_=>h.elim
 |_::_,_::_,_,[],_,_,h,_=>h.elim
 |_::_,_::_,_,_::_,[],_,h,_=>h.elim
 |[],_::_,h,_,_,_,_,_=>by cases h
 |_::_,[],h,_,_,_,_,_=>by cases h
theorem Fh {fn:Func}{f:Nat}{io:Io}{Fn:io.In→Tr io.Res}(hok:HcOk P f (ah io Fn)){s:ChangeSpec}(tys:List Ty)(hts:W5 P tys fn.params.toList=true)
  (hl:laidOutB P=true) (hm:mapsRowed P=true) (hs:xM P=true) (hT:∀t∈fn.params.toList,t<P.types.size) {tb:TypeId} (hr:fn.resultTypes = #[tb]) (htb:P.underlying tb=some .bool) (hv:s.vars=[])
  (hfn:∀ds:List (DataW H),ds.length=tys.length→s.fn H ds={ results:=[.lit (.bool true)],args:=ds })
  (hrun:∀ys:uG tys,Ss tys ys≤1048576→wfs tys ys→ah io Fn Unit (My tys ys) 1 ⟨[],[],[]⟩ O7=some ())
  (base:Nat) (args:Array Value) (ds gs:List (DataW H)) (before:List MemPlace)
  (hval:∀(j:Nat) t v,fn.params[j]?=some t→args[j]?=some v→Value.okWide P W .any base t v)
  (hW:DataW.Whole enc P fn.params.toList s.vars false W args.toList ds gs before) (hk:Rows.uptoSmall H (ds++gs)=true):
  Calls P f args W fun e W'=>∃v,e=.returned v∧s.post enc P fn false true false false W args v W':=by
 have hW':=hW
 obtain ⟨p,q,hA,hV,_,_,_⟩:=hW
 rw[hv] at hV
 obtain ⟨rfl,rfl⟩:=trodVars_none hV
 obtain ⟨ys,g1,g2,g3,g4⟩:=GA tys fn.params.toList hts hA fun j t v e1 e2=>hval j t v (by simpa using e1) (by simpa using e2)
 have hb:Rows.uptoBulkAll ds≤1048576:=by simpa [Rows.uptoSmall] using hk
 refine (O8 hok (vals:=args) (args:=My tys ys) g1 (hrun ys (by omega) g3)).mono ?_
 rintro e W' ⟨rfl,hos,hout,hkeep⟩
 exact ⟨_,rfl,Us hl hm hs hT hr htb hv hW' (by rw[List.append_nil];exact hfn ds g4) hos hout hkeep⟩
end
end Go.Proofs.YtomeplopmndbgaaGreat.Sym
namespace Go.Proofs.YtomeplopmndbgaaGreat.Sym
open Go
set_option linter.unusedSimpArgs false
set_option linter.unusedVariables false
noncomputable section
section
variable {P:Program} {tt:TT}
end
end
end Go.Proofs.YtomeplopmndbgaaGreat.Sym
namespace Go.Proofs.YtomeplopmndbgaaGreat.Sym
open Go
set_option linter.unusedSimpArgs false
set_option linter.unusedVariables false
def C.thaw:C→C
 |.ex e t lo xs i j=>bif Nat.beq lo 0 then .lst e t xs 0 else .top
 |.eel _ _ _ _ _=>.top
 |.lst e t xs _=>.lst e t xs 0
 |.ptr _ _=>.top
 |.fn _ _ _=>.top
 |c=>c
def V.thaw:V→V
 |.one c=>.one c.thaw
 |.agg cs=>.agg (cs.map C.thaw)
 |_=>.any
def Ty.flatB:Ty→Bool
 |.sl _ _=>false
 |.tree _ _=>false
 |.prod a b=>a.flatB&&b.flatB
 |_=>true
theorem Rt.flat {S S':Nat→Nat→Prop}{w w':World}:∀(t:Ty) (x:t.den) (cs:List Value),t.flatB=true→Rt S w t x cs→Rt S' w' t x cs
 |.int _,_,_,_,h=>h
 |.bool,_,_,_,h=>h
 |.str,_,_,_,h=>h
 |.unit,_,_,_,h=>h
 |.prod a b,_,_,hf,⟨c1,c2,e,h1,h2⟩=>by
  simp only[Ty.flatB,Bool.and_eq_true] at hf
  exact ⟨c1,c2,e,Rt.flat a _ _ hf.1 h1,Rt.flat b _ _ hf.2 h2⟩
 |.sl _ _,_,_,hf,_=>by cases hf
 |.tree _ _,_,_,hf,_=>by cases hf
def CZ:C→Option C
 |.int k n=>some (.int k n)
 |.bool b=>some (.bool b)
 |.str s=>some (.str s)
 |.lst e t xs own=>bif !(own == 0)&&t.flatB then some (.ex e t 0 xs own own) else none
 |_=>none
def pa:List C→Option (List C)
 |[]=>some []
 |c::cs=>match CZ c,pa cs with
  |some c,some cs=>some (c::cs)
  |_,_=>none
def zh:List (Bool×List C)→Option (List (Bool×List C))
 |[]=>some []
 |p::ps=>match pa p.2,zh ps with
  |some cs,some ps=>some ((p.1,cs)::ps)
  |_,_=>none
def YN:V→Option V
 |.one c=>(CZ c).map .one
 |.agg cs=>(pa cs).map .agg
 |.tup ps=>(zh ps).map .tup
 |.any=>none
def Al:C→List Nat
 |.lst _ _ _ own=>[own]
 |_=>[]
def Ur:V→List Nat
 |.one c=>Al c
 |.agg cs=>cs.flatMap Al
 |.tup ps=>ps.flatMap fun p=>p.2.flatMap Al
 |.any=>[]
def J3 (i:Nat):List Nat→Bool
 |[]=>true
 |j::js=>Nat.beq j i&&J3 i js
noncomputable section
def FY (h:Hc):Hc:=fun _ args id A K=>h _ (args.map V.thaw) id ⟨[],[],[]⟩ fun oc _=>match oc with
 |.ret v _=>match YN v,Ur v with
  |some v',[]=>v'.force fun v'=>K (.ret v' (some [])) A
  |some v',i::is=>bif !(i == 0)&&J3 i is then v'.force fun v'=>(A.map (C.noOwn i)).force fun A=>K (.ret v' (some [])) A else none
  |none,_=>none
 |.pan _=>none
structure Grown (w w':World):Prop where
 os:w'.os=w.os
 tape:w'.tape=w.tape
 output:w'.output=w.output
 size:w.heap.size≤w'.heap.size
 old:∀k,k<w.heap.size→w'.heap[k]?=w.heap[k]?
theorem Grown.cell {w w':World}(g:Grown w w'){b o:Nat}(hb:b<w.heap.size):w'.cell? ⟨b,o,none⟩=w.cell? ⟨b,o,none⟩:=by
 simp[World.cell?,g.old b hb]
section
variable {F:Fra} {G:Gh} {w w':World}
def Gh.owned (G:Gh)(i:Nat)(o:Option Nat):Gh:=⟨G.S,G.mu,fun j=>if j=i then o.map (·,0) else G.ow j⟩
theorem Goes.grown (h:GhOk F G w)(g:Grown w w')(i:Nat)(o:Option Nat):Goes G (G.owned i o) w w' none (some i) where
 kept:=fun b p hs=>⟨hs,g.cell (h.sB b p hs)⟩
 mu:=fun _ _ hb _=>hb
 ow:=fun j b l hj hne=>by
  have:j≠i:=fun e=>hne (by rw[e])
  exact ⟨by simp[Gh.owned,this,hj],g.old b (h.ow j b l hj).2.2.1⟩
theorem GhOk.grown (h:GhOk F G w)(g:Grown w w')(i:Nat)(o:Option Nat)(ho:∀b,o=some b→w.heap.size≤b∧b<w'.heap.size):GhOk F (G.owned i o) w' where
 mu:=fun key b hb=>let ⟨h1,h2,h3⟩:=h.mu key b hb;⟨h1,h2,Nat.lt_of_lt_of_le h3 g.size⟩
 muI:=h.muI
 ow:=fun j b l hj=>by
  simp only[Gh.owned] at hj ⊢
  split at hj
  ·cases o with
   |none=>cases hj
   |some b0=>
    simp only[Option.map_some,Option.some.injEq,Prod.mk.injEq] at hj
    obtain ⟨rfl,rfl⟩:=hj
    obtain ⟨h1,h2⟩:=ho b0 rfl
    exact ⟨fun p _ hs=>by have:=h.sB _ _ hs;omega,.inl (Nat.le_trans h.fr.size h1),h2,fun key hk=>by have:=(h.mu key _ hk).2.2;omega⟩
  ·obtain ⟨h1,h2,h3,h4⟩:=h.ow j b l hj
   exact ⟨h1,h2,Nat.lt_of_lt_of_le h3 g.size,h4⟩
 owI:=fun j k b l l' hj hk=>by
  simp only[Gh.owned] at hj hk
  have hb:∀b l,o.map (·,0)=some (b,l)→w.heap.size≤b:=fun b l e=>by
   cases o with
   |none=>cases e
   |some b0=>cases e;exact (ho _ rfl).1
  split at hj <;> split at hk
  ·rename_i e1 e2;exact e1.trans e2.symm
  ·have:=hb _ _ hj;have:=(h.ow k _ _ hk).2.2.1;omega
  ·have:=hb _ _ hk;have:=(h.ow j _ _ hj).2.2.1;omega
  ·exact h.owI j k b l l' hj hk
 sB:=fun b p hs=>Nat.lt_of_lt_of_le (h.sB b p hs) g.size
 fr:=h.fr.alloc g.os g.tape g.output g.size g.old
 sub:=h.sub
 sup:=h.sup
 keep:=fun b p hs=>(g.cell (h.sB b p (h.sub b p hs))).trans (h.keep b p hs)
 fix_:=h.fix_
theorem Rel.grown {A:AS}{ts:Array Value}{cst:List (Array Value)}(R:Rel F G A ts cst w)(g:Grown w w')(i:Nat)(o:Option Nat)(ho:∀b,o=some b→w.heap.size≤b∧b<w'.heap.size):Rel F (G.owned i o) (A.map (C.noOwn i)) ts cst w':=
 R.map (fun c v h=>h.noOwn (Goes.grown R.gh g i o)) (fun _=>rfl) (fun key b hb=>⟨hb,g.old b (R.gh.mu key b hb).2.2⟩) (R.gh.grown g i o ho)
theorem Goes.grown0 (h:GhOk F G w)(g:Grown w w'):Goes G G w w' none none where
 kept:=fun b p hs=>⟨hs,g.cell (h.sB b p hs)⟩
 mu:=fun _ _ hb _=>hb
 ow:=fun j b l hj _=>⟨hj,g.old b (h.ow j b l hj).2.2.1⟩
theorem Rel.grown0 {A:AS}{ts:Array Value}{cst:List (Array Value)}(R:Rel F G A ts cst w)(g:Grown w w'):Rel F G A ts cst w':=by
 have h0:GhOk F G w':=by
  refine ⟨fun key b hb=>?_,R.gh.muI,fun j b l hj=>?_,R.gh.owI,fun b p hs=>Nat.lt_of_lt_of_le (R.gh.sB b p hs) g.size,R.gh.fr.alloc g.os g.tape g.output g.size g.old,R.gh.sub,R.gh.sup,fun b p hs=>(g.cell (R.gh.sB b p (R.gh.sub b p hs))).trans (R.gh.keep b p hs),R.gh.fix_⟩
  ·obtain ⟨h1,h2,h3⟩:=R.gh.mu key b hb
   exact ⟨h1,h2,Nat.lt_of_lt_of_le h3 g.size⟩
  ·obtain ⟨h1,h2,h3,h4⟩:=R.gh.ow j b l hj
   exact ⟨h1,h2,Nat.lt_of_lt_of_le h3 g.size,h4⟩
 have:=R.map (f:=id) (fun c v h=>h.goes (Goes.grown0 R.gh g) (fun _ e=>by cases e) (fun _ e=>by cases e)) (fun _=>rfl) (fun key b hb=>⟨hb,g.old b (R.gh.mu key b hb).2.2⟩) h0
 rwa [AS.map_id] at this
def VU (G:Gh):Nat→Nat→Prop:=fun b o=>G.S b o∨∃i,G.ow i=some (b,0)
def mD (G:Gh):Gh:=⟨VU G,fun _=>none,fun _=>none⟩
def qK (G:Gh)(w:World):Fra:=⟨w,fun _=>False,VU G,fun _=>none⟩
theorem VV (h:GhOk F G w):Rel (qK G w) (mD G) ⟨[],[],[]⟩ #[] [] w:=by
 have hs:∀b o,VU G b o→b<w.heap.size:=by
  rintro b o (hs | ⟨i,hi⟩)
  ·exact h.sB b o hs
  ·exact (h.ow i b 0 hi).2.2.1
 have hg:GhOk (qK G w) (mD G) w:=
  {mu:=fun _ _ h=>by cases h
   muI:=fun _ _ _ h=>by cases h
   ow:=fun _ _ _ h=>by cases h
   owI:=fun _ _ _ _ _ h=>by cases h
   sB:=hs
   fr:=⟨rfl,rfl,rfl,Nat.le_refl _,fun _ _ _=>rfl⟩
   sub:=fun _ _ h=>h
   sup:=fun _ _ h=>.inl h
   keep:=fun _ _ _=>rfl
   fix_:=fun _ _ h=>by cases h }
 exact ⟨trivial,trivial,fun k cs hk=>by simp at hk,hg⟩
theorem D2 (G:Gh)(w:World):Kept G.S (mD G).S w w:=fun _ _ h=>⟨.inl h,rfl⟩
theorem C.thaw_sound {c:C}{v:Value}(h:Rc G w c v):Rc (mD G) w c.thaw v:=by
 have hcell:=h.cell
 cases c with
 |ex e t lo xs i j=>
  simp only[C.thaw]
  cases hl:Nat.beq lo 0 with
  |false=>exact hcell
  |true=>
   have hl:=Nat.eq_of_beq_eq_true hl
   subst hl
   simp only[cond_true]
   rcases h with ⟨_,rfl,rfl⟩ | ⟨b,cap,rfl,⟨_,_,ho⟩,cur,el,hh,h1,h2,h3,h4⟩
   ·exact ⟨none,0,rfl,Nat.le_refl _,by simp[maxLen],fun hne=>absurd rfl hne,.inl rfl⟩
   ·rw[Nat.zero_add] at h2 ⊢
    refine ⟨_,cap,rfl,h2,h3,fun _=>⟨b,0,rfl,fun k x hx=>?_⟩,.inl rfl⟩
    obtain ⟨c,hc,hu⟩:=h4 k x hx
    refine ⟨c,Rt.kept (D2 G w) t x c hc,fun q u hq=>?_⟩
    have:=hu q u hq
    rw[Nat.zero_add] at this ⊢
    refine ⟨.inr (by rcases ho with h | h;exact ⟨_,h⟩;exact ⟨_,h⟩),?_⟩
    rw[gy hh,Array.getElem?_toList]
    exact this
 |eel t k x i j=>exact hcell
 |lst e t xs own=>
  obtain ⟨A,cap,e,h1,h2,h3,_⟩:=h
  exact ⟨A,cap,e,h1,h2,h3.kept (D2 G w),.inl rfl⟩
 |ptr k o=>exact hcell
 |fn f m caps=>exact hcell
 |ro t x=>
  obtain ⟨b,o,cs,e,h1,h2⟩:=h
  exact ⟨b,o,cs,e,Rt.kept (D2 G w) t x cs h1,h2.kept (D2 G w)⟩
 |ifc T t x=>
  obtain ⟨u,e,hu,ha⟩:=h
  exact ⟨u,e,Rt.kept (D2 G w) t x _ hu,ha⟩
 |pin v0 t x=>exact ⟨h.1,Rt.kept (D2 G w) t x _ h.2⟩
 |_=>exact h
theorem V.thaw_sound {x:V}{v:Value}(h:Rv G w x v):Rv (mD G) w x.thaw v:=by
 cases x with
 |one c=>exact C.thaw_sound h
 |agg cs=>
  obtain ⟨vs,e,hv⟩:=h
  exact ⟨vs,e,hv.map_left _ fun a b h=>C.thaw_sound h⟩
 |tup ps=>trivial
 |any=>trivial
variable {G':Gh}
def OwnsTo (G' H:Gh)(l:List Nat):Prop:=∀j∈l,j≠0∧∀b n,G'.ow j=some (b,n)→H.ow j=some (b,0)
theorem OwnsTo.l {H:Gh}{l l':List Nat}(h:OwnsTo G' H (l++l')):OwnsTo G' H l:=fun j hj=>h j (List.mem_append_left _ hj)
theorem OwnsTo.r {H:Gh}{l l':List Nat}(h:OwnsTo G' H (l++l')):OwnsTo G' H l':=fun j hj=>h j (List.mem_append_right _ hj)
theorem o9 {H:Gh}{c c':C}{v:Value}(hc:CZ c=some c')(ho:OwnsTo G' H (Al c))(h:Rc G' w' c v):Rc H w' c' v:=by
 cases c <;> simp only[CZ] at hc <;> try cases hc
 case int=>exact h
 case bool=>exact h
 case str=>exact h
 case lst e t xs own=>
  cases hz : !(own == 0)&&t.flatB with
  |false=>rw[hz] at hc;cases hc
  |true=>
   rw[hz] at hc
   simp only[cond_true,Option.some.injEq] at hc
   subst hc
   simp only[Bool.and_eq_true,Bool.not_eq_true',beq_eq_false_iff_ne] at hz
   obtain ⟨hi,hown⟩:=ho own (by simp[Al])
   obtain ⟨A,cap,rfl,h1,h2,hrow,hO⟩:=h
   rcases hO with hO | ⟨rfl,rfl⟩ | ⟨b,cur,el,rfl,how,hh,hcs⟩
   ·exact absurd hO hz.1
   ·have:xs=[]:=List.eq_nil_of_length_eq_zero (by omega)
    subst this
    exact .inl ⟨rfl,rfl,rfl⟩
   ·refine .inr ⟨b,cap,by rw[Nat.zero_add],⟨hi,hi,.inl (hown b _ how)⟩,cur,el,hh,hcs,by rw[Nat.zero_add];exact h1,h2,fun k x hx=>?_⟩
    obtain ⟨b',o',c,e',hc,ha⟩:=hrow.cellAt hx
    cases e'
    refine ⟨c,Rt.flat t x c hz.2 hc,fun q u hq=>?_⟩
    have:=(ha q u hq).2
    rw[gy hh,Array.getElem?_toList] at this
    rw[Nat.zero_add] at this ⊢
    exact this
theorem nj {H:Gh}:∀{cs cs':List C} {vs:List Value},pa cs=some cs'→OwnsTo G' H (cs.flatMap Al)→All2 (Rc G' w') cs vs→All2 (Rc H w') cs' vs
 |[],cs',vs,h,_,hv=>by simp only[pa,Option.some.injEq] at h;subst h;cases vs <;> exact hv
 |c::cs,cs',[],h,_,hv=>hv.elim
 |c::cs,cs',v::vs,h,ho,hv=>by
  simp only[pa] at h
  split at h
  ·rename_i c' cs'' h1 h2
   cases h
   rw[List.flatMap_cons] at ho
   exact ⟨o9 h1 ho.l hv.1,nj h2 ho.r hv.2⟩
  ·cases h
theorem Kt {c:C}{cs':List C}(h:pa [c]=some cs'):∃c',CZ c=some c'∧cs'=[c']:=by
 simp only[pa] at h
 cases hc:CZ c with
 |none=>rw[hc] at h;cases h
 |some c'=>rw[hc] at h;cases h;exact ⟨c',rfl,rfl⟩
theorem ta {H:Gh}:∀{ps ps':List (Bool×List C)} {us:List Value},zh ps=some ps'→OwnsTo G' H (ps.flatMap fun p=>p.2.flatMap Al)→All2 (RcOne G' w') ps us→All2 (RcOne H w') ps' us
 |[],ps',us,h,_,hv=>by simp only[zh,Option.some.injEq] at h;subst h;cases us <;> exact hv
 |p::ps,ps',[],h,_,hv=>hv.elim
 |(b,cs0)::ps,ps',u::us,h,ho,hv=>by
  simp only[zh] at h
  split at h
  ·rename_i cs ps'' h1 h2
   cases h
   rw[List.flatMap_cons] at ho
   refine ⟨?_,ta h2 ho.r hv.2⟩
   have o1:=ho.l
   rcases hv.1 with ⟨e1,vs,e2,h3⟩ | ⟨e1,c,e2,h3⟩
   ·exact .inl ⟨e1,vs,e2,nj h1 o1 h3⟩
   ·simp only at e2
    subst e2
    obtain ⟨c',hc',rfl⟩:=Kt h1
    exact .inr ⟨e1,c',rfl,o9 hc' (by simpa using o1) h3⟩
  ·cases h
theorem wr {H:Gh}{x x':V}{v:Value}(hx:YN x=some x')(ho:OwnsTo G' H (Ur x))(h:Rv G' w' x v):Rv H w' x' v:=by
 cases x with
 |one c=>
  obtain ⟨c',hc,rfl⟩:=Option.map_eq_some_iff.1 hx
  exact o9 hc ho h
 |agg cs=>
  obtain ⟨cs',hc,rfl⟩:=Option.map_eq_some_iff.1 hx
  obtain ⟨vs,e,hv⟩:=h
  exact ⟨vs,e,nj hc ho hv⟩
 |tup ps=>
  obtain ⟨ps',hc,rfl⟩:=Option.map_eq_some_iff.1 hx
  obtain ⟨us,e,hv⟩:=h
  exact ⟨us,e,ta hc ho hv⟩
 |any=>cases hx
theorem Gz {i:Nat}:∀{l:List Nat},J3 i l=true→∀j∈l,j=i
 |[],_,j,hj=>by cases hj
 |m::l,h,j,hj=>by
  simp only[J3,Bool.and_eq_true] at h
  rcases List.mem_cons.1 hj with rfl | hj
  ·exact Nat.eq_of_beq_eq_true h.1
  ·exact Gz h.2 j hj
end
theorem rY {P:Program}{f:Nat}{h:Hc}(hok:HcOk P f h):HcOk P f (FY h):=by
 intro R args id A K r F G ts cst w vals hid hrun Rl hv
 have hthaw:∀{vs:List V} {us:List Value},All2 (Rv G w) vs us→All2 (Rv (mD G) w) (vs.map V.thaw) us:=fun hh=>hh.map_left _ fun a b h=>V.thaw_sound h
 obtain ⟨hfn,hcalls⟩:=hok R (args.map V.thaw) id ⟨[],[],[]⟩ _ r (qK G w) (mD G) #[] [] w vals (fun _=>rfl) hrun (VV Rl.gh) (hthaw hv)
 refine ⟨hfn,hcalls.mono ?_⟩
 rintro e w' ⟨G',A',v,u,R',hu,⟨he,ks,_,hk⟩ | ⟨_,hk⟩⟩
 ·have hg:Grown w w':=⟨R'.gh.fr.os,R'.gh.fr.tape,R'.gh.fr.output,R'.gh.fr.size,fun k hk=>R'.gh.fr.block k hk (fun h=>h)⟩
  have hfresh:∀i b l,G'.ow i=some (b,l)→w.heap.size≤b∧b<w'.heap.size:=fun i b l hi=>by
   obtain ⟨_,h2,h3,_⟩:=R'.gh.ow i b l hi
   exact ⟨by rcases h2 with h | h;exact h;exact h.elim,h3⟩
  simp only[V.force_eq,AS.force_eq] at hk
  split at hk
  ·rename_i v' hv' ho
   have R2:=Rl.grown0 hg
   exact ⟨G,A,v',u,R2,wr hv' (fun j hj=>by rw[ho] at hj;cases hj) hu,.inl ⟨he,some [],⟨(Goes.grown0 Rl.gh hg).kept,fun key b _ hb=>⟨hb,hg.old b (Rl.gh.mu key b hb).2.2⟩⟩,hk⟩⟩
  ·rename_i v' i is hv' ho
   cases hz : !(i == 0)&&J3 i is with
   |false=>rw[hz] at hk;cases hk
   |true=>
    rw[hz] at hk
    simp only[cond_true] at hk
    simp only[Bool.and_eq_true,Bool.not_eq_true',beq_eq_false_iff_ne] at hz
    have hall:J3 i (Ur v)=true:=by rw[ho];simp[J3,hz.2]
    have hob:∀b,(G'.ow i).map (·.1)=some b→w.heap.size≤b∧b<w'.heap.size:=fun b hb=>by
     obtain ⟨p,hp,rfl⟩:=Option.map_eq_some_iff.1 hb
     exact hfresh i p.1 p.2 hp
    refine ⟨_,_,v',u,Rl.grown hg i ((G'.ow i).map (·.1)) hob,wr hv' (fun j hj=>by
     have:=Gz hall j hj
     subst this
     exact ⟨hz.1,fun b n hb=>by simp[Gh.owned,hb]⟩) hu,.inl ⟨he,some [],⟨(Goes.grown Rl.gh hg i _).kept,fun key b _ hb=>⟨hb,hg.old b (Rl.gh.mu key b hb).2.2⟩⟩,hk⟩⟩
  ·cases hk
 ·cases hk
end
end Go.Proofs.YtomeplopmndbgaaGreat.Sym
namespace Go.Proofs.YtomeplopmndbgaaGreat.Sym
open Go
set_option linter.unusedSimpArgs false
set_option linter.unusedVariables false
noncomputable section
def ze (tt:TT)(kb:Nat)(ops:Array Oper):List Nat→AS→Option AS
 |[],A=>some A
 |i::is,A=>match ops[i]? with
  |none=>none
  |some o=>match o.guard with
   |some _=>none
   |none=>match Wl tt (dG kb (o.dst.getD 0)) A o.type o.op with
    |some (chk,v)=>bif chk then ze tt kb ops is (A.put o.dst v) else none
    |none=>match o.op with
     |.load t x=>match opd A x with
      |.one (.eel t' k d i j)=>bif t'.size == (tt.at t).size then (match jG tt t (qM t' d) with
        |some v=>ze tt kb ops is (A.put o.dst v)
        |none=>none) else none
      |_=>none
     |_=>none
theorem Fj {P:Program}{tt:TT}(htt:d0 P tt){G:Gh}{w:World}{a:Act}{x:Operand}{t k i j:Nat}{t':Ty}{d:t'.den}{v:V}(hz:(t'.size == (tt.at t).size)=true)(hp:jG tt t (qM t' d)=some v)(hx:Rc G w (.eel t' k d i j) (a.eval x)):
  ∃u,Rv G w v u∧∀o:Oper,o.op=.load t x→(execOp a.eval o).run P w=.ok (.value u) w:=by
 obtain ⟨b,cap,eu,_,cur,el,hh,_,_,_,h4⟩:=hx
 obtain ⟨cs,hr,hu⟩:=h4 0 d rfl
 have h2:=cZ t' d cs hr
 obtain ⟨u,hru,hrv⟩:=kV (P:=P) (b:=b) (o:=k*t'.size) htt hp h2 (by rw[h2.length,Rt.len _ _ _ hr];simpa using hz) (fun j u hj=>by
  rw[gy hh]
  have:=hu j u hj
  simpa using this)
 exact ⟨u,hrv,fun o ho=>by simp[execOp,ho,Instr.loadAt,eu,Instr.sureAddr,hru]⟩
theorem gJ {P:Program}{tt:TT}(htt:d0 P tt){F:Fra}{G:Gh}{cst:List (Array Value)}{w:World}{kb:Nat}{ops:Array Oper}{Q:Exit→Act→World→Prop}:
  ∀{is rest:List Nat} {A A':AS} {a:Act},ze tt kb ops is A=some A'→Rel F G A a.tmps cst w→
   (∀a',Rel F G A' a'.tmps cst w→a'.defers=a.defers→wpOps P ops Q rest a' w)→wpOps P ops Q (is++rest) a w
 |[],rest,A,A',a,h,R,hK=>by
  simp only[ze,Option.some.injEq] at h
  subst h
  exact hK a R rfl
 |i::is,rest,A,A',a,h,R,hK=>by
  simp only[ze] at h
  simp only[List.cons_append,wpOps]
  cases ho:ops[i]? with
  |none=>rw[ho] at h;cases h
  |some o=>
   rw[ho] at h
   simp only at h ⊢
   cases hg:o.guard with
   |some g=>rw[hg] at h;cases h
   |none=>
    rw[hg] at h
    simp only at h
    rw[if_pos (by simp[Region.wanted,hg])]
    refine .inl ?_
    unfold Oper.wp
    have fin:∀v u,Rv G w v u→ze tt kb ops is (A.put o.dst v)=some A'→wpOps P ops Q (is++rest) (a.put o.dst u) w:=fun v u hv h'=>
     gJ htt h' (R.puts hv o.dst) fun a' R' hd'=>hK a' R' (hd'.trans (Act.put_defers' _ _ _))
    split at h
    ·rename_i chk v he
     cases chk with
     |false=>cases h
     |true=>
      obtain ⟨u,hu,hv⟩:=qa htt (fun x=>R.opd x) R.ob o he rfl
      rw[hu,Oper.upon_value]
      exact fin v u hv h
    ·split at h
     ·rename_i t x hop
      split at h
      ·rename_i t' k d i' j e1
       cases hz:t'.size == (tt.at t).size with
       |false=>rw[hz] at h;cases h
       |true=>
        rw[hz] at h
        simp only[cond_true] at h
        split at h
        ·rename_i v hp
         have hx:=R.opd x
         rw[e1] at hx
         obtain ⟨u,hv,hr⟩:=Fj (P:=P) htt hz hp hx
         rw[hr o hop,Oper.upon_value]
         exact fin v u hv h
        ·cases h
      ·cases h
     ·cases h
def jj (lo:Nat)(zs xs:List Int):List Int:=(zs.drop lo).take xs.length++xs.drop (zs.length - lo)
def C.over (i:Nat)(zs:List Int):C→C
 |.lst e t xs own=>.lst e t xs (bif own == i then 0 else own)
 |.ex e t lo xs a b=>bif !(a == i)&&!(b == i) then .ex e t lo xs a b else
   (if h:t=.int .u8 then (bif (a == i)&&(b == i) then .ex e (.int .u8) lo (jj lo zs (h▸xs:List (Ty.int .u8).den)) a b
    else bif Nat.beq lo 0 then .ex e (.int .u8) zs.length (List.drop zs.length (h▸xs:List (Ty.int .u8).den)) a b else .top) else .top)
 |.eel t k x a b=>bif !(a == i)&&!(b == i) then .eel t k x a b else .top
 |c=>c
def C.longs (i:Nat):C→List Nat
 |.ex _ _ _ xs a b=>bif (!(a == i)&&!(b == i)) || ((a == i)&&(b == i)) then [] else [xs.length]
 |_=>[]
def gS (x:Int):Int:=JD .u8 x 90
def Ge:Hc:=fun _ args _ A K=>match args with
 |[.one (.ex _ t lo xs i j)]=>bif Nat.beq i j&&Nat.beq lo 0 then (if h:t=.int .u8 then
   (bif fz xs.length (A.coll (C.longs i)) then (A.map (C.over i (List.map gS (h▸xs:List (Ty.int .u8).den)))).force fun A=>K (.ret (.tup []) (some [])) A else none) else none) else none
 |_=>none
theorem qY (lo:Nat)(zs xs:List Int):(jj lo zs xs).length=xs.length:=by simp[jj];omega
theorem LY (lo:Nat)(zs xs:List Int)(k:Nat)(x:Int)(h:(jj lo zs xs)[k]?=some x):(lo+k<zs.length∧zs[lo+k]?=some x)∨(zs.length≤lo+k∧xs[k]?=some x):=by
 have hk:k<xs.length:=by rw[← qY lo zs xs];exact (List.getElem?_eq_some_iff.1 h).1
 unfold jj at h
 rw[List.getElem?_append] at h
 split at h
 ·rename_i hlt
  simp at hlt
  rw[List.getElem?_take,if_pos hk,List.getElem?_drop] at h
  exact .inl ⟨by omega,h⟩
 ·rename_i hlt
  simp at hlt
  rw[List.getElem?_drop] at h
  refine .inr ⟨by omega,?_⟩
  rw[← h]
  congr 1
  simp
  omega
theorem wL {zs xs:List Int}(h:zs.length=xs.length):jj 0 zs xs=zs:=by
 simp[jj,h]
 rw[← h];simp
theorem Rel.over {F:Fra}{G:Gh}{A:AS}{ts:Array Value}{cst:List (Array Value)}{w w':World}(R:Rel F G A ts cst w){b i:Nat}{zs:List Int}{cur cur':Array Value}{el:TypeId}
  (ho:G.ow i=some (b,0)) (hwr:Wrote w w' b) (hh:w.heap[b]?=some (.cells cur el (0,0))) (hh':w'.heap[b]?=some (.cells cur' el (0,0))) (hsz:cur'.size=cur.size)
  (hlow:∀(k:Nat) (z:Int),zs[k]?=some z→cur'[k]?=some (Value.int .u8 z)∧eE .u8 z) (hhigh:∀q:Nat,zs.length≤q→cur'[q]?=cur[q]?) (hg:fz zs.length (A.coll (C.longs i))=true):Rel F G (A.map (C.over i zs)) ts cst w':=by
 have R0:=R
 rw[← AS.upto_eq (jW _) hg] at R0
 have e:(A.map (C.upto (C.longs i) (fz zs.length))).map (C.over i zs)=A.map (C.over i zs):=by rw[AS.upto_eq (jW _) hg]
 have hk:=(Goes.exWrote R.gh ho hwr).kept
 have key:∀c v,Rc G w c v→fz zs.length (c.longs i)=true→Rc G w' (c.over i zs) v:=by
  intro c v hc hl
  have hcell:=hc.cell
  have go:=Goes.exWrote R.gh ho hwr
  cases c with
  |lst e t xs own=>
   have h0:=hc.beyond R.gh ho hwr hh hh' hsz (fun t2 lo2 xs2 i2 j2 cap2 hform _=>by rcases hform with ⟨h,_⟩ | ⟨_,h⟩ <;> cases h)
   simp only[C.over]
   obtain ⟨A',cap,e0,h1,h2,h3,h4⟩:=h0
   refine ⟨A',cap,e0,h1,h2,h3,?_⟩
   cases hb:own == i with
   |true=>exact .inl rfl
   |false=>exact h4
  |ex e t lo xs a b'=>
   simp only[C.over]
   cases hn : !(a == i)&&!(b' == i) with
   |true=>
    simp only[cond_true]
    simp only[Bool.and_eq_true,Bool.not_eq_true',beq_eq_false_iff_ne] at hn
    exact hc.goes go (fun _ e=>by cases e) (fun j e=>by cases e;simp[C.hasOwn,hn.1,hn.2])
   |false=>
    simp only[cond_false]
    split
    ·rename_i ht
     subst ht
     simp only
     cases hy:(a == i)&&(b' == i) with
     |true=>
      simp only[cond_true]
      simp only[Bool.and_eq_true,beq_iff_eq] at hy
      obtain ⟨rfl,rfl⟩:=hy
      have hlen:=qY lo zs xs
      rcases hc with ⟨rfl,rfl,e0⟩ | ⟨bl,cap,e0,⟨n1,n2,ho2⟩,cu,el2,hb2,h1,h2,h3,h4⟩
      ·exact .inl ⟨rfl,List.eq_nil_of_length_eq_zero hlen,e0⟩
      ·have hbb:bl=b:=by rcases ho2 with h | h <;> (rw[ho] at h;cases h;rfl)
       subst hbb
       rw[hh] at hb2;cases hb2
       have hlen':List.length (α:=(Ty.int .u8).den) (jj lo zs xs)=xs.length:=hlen
       refine .inr ⟨bl,cap,by rw[hlen'];exact e0,⟨n1,n2,ho2⟩,cur',el,hh',hsz.trans h1,by rw[hlen'];exact h2,h3,fun k x hx=>?_⟩
       rcases LY lo zs xs k x hx with ⟨hlt,hz⟩ | ⟨hge,hxk⟩
       ·obtain ⟨g1,g2⟩:=hlow _ _ hz
        refine ⟨[.int .u8 x],⟨rfl,g2⟩,fun q u hq=>?_⟩
        cases q with
        |succ q=>simp at hq
        |zero=>
         simp only[List.getElem?_cons_zero,Option.some.injEq] at hq
         subst hq
         simpa [Ty.size] using g1
       ·obtain ⟨c,hcr,hu⟩:=h4 k x hxk
        refine ⟨c,Rt.kept hk _ _ _ hcr,fun q u hq=>?_⟩
        have hqs:q<1:=by have:=Rt.len _ _ _ hcr;rw[show (Ty.int .u8).size=1 from rfl] at this;rw[← this];exact (List.getElem?_eq_some_iff.1 hq).1
        have:=hu q u hq
        rw[hhigh _ (by simp only[Ty.size];omega)]
        exact this
     |false=>
      simp only[cond_false]
      simp only[C.longs,hn,hy,Bool.or_self,cond_false,fz,Bool.and_true,decide_eq_true_eq] at hl
      cases hlo:Nat.beq lo 0 with
      |false=>exact hcell
      |true=>
       simp only[cond_true]
       have hlo:=Nat.eq_of_beq_eq_true hlo
       subst hlo
       rcases hc with ⟨_,rfl,e0⟩ | ⟨bl,cap,e0,⟨n1,n2,ho2⟩,cu,el2,hb2,h1,h2,h3,h4⟩
       ·have:zs=[]:=List.eq_nil_of_length_eq_zero (by simpa using hl)
        subst this
        exact .inl ⟨rfl,rfl,e0⟩
       ·have hdl:zs.length+(List.drop zs.length xs).length=0+xs.length:=by simp;omega
        by_cases hbb:bl=b
        ·subst hbb
         rw[hh] at hb2;cases hb2
         refine .inr ⟨bl,cap,by rw[hdl];exact e0,⟨n1,n2,ho2⟩,cur',el,hh',hsz.trans h1,by rw[hdl];exact h2,h3,fun k x hx=>?_⟩
         rw[List.getElem?_drop] at hx
         obtain ⟨c,hcr,hu⟩:=h4 _ x hx
         refine ⟨c,Rt.kept hk _ _ _ hcr,fun q u hq=>?_⟩
         have:=hu q u hq
         rw[hhigh _ (by simp only[Ty.size];omega)]
         rw[Nat.zero_add] at this
         exact this
        ·refine .inr ⟨bl,cap,by rw[hdl];exact e0,⟨n1,n2,ho2⟩,cu,el2,(hwr.other bl hbb).trans hb2,h1,by rw[hdl];exact h2,h3,fun k x hx=>?_⟩
         rw[List.getElem?_drop] at hx
         obtain ⟨c,hcr,hu⟩:=h4 _ x hx
         refine ⟨c,Rt.kept hk _ _ _ hcr,fun q u hq=>?_⟩
         have:=hu q u hq
         rw[Nat.zero_add] at this
         exact this
    ·exact hcell
  |eel t' k' x a b'=>
   simp only[C.over]
   cases hn : !(a == i)&&!(b' == i) with
   |true=>
    simp only[cond_true]
    simp only[Bool.and_eq_true,Bool.not_eq_true',beq_eq_false_iff_ne] at hn
    exact hc.goes go (fun _ e=>by cases e) (fun j e=>by cases e;simp[C.hasOwn,hn.1,hn.2])
   |false=>exact hcell
  |ro t x=>exact hc.goes go (fun _ e=>by cases e) (fun _ _=>rfl)
  |fn f m caps=>exact hc.goes go (fun _ e=>by cases e) (fun _ _=>rfl)
  |ifc T t x=>exact hc.goes go (fun _ e=>by cases e) (fun _ _=>rfl)
  |pin v0 t x=>exact hc.goes go (fun _ e=>by cases e) (fun _ _=>rfl)
  |_=>exact hc
 have R1:=R.exWrote ho hwr (f:=fun c=>if fz zs.length (c.longs i)=true then c.over i zs else .top) (fun c v hc=>by
  split
  ·rename_i h;exact key c v hc h
  ·exact hc.cell) (fun x=>rfl)
 have e2:A.map (fun c=>if fz zs.length (c.longs i)=true then c.over i zs else .top)=A.map (C.over i zs):=by
  rw[← e]
  conv=>lhs;rw[← AS.upto_eq (jW _) hg]
  obtain ⟨tm,stk,ob⟩:=A
  have hf:∀c:C,(if fz zs.length ((c.upto (C.longs i) (fz zs.length)).longs i)=true then (c.upto (C.longs i) (fz zs.length)).over i zs else .top)=(c.upto (C.longs i) (fz zs.length)).over i zs:=by
   intro c
   unfold C.upto
   cases h:fz zs.length (c.longs i) with
   |true=>simp[h]
   |false=>simp[C.longs,fz,C.over]
  have hcs:∀cs:List C,(cs.map (C.upto (C.longs i) (fz zs.length))).map (fun c=>if fz zs.length (c.longs i)=true then c.over i zs else .top)=(cs.map (C.upto (C.longs i) (fz zs.length))).map (C.over i zs):=by
   intro cs
   rw[List.map_map,List.map_map]
   exact List.map_congr_left fun c _=>hf c
  have hv:∀v:V,(v.map (C.upto (C.longs i) (fz zs.length))).map (fun c=>if fz zs.length (c.longs i)=true then c.over i zs else .top)=(v.map (C.upto (C.longs i) (fz zs.length))).map (C.over i zs):=by
   intro v
   cases v with
   |one c=>simp only[V.map];rw[hf c]
   |agg cs=>simp only[V.map];rw[hcs cs]
   |tup ps=>
    simp only[V.map,List.map_map]
    congr 1
    refine List.map_congr_left fun p _=>?_
    simp only[Function.comp_apply]
    rw[hcs p.2]
   |any=>rfl
  simp only[AS.map,List.map_map,AS.mk.injEq]
  refine ⟨List.map_congr_left fun v _=>hv v,List.map_congr_left fun l _=>?_,List.map_congr_left fun o _=>?_⟩
  ·simp only[Function.comp_apply,List.map_map]
   exact List.map_congr_left fun v _=>hv v
  ·cases o with
   |none=>rfl
   |some cs=>simp only[Function.comp_apply,Option.map_some];rw[hcs cs]
 rw[e2] at R1
 exact R1
abbrev ioB:Io:=⟨[],[],[],[.dat .bool false false],none⟩
def Io.runX (tt:TT)(hd:Hd)(okDraw:Dr)(lp:Lp)(io:Io)(fn:Func)(A0:AS):Option io.Res:=
 match fn.body with
 |some c=>ev tt hd okDraw lp 0 (zT fn) c (zT fn) [] A0 (io.fin tt fn)
 |none=>none
theorem Kr {P:Program}{tt:TT}(htt:d0 P tt)(hm:P.follows .mixedOrders=true){hd:Hd}(hh:sI P hd){okDraw:Dr}(hdr:rg P tt okDraw){f:Nat}{fn:Func}(hf:P.funcs[f]?=some fn){lp:Lp}
  (hlp:LpsOk P 0 lp (c6 fn) 0) {r:Bool} {F:Fra} {G:Gh} {A:AS} {ts:Array Value} {cst:List (Array Value)} {w:World} {vals:Array Value} {id:Nat} (hid:∀d,F.mu0 (id / 2+d)=none) (Rl:Rel F G A ts cst w)
  {ow:List (Nat×Nat)} {A0:AS} (R0:Rel (mM G w [] ow) (im G [] ow) A0 (vals++Array.replicate (fn.ntmps - vals.size) undef) [] w)
  (hrun:Io.runX tt hd okDraw lp ioB fn A0=some (.ret ((r,()),()))) {R':Type} {K:Oc→AS→Option R'} {rr:R'} (hK:K (.ret (.one (.bool r)) (some [])) (A.map (C.strip (ow.map (·.2)) []))=some rr):
  Calls P f vals w fun e w'=>∃G' A' v u,Rel F G' A' ts cst w'∧Rv G' w' v u∧
   ((e=.returned u∧∃ks,Unt G G' (O5 ks) w w'∧K (.ret v ks) A'=some rr)∨(e=.panicked [{ v:=u,recovered:=false }]∧K (.pan v) A'=some rr)):=by
 obtain ⟨c,hc⟩:∃c,fn.body=some c:=by
  cases hb:fn.body with
  |none=>simp only[Io.runX,hb] at hrun;cases hrun
  |some c=>exact ⟨c,rfl⟩
 simp only[Io.runX,hc] at hrun
 have hfc:ni fn=c:=by unfold ni;rw[hc]
 have hkb:∀d,(mM G w [] ow).mu0 (0+d)=none:=fun d=>rfl
 have hl:=hlp.all
 unfold c6 at hl
 rw[hfc] at hl
 refine calls_of_wp hf hc (mL htt hm hh hdr hkb c hl hrun R0 ?_)
 intro ex A' G' a' w' Re hdf hk
 have fin:uO tt ioB fn A'=some (.ret ((r,()),()))→∃v,(results fn a'.tmps).run P w'=.ok v w'∧(∃G' A' v_1 u,Rel F G' A' ts cst w'∧Rv G' w' v_1 u∧
   ((Ending.returned v=.returned u∧∃ks,Unt G G' (O5 ks) w w'∧K (.ret v_1 ks) A'=some rr)∨(Ending.returned v=.panicked [{ v:=u,recovered:=false }]∧K (.pan v_1) A'=some rr))):=by
  intro hfin
  unfold uO at hfin
  split at hfin
  ·rename_i r0 β g1
   split at hfin
   ·rename_i o β' g2
    cases hnd:bK ((jF _root_.id ioB.res (fn.results.toList.map (Aq tt A')) 0++mw A'.ob β' β' (ioB.obs++ioB.nobs) 0).map (·.2)) with
    |false=>rw[hnd] at hfin;cases hfin
    |true=>
     rw[hnd] at hfin
     simp only[cond_true,Option.some.injEq,Out.ret.injEq,Prod.mk.injEq] at hfin
     obtain ⟨us,hres,hus⟩:=wH htt Re fn (rR g1)
     obtain ⟨_,g3,_⟩:=mO g1 hus
     obtain ⟨u,us',rfl,⟨hrt,_,hone⟩,hnil⟩:=g3 β (.refl _)
     have hnil:us'=[]:=hnil
     subst hnil
     have hr0:r0.1=r:=by rw[hfin.1]
     rw[hr0] at hrt
     have hu:u.cells = #[u]:=by
      have:=hone rfl
      cases u <;> first | rfl | cases this
     rw[hu] at hrt
     have hub:u=.bool r:=by
      have h1:[u]=[Value.bool r]:=hrt
      simpa using h1
     subst hub
     refine ⟨_,hres,?_⟩
     have hgo:=Ag (I:=ow.map (·.2)) (OW:=[]) (base:=id / 2) (nn:=0) (mn:=fun _=>none) Rl.gh Re.gh (fun p hp=>List.mem_map.2 ⟨p,hp,rfl⟩) rfl hid (fun _ _ h=>by cases h) (fun _ _ _ h=>by cases h)
     have hval:∀c v,Rc G w c v→Rc (cS G G' (ow.map (·.2)) [] (id / 2) 0 fun _=>none) w' (c.strip (ow.map (·.2)) []) v:=fun c v hc=>
      vv (base:=id / 2) (nn:=0) (mn:=fun _=>none) Rl.gh Re.gh (fun p hp=>List.mem_map.2 ⟨p,hp,rfl⟩) (OW:=[]) (fun p hp=>by cases hp) hc
     have hheap:∀key b,G.mu key=some b→(cS G G' (ow.map (·.2)) [] (id / 2) 0 fun _=>none).mu key=some b∧w'.heap[b]?=w.heap[b]?:=fun key b hb=>
      ⟨by simp only[cS];rw[if_neg (by omega)];exact hb,n8 Rl.gh Re.gh hb fun j hj=>by
       obtain ⟨k,hk,_⟩:=ir hj
       simp[Bn.at] at hk⟩
     refine ⟨_,_,.one (.bool r),.bool r,Rl.map hval (vP _ _) hheap hgo,rfl,.inl ⟨rfl,some [],⟨fun b o hs=>⟨Re.gh.sub b o hs,Re.gh.keep b o hs⟩,fun key b _ hb=>hheap key b hb⟩,hK⟩⟩
   ·cases hfin
  ·cases hfin
 cases ex with
 |normal=>exact ⟨hdf,fin hk⟩
 |ret=>exact ⟨hdf,fin hk⟩
 |exit i=>cases hk
 |panic v=>
  simp only[Io.fin] at hk
  split at hk
  ·rename_i x _;exact nomatch x
  ·cases hk
abbrev spC:Code:=ni Tryz.f53
abbrev spB:Code:=(cI Tryz.f53 0).2.1
def abZ:Code→Code
 |.block _ b=>b
 |c=>c
abbrev VA:Array Oper:=Ao (BE spC)
abbrev VB:Array Oper:=Ao (BE (BE spB))
abbrev QE:Array Oper:=Ao (abZ (BE (I4 spB)))
abbrev VC:Array Oper:=Ao (I4 (I4 spB))
abbrev V8:Ty:=.int .u8
abbrev Ou (n:Nat):List V:=List.replicate n .any
abbrev Ng (xs:List Int):V:=.one (.ex 5 V8 0 xs 1 1)
def mA (k:Nat)(xs:List Int):List Int:=(xs.take k).map gS++xs.drop k
theorem Jx (k:Nat)(xs:List Int):(mA k xs).length=xs.length:=by simp[mA];omega
theorem VG {k:Nat}{xs:List Int}(h:k<xs.length):(mA k xs).getD k 0=xs[k]:=by
 unfold mA
 rw[List.getD_eq_getElem?_getD,List.getElem?_append_right (by simp;omega)]
 have:k - (List.map gS (List.take k xs)).length=0:=by simp;omega
 rw[this,List.getElem?_drop]
 simp[h]
theorem VH {k:Nat}{xs:List Int}(h:k<xs.length):(mA k xs).set k (gS xs[k])=mA (k+1) xs:=by
 unfold mA
 rw[List.set_append_right _ _ (by simp;omega)]
 have:k - (List.map gS (List.take k xs)).length=0:=by simp;omega
 rw[this,List.drop_eq_getElem_cons h,List.set_cons_zero,List.take_succ_eq_append_getElem h]
 simp only[List.map_append,List.map_cons,List.map_nil,List.append_assoc,List.singleton_append]
def spH (ys:List Int)(k:Int):AS:=⟨[Ng ys,.any,.one (.int .i64 k)]++Ou 14,[],[]⟩
abbrev Vy (ys:List Int)(k:Int):Int:=((0:Nat):Int)+(ys.length:Int)
def aav (ys:List Int)(k:Int):AS:=⟨[Ng ys,.any,.one (.int .i64 k),.one (.int .i64 k),Ng ys,.one (.int .i64 (Vy ys k)),.one (.bool (decide (k<Vy ys k)))]++Ou 10,[],[]⟩
theorem sp0 (ys:List Int):ze tt 0 VA [0] ⟨Ng ys::Ou 16,[],[]⟩=some (spH ys 0):=by kernel_rfl
theorem sp1 (ys:List Int)(k:Int):ze tt 0 VB [0,1,2,3] (spH ys k)=some (aav ys k):=by kernel_rfl
abbrev spE (ys:List Int)(k:Nat):V:=.one (.eel V8 k (ys.getD k 0) 1 1)
def aaw (ys:List Int)(k:Nat):AS:=⟨[Ng ys,.any,.one (.int .i64 k),.one (.int .i64 k),Ng ys,.one (.int .i64 (Vy ys k)),.one (.bool (decide ((k:Int)<Vy ys k))),.any,.any,
 Ng ys,.one (.int .i64 k),Ng ys,.one (.int .i64 k),spE ys k,.one (.int .u8 (ys.getD k 0)),.one (.int .u8 (gS (ys.getD k 0))),spE ys k],[],[]⟩
theorem sp3 (ys:List Int)(k:Nat):ze tt 0 QE [0,1,2,3,4,5,6,7] (aav ys k)=bif decide (((0:Nat):Int)≤(k:Int))&&decide ((k:Int)<((0:Nat):Int)+(ys.length:Int)) then some (aaw ys k) else none:=by
 have h:ze tt 0 QE [0,1,2,3,4,5,6,7] (aav ys k)=bif decide (((0:Nat):Int)≤(k:Int))&&decide ((k:Int)<((0:Nat):Int)+(ys.length:Int)) then (bif decide (((0:Nat):Int)≤(k:Int))&&decide ((k:Int)<((0:Nat):Int)+(ys.length:Int)) then some (aaw ys k) else none) else none:=by kernel_rfl
 rw[h]
 cases (decide (((0:Nat):Int)≤(k:Int))&&decide ((k:Int)<((0:Nat):Int)+(ys.length:Int))) <;> rfl
def spM (ys:List Int)(k:Nat):AS:=((aaw ys k).map (C.updEx 1 V8 k (gS (ys.getD k 0)))).put none (.tup [])
theorem sp2 (ys:List Int)(k:Nat):ze tt 0 VC [0,1,2] (spM ys k)=some ⟨[Ng (qZ 0 k ys (gS (ys.getD k 0))),.any,.one (.int .i64 (IntKind.wrap .i64 ((k:Int)+1))),.one (.int .i64 k),Ng (qZ 0 k ys (gS (ys.getD k 0))),.one (.int .i64 (Vy ys k)),.one (.bool (decide ((k:Int)<Vy ys k))),
 .one (.int .i64 k),.one (.int .i64 (IntKind.wrap .i64 ((k:Int)+1))),Ng (qZ 0 k ys (gS (ys.getD k 0))),.one (.int .i64 k),Ng (qZ 0 k ys (gS (ys.getD k 0))),.one (.int .i64 k),.one .top,.one (.int .u8 (ys.getD k 0)),.one (.int .u8 (gS (ys.getD k 0))),.one .top],[],[]⟩:=by kernel_rfl
def Jn (w:World)(b:Nat):Fra:=⟨w,fun b'=>b'=b,fun _ _=>False,fun _=>none⟩
def vC (b:Nat):Gh:=⟨fun _ _=>False,fun _=>none,fun j=>if j=1 then some (b,0) else none⟩
theorem Yc {w:World}{b:Nat}(hb:b<w.heap.size):GhOk (Jn w b) (vC b) w where
 mu:=fun _ _ h=>by cases h
 muI:=fun _ _ _ h=>by cases h
 ow:=fun i b' l h=>by
  simp only[vC] at h
  split at h
  ·cases h;exact ⟨fun _ _ h=>h,.inr rfl,hb,fun _ h=>by cases h⟩
  ·cases h
 owI:=fun i j b' l l' h h'=>by
  simp only[vC] at h h'
  by_cases e1:i=1
  ·by_cases e2:j=1
   ·rw[e1,e2]
   ·rw[if_neg e2] at h';cases h'
  ·rw[if_neg e1] at h;cases h
 sB:=fun _ _ h=>h.elim
 fr:=⟨rfl,rfl,rfl,Nat.le_refl _,fun _ _ _=>rfl⟩
 sub:=fun _ _ h=>h
 sup:=fun _ _ h=>h.elim
 keep:=fun _ _ h=>h.elim
 fix_:=fun _ _ h=>by cases h
theorem WT {w:World}{b:Nat}{o:Obj}(h:w.heap[b]?=some o):b<w.heap.size:=(Array.getElem?_eq_some_iff.1 h).1
theorem JH (w:World)(xs:List Int)(cap b:Nat)(cur:Array Value)(el:TypeId)(hh:w.heap[b]?=some (.cells cur el (0,0)))(hcs:cur.size=cap)(hle:xs.length≤cap)(hcap:cap≤maxLen)
  (hx:∀(k:Nat) (x:Int),xs[k]?=some x→eE .u8 x∧cur[k]?=some (Value.int .u8 x)):
  Calls prog 53 #[.slice (some ⟨b,0,none⟩) xs.length cap] w fun e w'=>e=.returned (.tuple #[])∧∃cur',Wrote w w' b∧w'.heap[b]?=some (.cells cur' el (0,0))∧cur'.size=cur.size∧
   (∀(k:Nat) (z:Int),(xs.map gS)[k]?=some z→cur'[k]?=some (Value.int .u8 z)∧eE .u8 z)∧∀q:Nat,xs.length≤q→cur'[q]?=cur[q]?:=by
 have htt:=gH Tryz.prog 400
 have hc:(Tryz.f53).body=some (.seq (.region 0 VA false) (.block 0 (.loop (.seq (.seq (.region 1 VB false) (.cond (.tmp 6) .skip (.exit 0))) (.seq (.block 1 (.region 3 QE false)) (.region 2 VC false)))))):=by kernel_rfl
 refine calls_of_wp (P:=prog) (fn:=Tryz.f53) (by kernel_rfl) hc ?_
 have ho:(vC b).ow 1=some (b,0):=rfl
 have R0:Rel (Jn w b) (vC b) ⟨Ng xs::Ou 16,[],[]⟩ (#[Value.slice (some ⟨b,0,none⟩) xs.length cap]++Array.replicate ((Tryz.f53).ntmps - 1) undef) [] w:=by
  refine ⟨?_,trivial,fun k cs hk=>by simp at hk,Yc (WT hh)⟩
  rw[show (Tryz.f53).ntmps - 1=16 by kernel_rfl,Array.toList_append,Array.toList_replicate]
  refine ⟨.inr ⟨b,cap,by rw[Nat.zero_add],⟨by decide,by decide,.inl ho⟩,cur,el,hh,by rw[hcs];simp[Ty.size],by rw[Nat.zero_add];exact hle,hcap,fun k x hk=>?_⟩,All2.replicate (R:=Rv (vC b) w) (a:=.any) (b:=undef) trivial 16⟩
  obtain ⟨h1,h2⟩:=hx k x hk
  refine ⟨[.int .u8 x],⟨rfl,h1⟩,fun q u hq=>?_⟩
  cases q with
  |succ q=>simp at hq
  |zero=>
   simp only[List.getElem?_cons_zero,Option.some.injEq] at hq
   subst hq
   simpa [Ty.size] using h2
 have hxl:(xs.length:Int)≤9223372036854775807:=by rw[dp] at hcap;omega
 refine wp_seq (wp_region ?_)
 rw[show List.range VA.size=[0]++[] by kernel_rfl]
 refine gJ htt (sp0 xs) R0 fun a1 R1 hd1=>?_
 show (Code.block 0 _).wp prog _ a1 w
 refine wp_block (wp_loop_ghost (fun m a' w'=>∃k,m=xs.length - k∧k≤xs.length∧Rel (Jn w b) (vC b) (spH (mA k xs) (k:Int)) a'.tmps [] w'∧a'.defers=[]∧
  ∃cu:Array Value,Wrote w w' b∧w'.heap[b]?=some (.cells cu el (0,0))∧cu.size=cur.size∧∀q:Nat,xs.length≤q→cu[q]?=cur[q]?) (xs.length - 0) ⟨0,rfl,Nat.zero_le _,R1,hd1,cur,⟨rfl,rfl,rfl,rfl,fun _ _=>rfl⟩,hh,rfl,fun _ _=>rfl⟩ ?_)
 rintro m a w1 ⟨k,rfl,hk,R,hd,cu,hwr,hcu,hcus,hhigh⟩
 refine wp_seq (wp_seq (wp_region ?_))
 rw[show List.range VB.size=[0,1,2,3]++[] by kernel_rfl]
 refine gJ htt (sp1 _ _) R fun a2 R2 hd2=>?_
 show (Code.cond _ _ _).wp prog _ a2 w1
 refine wp_cond (t:=decide ((k:Int)<Vy (mA k xs) k)) (R2.opd (.tmp 6)) ?_
 have hT:=Jx k xs
 by_cases hlt:k<xs.length
 ·have e:decide ((k:Int)<Vy (mA k xs) k)=true:=by simp only[Vy,hT,decide_eq_true_eq];omega
  rw[e]
  refine wp_skip ?_
  show (Code.seq _ _).wp prog _ a2 w1
  refine wp_seq (wp_block (wp_region ?_))
  rw[show List.range QE.size=[0,1,2,3,4,5,6,7]++[8] by kernel_rfl]
  refine gJ htt ((sp3 _ _).trans (aa (by simp only[hT,Bool.and_eq_true,decide_eq_true_eq];omega) _ _)) R2 fun a3 R3 hd3=>?_
  obtain ⟨p0,f0,ho8⟩:∃pos after,QE[8]?=some { dst:=none,op:=.store 5 (.tmp 16) (.tmp 15),type:=0,pos:=pos,after:=after,guard:=none }:=⟨_,_,rfl⟩
  simp only[wpOps,ho8]
  rw[if_pos (by rfl)]
  refine .inl ?_
  have hel:Rc (vC b) w1 (.eel V8 k ((mA k xs).getD k 0) 1 1) (a3.eval (.tmp 16)):=R3.opd (.tmp 16)
  have hyv:Rv (vC b) w1 (.one (.int .u8 (gS ((mA k xs).getD k 0)))) (a3.eval (.tmp 15)):=R3.opd (.tmp 15)
  have hyt:Rt (vC b).S w1 V8 (gS ((mA k xs).getD k 0)) (a3.eval (.tmp 15)).cells.toList:=by
   obtain ⟨e1,e2⟩:=hyv
   rw[e1]
   exact ⟨rfl,e2⟩
  obtain ⟨b',cu1,el1,cu2,g1,g2,g3,g4,g5,g6⟩:=BJ (P:=prog) (t:=5) htt (by kernel_rfl) hel hyt
  rw[ho] at g1
  cases g1
  rw[hcu] at g2
  cases g2
  unfold Oper.wp
  rw[g6 _ rfl]
  have hwr2:=Wrote.setRow w1 b cu2
  have R4:Rel (Jn w b) (vC b) (spM (mA k xs) k) a3.tmps [] (w1.setRow b cu2):=R3.updEx ho hwr2 hcu g3 g4 g5 hyt
  simp only[Oper.upon]
  show (Code.region 2 VC false).wp prog _ a3 _
  refine wp_region ?_
  rw[show List.range VC.size=[0,1,2]++[] by kernel_rfl]
  refine gJ htt (sp2 _ _) R4 fun a4 R5 hd5=>?_
  refine ⟨xs.length - (k+1),by omega,k+1,rfl,hlt,?_,hd5.trans (hd3.trans (hd2.trans hd)),cu2,⟨hwr2.os.trans hwr.os,hwr2.tape.trans hwr.tape,hwr2.output.trans hwr.output,hwr2.size.trans hwr.size,fun q hq=>(hwr2.other q hq).trans (hwr.other q hq)⟩,g3,?_,?_⟩
  ·have R6:Rel (Jn w b) (vC b) ⟨zU 5 0 _,[],[]⟩ a4.tmps [] (w1.setRow b cu2):=⟨nZ 5 0 R5.tm,R5.stk,R5.ob,R5.gh⟩
   have e1:qZ 0 k (mA k xs) (gS ((mA k xs).getD k 0))=mA (k+1) xs:=by
    rw[VG hlt]
    exact VH hlt
   rw[e1] at R6
   have e2:IntKind.wrap .i64 ((k:Int)+1)=((k+1:Nat):Int):=bb hlt (by rw[dp];omega)
   rw[e2] at R6
   exact R6
  ·have:=congrArg Array.size g4
   have g5':k*1+1≤cu.size:=g5
   obtain ⟨e1,e2⟩:=hyv
   rw[← this,e1]
   simp[Value.cells,Ty.size]
   omega
  ·intro q hq
   obtain ⟨e1,e2⟩:=hyv
   rw[← hhigh q hq,← g4,e1,← Array.getElem?_toList,← Array.getElem?_toList]
   have g5':k*1+1≤cu.size:=g5
   simp only[Value.cells,Ty.size]
   rw[List.append_assoc,List.getElem?_append_right (by simp;omega),List.getElem?_append_right (by simp;omega),List.getElem?_drop]
   congr 1
   simp
   omega
 ·have hkl:k=xs.length:=by omega
  have e:decide ((k:Int)<Vy (mA k xs) k)=false:=by simp only[Vy,hT,decide_eq_false_iff_not];omega
  rw[e]
  refine wp_exit ?_
  simp only[Exit.then,Exit.inBlock,if_true]
  refine ⟨hd2.trans hd,.tuple #[],by kernel_rfl,rfl,cu,hwr,hcu,hcus,fun q z hz=>?_,hhigh⟩
  have he:=R.get 0
  have hex:Rc (vC b) w1 (.ex 5 V8 0 (mA k xs) 1 1) (a.tmps.getD 0 undef):=he
  have hz':(mA k xs)[q]?=some z:=by
   rw[hkl]
   unfold mA
   rw[List.take_length,List.drop_length,List.append_nil]
   exact hz
  rcases hex with ⟨_,h0,_⟩ | ⟨b',cap',_,⟨_,_,ho'⟩,cu',el',hcu',_,_,_,h4⟩
  ·rw[h0] at hz';simp at hz'
  ·have hbb:b'=b:=by rcases ho' with h | h <;> (rw[ho] at h;cases h;rfl)
   subst hbb
   rw[hcu] at hcu'
   cases hcu'
   obtain ⟨c,⟨rfl,hin⟩,hu⟩:=h4 q z hz'
   have:=hu 0 _ rfl
   exact ⟨by simpa [Ty.size] using this,hin⟩
theorem QP (w:World):Calls prog 53 #[.slice none 0 0] w fun e w'=>e=.returned (.tuple #[])∧w'=w:=by
 have htt:=gH Tryz.prog 400
 have hc:(Tryz.f53).body=some (.seq (.region 0 VA false) (.block 0 (.loop (.seq (.seq (.region 1 VB false) (.cond (.tmp 6) .skip (.exit 0))) (.seq (.block 1 (.region 3 QE false)) (.region 2 VC false)))))):=by kernel_rfl
 refine calls_of_wp (P:=prog) (fn:=Tryz.f53) (by kernel_rfl) hc ?_
 have hg0:GhOk (qK ⟨fun _ _=>False,fun _=>none,fun _=>none⟩ w) (mD ⟨fun _ _=>False,fun _=>none,fun _=>none⟩) w:=
  {mu:=fun _ _ h=>by cases h
   muI:=fun _ _ _ h=>by cases h
   ow:=fun _ _ _ h=>by cases h
   owI:=fun _ _ _ _ _ h=>by cases h
   sB:=fun _ _ h=>by rcases h with h | ⟨_,h⟩;exact h.elim;cases h
   fr:=⟨rfl,rfl,rfl,Nat.le_refl _,fun _ _ _=>rfl⟩
   sub:=fun _ _ h=>h
   sup:=fun _ _ h=>.inl h
   keep:=fun _ _ _=>rfl
   fix_:=fun _ _ h=>by cases h }
 have R0:Rel (qK ⟨fun _ _=>False,fun _=>none,fun _=>none⟩ w) (mD ⟨fun _ _=>False,fun _=>none,fun _=>none⟩) ⟨Ng []::Ou 16,[],[]⟩ (#[Value.slice none 0 0]++Array.replicate ((Tryz.f53).ntmps - 1) undef) [] w:=by
  refine ⟨?_,trivial,fun k cs hk=>by simp at hk,hg0⟩
  rw[show (Tryz.f53).ntmps - 1=16 by kernel_rfl,Array.toList_append,Array.toList_replicate]
  exact ⟨.inl ⟨rfl,rfl,rfl⟩,All2.replicate (a:=V.any) (b:=undef) trivial 16⟩
 refine wp_seq (wp_region ?_)
 rw[show List.range VA.size=[0]++[] by kernel_rfl]
 refine gJ htt (sp0 []) R0 fun a1 R1 hd1=>?_
 show (Code.block 0 _).wp prog _ a1 w
 refine wp_block (wp_loop_ghost (fun _ a' w'=>Rel (qK ⟨fun _ _=>False,fun _=>none,fun _=>none⟩ w) (mD ⟨fun _ _=>False,fun _=>none,fun _=>none⟩) (spH [] 0) a'.tmps [] w'∧a'.defers=[]∧w'=w) 0 ⟨R1,hd1,rfl⟩ ?_)
 rintro m a w1 ⟨R,hd,rfl⟩
 refine wp_seq (wp_seq (wp_region ?_))
 rw[show List.range VB.size=[0,1,2,3]++[] by kernel_rfl]
 refine gJ htt (sp1 _ _) R fun a2 R2 hd2=>?_
 show (Code.cond _ _ _).wp prog _ a2 _
 refine wp_cond (t:=false) (R2.opd (.tmp 6)) ?_
 refine wp_exit ?_
 simp only[Exit.then,Exit.inBlock,if_true]
 exact ⟨hd2.trans hd,.tuple #[],by kernel_rfl,rfl,rfl⟩
theorem Grown.refl (w:World):Grown w w:=⟨rfl,rfl,rfl,Nat.le_refl _,fun _ _=>rfl⟩
theorem AS.map_noOp {F:Fra}{G:Gh}{A:AS}{ts:Array Value}{cst:List (Array Value)}{w:World}(R:Rel F G A ts cst w)(i:Nat):Rel F G (A.map (C.over i [])) ts cst w:=by
 refine R.map (fun c v h=>?_) (fun _=>rfl) (fun _ _ h=>⟨h,rfl⟩) R.gh
 have hcell:=h.cell
 cases c with
 |lst e t xs own=>
  obtain ⟨A',cap,e0,h1,h2,h3,h4⟩:=h
  refine ⟨A',cap,e0,h1,h2,h3,?_⟩
  cases hb:own == i with
  |true=>exact .inl rfl
  |false=>exact h4
 |ex e t lo xs a b=>
  simp only[C.over]
  cases hn : !(a == i)&&!(b == i) with
  |true=>exact h
  |false=>
   simp only[cond_false]
   split
   ·rename_i ht
    subst ht
    simp only
    cases hy:(a == i)&&(b == i) with
    |true=>
     have:jj lo [] xs=xs:=by simp[jj]
     rw[this]
     exact h
    |false=>
     simp only[cond_false]
     cases hlo:Nat.beq lo 0 with
     |false=>exact hcell
     |true=>
      have hlo:=Nat.eq_of_beq_eq_true hlo
      subst hlo
      exact h
   ·exact hcell
 |eel t k x a b=>
  simp only[C.over]
  cases hn : !(a == i)&&!(b == i) with
  |true=>exact h
  |false=>exact hcell
 |_=>exact h
theorem Xl:HcOk prog 53 Ge:=by
 intro R args id A K r F G ts cst w vals hid hrun Rl hv
 refine ⟨⟨Tryz.f53,by kernel_rfl,by kernel_rfl,by kernel_rfl⟩,?_⟩
 unfold Ge at hrun
 split at hrun
 ·rename_i e t lo xs i j
  cases hz:Nat.beq i j&&Nat.beq lo 0 with
  |false=>rw[hz] at hrun;cases hrun
  |true=>
   rw[hz] at hrun
   simp only[cond_true] at hrun
   simp only[Bool.and_eq_true] at hz
   have hij:=Nat.eq_of_beq_eq_true hz.1
   have hlo:=Nat.eq_of_beq_eq_true hz.2
   subst hij hlo
   split at hrun
   ·rename_i ht
    subst ht
    simp only at hrun
    cases hg:fz xs.length (A.coll (C.longs i)) with
    |false=>rw[hg] at hrun;cases hrun
    |true=>
     rw[hg] at hrun
     simp only[cond_true,AS.force_eq] at hrun
     obtain ⟨v,rfl⟩:∃v,vals = #[v]:=by
      have:=hv.length
      obtain ⟨v,hv⟩:∃v,vals.toList=[v]:=by
       cases h:vals.toList with
       |nil=>rw[h] at this;cases this
       |cons v l=>cases l with
        |nil=>exact ⟨v,rfl⟩
        |cons _ _=>rw[h] at this;simp at this
      exact ⟨v,by rw[← Array.toList_inj];exact hv⟩
     have hx:Rc G w (.ex e (.int .u8) 0 xs i i) v:=hv.1
     rcases hx with ⟨_,rfl,rfl⟩ | ⟨b,cap,rfl,⟨_,_,ho⟩,cur,el,hh,h1,h2,h3,h4⟩
     ·refine (QP w).mono ?_
      rintro e' w' ⟨rfl,rfl⟩
      exact ⟨G,_,_,.tuple #[],AS.map_noOp Rl i,(show Rv G _ (.tup []) (.tuple #[]) from ⟨#[],rfl,trivial⟩),.inl ⟨rfl,some [],.refl _ _ _,hrun⟩⟩
     ·have ho:G.ow i=some (b,0):=by rcases ho with h | h <;> exact h
      rw[Nat.zero_add] at h2 ⊢
      refine (JH w xs cap b cur el hh (by rw[h1];simp[Ty.size]) h2 h3 fun k x hk=>?_).mono ?_
      ·obtain ⟨c,⟨rfl,hin⟩,hu⟩:=h4 k x hk
       have:=hu 0 _ rfl
       exact ⟨hin,by simpa [Ty.size] using this⟩
      ·rintro e' w' ⟨rfl,cur',hwr,hh',hs',hlow,hhigh⟩
       have hl:(List.map gS xs).length=xs.length:=List.length_map _
       have R':=Rl.over (zs:=List.map gS xs) ho hwr hh hh' hs' hlow (by rw[hl];exact hhigh) (by rw[hl];exact hg)
       exact ⟨G,_,_,.tuple #[],R',(show Rv G w' (.tup []) (.tuple #[]) from ⟨#[],rfl,trivial⟩),.inl ⟨rfl,some [],⟨(Goes.exWrote Rl.gh ho hwr).kept,fun key b1 _ hb1=>⟨hb1,hwr.other b1 (by rintro rfl;exact (Rl.gh.ow i _ _ ho).2.2.2 key hb1)⟩⟩,hrun⟩⟩
   ·cases hrun
 ·cases hrun
abbrev ky:Io:=⟨[dL,dL],[],[],[dB],none⟩
def D4 (d:ky.In):Tr ky.Res:=.ret (.ret ((decide (d.1.1=List.map gS d.1.2.1),()),()))
abbrev yW:List (Nat×Hc):=[]
def HN:Hd:=bz yW
abbrev eM:Lo:=⟨⟨(.one (.hol (.sl 5 (Ty.int IntKind.u8)))::.one (.hol (.sl 5 (Ty.int IntKind.u8)))::.any::be (.one (.hol (.int IntKind.i64))::.any::ai (bJ []))),[]⟩,[(.ret,⟨(bJ (.one (.hol .bool)::ai (bJ (be [])))),[]⟩),(.exit 0,⟨(.any::ai (dE (be []))),[]⟩)]⟩
def kj (d:eM.st.den):Tr (ax eM.xs):=
 .ite (decide (0≤d.1.2.2.1)&&decide (d.1.1.length=d.1.2.1.length)) (.ite (decide (d.1.1.drop d.1.2.2.1.toNat=(List.map gS d.1.2.1).drop d.1.2.2.1.toNat)) (.ret (.pan (.ret ((),((),()))))) (.ret (.ret ((),((false,()),()))))) .no
def tv:Lp:=bo [(5,aP eM kj)]
def ox {R:Type}(h2 h3:List Int)(h4:Int)(next:List Int→List Int→Int→Option R)(out:ax eM.xs→Option R):Option R:=bif decide (h4<(↑h2.length:Int)) then bif decide (0≤h4)&&decide (h4<(↑h2.length:Int)) then bif decide (0≤h4)&&decide (h4<(↑h3.length:Int)) then bif h2.getD h4.toNat 0 != JD IntKind.u8 (h3.getD h4.toNat 0) 90 then out (.ret ((),((false,()),()))) else next (h2) (h3) (IntKind.i64.wrap (h4+1)) else none else none else out (.pan (.ret ((),((),()))))
def nT (n:Nat)(h2 h3:List Int)(h4:Int):Option (ax eM.xs):=gk tt HN dr tv 0 Tryz.f54 (cI Tryz.f54 0) n (eM.st.mk' ((h2,(h3,(h4,()))),())) (bI eM.xs)
theorem Av (n:Nat)(h2 h3:List Int)(h4:Int):nT (n+1) h2 h3 h4=ox h2 h3 h4 (nT n) some:=by kernel_rfl
theorem KH (xs ys:List Int)(hl:xs.length=ys.length)(hb:xs.length≤maxLen):∀(k i:Nat),i≤xs.length→xs.length<i+k→
  nT k xs ys i=if xs.drop i=(List.map gS ys).drop i then some (.pan (.ret ((),((),())))) else some (.ret ((),((false,()),()))):=by
 intro k
 induction k with
 |zero=>intro i h h';omega
 |succ k ih=>
  intro i hi h
  rw[Av]
  unfold ox
  by_cases h1:i<xs.length
  ·have h2:i<ys.length:=by omega
   have h3:i<(List.map gS ys).length:=by simpa using h2
   rw[bb h1 hb,ih (i+1) h1 (by omega)]
   have e:(xs.drop i=(List.map gS ys).drop i)↔(xs[i]=gS ys[i]∧xs.drop (i+1)=(List.map gS ys).drop (i+1)):=by rw[List.drop_eq_getElem_cons h1,List.drop_eq_getElem_cons h3,List.cons.injEq,List.getElem_map]
   have e2:JD .u8 ys[i] 90=gS ys[i]:=rfl
   simp only[Int.toNat_natCast,aH h1,aH h2,e2]
   by_cases he:xs[i]=gS ys[i] <;> simp[h1,h2,he,e,cond_eq_ite]
  ·rw[List.drop_of_length_le (by omega),List.drop_of_length_le (by simp;omega)]
   simp[h1]
def yq (a0 a1:List Int):Option ky.Res:=bif (↑a0.length:Int) != (↑a1.length:Int) then some (Out.ret ((false,()),())) else (kj ((a0,(a1,(0,()))),())).run fun y=>match y with | .ret ((),((x9,()),()))=>(some (Out.ret ((x9,()),()))) | .pan (.ret ((),((),())))=>(some (Out.ret ((true,()),())))
theorem PE (a0 a1:List Int):Io.run tt HN dr tv ky Tryz.f54 ((a0,a1,()),())=yq a0 a1:=by kernel_rfl
theorem TO:HcOk prog 54 (ah ky D4):=by
 refine aj (n:=400) hm (cs:=yW) HcsOk.nil (lp:=tv) (fn:=Tryz.f54) (by kernel_rfl) (by kernel_rfl) (by kernel_rfl) ky
  (.step (h0:=aP eM kj) (by kernel_rfl) (aw (n:=400) hm (cs:=yW) HcsOk.nil (lp:=tv) (fn:=Tryz.f54) (.done (by kernel_rfl)) eM kj ?_) (.done (by kernel_rfl))) D4 ?_
 ·rintro ⟨⟨xs,ys,i,⟨⟩⟩,⟨⟩⟩ y hw hy
  obtain ⟨hg,hy⟩:=Tr.guard hy
  simp only[Bool.and_eq_true,decide_eq_true_eq] at hg
  obtain ⟨n,rfl⟩:=dZ hg.1
  by_cases hn:n≤xs.length
  ·refine ⟨xs.length+1,(KH xs ys hg.2 hw.1.1.1 _ n hn (by omega)).trans ?_⟩
   rw[← hy]
   simp only[Tr.val_ite,decide_eq_true_eq,Int.toNat_natCast,Tr.val_ret]
  ·refine ⟨1,?_⟩
   show nT (0+1) xs ys n=_
   rw[Av,← hy]
   unfold ox
   have h1:¬ n<xs.length:=by omega
   simp[Tr.val_ite,Tr.val_ret,h1,List.drop_of_length_le (show xs.length≤n by omega),List.drop_of_length_le (show (List.map gS ys).length≤n by simp;omega)]
 ·rintro ⟨⟨(xs:List Int),(ys:List Int),⟨⟩⟩,⟨⟩⟩ out hw ho
  refine (PE xs ys).trans ?_
  cases ho
  unfold yq
  by_cases hl:xs.length=ys.length
  ·by_cases he:xs=List.map gS ys
   ·subst he;simp[kj,Tr.run]
   ·simp[kj,Tr.run,hl,he]
  ·have:xs≠List.map gS ys:=fun e=>hl (by rw[e];simp)
   have h2:(xs.length:Int)≠ys.length:=by omega
   simp[this,h2,cond_eq_ite]
abbrev Nm:Io:=ioB
abbrev Wa:Type:=List Int×(List Int×(List Int×Unit))
def Gi (d:Wa):AS:=⟨[.one (.ex 5 V8 0 d.1 1 1),.one (.ex 5 V8 0 d.2.1 3 3),.one (.lst 5 V8 d.2.2.1 0)]++Ou 94,[],[]⟩
abbrev sZ:List (Nat×Hc):=[(28,FY (ah np Gr)),(53,Ge),(54,FY (ah ky D4))]
def xy:Hd:=bz sZ
def iq (c:Nat):List Int:=(List.range 80).map fun i=>((i+c:Nat):Int)
theorem iL (c:Nat):(iq c).length=80:=by simp[iq]
theorem AN {c i:Nat}(h:i<80):(iq c)[i]'(by rw[iL];exact h)=((i+c:Nat):Int):=by simp[iq]
abbrev fL:Lo:=⟨⟨(.one (.exl 5 (Ty.int IntKind.u8) 1 1)::.one (.exl 5 (Ty.int IntKind.u8) 3 3)::.one (.hol (.sl 5 (Ty.int IntKind.u8)))::bJ (.one (.exl 5 (Ty.int IntKind.u8) 1 15)::.one (.hol (.int IntKind.i64))::ai (ai (ai (ai (ai (dE []))))))),[]⟩,[(.exit 0,⟨(.one (.exl 5 (Ty.int IntKind.u8) 1 1)::.one (.exl 5 (Ty.int IntKind.u8) 3 3)::.one (.hol (.sl 5 (Ty.int IntKind.u8)))::bJ (.one (.exl 5 (Ty.int IntKind.u8) 1 15)::.any::ai (ai (ai (ai (ai (dE []))))))),[]⟩)]⟩
abbrev eK:Lo:=⟨⟨(.one (.exl 5 (Ty.int IntKind.u8) 1 1)::.one (.exl 5 (Ty.int IntKind.u8) 3 3)::.one (.hol (.sl 5 (Ty.int IntKind.u8)))::bJ (.one (.exl 5 (Ty.int IntKind.u8) 1 15)::.any::.one (.exl 5 (Ty.int IntKind.u8) 3 19)::.one (.hol (.int IntKind.i64))::ai (ai (ai (ai (ai (bJ (be [])))))))),[]⟩,[(.exit 2,⟨(.one (.exl 5 (Ty.int IntKind.u8) 1 1)::.one (.exl 5 (Ty.int IntKind.u8) 3 3)::.one (.hol (.sl 5 (Ty.int IntKind.u8)))::bJ (.one (.exl 5 (Ty.int IntKind.u8) 1 15)::.any::.one (.exl 5 (Ty.int IntKind.u8) 3 19)::.any::ai (ai (ai (ai (ai (bJ (be [])))))))),[]⟩)]⟩
abbrev eL:Lo:=⟨⟨(.one (.exl 5 (Ty.int IntKind.u8) 1 1)::.one (.exl 5 (Ty.int IntKind.u8) 3 3)::.one (.hol (.sl 5 (Ty.int IntKind.u8)))::bJ (.one (.exl 5 (Ty.int IntKind.u8) 1 15)::.any::.one (.ext 5 (Ty.int IntKind.u8) 3 19)::.any::.one (.hol (.int IntKind.i64))::.any::ai (ai (ai (ai (ai (bJ []))))))),[]⟩,[(.ret,⟨(bJ (be (.one (.hol .bool)::ai (ai (ai (ai (ai (dE (be []))))))))),[]⟩),(.exit 4,⟨(.one (.exl 5 (Ty.int IntKind.u8) 1 1)::.one (.exl 5 (Ty.int IntKind.u8) 3 3)::.one (.hol (.sl 5 (Ty.int IntKind.u8)))::ai (ai (ai (ai (ai (dE (bJ (be [])))))))),[]⟩)]⟩
def oP (d:fL.st.den):Tr (ax fL.xs):=
 .ite (decide (d.1.2.2.2.2.1=0)&&(decide (d.1.2.2.2.1.length≤4294967000)&&decide (d.1.1.length≤d.1.2.2.2.1.length))) (.ret (.ret ((),((d.1.1,d.1.2.1,d.1.2.2.1,d.1.2.2.2.1++iq 1,()),())))) .no
def mE (d:eK.st.den):Tr (ax eK.xs):=
 .ite (decide (d.1.2.2.2.2.2.1=0)&&(decide (d.1.2.2.2.2.1.length≤4294967000)&&decide (d.1.2.1.length≤d.1.2.2.2.2.1.length))) (.ret (.ret ((),((d.1.1,d.1.2.1,d.1.2.2.1,d.1.2.2.2.1,d.1.2.2.2.2.1++iq 101,()),())))) .no
def mF (d:eL.st.den):Tr (ax eL.xs):=
 .ite (decide (d.1.2.2.2.2.2.1=0)&&(decide (List.drop d.1.1.length d.1.2.2.2.1=iq 1)&&(decide (d.1.2.2.2.2.1.1=d.1.2.1.length)&&decide (d.1.2.2.2.2.1.2=iq 101)))) (.ret (.pan (.ret ((),((d.1.1,d.1.2.1,d.1.2.2.1,()),()))))) .no
def lY:Lp:=bo [(7,aP fL oP),(14,aP eK mE),(19,aP eL mF)]
def wN {R:Type}(h8 h9 h10 h11:List Int)(h12:Int)(next:List Int→List Int→List Int→List Int→Int→Option R)(out:ax fL.xs→Option R):Option R:=bif decide (h12<80) then bif decide (0+h11.length+[IntKind.u8.wrap (IntKind.i64.wrap (h12+1))].length≤4294967296)&&(decide ((0+h8.length)*1≤(0+h11.length)*1)&&true) then next (h8) (h9) (h10) (h11++[IntKind.u8.wrap (IntKind.i64.wrap (h12+1))]) (IntKind.i64.wrap (h12+1)) else none else out (.ret ((),((h8,(h9,(h10,(h11,())))),())))
def uW (n:Nat)(h8 h9 h10 h11:List Int)(h12:Int):Option (ax fL.xs):=gk tt xy dr lY 0 Tryz.f15 (cI Tryz.f15 0) n (fL.st.mk' ((h8,(h9,(h10,(h11,(h12,()))))),())) (bI fL.xs)
theorem Qb (n:Nat)(h8 h9 h10 h11:List Int)(h12:Int):uW (n+1) h8 h9 h10 h11 h12=wN h8 h9 h10 h11 h12 (uW n) some:=by kernel_rfl
def uh {R:Type}(h32 h33 h34 h35 h36:List Int)(h37:Int)(next:List Int→List Int→List Int→List Int→List Int→Int→Option R)(out:ax eK.xs→Option R):Option R:=bif decide (h37<80) then bif decide (0+h36.length+[IntKind.u8.wrap (IntKind.i64.wrap (h37+101))].length≤4294967296)&&(decide ((0+h33.length)*1≤(0+h36.length)*1)&&true) then next (h32) (h33) (h34) (h35) (h36++[IntKind.u8.wrap (IntKind.i64.wrap (h37+101))]) (IntKind.i64.wrap (h37+1)) else none else out (.ret ((),((h32,(h33,(h34,(h35,(h36,()))))),())))
def rI (n:Nat)(h32 h33 h34 h35 h36:List Int)(h37:Int):Option (ax eK.xs):=gk tt xy dr lY 0 Tryz.f15 (cI Tryz.f15 1) n (eK.st.mk' ((h32,(h33,(h34,(h35,(h36,(h37,())))))),())) (bI eK.xs)
theorem LF (n:Nat)(h32 h33 h34 h35 h36:List Int)(h37:Int):rI (n+1) h32 h33 h34 h35 h36 h37=uh h32 h33 h34 h35 h36 h37 (rI n) some:=by kernel_rfl
def ui {R:Type}(h54 h55 h56 h57:List Int)(h58:Nat)(h59:List Int)(h60:Int)(next:List Int→List Int→List Int→List Int→Nat→List Int→Int→Option R)(out:ax eL.xs→Option R):Option R:=bif decide (h60<80) then bif decide ((↑0:Int)≤IntKind.i64.wrap ((↑0:Int)+(↑h54.length:Int)+h60))&&decide (IntKind.i64.wrap ((↑0:Int)+(↑h54.length:Int)+h60)<(↑0:Int)+(↑h57.length:Int)) then bif h57.getD ((IntKind.i64.wrap ((↑0:Int)+(↑h54.length:Int)+h60)).toNat - 0) 0 != IntKind.u8.wrap (IntKind.i64.wrap (h60+1)) then out (.ret ((),((false,()),()))) else bif decide ((↑h58:Int)≤IntKind.i64.wrap ((↑0:Int)+(↑h55.length:Int)+h60))&&decide (IntKind.i64.wrap ((↑0:Int)+(↑h55.length:Int)+h60)<(↑h58:Int)+(↑h59.length:Int)) then bif h59.getD ((IntKind.i64.wrap ((↑0:Int)+(↑h55.length:Int)+h60)).toNat - h58) 0 != IntKind.u8.wrap (IntKind.i64.wrap (h60+101)) then out (.ret ((),((false,()),()))) else next (h54) (h55) (h56) (h57) (h58) (h59) (IntKind.i64.wrap (h60+1)) else none else none else out (.pan (.ret ((),((h54,(h55,(h56,()))),()))))
def rJ (n:Nat)(h54 h55 h56 h57:List Int)(h58:Nat)(h59:List Int)(h60:Int):Option (ax eL.xs):=gk tt xy dr lY 0 Tryz.f15 (cI Tryz.f15 2) n (eL.st.mk' ((h54,(h55,(h56,(h57,((h58,h59),(h60,())))))),())) (bI eL.xs)
theorem LG (n:Nat)(h54 h55 h56 h57:List Int)(h58:Nat)(h59:List Int)(h60:Int):rJ (n+1) h54 h55 h56 h57 h58 h59 h60=ui h54 h55 h56 h57 h58 h59 h60 (rJ n) some:=by kernel_rfl
theorem NZ {i c:Nat}(h:i<80)(hc:c≤101)(o:List Int):(o++[IntKind.u8.wrap (IntKind.i64.wrap ((i:Int)+(c:Int)))])++(iq c).drop (i+1)=o++(iq c).drop i:=by
 rw[List.drop_eq_getElem_cons (show i<(iq c).length by rw[iL];exact h),AN h,az (n:=(i:Int)+(c:Int)) (by omega) (by omega)]
 have:IntKind.u8.wrap ((i:Int)+(c:Int))=((i+c:Nat):Int):=by
  simp[IntKind.wrap,IntKind.signed,IntKind.bits]
  omega
 rw[this]
 simp
theorem HX (a b w:List Int):∀(k:Nat) (g:List Int) (i:Nat),80<i+k→i≤80→g.length+(80 - i)≤4294967296→a.length≤g.length→
  uW k a b w g i=some (.ret ((),((a,(b,(w,(g++(iq 1).drop i,())))),()))):=by
 intro k
 induction k with
 |zero=>intro g i _ _ _;omega
 |succ k ih=>
  intro g i h1 h2 h3 h4
  rw[Qb]
  unfold wN
  by_cases hl:i<80
  ·have h5:(i:Int)<80:=by omega
   rw[aa (by simpa using h5),aa (by simp;omega),bb hl (by rw[dp];omega),ih _ (i+1) (by omega) (by omega) (by simp;omega) (by simp;omega)]
   have:=NZ (c:=1) hl (by omega) g
   have e:(((1:Nat):Int))=1:=rfl
   rw[e,bb hl (by rw[dp];omega)] at this
   rw[this]
  ·rw[ab (by simp;omega),List.drop_of_length_le (by rw[iL];omega),List.append_nil]
theorem Fk (a b w g:List Int):∀(k:Nat) (h:List Int) (i:Nat),80<i+k→i≤80→h.length+(80 - i)≤4294967296→b.length≤h.length→
  rI k a b w g h i=some (.ret ((),((a,(b,(w,(g,(h++(iq 101).drop i,()))))),()))):=by
 intro k
 induction k with
 |zero=>intro g i _ _ _;omega
 |succ k ih=>
  intro h i h1 h2 h3 h4
  rw[LF]
  unfold uh
  by_cases hl:i<80
  ·have h5:(i:Int)<80:=by omega
   rw[aa (by simpa using h5),aa (by simp;omega),bb hl (by rw[dp];omega),ih _ (i+1) (by omega) (by omega) (by simp;omega) (by simp;omega)]
   have:=NZ (c:=101) hl (by omega) h
   have e:(((101:Nat):Int))=101:=rfl
   rw[e] at this
   rw[this]
  ·rw[ab (by simp;omega),List.drop_of_length_le (by rw[iL];omega),List.append_nil]
theorem Fl (a b w g:List Int)(hg:g.drop a.length=iq 1)(hgl:g.length≤maxLen)(hbl:b.length+80≤maxLen):∀(k i:Nat),80<i+k→i≤80→
  rJ k a b w g b.length (iq 101) i=some (.pan (.ret ((),((a,(b,(w,()))),())))):=by
 have hl:g.length=a.length+80:=by
  have:=congrArg List.length hg
  rw[List.length_drop,iL] at this
  omega
 rw[dp] at hgl hbl
 intro k
 induction k with
 |zero=>intro i _ _;omega
 |succ k ih=>
  intro i h1 h2
  rw[LG]
  unfold ui
  by_cases hlt:i<80
  ·have h5:(i:Int)<80:=by omega
   have e1:IntKind.i64.wrap ((0:Int)+(a.length:Int)+(i:Int))=((a.length+i:Nat):Int):=by rw[az] <;> omega
   have e2:IntKind.i64.wrap ((0:Int)+(b.length:Int)+(i:Int))=((b.length+i:Nat):Int):=by rw[az] <;> omega
   have e3:IntKind.u8.wrap (IntKind.i64.wrap ((i:Int)+1))=((i+1:Nat):Int):=by
    rw[az (by omega) (by omega)]
    simp[IntKind.wrap,IntKind.signed,IntKind.bits]
    omega
   have e4:IntKind.u8.wrap (IntKind.i64.wrap ((i:Int)+101))=((i+101:Nat):Int):=by
    rw[az (by omega) (by omega)]
    simp[IntKind.wrap,IntKind.signed,IntKind.bits]
    omega
   have e5:g.getD (a.length+i) 0=((i+1:Nat):Int):=by
    have h7:(g.drop a.length)[i]?=some ((i+1:Nat):Int):=by
     rw[hg,List.getElem?_eq_getElem (by rw[iL];exact hlt),AN hlt]
    rw[List.getElem?_drop] at h7
    rw[List.getD_eq_getElem?_getD,h7]
    rfl
   have e6:(iq 101).getD i 0=((i+101:Nat):Int):=by
    rw[List.getD_eq_getElem?_getD,List.getElem?_eq_getElem (by rw[iL];exact hlt),AN hlt]
    rfl
   have hml:(iq 101).length=80:=iL 101
   rw[aa (by simpa using h5),e1,e2,e3,e4,aa (by simp;omega)]
   rw[show ((a.length+i:Nat):Int).toNat - 0=a.length+i by omega,show ((b.length+i:Nat):Int).toNat - b.length=i by omega,e5,e6,ab (by simp),aa (by simp;omega),ab (by simp),bb hlt (by rw[dp];omega),ih (i+1) (by omega) (by omega)]
  ·rw[ab (by simp;omega)]
def uI (a0 a1 a2:List Int):Option Nm.Res:=bif !decide (a0=a2) then some (Out.ret ((false,()),())) else bif !decide (a1=a2) then some (Out.ret ((false,()),())) else (oP ((jj 0 (List.map gS a0) a0,(a1,(a2,(jj 0 (List.map gS a0) a0,(0,()))))),())).run fun y=>match y with | .ret ((),((x22,x23,x24,x25,()),()))=>(bif !decide (x23=x24) then some (Out.ret ((false,()),())) else bif decide (0≤(↑0:Int)+(↑x22.length:Int))&&decide ((↑0:Int)+(↑x22.length:Int)≤(↑x25.length:Int)) then bif !decide (List.take ((↑0:Int)+(↑x22.length:Int)).toNat x25=List.map gS x24) then some (Out.ret ((false,()),())) else (mE ((x22,(x23,(x24,(x25,(x23,(0,())))))),())).run fun y=>match y with | .ret ((),((x49,x50,x51,x52,x53,()),()))=>(bif decide (x50.length≤x53.length)&&true then (mF ((x49,(jj 0 (List.map gS x50) x50,(x51,(x52,(((List.map gS x50).length,List.drop (List.map gS x50).length x53),(0,())))))),())).run fun y=>match y with | .ret ((),((x73,()),()))=>(some (Out.ret ((x73,()),()))) | .pan (.ret ((),((x74,x75,x76,()),())))=>(bif decide (x74=List.map gS x76) then some (Out.ret ((decide (x75=List.map gS x76),()),())) else some (Out.ret ((false,()),()))) else none) else none)
theorem Uw (a0 a1 a2:List Int):Io.runX tt xy dr lY Nm Tryz.f15 (Gi (a0,a1,a2,()))=uI a0 a1 a2:=by kernel_rfl
def zX (a b w:List Int):Bool:=decide (a=w)&&decide (b=w)
theorem EH (a b w:List Int)(ha:a.length≤4294967000)(hb:b.length≤4294967000):uI a b w=some (.ret ((zX a b w,()),())):=by
 unfold uI zX
 by_cases h1:a=w
 rotate_left
 ·simp[h1]
 subst h1
 by_cases h2:b=a
 rotate_left
 ·simp[h2]
 subst h2
 have hl:(List.map gS b).length=b.length:=by simp
 rw[wL hl]
 have e7:oP ((List.map gS b,b,b,List.map gS b,0,()),())=.ite true (.ret (.ret ((),((List.map gS b,b,b,List.map gS b++iq 1,()),())))) .no:=by
  have:(decide ((0:Int)=0)&&(decide ((List.map gS b).length≤4294967000)&&decide ((List.map gS b).length≤(List.map gS b).length)))=true:=by simp;omega
  exact congrArg (fun c=>Tr.ite c _ _) this
 rw[e7]
 simp only[decide_true,Bool.not_true,cond_false,Tr.run,cond_true]
 have e0:((0:Int)+((List.map gS b).length:Int)).toNat=(List.map gS b).length:=by omega
 rw[aa (by simp;omega),e0,List.take_left']
 rotate_left
 ·rfl
 simp only[decide_true,Bool.not_true,cond_false]
 have e14:mE ((List.map gS b,b,b,List.map gS b++iq 1,b,0,()),())=.ite true (.ret (.ret ((),((List.map gS b,b,b,List.map gS b++iq 1,b++iq 101,()),())))) .no:=by
  have:(decide ((0:Int)=0)&&(decide (b.length≤4294967000)&&decide (b.length≤b.length)))=true:=by simp;omega
  exact congrArg (fun c=>Tr.ite c _ _) this
 rw[e14]
 simp only[Tr.run,cond_true]
 rw[aa (by simp)]
 have ed:List.drop (List.map gS b).length (b++iq 101)=iq 101:=by rw[hl];simp
 rw[ed,wL hl]
 have e19:mF ((List.map gS b,List.map gS b,b,List.map gS b++iq 1,((List.map gS b).length,iq 101),0,()),())=.ite true (.ret (.pan (.ret ((),((List.map gS b,List.map gS b,b,()),()))))) .no:=by
  have:(decide ((0:Int)=0)&&(decide (List.drop (List.map gS b).length (List.map gS b++iq 1)=iq 1)&&(decide ((List.map gS b).length=(List.map gS b).length)&&decide (iq 101=iq 101))))=true:=by simp
  exact congrArg (fun c=>Tr.ite c _ _) this
 rw[e19]
 simp[Tr.run]
def ED:Hc:=fun _ args _ A K=>match args with
 |[.one (.ex _ t lo xs i j),.one (.ex _ t2 lo2 ys i2 j2),.one (.lst _ t3 ws _)]=>
  bif Nat.beq i j&&(Nat.beq i2 j2&&(Nat.beq lo 0&&(Nat.beq lo2 0&&!(Nat.beq i i2)))) then
   (if h:t=.int .u8∧t2=.int .u8∧t3=.int .u8 then (bif decide (xs.length≤4294967000)&&decide (ys.length≤4294967000) then
    (A.map (C.strip [i,i2] [])).force fun A=>K (.ret (.one (.bool (zX (h.1▸xs:List (Ty.int .u8).den) (h.2.1▸ys:List (Ty.int .u8).den) (h.2.2▸ws:List (Ty.int .u8).den)))) (some [])) A else none) else none) else none
 |_=>none
theorem W6:HcOk prog 15 ED:=by
 have htt:=gH Tryz.prog 400
 have hcs:HcsOk prog sZ:=.cons (rY FH) (.cons Xl (.cons (rY TO) .nil))
 intro R args id A K r F G ts cst w vals hid hrun Rl hv
 refine ⟨⟨Tryz.f15,by kernel_rfl,by kernel_rfl,by kernel_rfl⟩,?_⟩
 unfold ED at hrun
 split at hrun
 ·rename_i e1 t lo xs i j e2 t2 lo2 ys i2 j2 e3 t3 ws own
  cases hz:Nat.beq i j&&(Nat.beq i2 j2&&(Nat.beq lo 0&&(Nat.beq lo2 0&&!(Nat.beq i i2)))) with
  |false=>rw[hz] at hrun;cases hrun
  |true=>
   rw[hz] at hrun
   simp only[cond_true] at hrun
   simp only[Bool.and_eq_true,Bool.not_eq_true'] at hz
   obtain ⟨z1,z2,z3,z4,z5⟩:=hz
   have z1:=Nat.eq_of_beq_eq_true z1
   have z2:=Nat.eq_of_beq_eq_true z2
   have z3:=Nat.eq_of_beq_eq_true z3
   have z4:=Nat.eq_of_beq_eq_true z4
   have z5:i≠i2:=by rintro rfl;rw[Nat.beq_refl] at z5;cases z5
   subst z1 z2 z3 z4
   split at hrun
   ·rename_i h
    obtain ⟨rfl,rfl,rfl⟩:=h
    simp only at hrun
    cases hg:decide (xs.length≤4294967000)&&decide (ys.length≤4294967000) with
    |false=>rw[hg] at hrun;cases hrun
    |true=>
     rw[hg] at hrun
     simp only[cond_true,AS.force_eq] at hrun
     simp only[Bool.and_eq_true,decide_eq_true_eq] at hg
     have hvl:vals.toList.length=3:=hv.length.symm
     obtain ⟨v1,v2,v3,hvs⟩:∃v1 v2 v3,vals.toList=[v1,v2,v3]:=by
      match h:vals.toList with
      |[]=>rw[h] at hvl;cases hvl
      |[_]=>rw[h] at hvl;simp at hvl
      |[_,_]=>rw[h] at hvl;simp at hvl
      |[a,b,c]=>exact ⟨a,b,c,rfl⟩
      |_::_::_::_::_=>rw[h] at hvl;simp at hvl
     rw[hvs] at hv
     obtain ⟨hx1,hx2,hx3,_⟩:=hv
     have hn2:bK (([(1,i),(3,i2)]:List (Nat×Nat)).map (·.2))=true:=by simp[bK,z5.symm]
     have hto:∀{xs:List Int} {k k':Nat} {v:Value},k'≠0→(∀b,G.ow k=some (b,0)→(im G [] [(1,i),(3,i2)]).ow k'=some (b,0))→Rc G w (.ex e1 (.int .u8) 0 xs k k) v→Rc (im G [] [(1,i),(3,i2)]) w (.ex 5 V8 0 xs k' k') v:=by
      intro xs k k' v hk0 hk h
      rcases h with h | ⟨b,cap,e0,⟨_,_,ho⟩,h⟩
      ·exact .inl h
      ·exact .inr ⟨b,cap,e0,⟨hk0,hk0,.inl (hk b (by rcases ho with h | h <;> exact h))⟩,h⟩
     have R0:Rel (mM G w [] [(1,i),(3,i2)]) (im G [] [(1,i),(3,i2)]) (Gi (xs,ys,ws,())) (vals++Array.replicate ((Tryz.f15).ntmps - vals.size) undef) [] w:=by
      refine ⟨?_,trivial,fun k cs hk=>by simp[Gi] at hk,Nl Rl.gh (fun i j k h=>by simp[Bn.at] at h) hn2⟩
      have hs:vals.size=3:=by simpa using hvl
      rw[hs,show (Tryz.f15).ntmps - 3=94 by kernel_rfl,Array.toList_append,Array.toList_replicate,hvs]
      refine ⟨hto (by decide) (fun b hb=>by simp[im,hb]) hx1,hto (by decide) (fun b hb=>by simp[im,hb]) hx2,?_,All2.replicate (a:=V.any) (b:=undef) trivial 94⟩
      obtain ⟨Aa,cap,e0,g1,g2,g3,_⟩:=hx3
      exact ⟨Aa,cap,e0,g1,g2,g3,.inl rfl⟩
     refine Kr (lp:=lY) htt hm (zi hcs) (mS htt) (by kernel_rfl) ?_ hid Rl R0 ((Uw xs ys ws).trans (EH xs ys ws hg.1 hg.2)) hrun
     refine .step (h0:=aP fL oP) (by kernel_rfl) (aw (n:=400) hm (cs:=sZ) hcs (lp:=lY) (fn:=Tryz.f15) (.done (by kernel_rfl)) fL oP ?_)
      (.step (h0:=aP eK mE) (by kernel_rfl) (aw (n:=400) hm (cs:=sZ) hcs (lp:=lY) (fn:=Tryz.f15) (.done (by kernel_rfl)) eK mE ?_)
      (.step (h0:=aP eL mF) (by kernel_rfl) (aw (n:=400) hm (cs:=sZ) hcs (lp:=lY) (fn:=Tryz.f15) (.done (by kernel_rfl)) eL mF ?_) (.done (by kernel_rfl))))
     ·rintro ⟨⟨a,b,c,g,i,⟨⟩⟩,⟨⟩⟩ y hw hy
      obtain ⟨hg,hy⟩:=Tr.guard hy
      simp only[Bool.and_eq_true,decide_eq_true_eq] at hg
      obtain ⟨rfl,h1,h2⟩:=hg
      refine ⟨81,(HX a b c 81 g 0 (by omega) (by omega) (by omega) h2).trans ?_⟩
      rw[← hy];rfl
     ·rintro ⟨⟨a,b,c,g,h,i,⟨⟩⟩,⟨⟩⟩ y hw hy
      obtain ⟨hg,hy⟩:=Tr.guard hy
      simp only[Bool.and_eq_true,decide_eq_true_eq] at hg
      obtain ⟨rfl,h1,h2⟩:=hg
      refine ⟨81,(Fk a b c g 81 h 0 (by omega) (by omega) (by omega) h2).trans ?_⟩
      rw[← hy];rfl
     ·rintro ⟨⟨a,b,c,g,⟨l,h⟩,i,⟨⟩⟩,⟨⟩⟩ y hw hy
      obtain ⟨hg,hy⟩:=Tr.guard hy
      simp only[Bool.and_eq_true,decide_eq_true_eq] at hg
      obtain ⟨rfl,h1,rfl,rfl⟩:=hg
      have w1:g.length≤maxLen:=hw.1.2.2.2.1.1
      have w2:b.length+(iq 101).length≤maxLen:=hw.1.2.2.2.2.1.1
      rw[iL] at w2
      refine ⟨81,(Fl a b c g h1 w1 w2 81 0 (by omega) (by omega)).trans ?_⟩
      rw[← hy];rfl
   ·cases hrun
 ·cases hrun
theorem vU {R:Type}(it:Nat→List Int→List Int→Int→Option R)(out:List Int→Option R)
  (h:∀n b o i,it (n+1) b o i=bif decide (i<(b.length:Int)) then bif decide (0≤i)&&decide (i<(b.length:Int)) then bif decide (o.length+[b.getD i.toNat 0].length≤4294967296) then it n b (o++[b.getD i.toNat 0]) (IntKind.i64.wrap (i+1)) else none else none else out o)
  (b:List Int) (hb:b.length≤maxLen):∀(k:Nat) (o:List Int) (i:Nat),i≤b.length→b.length<i+k→o.length+(b.length - i)≤4294967296→it k b o i=out (o++b.drop i):=by
 intro k
 induction k with
 |zero=>intro o i h1 h2;omega
 |succ k ih=>
  intro o i h1 h2 h3
  rw[h]
  by_cases hi:i<b.length
  ·rw[bb hi hb,ih _ (i+1) hi (by omega) (by simp;omega),List.drop_eq_getElem_cons hi]
   simp only[Int.toNat_natCast,aH hi]
   have h4:o.length+1≤4294967296:=by omega
   simp[hi,h4]
  ·rw[List.drop_of_length_le (by omega)]
   simp[hi]
abbrev mh:Io:=⟨[dL],[],[],[dO],none⟩
def BM (d:mh.In):Tr mh.Res:=.ite (decide (d.1.1.length≤4294967296)) (.ret (.ret ((d.1.1,()),()))) .no
abbrev Kc:List (Nat×Hc):=[]
def Sz:Hd:=bz Kc
abbrev iA:Lo:=⟨⟨(.one (.hol (.sl 5 (Ty.int IntKind.u8)))::be (.one (.onl 5 (Ty.int IntKind.u8) 7)::.one (.hol (.int IntKind.i64))::.any::dE (bJ (be [])))),[]⟩,[(.exit 0,⟨(.any::be (.one (.onl 5 (Ty.int IntKind.u8) 7)::ai [])),[]⟩)]⟩
def sf (d:iA.st.den):Tr (ax iA.xs):=
 .ite (decide (d.1.2.2.1=0)&&decide (d.1.2.1.length+d.1.1.length≤4294967296)) (.ret (.ret ((),((d.1.2.1++d.1.1,()),())))) .no
def Fu:Lp:=bo [(4,aP iA sf)]
def Mh {R:Type}(h1 h2:List Int)(h3:Int)(next:List Int→List Int→Int→Option R)(out:ax iA.xs→Option R):Option R:=bif decide (h3<(↑h1.length:Int)) then bif decide (0≤h3)&&decide (h3<(↑h1.length:Int)) then bif decide (h2.length+[h1.getD h3.toNat 0].length≤4294967296) then next (h1) (h2++[h1.getD h3.toNat 0]) (IntKind.i64.wrap (h3+1)) else none else none else out (.ret ((),((h2,()),())))
def zy (n:Nat)(h1 h2:List Int)(h3:Int):Option (ax iA.xs):=gk tt Sz dr Fu 0 Tryz.f27 (cI Tryz.f27 0) n (iA.st.mk' ((h1,(h2,(h3,()))),())) (bI iA.xs)
theorem Va (n:Nat)(h1 h2:List Int)(h3:Int):zy (n+1) h1 h2 h3=Mh h1 h2 h3 (zy n) some:=by kernel_rfl
def GC (a0:List Int):Option mh.Res:=(sf ((a0,([],(0,()))),())).run fun y=>match y with | .ret ((),((x8,()),()))=>(some (Out.ret ((x8,()),())))
theorem Xw (a0:List Int):Io.run tt Sz dr Fu mh Tryz.f27 ((a0,()),())=GC a0:=by kernel_rfl
theorem rT:HcOk prog 27 (ah mh BM):=by
 refine aj (n:=400) hm (cs:=Kc) HcsOk.nil (lp:=Fu) (fn:=Tryz.f27) (by kernel_rfl) (by kernel_rfl) (by kernel_rfl) mh
  (.step (h0:=aP iA sf) (by kernel_rfl) (aw (n:=400) hm (cs:=Kc) HcsOk.nil (lp:=Fu) (fn:=Tryz.f27) (.done (by kernel_rfl)) iA sf ?_) (.done (by kernel_rfl))) BM ?_
 ·rintro ⟨⟨b,o,i,⟨⟩⟩,⟨⟩⟩ y hw hy
  obtain ⟨hg,hy⟩:=Tr.guard hy
  simp only[Bool.and_eq_true,decide_eq_true_eq] at hg
  obtain ⟨rfl,hl⟩:=hg
  refine ⟨b.length+1,(vU (fun k b o i=>zy k b o i) (fun o=>some (.ret ((),((o,()),())))) (fun n b o i=>Va n b o i) b hw.1.1.1 _ o 0 (by omega) (by omega) (by omega)).trans ?_⟩
  rw[← hy];rfl
 ·rintro ⟨⟨b,⟨⟩⟩,⟨⟩⟩ out hw ho
  obtain ⟨hg,ho⟩:=Tr.guard ho
  cases ho
  refine (Xw b).trans ?_
  simp only[decide_eq_true_eq] at hg
  unfold GC sf
  simp[Tr.run_ite,Tr.run_ret,hg]
abbrev tc:Io:=⟨[dL,dL],[],[],[dO],none⟩
def Q1 (d:tc.In):Tr tc.Res:=.ite (decide (d.1.1.length+d.1.2.1.length≤4294967296)) (.ret (.ret ((d.1.1++d.1.2.1,()),()))) .no
abbrev RN:List (Nat×Hc):=[(27,ah mh BM)]
def YO:Hd:=bz RN
abbrev j8:Lo:=⟨⟨(.any::.one (.hol (.sl 5 (Ty.int IntKind.u8)))::.any::be (.one (.onl 5 (Ty.int IntKind.u8) 11)::.one (.hol (.int IntKind.i64))::ai [])),[]⟩,[(.exit 0,⟨(.any::bJ (.one (.onl 5 (Ty.int IntKind.u8) 11)::.any::ai [])),[]⟩)]⟩
def xQ (d:j8.st.den):Tr (ax j8.xs):=
 .ite (decide (d.1.2.2.1=0)&&decide (d.1.2.1.length+d.1.1.length≤4294967296)) (.ret (.ret ((),((d.1.2.1++d.1.1,()),())))) .no
def Np:Lp:=bo [(4,aP j8 xQ)]
def QW {R:Type}(h2 h3:List Int)(h4:Int)(next:List Int→List Int→Int→Option R)(out:ax j8.xs→Option R):Option R:=bif decide (h4<(↑h2.length:Int)) then bif decide (0≤h4)&&decide (h4<(↑h2.length:Int)) then bif decide (h3.length+[h2.getD h4.toNat 0].length≤4294967296) then next (h2) (h3++[h2.getD h4.toNat 0]) (IntKind.i64.wrap (h4+1)) else none else none else out (.ret ((),((h3,()),())))
def Fe (n:Nat)(h2 h3:List Int)(h4:Int):Option (ax j8.xs):=gk tt YO dr Np 0 Tryz.f38 (cI Tryz.f38 0) n (j8.st.mk' ((h2,(h3,(h4,()))),())) (bI j8.xs)
theorem X6 (n:Nat)(h2 h3:List Int)(h4:Int):Fe (n+1) h2 h3 h4=QW h2 h3 h4 (Fe n) some:=by kernel_rfl
def Mz (a0 a1:List Int):Option tc.Res:=bif decide (a0.length≤4294967296) then (xQ ((a1,(a0,(0,()))),())).run fun y=>match y with | .ret ((),((x9,()),()))=>(some (Out.ret ((x9,()),()))) else none
theorem aah (a0 a1:List Int):Io.run tt YO dr Np tc Tryz.f38 ((a0,a1,()),())=Mz a0 a1:=by kernel_rfl
theorem Dw:HcOk prog 38 (ah tc Q1):=by
 refine aj (n:=400) hm (cs:=RN) (.cons rT .nil) (lp:=Np) (fn:=Tryz.f38) (by kernel_rfl) (by kernel_rfl) (by kernel_rfl) tc
  (.step (h0:=aP j8 xQ) (by kernel_rfl) (aw (n:=400) hm (cs:=RN) (.cons rT .nil) (lp:=Np) (fn:=Tryz.f38) (.done (by kernel_rfl)) j8 xQ ?_) (.done (by kernel_rfl))) Q1 ?_
 ·rintro ⟨⟨b,o,i,⟨⟩⟩,⟨⟩⟩ y hw hy
  obtain ⟨hg,hy⟩:=Tr.guard hy
  simp only[Bool.and_eq_true,decide_eq_true_eq] at hg
  obtain ⟨rfl,hl⟩:=hg
  refine ⟨b.length+1,(vU (fun k b o i=>Fe k b o i) (fun o=>some (.ret ((),((o,()),())))) (fun n b o i=>X6 n b o i) b hw.1.1.1 _ o 0 (by omega) (by omega) (by omega)).trans ?_⟩
  rw[← hy];rfl
 ·rintro ⟨⟨a,b,⟨⟩⟩,⟨⟩⟩ out hw ho
  obtain ⟨hg,ho⟩:=Tr.guard ho
  cases ho
  refine (aah a b).trans ?_
  simp only[decide_eq_true_eq] at hg
  have hg:a.length+b.length≤4294967296:=hg
  have h1:a.length≤4294967296:=by omega
  unfold Mz xQ
  simp[Tr.run_ite,Tr.run_ret,hg,h1]
abbrev C1:Lo:=⟨⟨(.one (.hol (.sl 5 (Ty.int IntKind.u8)))::.any::.one (.hol (.int IntKind.i64))::bJ (.one (.onl 5 (Ty.int IntKind.u8) 15)::.one (.hol (.int IntKind.i64))::.any::ai (bJ (be [])))),[]⟩,[(.exit 0,⟨(.any::bJ (be (.one (.onl 5 (Ty.int IntKind.u8) 15)::ai (dE [])))),[]⟩)]⟩
def aaZ (d:C1.st.den):Tr (ax C1.xs):=
 .ite (decide (0≤d.1.2.2.2.1)&&decide (d.1.2.2.1.length+d.1.1.length≤4294967296)) (.ret (.ret ((),((d.1.2.2.1++(d.1.1.take d.1.2.1.toNat).drop d.1.2.2.2.1.toNat,()),())))) .no
abbrev uT:Io:=⟨[dL],[],[],[dO],none⟩
def jw:List Int:=(List.range 96).map fun i=>((i*7+13:Nat):Int) % 256
def Yx (d:uT.In):Tr uT.Res:=.ite (decide (d.1.1.length≤4294967000)) (.ret (.ret ((d.1.1++jw,()),()))) .no
abbrev Ke:List (Nat×Hc):=[(27,ah mh BM)]
def SB:Hd:=bz Ke
abbrev iC:Lo:=⟨⟨(.any::be (.one (.onl 5 (Ty.int IntKind.u8) 7)::.one (.hol (.int IntKind.i64))::dE (bJ (be [])))),[]⟩,[(.exit 0,⟨(.any::be (.one (.onl 5 (Ty.int IntKind.u8) 7)::.any::dE (bJ (be [])))),[]⟩)]⟩
def sg (d:iC.st.den):Tr (ax iC.xs):=
 .ite (decide (d.1.2.1=0)&&decide (d.1.1.length≤4294967000)) (.ret (.ret ((),((d.1.1++jw,()),())))) .no
def Fw:Lp:=bo [(4,aP iC sg)]
def Bg {R:Type}(h1:List Int)(h2:Int)(next:List Int→Int→Option R)(out:ax iC.xs→Option R):Option R:=bif decide (h2<96) then bif decide (h1.length+[IntKind.u8.wrap (IntKind.i64.wrap (IntKind.i64.wrap (h2*7)+13))].length≤4294967296) then next (h1++[IntKind.u8.wrap (IntKind.i64.wrap (IntKind.i64.wrap (h2*7)+13))]) (IntKind.i64.wrap (h2+1)) else none else out (.ret ((),((h1,()),())))
def zA (n:Nat)(h1:List Int)(h2:Int):Option (ax iC.xs):=gk tt SB dr Fw 0 Tryz.f19 (cI Tryz.f19 0) n (iC.st.mk' ((h1,(h2,())),())) (bI iC.xs)
theorem Vb (n:Nat)(h1:List Int)(h2:Int):zA (n+1) h1 h2=Bg h1 h2 (zA n) some:=by kernel_rfl
theorem Td:∀(k:Nat) (o:List Int) (i:Nat),96<i+k→i≤96→o.length+(96 - i)≤4294967296→
  zA k o i=some (.ret ((),((o++jw.drop i,()),()))):=by
 intro k
 induction k with
 |zero=>intro o i _ _ h;omega
 |succ k ih=>
  intro o i h1 h2 h3
  rw[Vb]
  unfold Bg
  by_cases hl:i<96
  ·have hlen:jw.length=96:=by simp[jw]
   rw[bb hl (by rw[dp];omega),ih _ (i+1) (by omega) (by omega) (by simp;omega)]
   rw[List.drop_eq_getElem_cons (show i<jw.length by omega)]
   have e1:IntKind.i64.wrap ((i:Int)*7)=(i:Int)*7:=by rw[az] <;> omega
   have e2:IntKind.i64.wrap ((i:Int)*7+13)=(i:Int)*7+13:=by rw[az] <;> omega
   have e3:IntKind.u8.wrap ((i:Int)*7+13)=jw[i]'(by omega):=by
    simp[IntKind.wrap,IntKind.signed,IntKind.bits,jw]
   rw[e1,e2,e3]
   have h4:o.length+1≤4294967296:=by omega
   have h5:(i:Int)<96:=by omega
   simp[h5,h4]
  ·have hlen:jw.length=96:=by simp[jw]
   rw[List.drop_of_length_le (by omega)]
   have h5:¬(i:Int)<96:=by omega
   simp[h5]
def GF (a0:List Int):Option uT.Res:=bif decide (a0.length≤4294967296) then (sg ((a0,(0,())),())).run fun y=>match y with | .ret ((),((x6,()),()))=>(some (Out.ret ((x6,()),()))) else none
theorem Xy (a0:List Int):Io.run tt SB dr Fw uT Tryz.f19 ((a0,()),())=GF a0:=by kernel_rfl
theorem okWide:HcOk prog 19 (ah uT Yx):=by
 refine aj (n:=400) hm (cs:=Ke) (.cons rT .nil) (lp:=Fw) (fn:=Tryz.f19) (by kernel_rfl) (by kernel_rfl) (by kernel_rfl) uT
  (.step (h0:=aP iC sg) (by kernel_rfl) (aw (n:=400) hm (cs:=Ke) (.cons rT .nil) (lp:=Fw) (fn:=Tryz.f19) (.done (by kernel_rfl)) iC sg ?_) (.done (by kernel_rfl))) Yx ?_
 ·rintro ⟨⟨o,i,⟨⟩⟩,⟨⟩⟩ y hw hy
  obtain ⟨hg,hy⟩:=Tr.guard hy
  simp only[Bool.and_eq_true,decide_eq_true_eq] at hg
  obtain ⟨rfl,hl⟩:=hg
  refine ⟨97,(Td _ o 0 (by omega) (by omega) (by omega)).trans ?_⟩
  rw[← hy];rfl
 ·rintro ⟨⟨b,⟨⟩⟩,⟨⟩⟩ out hw ho
  obtain ⟨hg,ho⟩:=Tr.guard ho
  cases ho
  refine (Xy b).trans ?_
  simp only[decide_eq_true_eq] at hg
  have hg:b.length≤4294967000:=hg
  have h1:b.length≤4294967296:=by omega
  unfold GF sg
  simp[Tr.run_ite,Tr.run_ret,hg,h1]
end
end Go.Proofs.YtomeplopmndbgaaGreat.Sym
