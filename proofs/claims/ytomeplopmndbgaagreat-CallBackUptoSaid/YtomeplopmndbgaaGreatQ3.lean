/- Regions that may be carried out in several orders: one canonical order tells of all. -/
import Derived.OrdersHeld
import Derived.Recover
import Derived.Test.YtomeplopmndbgaaGreatProg
import Derived.Test.YtomeplopmndbgaaGreatRows
import Derived.WalkKit
import Derived.ProofKit
import Derived.OpenShut
import Derived.JoinedCond
import Derived.ChangeStays
import Derived.DataReads
import Derived.Lib.SliceRun
import Derived.Test.YtomeplopmndbgaaGreatQ2

set_option linter.unusedVariables false
set_option linter.unusedSimpArgs false
namespace Go.Proofs.YtomeplopmndbgaaGreat.Sym
open Go
section
variable {P:Program} {ops:Array Oper} {Q:Exit→Act→World→Prop} {md:Region.Mode} {T:List Nat} {S0:World→Prop}
def aev (T:List Nat)(S0:World→Prop)(listed:Array Bool)(w:World):Prop:=(∀j∈T,listed.getD j false=false)→S0 w
def wpAnyL (P:Program)(md:Region.Mode)(ops:Array Oper)(Q:Exit→Act→World→Prop)(T:List Nat)(S0:World→Prop):Nat→Array Bool→Act→World→Prop
 |0,listed,a,w=>Region.ready md ops listed=[]∧Q .normal a w
 |n+1,listed,a,w=>(Region.ready md ops listed=[]→Q .normal a w)∧
  ∀i∈Region.ready md ops listed,wpOp P ops Q i (fun a' w'=>aev T S0 (listed.setIfInBounds i true) w'∧wpAnyL P md ops Q T S0 n (listed.setIfInBounds i true) a' w') a w
theorem wpAnyL.any:∀(n:Nat) {listed:Array Bool} {a:Act} {w:World},wpAnyL P md ops Q T S0 n listed a w→wpAny P md ops Q n listed a w
 |0,_,_,_,h=>h
 |n+1,_,_,_,h=>⟨h.1,fun i hi=>wpOp_mono (fun _ _ h'=>wpAnyL.any n h'.2) (h.2 i hi)⟩
theorem wpAnyL.weaken {S1:World→Prop}(hS:∀w,S0 w→S1 w):∀(n:Nat) {listed:Array Bool} {a:Act} {w:World},wpAnyL P md ops Q T S0 n listed a w→wpAnyL P md ops Q T S1 n listed a w
 |0,_,_,_,h=>h
 |n+1,_,_,_,h=>⟨h.1,fun i hi=>wpOp_mono (fun _ _ h'=>⟨fun ht=>hS _ (h'.1 ht),wpAnyL.weaken hS n h'.2⟩) (h.2 i hi)⟩
theorem wpAnyL.first {i:Nat}{oi:Oper}{v:Value}(hi:ops[i]?=some oi)(hsel:∀(j:Nat) (o:Oper) cs b,ops[j]?=some o→o.op≠.select cs b)
  (hQ:∀c a w,Q (.panic c) (a.put oi.dst v) w→Q (.panic c) a w) {Z:List Nat} (hTZ:∀j∈T,j∈Z) (hZ:∀j∈Z,j≠i∧∀oj,ops[j]?=some oj→∃e∈oj.after,Region.binds md e=true∧(e.on=i∨e.on∈Z)):
  ∀(n:Nat) (listed:Array Bool) (a:Act) (w:World),
   (∀j oj,ops[j]?=some oj→j≠i→listed.getD j true=false→(∀e∈oj.after,Region.binds md e=true→e.on≠i)→oi.apart ops oj=true)→
   i∈Region.ready md ops listed→YieldsIf P ops S0 oi v a→S0 w→(∀j∈Z,listed.getD j false=false)→
   wpAnyL P md ops Q T S0 n (listed.setIfInBounds i true) (a.put oi.dst v) w→wpAnyL P md ops Q T S0 (n+1) listed a w:=by
 intro n
 induction n with
 |zero=>
  intro listed a w _ hr hy hS hno h
  refine ⟨fun e=>(by rw[e] at hr;cases hr),fun j hj=>?_⟩
  by_cases hji:j=i
  ·subst hji;exact hy.wpOp hi hS ⟨fun _=>hS,h⟩
  ·have:=ready_mono hj hji
   rw[h.1] at this
   cases this
 |succ n ih=>
  intro listed a w hfree hr hy hS hno h
  refine ⟨fun e=>(by rw[e] at hr;cases hr),fun j hj=>?_⟩
  by_cases hji:j=i
  ·subst hji;exact hy.wpOp hi hS ⟨fun _=>hS,h⟩
  ·have h1:=h.2 j (ready_mono hj hji)
   obtain ⟨hjun,oj,hoj,hall⟩:=mem_ready.1 hj
   have hnot:∀e∈oj.after,Region.binds md e=true→e.on≠i:=fun e he hb heq=>by
    have h2:=hall e he hb
    have h0:=(mem_ready.1 hr).1
    rw[heq] at h2
    rcases Nat.lt_or_ge i listed.size with h' | h'
    ·simp[h'] at h0 h2;rw[h0] at h2;cases h2
    ·simp[Array.getElem?_eq_none h'] at h2
   have hjZ:j ∉ Z:=fun hin=>by
    obtain ⟨e,he,hb,heq⟩:=(hZ j hin).2 oj hoj
    rcases heq with heq | heq
    ·exact hnot e he hb heq
    ·have h2:=hall e he hb
     have h0:=hno e.on heq
     rw[Array.getD_eq_getD_getElem?] at h0
     rcases Nat.lt_or_ge e.on listed.size with h' | h'
     ·simp[h'] at h0 h2;rw[h0] at h2;cases h2
     ·simp[Array.getElem?_eq_none h'] at h2
   have h2:=wpOp_putIf hoj (hfree j oj hoj hji hjun hnot) (fun cs b=>hsel i oi cs b hi) (fun cs b=>hsel j oj cs b hoj) hQ hy h1
   have hfree':∀k ok,ops[k]?=some ok→k≠i→(listed.setIfInBounds j true).getD k true=false→
     (∀e∈ok.after,Region.binds md e=true→e.on≠i)→oi.apart ops ok=true:=fun k ok hk hki hun hno=>by
    refine hfree k ok hk hki ?_ hno
    by_cases hjk:j=k
    ·subst hjk;exact hjun
    ·rw[getD_set_ne true hjk] at hun;exact hun
   have hno':∀k∈Z,(listed.setIfInBounds j true).getD k false=false:=fun k hk=>by
    rw[getD_set_ne false (fun e=>hjZ (by rw[e];exact hk))];exact hno k hk
   refine wpOp_mono (fun a' w' h3=>?_) h2
   have hs:S0 w':=h3.2.1 fun k hk=>by
    rw[getD_set_ne false (fun e=>hjZ (by rw[e];exact hTZ k hk)),getD_set_ne false (Ne.symm (hZ k (hTZ k hk)).1)];exact hno k (hTZ k hk)
   refine ⟨fun _=>hs,ih (listed.setIfInBounds j true) a' w' hfree' (ready_mono hr (Ne.symm hji)) h3.1 hs hno' ?_⟩
   rw[Array.setIfInBounds_comm _ _ hji]
   exact h3.2.2
theorem Oper.wp_monoQ {o:Oper}{a:Act}{w:World}{K:Act→World→Prop}{Q':Exit→Act→World→Prop}(h:∀e a w,Q e a w→Q' e a w)(hh:o.wp P a w K Q):o.wp P a w K Q':=by
 unfold Oper.wp at *
 generalize (execOp a.eval o).run P w=r at *
 cases r with
 |ok n w'=>
  cases n <;> simp only[Oper.upon] at hh ⊢ <;>
   first
    |exact hh
    |exact h _ _ _ hh
    |exact Calls.mono hh (fun e w'' he=>by cases e <;> first | exact he | (obtain ⟨a0,w0,h0⟩:=he;exact ⟨a0,w0,h _ _ _ h0⟩) | exact h _ _ _ he)
    |exact Rows.mono hh (fun _ _ he=>he)
 |halt x w'=>cases x <;> simp only[Oper.upon] at hh ⊢ <;> first | exact hh | exact h _ _ _ hh
theorem Tx {i:Nat}{K:Act→World→Prop}{Q':Exit→Act→World→Prop}(h:∀e a w,Q e a w→Q' e a w){a:Act}{w:World}(hh:wpOp P ops Q i K a w):wpOp P ops Q' i K a w:=by
 unfold wpOp at *
 split
 ·rename_i ho
  simpa only [ho] using hh
 ·rename_i o ho
  simp only[ho] at hh
  split
  ·rename_i hw
   simp only[hw,if_true] at hh
   rcases hh with hh | ⟨h1,a0,w0,h2⟩
   ·exact .inl (Oper.wp_monoQ h hh)
   ·exact .inr ⟨h1,a0,w0,h _ _ _ h2⟩
  ·rename_i hw
   simpa [hw] using hh
theorem B8 {Q':Exit→Act→World→Prop}(h:∀e a w,Q e a w→Q' e a w):∀(n:Nat) {listed:Array Bool} {a:Act} {w:World},wpAny P md ops Q n listed a w→wpAny P md ops Q' n listed a w
 |0,_,_,_,hh=>⟨hh.1,h _ _ _ hh.2⟩
 |n+1,_,_,_,hh=>⟨fun e=>h _ _ _ (hh.1 e),fun i hi=>Tx h (wpOp_mono (fun _ _ h'=>B8 h n h') (hh.2 i hi))⟩
def ajQ (ops:Array Oper)(a a':Act):Prop:=
 a'.defers=a.defers∧a'.tmps.size=a.tmps.size∧∀t,(∀(j:Nat) (oj:Oper),ops[j]?=some oj→oj.dst≠some t)→a'.tmps[t]?=a.tmps[t]?
def Qh (ops:Array Oper)(Q:Exit→Act→World→Prop):Exit→Act→World→Prop
 |.panic c,a,w=>∀a',ajQ ops a a'→Q (.panic c) a' w
 |e,a,w=>Q e a w
theorem Qh.of {e:Exit}{a:Act}{w:World}(h:Qh ops Q e a w):Q e a w:=by
 cases e <;> first | exact h | exact h a ⟨rfl,rfl,fun _ _=>rfl⟩
theorem Qh.put {i:Nat}{oi:Oper}(hi:ops[i]?=some oi)(v:Value)(c:List PanicEntry)(a:Act)(w:World)(h:Qh ops Q (.panic c) (a.put oi.dst v) w):Qh ops Q (.panic c) a w:=by
 intro a' ⟨h1,h2,h3⟩
 refine h a' ⟨h1.trans (Act.put_defers' _ _ _).symm,?_,fun t ht=>?_⟩
 ·rw[h2];cases oi.dst <;> simp[Act.put]
 ·rw[h3 t ht]
  cases hd:oi.dst with
  |none=>rfl
  |some d=>
   have:d≠t:=by rintro rfl;exact ht i oi hi hd
   simp[Act.put,Array.getElem?_setIfInBounds_ne this]
end
theorem NG {ops:Array Oper}{j t:Nat}{oj:Oper}(hj:ops[j]?=some oj)(hd:oj.dst=some t):(mv ops).testBit t=true:=by
 unfold mv
 have hm:oj∈ops.toList:=List.mem_of_getElem? (by simpa using hj)
 generalize ops.toList=l at hm
 have mono:∀(l:List Oper) (m:Nat),m.testBit t=true→(l.foldl (fun m o=>match o.dst with | some d=>m ||| 2 ^ d | none=>m) m).testBit t=true:=by
  intro l
  induction l with
  |nil=>intro m h;exact h
  |cons o l ih=>
   intro m h
   rw[List.foldl_cons]
   refine ih _ ?_
   split
   ·rw[Nat.testBit_or,h];rfl
   ·exact h
 generalize 0=m
 induction l generalizing m with
 |nil=>cases hm
 |cons o l ih=>
  rw[List.foldl_cons]
  rcases List.mem_cons.1 hm with rfl | hm
  ·refine mono l _ ?_
   rw[hd]
   simp only
   rw[Nat.testBit_or,Nat.testBit_two_pow_self,Bool.or_true]
  ·exact ih hm _
theorem Bz {G:Gh}{w:World}(m:Nat):∀(i:Nat) {vs:List V} {us us':List Value},All2 (Rv G w) vs us→us'.length=us.length→(∀t,m.testBit (i+t)=false→us'[t]?=us[t]?)→All2 (Rv G w) (By m i vs) us'
 |_,[],[],[],_,_,_=>trivial
 |i,v::vs,u::us,u'::us',h,hl,ht=>by
  refine ⟨?_,Bz m (i+1) h.2 (by simpa using hl) fun t h'=>?_⟩
  ·cases hb:m.testBit i with
   |true=>trivial
   |false=>
    have:=ht 0 (by simpa using hb)
    simp only[List.getElem?_cons_zero,zC] at this
    rw[this];exact h.1
  ·have:=ht (t+1) (by rw[← h'];congr 1;omega)
   simpa using this
 |_,[],_::_,_,h,_,_=>h.elim
 |_,_::_,[],_,h,_,_=>h.elim
 |_,[],[],_::_,_,hl,_=>by simp at hl
 |_,_::_,_::_,[],_,hl,_=>by simp at hl
theorem Rel.mask {F:Fra}{G:Gh}{A:AS}{a a':Act}{cst:List (Array Value)}{w:World}(R:Rel F G A a.tmps cst w){ops:Array Oper}(hn:ajQ ops a a'):
  Rel F G { A with tm:=By (mv ops) 0 A.tm } a'.tmps cst w:=
 ⟨Bz _ 0 R.tm (by simpa using hn.2.1) fun t ht=>by
  have:=hn.2.2 t fun j oj hj hd=>by rw[Nat.zero_add,NG hj hd] at ht;cases ht
  simpa using this,R.stk,R.ob,R.gh⟩
def Cv (ops:Array Oper)(i:Nat)(Z:List Nat)(j:Nat):List Nat:=match ops[j]? with
 |some o=>bif o.after.any fun e=>Region.binds .any e&&(e.on == i || Z.any (· == e.on)) then j::Z else Z
 |none=>Z
def yX (ops:Array Oper)(i:Nat):List Nat:=(List.range ops.size).foldl (Cv ops i) []
def Mb (ops:Array Oper)(j i:Nat):Bool:=(yX ops i).any (· == j)
def CL (ops:Array Oper)(T:List Nat)(listed:Array Bool)(i:Nat):Bool:=
 Region.free .any ops listed i&&((Region.ready .any ops listed).contains i&&((T.all fun j=>Mb ops j i)&&(yX ops i).all fun j=>!(j == i)&&!listed.getD j false))
theorem Bp (ops:Array Oper)(i:Nat):∀j∈yX ops i,∀oj,ops[j]?=some oj→∃e∈oj.after,Region.binds .any e=true∧(e.on=i∨e.on∈yX ops i):=by
 have key:∀(l Z:List Nat),(∀j∈Z,∀oj,ops[j]?=some oj→∃e∈oj.after,Region.binds .any e=true∧(e.on=i∨e.on∈Z))→
   ∀j∈l.foldl (Cv ops i) Z,∀oj,ops[j]?=some oj→∃e∈oj.after,Region.binds .any e=true∧(e.on=i∨e.on∈l.foldl (Cv ops i) Z):=by
  intro l
  induction l with
  |nil=>intro Z h;exact h
  |cons k l ih=>
   intro Z h
   rw[List.foldl_cons]
   refine ih _ fun j hj oj hoj=>?_
   unfold Cv at hj ⊢
   cases hk:ops[k]? with
   |none=>rw[hk] at hj;exact h j hj oj hoj
   |some o=>
    rw[hk] at hj
    simp only at hj ⊢
    cases hc:o.after.any fun e=>Region.binds .any e&&(e.on == i || Z.any (· == e.on)) with
    |false=>rw[hc] at hj;exact h j hj oj hoj
    |true=>
     rw[hc] at hj
     simp only[cond_true] at hj ⊢
     rcases List.mem_cons.1 hj with rfl | hj
     ·rw[hk] at hoj;cases hoj
      obtain ⟨e,he,hb⟩:=Array.any_eq_true'.1 hc
      simp only[zA,Bool.or_eq_true,beq_iff_eq,List.any_eq_true,exists_eq_right] at hb
      exact ⟨e,he,hb.1,hb.2.imp id fun h=>List.mem_cons_of_mem _ h⟩
     ·obtain ⟨e,he,hb,h2⟩:=h j hj oj hoj
      exact ⟨e,he,hb,h2.imp id fun h=>List.mem_cons_of_mem _ h⟩
 exact key _ [] fun j hj=>by cases hj
def L0 (ops:Array Oper)(listed:Array Bool)(i:Nat):Bool:=match Region.ready .any ops listed with
 |[j]=>j == i
 |_=>false
def LR (tt:TT)(ops:Array Oper)(i:Nat):Bool:=match ops[i]? with
 |some o=>!EB tt o.op
 |none=>false
def kI:List (Nat×Nat)→List Nat
 |[]=>[]
 |(i,m)::is=>bif Nat.beq m 4 then i::kI is else kI is
def w7 (l:Array Bool):List Nat→Array Bool
 |[]=>l
 |j::js=>w7 (l.setIfInBounds j true) js
def tK (ops:Array Oper)(j:Nat):Bool:=match ops[j]? with
 |some o=>(match o.op with | .alloc _=>true | _=>false)&&(o.after.isEmpty&&(o.guard.isNone&&(match o.dst with
  |some d=>(List.range ops.size).all fun k=>k == j || (match ops[k]? with | some o'=>!(o'.dst == some d) | none=>true)
  |none=>false)))
 |none=>false
def pg (ops:Array Oper)(l0:Array Bool)(pf:List Nat):Bool:=pf.all fun j=>tK ops j&&!l0.getD j true
def ah1 (ops:Array Oper)(l0:Array Bool)(pf:List Nat)(i:Nat):Bool:=(Region.ready .any ops l0).contains i&&(Region.ready .any ops (w7 l0 pf)).all (· == i)
def W0:Op→Bool
 |.pick ..=>true
 |_=>false
def LQ (ops:Array Oper)(i:Nat):Bool:=match ops[i]? with
 |some o=>W0 o.op
 |none=>false
def vC (tt:TT)(ops:Array Oper)(T:List Nat):Bool→Array Bool→List (Nat×Nat)→Bool
 |_,listed,[]=>(Region.ready .any ops listed).isEmpty
 |ph,listed,(i,m)::is=>match m with
  |0=>CL ops T listed i&&LR tt ops i&&(!(kI is).contains i&&pg ops listed (kI is))&&vC tt ops T ph (listed.setIfInBounds i true) is
  |1=>CL ops T listed i&&ph&&(!(kI is).contains i&&pg ops listed (kI is))&&vC tt ops T ph (listed.setIfInBounds i true) is
  |2=>L0 ops listed i&&T.all (fun j=>!(j == i))&&(kI is).isEmpty&&vC tt ops T (ph&&LQ ops i) (listed.setIfInBounds i true) is
  |n+3=>bif Nat.beq n 1 then (!(kI is).contains i&&pg ops listed (i::kI is))&&(Region.ready .any ops (w7 listed (kI is))).all (· == i)&&vC tt ops T false (listed.setIfInBounds i true) is
   else bif Nat.beq n 3 then ah1 ops listed (kI is) i&&T.all (fun j=>!(j == i))&&(!(kI is).contains i&&pg ops listed (kI is))&&vC tt ops T false (listed.setIfInBounds i true) is
   else L0 ops listed i&&(T.any (· == i)&&decide (i<listed.size))&&(kI is).isEmpty&&vC tt ops T false (listed.setIfInBounds i true) is
section
variable {P:Program} {tt:TT} {ops:Array Oper} {T:List Nat}
theorem Qh.post {R:Type}{F:Fra}{G':Gh}{A':AS}{a':Act}{cst:List (Array Value)}{w':World}{r:R}{K:Ex→AS→Option R}{Q:Exit→Act→World→Prop}{dfs:List Deferred}(hK:Gr F cst dfs r K Q)
  (R':Rel F G' A' a'.tmps cst w') (hd:a'.defers=dfs) {v:V} (hk:K (.panic v) { A' with tm:=By (mv ops) 0 A'.tm }=some r) (u:Value) (hu:Rv G' w' v u):
  Qh ops Q (.panic [{ v:=u,recovered:=false }]) a' w':=by
 intro a'' hn
 exact hK (.panic v) _ G' a'' w' (R'.mask hn) (hn.1.trans hd) hk u hu
structure Hold (G0:Gh) (w0:World) (hid:List Nat) (G:Gh) (w:World):Prop where
 sub:∀b o,G0.S b o→G.S b o
 mu:∀key∈hid,∀b,G0.mu key=some b→G.mu key=some b
 agr:Agr (·∈hid) G0 w0 w
theorem Hold.step {G0 G G':Gh}{w0 w w':World}{hid:List Nat}(h:Hold G0 w0 hid G w)(u:UntH G hid w G' w'):Hold G0 w0 hid G' w' where
 sub:=fun b o hs=>(u.1 b o (h.sub b o hs)).1
 mu:=fun key hk b hb=>(u.2 key hk b (h.mu key hk b hb)).1
 agr:=⟨fun b o hs=>(u.1 b o (h.sub b o hs)).2.trans (h.agr.1 b o hs),fun key b hk hb=>(u.2 key hk b (h.mu key hk b hb)).2.trans (h.agr.2 key b hk hb)⟩
theorem GY:∀(X:List Nat) (l:Array Bool) (k:Nat),k ∉ X→(w7 l X)[k]?=l[k]?
 |[],_,_,_=>rfl
 |j::js,l,k,h=>by
  rw[w7,GY js _ k (fun e=>h (List.mem_cons_of_mem _ e)),Array.getElem?_setIfInBounds_ne]
  exact fun e=>h (e▸List.mem_cons_self)
theorem vy:∀(X:List Nat) (l:Array Bool) (k:Nat),l.getD k false=true→(w7 l X).getD k false=true
 |[],_,_,h=>h
 |j::js,l,k,h=>vy js _ k (getD_set_true h)
theorem GZ:∀(X:List Nat) (l:Array Bool) (k:Nat),k∈X→k<l.size→(w7 l X).getD k false=true
 |j::js,l,k,h,hk=>by
  rw[w7]
  rcases List.mem_cons.1 h with rfl | h
  ·exact vy js _ _ (by simp[hk])
  ·exact GZ js _ k h (by simpa using hk)
theorem LP:∀is:List (Nat×Nat),(kI is).length≤is.length
 |[]=>Nat.le_refl _
 |(i,m)::is=>by
  rw[kI]
  cases Nat.beq m 4 with
  |true=>have:=LP is;simp only[cond_true,zN];omega
  |false=>have:=LP is;simp only[cond_false,zN];omega
theorem qh:∀(is:List (Nat×Nat)) {j d:Nat} {o:Oper},j∈kI is→ops[j]?=some o→o.dst=some d→d∈Eh ops is
 |[],_,_,_,hj,_,_=>by simp[kI] at hj
 |(i,m)::is,j,d,o,hj,ho,hd=>by
  rw[kI] at hj
  rw[Eh]
  cases hm:Nat.beq m 4 with
  |true=>
   rw[hm] at hj
   simp only[cond_true] at hj ⊢
   rcases List.mem_cons.1 hj with rfl | hj
   ·rw[ho,Option.bind_some,hd];simp
   ·have:=qh is hj ho hd
    split
    ·exact List.mem_cons_of_mem _ this
    ·exact this
  |false=>rw[hm] at hj;exact qh is hj ho hd
theorem w8 {tt:TT}{kb:Nat}:∀(is:List (Nat×Nat)),QF tt ops is=true→∀{j:Nat},j∈kI is→∀o t d,ops[j]?=some o→o.op=.alloc t→o.dst=some d→∀z,∃A',evA tt kb z o.dst o.op=some (true,A')
 |[],_,j,hj=>by simp[kI] at hj
 |(i,m)::is,h,j,hj=>by
  intro o t d ho hop hd z
  rw[kI] at hj
  rw[QF] at h
  simp only[zA] at h
  cases hm:Nat.beq m 4 with
  |true=>
   rw[hm] at hj h
   simp only[cond_true] at hj h
   rcases List.mem_cons.1 hj with rfl | hj
   ·have h1:=h.1
    rw[ho] at h1
    simp only[hop] at h1
    rw[hop,hd]
    simp only[evA]
    rw[h1]
    exact ⟨_,rfl⟩
   ·exact w8 is h.2 hj o t d ho hop hd z
  |false=>rw[hm] at hj;exact w8 is h.2 hj o t d ho hop hd z
theorem mw {j:Nat}(h:tK ops j=true):∃o t d,ops[j]?=some o∧o.op=.alloc t∧o.after = #[]∧o.guard=none∧o.dst=some d∧∀k o',k≠j→ops[k]?=some o'→o'.dst≠some d:=by
 unfold tK at h
 split at h
 ·rename_i o ho
  simp only[zA] at h
  obtain ⟨h1,h2,h3,h4⟩:=h
  split at h1
  ·rename_i t ht
   split at h4
   ·rename_i d hd
    refine ⟨o,t,d,ho,ht,by simpa using h2,by simpa using h3,hd,fun k o' hk hk'=>?_⟩
    simp only[zJ,List.mem_range,Bool.or_eq_true,beq_iff_eq] at h4
    have:=(h4 k (Array.getElem?_eq_some_iff.1 hk').1).resolve_left hk
    rw[hk'] at this
    simpa using this
   ·cases h4
  ·cases h1
 ·cases h
theorem ee {l0:Array Bool}{pf:List Nat}(h:pg ops l0 pf=true):∀j∈pf,tK ops j=true∧l0.getD j true=false:=by
 intro j hj
 have:=List.all_eq_true.1 h j hj
 simpa using this
theorem V.map_noKey {v:V}{k:Nat}(h:v.hasKey k=false):v.map (C.noKey k)=v:=by
 have hl:∀cs:List C,cs.any (·.hasKey k)=false→cs.map (C.noKey k)=cs:=fun cs h=>by
  conv=>rhs;rw[← List.map_id cs]
  refine List.map_congr_left fun c hc=>?_
  have:=List.any_eq_false.1 h c hc
  simp[C.noKey,this]
 cases v with
 |one c=>simp only[V.map];simp only[V.hasKey] at h;simp[C.noKey,h]
 |agg cs=>simp only[V.map];rw[hl cs h]
 |tup ps=>
  simp only[V.map]
  congr 1
  conv=>rhs;rw[← List.map_id ps]
  refine List.map_congr_left fun p hp=>?_
  have:=List.any_eq_false.1 h p hp
  rw[hl p.2 (by simpa using this)];rfl
 |any=>rfl
theorem AS.map_noKey {A:AS}{k:Nat}(h:A.uses k=false):A.map (C.noKey k)=A:=by
 unfold AS.uses at h
 simp only[Bool.or_eq_false_iff] at h
 obtain ⟨⟨h1,h2⟩,h3⟩:=h
 obtain ⟨tm,stk,ob⟩:=A
 have ht:∀vs:List V,(∀v∈vs,v.map (C.noKey k)=v)→vs.map (V.map (C.noKey k))=vs:=fun vs h=>by
  conv=>rhs;rw[← List.map_id vs]
  exact List.map_congr_left h
 simp only[AS.map]
 congr 1
 ·exact ht tm fun v hv=>V.map_noKey (by have:=List.any_eq_false.1 h1 v hv;simpa using this)
 ·conv=>rhs;rw[← List.map_id stk]
  refine List.map_congr_left fun vs hvs=>?_
  have:=List.any_eq_false.1 h2 vs hvs
  exact ht vs fun v hv=>V.map_noKey (by
   have h':vs.any (·.hasKey k)=false:=by simpa using this
   have:=List.any_eq_false.1 h' v hv;simpa using this)
 ·conv=>rhs;rw[← List.map_id ob]
  refine List.map_congr_left fun o ho=>?_
  have:=List.any_eq_false.1 h3 o ho
  cases o with
  |none=>rfl
  |some cs=>
   have h':cs.any (·.hasKey k)=false:=by simpa using this
   simp only[Option.map_some,id]
   congr 1
   conv=>rhs;rw[← List.map_id cs]
   refine List.map_congr_left fun c hc=>?_
   have:=List.any_eq_false.1 h' c hc
   simp[C.noKey,this]
theorem Rc.noKey' {G:Gh}{w:World}{c:C}{v:Value}(k:Nat)(h:Rc G w c v):Rc G w (c.noKey k) v:=by
 unfold C.noKey
 split
 ·exact h.cell
 ·exact h
theorem Rel.forgetO {F:Fra}{G:Gh}{A:AS}{ts:Array Value}{cst:List (Array Value)}{w:World}(R:Rel F G A ts cst w)(k:Nat):Rel F G (A.forgetO k) ts cst w:=by
 have R':=R.map (f:=C.noKey k) (fun c v h=>h.noKey' k) (pD k) (fun _ _ h=>⟨h,rfl⟩) R.gh
 refine ⟨R'.tm,R'.stk,fun j cs hj=>?_,R.gh⟩
 simp only[AS.forgetO,List.getElem?_set] at hj
 split at hj
 ·split at hj <;> cases hj
 ·exact R'.ob j cs hj
theorem Rel.anyT {F:Fra}{G:Gh}{A:AS}{ts:Array Value}{cst:List (Array Value)}{w:World}(R:Rel F G A ts cst w)(d:Nat):Rel F G (A.put (some d) .any) ts cst w:=
 ⟨R.tm.set_left d fun _ _=>trivial,R.stk,R.ob,R.gh⟩
theorem Rel.clean {F:Fra}{G:Gh}{ts:Array Value}{cst:List (Array Value)}{w:World}{kb:Nat}:∀(ds:List Nat) {A:AS},Rel F G A ts cst w→Rel F G (o9 kb ds A) ts cst w
 |[],_,R=>R
 |d::ds,_,R=>Rel.clean ds ((R.forgetO (kb+d)).anyT d)
theorem All2.set_right {α β:Type}{R:α→β→Prop}:∀{xs:List α} {ys:List β} (n:Nat) {b:β},All2 R xs ys→(∀a,xs[n]?=some a→R a b)→All2 R xs (ys.set n b)
 |[],[],_,_,_,_=>by simp[All2]
 |_::_,_::_,0,_,h,h'=>⟨h' _ rfl,h.2⟩
 |_::_,_::_,n+1,_,h,h'=>⟨h.1,All2.set_right n h.2 fun b hb=>h' b (by simpa using hb)⟩
 |[],_::_,_,_,h,_=>h.elim
 |_::_,[],_,_,h,_=>h.elim
theorem Rel.newFl {F:Fra}{G:Gh}{A:AS}{ts:Array Value}{cst:List (Array Value)}{w w':World}{kb d:Nat}(R:Rel F G A ts cst w)(g:Grew w w')(hk0:F.mu0 (kb+d)=none)(hc:qR kb A d=true)(u:Value):
  Rel F (G.newOb (kb+d) w.heap.size) A (ts.setIfInBounds d u) cst w':=by
 unfold qR at hc
 simp only[zA,Bool.not_eq_true'] at hc
 obtain ⟨h1,h2,h3⟩:=hc
 have e:=AS.map_noKey h1
 have go:=Goes.newOb R.gh g (kb+d)
 have hf:∀c v,Rc G w c v→Rc (G.newOb (kb+d) w.heap.size) w' (c.noKey (kb+d)) v:=fun c v h=>h.noKey go
 have ht:All2 (Rv (G.newOb (kb+d) w.heap.size) w') (A.map (C.noKey (kb+d))).tm ts.toList:=R.tm.map_left _ fun a b h=>Rv.map hf h
 have hs:All2 (fun vs (t:Array Value)=>All2 (Rv (G.newOb (kb+d) w.heap.size) w') vs t.toList) (A.map (C.noKey (kb+d))).stk cst:=R.stk.map_left _ fun a b h=>h.map_left _ fun a b h=>Rv.map hf h
 rw[e] at ht hs
 refine ⟨?_,hs,fun k cs hk=>?_,R.gh.newOb g (kb+d) hk0⟩
 ·rw[Array.toList_setIfInBounds]
  refine ht.set_right d fun v hv=>?_
  rw[hv] at h2
  cases v <;> first | trivial | cases h2
 ·have hne:k≠kb+d:=by rintro rfl;rw[hk] at h3;cases h3
  have hk':(A.map (C.noKey (kb+d))).ob[k]?=some (some cs):=by rw[e];exact hk
  obtain ⟨cs0,h0,rfl⟩:=AS.map_ob hk'
  obtain ⟨b,o',hm,hh',hr'⟩:=R.ob k cs0 h0
  exact ⟨b,o',by simp[Gh.newOb,hne,hm],(g.old b (R.gh.mu k b hm).2.2).trans hh',hr'.map hf (pD _)⟩
theorem Fe (htt:gH P tt){o:Oper}{t d kb:Nat}{A A':AS}{chk:Bool}(ho:o.op=.alloc t)(hd:o.dst=some d)(h:evA tt kb A o.dst o.op=some (chk,A'))(a:Act)(w:World):
  ∃cur:Array Value,(execOp a.eval o).run P w=.ok (.value (.pointer (some ⟨w.heap.size,0,none⟩))) (w.alloc (.cells cur t))∧cur.toList=(tt.at t).zero∧(tt.at t).zero.all Value.oneCell'=true∧
   A'=(A.newOb (kb+d) (oh tt (ff (kb+d) 0) t)).put (some d) (.one (.ptr (kb+d) 0)):=by
 rw[ho,hd] at h
 simp only[evA] at h
 cases hz:(GL tt t).isSome&&(tt.at t).zero.all Value.oneCell' with
 |false=>rw[hz] at h;cases h
 |true=>
  rw[hz] at h
  simp only[cond_true,zC,zD] at h
  obtain ⟨_,rfl⟩:=h
  simp only[zA] at hz
  obtain ⟨n,hn⟩:=Option.isSome_iff_exists.1 hz.1
  obtain ⟨hT,_⟩:=og htt hn
  obtain ⟨z,hzr,hzc,_⟩:=hT.zero w
  refine ⟨z.cells,?_,hzc,hz.2,rfl⟩
  obtain ⟨dst,op,type,pos,after,guard⟩:=o
  simp only at ho hd
  subst ho
  simp[execOp,Instr.alloc,hzr,newVar,nK]
def FlDone (tt:TT)(ops:Array Oper)(kb j:Nat)(G:Gh)(a:Act)(w:World):Prop:=
 ∃(o:Oper) (t d b:Nat) (cur:Array Value),ops[j]?=some o∧o.op=.alloc t∧o.dst=some d∧G.mu (kb+d)=some b∧(∀u,a.tmps[d]?=some u→u=.pointer (some ⟨b,0,none⟩))∧
  w.heap[b]?=some (.cells cur t (0,0))∧cur.toList=(tt.at t).zero
theorem Act.put_get {a:Act}{dst:Option Tmp}{d:Nat}(h:dst≠some d)(u:Value):(a.put dst u).tmps[d]?=a.tmps[d]?:=by
 cases dst with
 |none=>rfl
 |some d'=>
  have:d'≠d:=fun e=>h (by rw[e])
  simp[Act.put,Array.getElem?_setIfInBounds_ne this]
theorem FlDone.put {kb i j:Nat}{oi:Oper}{G:Gh}{a:Act}{w:World}(h:FlDone tt ops kb j G a w)(hf:tK ops j=true)(hi:ops[i]?=some oi)(hne:i≠j)(u:Value):FlDone tt ops kb j G (a.put oi.dst u) w:=by
 obtain ⟨o,t,d,b,cur,ho,h1,h2,h3,h4,h5,h6⟩:=h
 refine ⟨o,t,d,b,cur,ho,h1,h2,h3,fun v hv=>h4 v ?_,h5,h6⟩
 obtain ⟨o',t',d',ho',_,_,_,hd',hall⟩:=mw hf
 rw[ho] at ho';cases ho'
 rw[h2] at hd';cases hd'
 rw[Act.put_get (hall i oi hne hi)] at hv
 exact hv
theorem FlDone.unt {kb j:Nat}{ks:List Nat}{G G':Gh}{a:Act}{w w':World}(h:FlDone tt ops kb j G a w)(hk:∀o d,ops[j]?=some o→o.dst=some d→kb+d∈ks)(hu:UntH G ks w G' w'):FlDone tt ops kb j G' a w':=by
 obtain ⟨o,t,d,b,cur,ho,h1,h2,h3,h4,h5,h6⟩:=h
 obtain ⟨e1,e2⟩:=hu.2 _ (hk o d ho h2) b h3
 exact ⟨o,t,d,b,cur,ho,h1,h2,e1,h4,e2.trans h5,h6⟩
theorem Rel.found {F:Fra}{G:Gh}{A:AS}{a:Act}{cst:List (Array Value)}{w:World}{kb d t b:Nat}{cur:Array Value}(R:Rel F G A a.tmps cst w)(h3:G.mu (kb+d)=some b)(h4:∀u,a.tmps[d]?=some u→u=.pointer (some ⟨b,0,none⟩))
  (h5:w.heap[b]?=some (.cells cur t (0,0))) (h6:cur.toList=(tt.at t).zero) (hz:(tt.at t).zero.all Value.oneCell'=true):
  Rel F G ((A.newOb (kb+d) (oh tt (ff (kb+d) 0) t)).put (some d) (.one (.ptr (kb+d) 0))) a.tmps cst w:=by
 have R':=R.map (f:=C.noKey (kb+d)) (fun c v h=>h.noKey' (kb+d)) (pD _) (fun _ _ h=>⟨h,rfl⟩) R.gh
 refine ⟨?_,R'.stk,?_,R.gh⟩
 ·refine R'.tm.set_left d fun u hu=>?_
  rw[Array.getElem?_toList] at hu
  exact ⟨b,h3,h4 u hu⟩
 ·intro k cs hk
  rcases rC _ (kb+d) k _ cs hk with ⟨rfl,rfl⟩ | ⟨hne,hk'⟩
  ·exact ⟨b,_,h3,h5,.inl ⟨cur,t,rfl,by rw[h6];exact kH _ _ hz⟩⟩
  ·exact R'.ob k cs hk'
structure FlSt (P:Program) (tt:TT) (ops:Array Oper) (T:List Nat) (kb:Nat) (F:Fra) (cst:List (Array Value)) (dfs:List Deferred) (A:AS) (hid:List Nat) (G0:Gh) (w0:World) (l0:Array Bool) (pf:List Nat) (L:Nat)
  (ud:List Nat) (n:Nat) (listed:Array Bool) (G:Gh) (a:Act) (w:World):Prop where
 size:listed.size=l0.size
 get:∀k,k ∉ pf→listed[k]?=l0[k]?
 nodup:ud.Nodup
 und:∀j∈ud,j∈pf∧listed[j]?=l0[j]?
 done:∀j∈pf,j ∉ ud→listed.getD j false=true∧FlDone tt ops kb j G a w
 cnt:n+pf.length=L+ud.length
 rel:Rel F G A a.tmps cst w
 hold:(∀j∈T,listed.getD j false=false)→Hold G0 w0 hid G w
 dfs:a.defers=dfs
theorem d9 {l l':Array Bool}{k:Nat}(h:l[k]?=l'[k]?)(d:Bool):l.getD k d=l'.getD k d:=by
 rw[Array.getD_eq_getD_getElem?,Array.getD_eq_getD_getElem?,h]
theorem FlSt.fl (htt:gH P tt){kb:Nat}{F:Fra}(hkb:∀d,F.mu0 (kb+d)=none){cst:List (Array Value)}{dfs:List Deferred}{A:AS}{hid:List Nat}{G0:Gh}{w0:World}{l0:Array Bool}{pf:List Nat}{L:Nat}
  {ud:List Nat} {n:Nat} {listed:Array Bool} {G:Gh} {a:Act} {w:World} (S:FlSt P tt ops T kb F cst dfs A hid G0 w0 l0 pf L ud (n+1) listed G a w) (hp:pg ops l0 pf=true)
  (hcl:∀j∈pf,∀o d,ops[j]?=some o→o.dst=some d→qR kb A d=true) (hal:∀j∈pf,∀o t d,ops[j]?=some o→o.op=.alloc t→o.dst=some d→∀z,∃A',evA tt kb z o.dst o.op=some (true,A'))
  (hhid:∀j∈pf,∀o d,ops[j]?=some o→o.dst=some d→kb+d ∉ hid)
  {Q:Exit→Act→World→Prop} {k:Nat} (hk:k∈ud):wpOp P ops Q k (fun a' w'=>∃G',FlSt P tt ops T kb F cst dfs A hid G0 w0 l0 pf L (ud.erase k) n (listed.setIfInBounds k true) G' a' w') a w:=by
 obtain ⟨hkp,hkl⟩:=S.und k hk
 obtain ⟨hf,hu0⟩:=ee hp k hkp
 obtain ⟨o,t,d,ho,hop,haf,hgd,hd,hall⟩:=mw hf
 obtain ⟨A',hz⟩:=hal k hkp o t d ho hop hd A
 obtain ⟨cur,hrun,hcur,hzz,_⟩:=Fe htt hop hd hz a w
 have hlt:k<l0.size:=by
  rcases Nat.lt_or_ge k l0.size with h | h
  ·exact h
  ·rw[Array.getD_eq_getD_getElem?,Array.getElem?_eq_none h] at hu0;cases hu0
 unfold wpOp
 rw[ho]
 simp only
 rw[if_pos (by simp[Region.wanted,hgd])]
 refine .inl ?_
 unfold Oper.wp
 rw[hrun]
 simp only[Oper.upon]
 have hg:=Grew.alloc w (.cells cur t)
 have go:=Goes.newOb S.rel.gh hg (kb+d)
 have hh:(w.alloc (.cells cur t)).heap[w.heap.size]?=some (.cells cur t (0,0)):=heap_alloc_new w _
 refine ⟨G.newOb (kb+d) w.heap.size,⟨by simp[S.size],fun j hj=>?_,S.nodup.erase _,fun j hj=>?_,fun j hj hju=>?_,?_,?_,fun hT=>?_,(Act.put_defers' _ _ _).trans S.dfs⟩⟩
 ·rw[Array.getElem?_setIfInBounds_ne (by rintro rfl;exact hj hkp)];exact S.get j hj
 ·have hjk:j≠k:=by rintro rfl;exact absurd hj (by rw[S.nodup.mem_erase_iff];simp)
  obtain ⟨h1,h2⟩:=S.und j (List.mem_of_mem_erase hj)
  exact ⟨h1,by rw[Array.getElem?_setIfInBounds_ne (Ne.symm hjk)];exact h2⟩
 ·by_cases hjk:j=k
  ·subst hjk
   refine ⟨by simp[S.size,hlt],o,t,d,w.heap.size,cur,ho,hop,hd,by simp[Gh.newOb],fun u hu=>?_,hh,hcur⟩
   rw[hd] at hu
   simp only[Act.put,Array.getElem?_setIfInBounds_self] at hu
   split at hu
   ·cases hu;rfl
   ·cases hu
  ·have hju':j ∉ ud:=fun h=>hju (by rw[S.nodup.mem_erase_iff];exact ⟨hjk,h⟩)
   obtain ⟨h1,h2⟩:=S.done j hj hju'
   refine ⟨getD_set_true h1,?_⟩
   have h3:=h2.put (ee hp j hj).1 ho (Ne.symm hjk) (.pointer (some ⟨w.heap.size,0,none⟩))
   obtain ⟨o',t',d',b',cur',ho',g1,g2,g3,g4,g5,g6⟩:=h3
   have hdd:d'≠d:=by rintro rfl;exact hall j o' hjk ho' g2
   exact ⟨o',t',d',b',cur',ho',g1,g2,by simp[Gh.newOb,hdd,g3],g4,(hg.old b' (S.rel.gh.mu _ b' g3).2.2).trans g5,g6⟩
 ·have h1:=S.cnt
  have h2:(ud.erase k).length+1=ud.length:=by
   have:=List.length_erase_of_mem hk
   have:=List.length_pos_of_mem hk
   omega
  omega
 ·have:=S.rel.newFl hg (hkb d) (hcl k hkp o d ho hd) (.pointer (some ⟨w.heap.size,0,none⟩))
  rw[hd]
  exact this
 ·have h0:=S.hold fun j hj=>by
   cases hh:listed.getD j false with
   |false=>rfl
   |true=>have:=hT j hj;rw[getD_set_true hh] at this;cases this
  refine h0.step ⟨go.kept,fun key hkey b hb=>?_⟩
  have:key≠kb+d:=by rintro rfl;exact hhid k hkp o d ho hd hkey
  exact ⟨by simp[Gh.newOb,this,hb],hg.old b (S.rel.gh.mu key b hb).2.2⟩
theorem acK {l0 listed:Array Bool}{pf:List Nat}(hp:pg ops l0 pf=true)(hg:∀k,k ∉ pf→listed[k]?=l0[k]?){i:Nat}(hip:i ∉ pf)(hr:i∈Region.ready .any ops l0):i∈Region.ready .any ops listed:=by
 rw[mem_ready] at hr ⊢
 obtain ⟨h1,o',h2,h3⟩:=hr
 refine ⟨by rw[d9 (hg i hip)];exact h1,o',h2,fun e he hb=>?_⟩
 have h4:=h3 e he hb
 by_cases hep:e.on∈pf
 ·have:=(ee hp _ hep).2
  rw[Array.getD_eq_getD_getElem?] at this h4
  cases hx:l0[e.on]? with
  |none=>rw[hx] at this;cases this
  |some x=>rw[hx] at this h4;simp at this h4;rw[this] at h4;cases h4
 ·rw[d9 (hg _ hep)];exact h4
theorem LO {l0:Array Bool}{pf:List Nat}(hp:pg ops l0 pf=true){j:Nat}(hj:j∈pf):j<l0.size:=by
 have:=(ee hp j hj).2
 rcases Nat.lt_or_ge j l0.size with h | h
 ·exact h
 ·rw[Array.getD_eq_getD_getElem?,Array.getElem?_eq_none h] at this;cases this
theorem Pb {l0 listed:Array Bool}{X:List Nat}{k:Nat}(hX:∀j∈X,j<l0.size)(hl:∀j,listed.getD j false=true→j∈X∨l0.getD j false=true)(hkX:k ∉ X)(hk:listed[k]?=l0[k]?)(hr:k∈Region.ready .any ops listed):
  k∈Region.ready .any ops (w7 l0 X):=by
 rw[mem_ready] at hr ⊢
 obtain ⟨h1,o',h2,h3⟩:=hr
 refine ⟨?_,o',h2,fun e he hb=>?_⟩
 ·rw[d9 ((GY X l0 k hkX).trans hk.symm)];exact h1
 ·rcases hl _ (h3 e he hb) with h | h
  ·exact GZ X l0 _ h (hX _ h)
  ·exact vy X l0 _ h
theorem IV {listed:Array Bool}{k:Nat}(h:listed.getD k false=true):k ∉ Region.ready .any ops listed:=by
 intro hr
 have h0:=(mem_ready.1 hr).1
 rw[Array.getD_eq_getD_getElem?] at h h0
 cases hx:listed[k]? with
 |none=>rw[hx] at h0;cases h0
 |some x=>rw[hx] at h h0;simp at h h0;rw[h] at h0;cases h0
theorem FlSt.next {kb:Nat}{F:Fra}{cst:List (Array Value)}{dfs:List Deferred}{A A':AS}{hid hid':List Nat}{G0:Gh}{w0:World}{l0:Array Bool}{pf:List Nat}{L:Nat}
  {ud:List Nat} {n:Nat} {listed:Array Bool} {G G':Gh} {a:Act} {w w':World} (S:FlSt P tt ops T kb F cst dfs A hid G0 w0 l0 pf (L+1) ud (n+1) listed G a w) {i:Nat} {o:Oper} (ho:ops[i]?=some o) (hip:i ∉ pf)
  (hpe:pg ops l0 pf=true) {u:Value} {ks:List Nat} (hk:∀j∈pf,∀o d,ops[j]?=some o→o.dst=some d→kb+d∈ks) (hu:UntH G ks w G' w') (hR:Rel F G' A' (a.put o.dst u).tmps cst w')
  (hold:(∀j∈T,listed.getD j false=false)→Hold G0 w0 hid' G' w'):
  FlSt P tt ops T kb F cst dfs A' hid' G0 w0 (l0.setIfInBounds i true) pf L ud n (listed.setIfInBounds i true) G' (a.put o.dst u) w':=by
 refine ⟨by simp[S.size],fun k hk=>?_,S.nodup,fun j hj=>?_,fun j hj hju=>?_,?_,hR,fun hT'=>?_,(Act.put_defers' _ _ _).trans S.dfs⟩
 ·by_cases hki:k=i
  ·rw[hki,Array.getElem?_setIfInBounds_self,Array.getElem?_setIfInBounds_self,S.size]
  ·rw[Array.getElem?_setIfInBounds_ne (Ne.symm hki),Array.getElem?_setIfInBounds_ne (Ne.symm hki)];exact S.get k hk
 ·obtain ⟨h1,h2⟩:=S.und j hj
  have hji:i≠j:=by rintro rfl;exact hip h1
  exact ⟨h1,by rw[Array.getElem?_setIfInBounds_ne hji,Array.getElem?_setIfInBounds_ne hji];exact h2⟩
 ·obtain ⟨h1,h2⟩:=S.done j hj hju
  exact ⟨getD_set_true h1,(h2.unt (hk j hj) hu).put (ee hpe j hj).1 ho (by rintro rfl;exact hip hj) u⟩
 ·have:=S.cnt;omega
 ·exact hold fun j hj=>by
   cases hh:listed.getD j false with
   |false=>rfl
   |true=>have:=hT' j hj;rw[getD_set_true hh] at this;cases this
theorem NJ (htt:gH P tt){hd:Hd}(hh:yR P hd){R:Type}{F:Fra}{G:Gh}{A:AS}{a:Act}{cst:List (Array Value)}{w:World}(Rl:Rel F G A a.tmps cst w){kb:Nat}(hkb:∀d,F.mu0 (kb+d)=none)(hid:List Nat)(o:Oper){K:Ex→AS→Option R}{r:R}
  (h:KN tt hd kb hid o A K=some r) {N:Act→World→Prop} {Q:Exit→Act→World→Prop} (hK:ahs F cst a.defers r K (fun G' a' w'=>UntH G hid w G' w'∧(W0 o.op=true→G'=G∧w'=w)) N Q):o.wp P a w N Q:=by
 cases hp:W0 o.op with
 |false=>
  refine vE htt hh Rl hkb hid o h fun ex A' G' a' w' hR hd hk=>?_
  have:=hK ex A' G' a' w' hR hd hk
  cases ex with
  |normal=>exact fun hu=>this ⟨hu.1,fun e=>by rw[hp] at e;cases e⟩
  |exit id=>exact this
  |ret=>exact this
  |panic v=>exact this
 |true=>
  unfold KN at h
  simp only[AS.putK_eq,AS.force_eq] at h
  unfold Oper.wp
  split at h
  ·rename_i c x y hop
   have hc:=Rl.opd c
   split at h
   ·rename_i b e1
    rw[e1] at hc
    have hc':a.eval c=.bool b:=hc
    have hrun:(execOp a.eval o).run P w=.ok (.value (if b then a.eval x else a.eval y)) w:=by
     simp only[execOp,hop,Sem.run_bind,hc',asBool,Sem.run_pure,Result.andThen_ok]
    rw[hrun]
    simp only[Oper.upon]
    cases b with
    |true=>exact hK .normal _ _ _ _ (Rl.puts (Rl.opd x) o.dst) (Act.put_defers' _ _ _) h ⟨.refl _ _ _,fun _=>⟨rfl,rfl⟩⟩
    |false=>exact hK .normal _ _ _ _ (Rl.puts (Rl.opd y) o.dst) (Act.put_defers' _ _ _) h ⟨.refl _ _ _,fun _=>⟨rfl,rfl⟩⟩
   ·cases h
  all_goals
   exfalso
   unfold W0 at hp
   split at hp
   ·simp_all
   ·cases hp
theorem j0 (htt:gH P tt){hd:Hd}(hh:yR P hd)(hs:Region.noSelect ops=true){R:Type}{F:Fra}{cst:List (Array Value)}{kb:Nat}(hkb:∀d,F.mu0 (kb+d)=none){r:R}{Q:Exit→Act→World→Prop}{G0:Gh}{w0:World}:
  ∀(is:List (Nat×Nat)) {ph:Bool} {l0 listed:Array Bool} {ud:List Nat} {n:Nat} {hid:List Nat} {G:Gh} {A:AS} {a:Act} {w:World} {K:Ex→AS→Option R} {dfs:List Deferred},
  vC tt ops T ph l0 is=true→Gp tt hd kb ops is hid A K=some r→Gr F cst dfs r K Q→
  FlSt P tt ops T kb F cst dfs A hid G0 w0 l0 (kI is) is.length ud n listed G a w→(ph=true→G=G0∧w=w0)→
  wpAnyL P .any ops (Qh ops Q) T (Agr (·∈hid) G0 w0) n listed a w
 |[],ph,l0,listed,ud,n,hid,G,A,a,w,K,dfs,hc,h,hK,S,hph=>by
  simp only[vC,List.isEmpty_iff] at hc
  have hud:ud=[]:=by
   cases ud with
   |nil=>rfl
   |cons x xs=>exact absurd (S.und x (by simp)).1 (by simp[kI])
  have hn:n=0:=by have:=S.cnt;subst hud;simp[kI] at this;exact this
  have hl:listed=l0:=Array.ext_getElem? fun k=>S.get k (by simp[kI])
  subst hn hl
  exact ⟨hc,hK .normal A G a w S.rel S.dfs h⟩
 |(i,m)::is,ph,l0,listed,ud,n,hid,G,A,a,w,K,dfs,hc,h,hK,S,hph=>by
  obtain rfl:=S.dfs
  simp only[Gp] at h
  cases ho:ops[i]? with
  |none=>rw[ho] at h;cases h
  |some o=>
   rw[ho] at h
   simp only at h
   have hpl:=LP is
   have quiet:∀(hid':List Nat),kI ((i,m)::is)=kI is→CL ops T l0 i=true→(!(kI is).contains i&&pg ops l0 (kI is))=true→(∀w',Agr (·∈hid') G0 w0 w'→Agr (·∈hid) G0 w0 w')→((∀j∈T,listed.getD j false=false)→Hold G0 w0 hid' G w)→
     ∀v,YieldsIf P ops (Agr (·∈hid') G0 w0) o v a→∀A',Rel F G A' (a.put o.dst v).tmps cst w→
     (∀n',FlSt P tt ops T kb F cst (a.put o.dst v).defers A' hid' G0 w0 (l0.setIfInBounds i true) (kI is) is.length ud n' (listed.setIfInBounds i true) G (a.put o.dst v) w→wpAnyL P .any ops (Qh ops Q) T (Agr (·∈hid') G0 w0) n' (listed.setIfInBounds i true) (a.put o.dst v) w)→
     wpAnyL P .any ops (Qh ops Q) T (Agr (·∈hid) G0 w0) n listed a w:=by
    intro hid' hpf hq hpe hm hA v hy A' hR hrest
    rw[hpf] at S
    simp only[zA,Bool.not_eq_true',List.contains_eq_mem,decide_eq_false_iff_not] at hpe
    obtain ⟨hip,hpe⟩:=hpe
    simp only[CL,zA,zJ,Bool.not_eq_true',beq_eq_false_iff_ne,Mb,List.any_eq_true,beq_iff_eq,exists_eq_right] at hq
    obtain ⟨hf,hr,hT,hZ⟩:=hq
    have hnZ:∀j∈yX ops i,j ∉ kI is:=fun j hj hjp=>by
     obtain ⟨o',t,d,ho',_,haf,_⟩:=mw (ee hpe j hjp).1
     obtain ⟨e,he,_⟩:=Bp ops i j hj o' ho'
     rw[haf] at he;simp at he
    have hZl:∀j∈yX ops i,listed.getD j false=false:=fun j hj=>by rw[d9 (S.get j (hnZ j hj))];exact (hZ j hj).2
    have hir:i∈Region.ready .any ops listed:=by
     have hr':i∈Region.ready .any ops l0:=by simpa using hr
     rw[mem_ready] at hr' ⊢
     obtain ⟨h1,o',h2,h3⟩:=hr'
     refine ⟨by rw[d9 (S.get i hip)];exact h1,o',h2,fun e he hb=>?_⟩
     have h4:=h3 e he hb
     by_cases hep:e.on∈kI is
     ·have:=(ee hpe _ hep).2
      rw[Array.getD_eq_getD_getElem?] at this h4
      cases hx:l0[e.on]? with
      |none=>rw[hx] at this;cases this
      |some x=>rw[hx] at this h4;simp at this h4;rw[this] at h4;cases h4
     ·rw[d9 (S.get _ hep)];exact h4
    obtain ⟨n',rfl⟩:∃n',n=n'+1:=⟨n - 1,by have:=S.cnt;simp only[zN] at this;omega⟩
    refine (wpAnyL.first ho (Region.noSelect_spec hs) (fun c a w=>Qh.put ho v c a w) hT (fun j hj=>⟨(hZ j hj).1,Bp ops i j hj⟩) n' listed a w (fun j oj hoj hji hjl hjd=>?_) hir hy
     (hA fun j hj=>hZl j (hT j hj)).agr hZl (hrest n' ⟨by simp[S.size],fun k hk=>?_,S.nodup,fun j hj=>?_,fun j hj hju=>?_,?_,hR,fun hT'=>?_,rfl⟩)).weaken hm
    ·refine Region.free_spec ho hf j oj hoj hji ?_ hjd
     by_cases hjp:j∈kI is
     ·exact (ee hpe j hjp).2
     ·rw[← d9 (S.get j hjp)];exact hjl
    ·by_cases hki:k=i
     ·rw[hki,Array.getElem?_setIfInBounds_self,Array.getElem?_setIfInBounds_self,S.size]
     ·rw[Array.getElem?_setIfInBounds_ne (Ne.symm hki),Array.getElem?_setIfInBounds_ne (Ne.symm hki)];exact S.get k hk
    ·obtain ⟨h1,h2⟩:=S.und j hj
     have hji:i≠j:=by rintro rfl;exact hip h1
     exact ⟨h1,by rw[Array.getElem?_setIfInBounds_ne hji,Array.getElem?_setIfInBounds_ne hji];exact h2⟩
    ·obtain ⟨h1,h2⟩:=S.done j hj hju
     exact ⟨getD_set_true h1,h2.put (ee hpe j hj).1 ho (by rintro rfl;exact hip hj) v⟩
    ·have h1:=S.cnt;have h2:((i,m)::is).length=is.length+1:=zN;omega
    ·exact hA fun j hj=>by
      cases hh:listed.getD j false with
      |false=>rfl
      |true=>have:=hT' j hj;rw[getD_set_true hh] at this;cases this
   have hset:∀j∈T,j≠i→(listed.setIfInBounds i true).getD j false=listed.getD j false:=fun j _ hne=>getD_set_ne false (Ne.symm hne)
   have sole:∀(ph':Bool) (hid':List Nat),kI is=[]→kI ((i,m)::is)=kI is→L0 ops l0 i=true→(∀(a':Act) (w':World) (G':Gh) (A':AS),Rel F G' A' a'.tmps cst w'→a'.defers=a.defers→UntH G hid' w G' w'→(W0 o.op=true→G'=G∧w'=w)→Gp tt hd kb ops is hid A' K=some r→
      (aev T (Agr (·∈hid) G0 w0) (listed.setIfInBounds i true) w'∧(Hold G0 w0 hid G' w'∨¬ ∀j∈T,(listed.setIfInBounds i true).getD j false=false))∧(ph'=true→G'=G0∧w'=w0))→
     vC tt ops T ph' (l0.setIfInBounds i true) is=true→
     my ops o A (fun A=>KN tt hd kb hid' o A fun ex A'=>match ex with
      |.normal=>Gp tt hd kb ops is hid A' K
      |.panic v=>K (.panic v) { A' with tm:=By (mv ops) 0 A'.tm }
      |ex=>K ex A') (fun A=>Gp tt hd kb ops is hid A K)=some r→
     wpAnyL P .any ops (Qh ops Q) T (Agr (·∈hid) G0 w0) n listed a w:=by
    intro ph' hid' hpe hpf hs1 hho hc hgd
    rw[hpf,hpe] at S
    have hud:ud=[]:=by
     cases ud with
     |nil=>rfl
     |cons x xs=>exact absurd (S.und x (by simp)).1 (by simp)
    have hn:n=is.length+1:=by have:=S.cnt;subst hud;simp at this;exact this
    have hl:listed=l0:=Array.ext_getElem? fun k=>S.get k (by simp)
    subst hn hl hud
    have hr:Region.ready .any ops listed=[i]:=by
     unfold L0 at hs1
     split at hs1
     ·rename_i j e
      rw[e,beq_iff_eq.1 hs1]
     ·cases hs1
    have hrest:∀(a':Act) (w':World) (G':Gh) (A':AS),Rel F G' A' a'.tmps cst w'→a'.defers=a.defers→UntH G hid' w G' w'→(W0 o.op=true→G'=G∧w'=w)→Gp tt hd kb ops is hid A' K=some r→
      aev T (Agr (·∈hid) G0 w0) (listed.setIfInBounds i true) w'∧wpAnyL P .any ops (Qh ops Q) T (Agr (·∈hid) G0 w0) is.length (listed.setIfInBounds i true) a' w':=by
     intro a' w' G' A' hR hd' hu hpk hk
     obtain ⟨⟨h1,h2⟩,h3⟩:=hho a' w' G' A' hR hd' hu hpk hk
     refine ⟨h1,j0 htt hh hs hkb is hc hk hK ⟨rfl,fun _ _=>rfl,S.nodup,fun j hj=>(by cases hj),fun j hj=>(by rw[hpe] at hj;cases hj),(by rw[hpe]),hR,fun hT=>h2.resolve_right fun h=>h hT,hd'⟩ h3⟩
    refine ⟨fun e=>(by rw[e] at hr;cases hr),fun j hj=>?_⟩
    rw[hr,List.mem_singleton] at hj
    subst hj
    unfold wpOp
    rw[ho]
    simp only
    rcases ju S.rel hgd with ⟨hw,A1,R1,h1⟩ | ⟨hw,A1,R1,h1⟩
    ·rw[if_pos hw]
     refine .inl (NJ htt hh R1 hkb hid' o h1 ?_)
     intro ex A' G' a' w' R' hd' hk
     cases ex with
     |normal=>exact fun hu=>hrest a' w' G' A' R' hd' hu.1 hu.2 hk
     |exit id=>exact hK _ A' G' a' w' R' hd' hk
     |ret=>exact hK _ A' G' a' w' R' hd' hk
     |panic v=>exact fun u hu=>Qh.post hK R' hd' hk u hu
    ·rw[if_neg (by simp[hw])]
     exact hrest _ w G A1 R1 (Act.put_defers' _ _ _) (.refl _ _ _) (fun _=>⟨rfl,rfl⟩) h1
   match m,hc,h with
   |0,hc,h=>
    simp only[vC,zA] at hc
    obtain ⟨⟨⟨hq,hrd⟩,hpe⟩,hc⟩:=hc
    have hrd':EB tt o.op=false:=by simpa [LR,ho] using hrd
    rcases ju S.rel h with ⟨hw,A1,R1,h1⟩ | ⟨hw,A1,R1,h1⟩
    ·split at h1
     ·rename_i chk v hv
      cases chk with
      |false=>cases h1
      |true=>
       simp only[cond_true,AS.putK_eq] at h1
       obtain ⟨u,hu,hr⟩:=KO (H:=fun _=>True) htt R1.gh.tabs (fun x=>R1.opd x) R1.ob o hv rfl fun _ _ _ _ _ _=>trivial
       refine quiet hid rfl hq (by simpa using hpe) (fun _ h=>h) S.hold u (.inl ⟨hw,fun w' _=>hu w' fun e=>by rw[hrd'] at e;cases e⟩) _ (R1.puts hr o.dst) fun n' S'=>?_
       exact j0 htt hh hs hkb is hc h1 (by rw[Act.put_defers'];exact hK) S' hph
     ·cases h1
    ·refine quiet hid rfl hq (by simpa using hpe) (fun _ h=>h) S.hold undef (.inr ⟨hw,rfl⟩) _ R1 fun n' S'=>?_
     exact j0 htt hh hs hkb is hc h1 (by rw[Act.put_defers'];exact hK) S' hph
   |1,hc,h=>
    simp only[vC,zA] at hc
    obtain ⟨⟨⟨hq,rfl⟩,hpe⟩,hc⟩:=hc
    obtain ⟨rfl,rfl⟩:=hph rfl
    rcases ju S.rel h with ⟨hw,A1,R1,h1⟩ | ⟨hw,A1,R1,h1⟩
    ·split at h1
     ·rename_i chk v hv
      cases chk with
      |false=>cases h1
      |true=>
       simp only[cond_true,AS.putK_eq] at h1
       obtain ⟨u,hu,hr⟩:=KO (H:=(·∈CB A1 o.op++hid)) htt R1.gh.tabs (fun x=>R1.opd x) R1.ob o hv rfl fun t x k j e1 e2=>by
        rw[e1];simp only[CB,e2];simp
       refine quiet (CB A1 o.op++hid) rfl hq (by simpa using hpe) (fun w' h=>⟨h.1,fun key b hk hb=>h.2 key b (List.mem_append_right _ hk) hb⟩) (fun _=>⟨fun _ _ h=>h,fun _ _ _ h=>h,Agr.refl _ _ _⟩) u (.inl ⟨hw,fun w' h'=>hu w' fun _=>h'⟩) _ (R1.puts hr o.dst) fun n' S'=>?_
       exact j0 htt hh hs hkb is hc h1 (by rw[Act.put_defers'];exact hK) S' fun _=>⟨rfl,rfl⟩
     ·cases h1
    ·refine quiet hid rfl hq (by simpa using hpe) (fun _ h=>h) S.hold undef (.inr ⟨hw,rfl⟩) _ R1 fun n' S'=>?_
     exact j0 htt hh hs hkb is hc h1 (by rw[Act.put_defers'];exact hK) S' fun _=>⟨rfl,rfl⟩
   |2,hc,h=>
    simp only[vC,zA,zJ,Bool.not_eq_true',beq_eq_false_iff_ne,List.isEmpty_iff] at hc
    obtain ⟨⟨⟨hso,hiT⟩,hpe⟩,hc⟩:=hc
    refine sole (ph&&LQ ops i) hid hpe rfl hso (fun a' w' G' A' R' hd' hu hpk hk=>⟨?_,fun e=>?_⟩) hc h
    rotate_left
    ·rw[zA] at e
     obtain ⟨rfl,rfl⟩:=hpk (by simpa [LQ,ho] using e.2)
     exact hph e.1
    have hold:(∀j∈T,(listed.setIfInBounds i true).getD j false=false)→Hold G0 w0 hid G' w':=fun hT=>(S.hold fun j hj=>by rw[← hset j hj (hiT j hj)];exact hT j hj).step hu
    exact ⟨fun hT=>(hold hT).agr,(Classical.em _).imp hold id⟩
   |n0+3,hc,h=>
    simp only[vC] at hc
    rename_i hx0
    clear hx0
    simp only[AS.force_eq] at h
    cases h4:Nat.beq n0 1 with
    |true=>
     obtain rfl:n0=1:=Nat.eq_of_beq_eq_true h4
     rw[h4] at hc h
     simp only[cond_true,zA,Bool.not_eq_true',List.contains_eq_mem,decide_eq_false_iff_not] at hc
     obtain ⟨⟨⟨hip,hpe⟩,hso⟩,hc⟩:=hc
     have hpf:kI ((i,1+3)::is)=i::kI is:=rfl
     simp only[cond_true] at h
     cases hcl:(QF tt ops ((i,4)::is)&&(Eh ops ((i,4)::is)).all (qR kb (o9 kb (Eh ops ((i,4)::is)) A)))&&!(hid.any fun k=>(Eh ops ((i,4)::is)).any fun d=>k == kb+d) with
     |false=>rw[hcl] at h;cases h
     |true=>
      rw[hcl] at h
      simp only[cond_true] at h
      have S1:FlSt P tt ops T kb F cst a.defers (o9 kb (Eh ops ((i,4)::is)) A) hid G0 w0 l0 (kI ((i,1+3)::is)) ((i,1+3)::is).length ud n listed G a w:={ S with rel:=S.rel.clean _ }
      generalize o9 kb (Eh ops ((i,4)::is)) A=A1 at h hcl S1
      clear S
      simp only[zA,Bool.not_eq_true',zJ,List.any_eq_false,List.any_eq_true,beq_iff_eq,not_exists,not_and] at hcl
      cases hA:evA tt kb A1 o.dst o.op with
      |none=>rw[hA] at h;cases h
      |some p=>
       obtain ⟨chk,A'⟩:=p
       rw[hA] at h
       cases chk with
       |false=>cases h
       |true=>
        simp only[cond_true] at h
        have hpall:=ee hpe
        have key:∀(N:Nat) (ud:List Nat) (n:Nat) (listed:Array Bool) (G:Gh) (a':Act) (w:World),ud.length=N→
          FlSt P tt ops T kb F cst a.defers A1 hid G0 w0 l0 (i::kI is) (is.length+1) ud n listed G a' w→wpAnyL P .any ops (Qh ops Q) T (Agr (·∈hid) G0 w0) n listed a' w:=by
         intro N
         induction N using Nat.strongRecOn with
         |ind N ih=>
         intro ud n listed G a' w hN S
         by_cases hiu:i∈ud
         ·have hlen:=List.length_pos_of_mem hiu
          obtain ⟨n',rfl⟩:∃n',n=n'+1:=⟨n - 1,by have:=S.cnt;simp only[zN] at this;omega⟩
          have hir:i∈Region.ready .any ops listed:=by
           obtain ⟨o',t,d,ho',_,haf,_⟩:=mw (hpall i (by simp)).1
           rw[mem_ready]
           refine ⟨by rw[d9 (S.und i hiu).2];exact (hpall i (by simp)).2,o',ho',fun e he=>by rw[haf] at he;simp at he⟩
          refine ⟨fun e=>(by rw[e] at hir;cases hir),fun k hk=>?_⟩
          by_cases hku:k∈ud
          ·refine wpOp_mono (fun a'' w'' ⟨G',S'⟩=>⟨fun hT=>(S'.hold hT).agr,ih _ ?_ _ _ _ _ _ _ rfl S'⟩) (S.fl htt hkb hpe (fun j hj o' d ho' hd'=>hcl.1.2 d (qh ((i,4)::is) hj ho' hd')) (fun j hj=>w8 ((i,4)::is) hcl.1.1 hj) (fun j hj o' d ho' hd' hin=>hcl.2 _ hin d (qh ((i,4)::is) hj ho' hd') rfl) hku)
           rw[List.length_erase_of_mem hku];have:=List.length_pos_of_mem hku;omega
          ·exfalso
           have hkp:k ∉ i::kI is:=fun h=>IV (S.done k h hku).1 hk
           have:=Pb (X:=kI is) (l0:=l0) (fun j hj=>LO hpe (List.mem_cons_of_mem _ hj)) (fun j hj=>?_) (fun h=>hkp (List.mem_cons_of_mem _ h)) (S.get k hkp) hk
           ·have:=List.all_eq_true.1 hso k this
            exact hkp (by rw[beq_iff_eq.1 this];simp)
           ·by_cases hjp:j∈i::kI is
            ·rcases List.mem_cons.1 hjp with rfl | h
             ·rw[d9 (S.und j hiu).2] at hj;exact .inr hj
             ·exact .inl h
            ·rw[d9 (S.get j hjp)] at hj;exact .inr hj
         ·obtain ⟨hli,o',t,d,b,cur,ho',hop,hd',hmu,htm,hhp,hcz⟩:=S.done i (by simp) hiu
          rw[ho] at ho';cases ho'
          obtain ⟨_,_,_,hzz,eA⟩:=Fe htt hop hd' hA a' w
          subst eA
          refine j0 htt hh hs hkb is hc h hK ⟨by simp[S.size],fun k hk=>?_,S.nodup,fun j hj=>?_,fun j hj hju=>S.done j (by simp[hj]) hju,?_,S.rel.found hmu htm hhp hcz hzz,S.hold,S.dfs⟩ fun e=>by cases e
          ·by_cases hki:k=i
           ·have hlt:=LO hpe (j:=i) (by simp)
            rw[hki,Array.getElem?_setIfInBounds_self,if_pos hlt]
            rw[Array.getD_eq_getD_getElem?] at hli
            cases hx:listed[i]? with
            |none=>rw[hx] at hli;cases hli
            |some x=>rw[hx] at hli;simp at hli;rw[hli]
           ·rw[Array.getElem?_setIfInBounds_ne (Ne.symm hki)]
            exact S.get k (by simp[hki,hk])
          ·obtain ⟨h1,h2⟩:=S.und j hj
           have hji:j≠i:=by rintro rfl;exact hiu hj
           refine ⟨(List.mem_cons.1 h1).resolve_left hji,?_⟩
           rw[Array.getElem?_setIfInBounds_ne (Ne.symm hji)];exact h2
          ·have:=S.cnt;simp only[zN] at this;omega
        exact key _ ud n listed G a w rfl S1
    |false=>
     rw[h4] at hc h
     simp only[cond_false] at hc h
     cases h6:Nat.beq n0 3 with
     |true=>
      obtain rfl:n0=3:=Nat.eq_of_beq_eq_true h6
      rw[h6] at hc h
      simp only[cond_true,zA,Bool.not_eq_true',List.contains_eq_mem,decide_eq_false_iff_not,zJ,beq_eq_false_iff_ne] at hc
      obtain ⟨⟨⟨hso,hiT⟩,hip,hpe⟩,hc⟩:=hc
      have hpf:kI ((i,3+3)::is)=kI is:=rfl
      simp only[cond_true] at h
      cases hcl:(QF tt ops is&&(Eh ops is).all (qR kb (o9 kb (Eh ops is) A)))&&!(hid.any fun k=>(Eh ops is).any fun d=>k == kb+d) with
      |false=>rw[hcl] at h;cases h
      |true=>
       rw[hcl] at h
       simp only[cond_true] at h
       have S1:FlSt P tt ops T kb F cst a.defers (o9 kb (Eh ops is) A) hid G0 w0 l0 (kI ((i,3+3)::is)) ((i,3+3)::is).length ud n listed G a w:={ S with rel:=S.rel.clean _ }
       generalize o9 kb (Eh ops is) A=A1 at h hcl S1
       clear S
       simp only[zA,Bool.not_eq_true',zJ,List.any_eq_false,List.any_eq_true,beq_iff_eq,not_exists,not_and] at hcl
       have hpall:=ee hpe
       simp only[ah1,zA,List.contains_eq_mem,zB,zJ,beq_iff_eq] at hso
       have key:∀(N:Nat) (ud:List Nat) (n:Nat) (listed:Array Bool) (G:Gh) (a':Act) (w:World),ud.length=N→
         FlSt P tt ops T kb F cst a.defers A1 hid G0 w0 l0 (kI is) (is.length+1) ud n listed G a' w→wpAnyL P .any ops (Qh ops Q) T (Agr (·∈hid) G0 w0) n listed a' w:=by
        intro N
        induction N using Nat.strongRecOn with
        |ind N ih=>
        intro ud n listed G a' w hN S
        obtain ⟨n',rfl⟩:∃n',n=n'+1:=⟨n - 1,by have:=S.cnt;omega⟩
        have hir:i∈Region.ready .any ops listed:=acK hpe S.get hip hso.1
        refine ⟨fun e=>(by rw[e] at hir;cases hir),fun k hk=>?_⟩
        by_cases hku:k∈ud
        ·refine wpOp_mono (fun a'' w'' ⟨G',S'⟩=>⟨fun hT=>(S'.hold hT).agr,ih _ ?_ _ _ _ _ _ _ rfl S'⟩) (S.fl htt hkb hpe (fun j hj o' d ho' hd'=>hcl.1.2 d (qh is hj ho' hd')) (fun j hj=>w8 is hcl.1.1 hj) (fun j hj o' d ho' hd' hin=>hcl.2 _ hin d (qh is hj ho' hd') rfl) hku)
         rw[List.length_erase_of_mem hku];have:=List.length_pos_of_mem hku;omega
        ·have hkp:k ∉ kI is:=fun h=>IV (S.done k h hku).1 hk
         have hki:=Pb (X:=kI is) (l0:=l0) (fun j hj=>LO hpe hj) (fun j hj=>by
          by_cases hjp:j∈kI is
          ·exact .inl hjp
          ·rw[d9 (S.get j hjp)] at hj;exact .inr hj) hkp (S.get k hkp) hk
         obtain rfl:=hso.2 k hki
         have hset':∀j∈T,j≠k→(listed.setIfInBounds k true).getD j false=listed.getD j false:=fun j _ hne=>getD_set_ne false (Ne.symm hne)
         have hrest:∀(u:Value) (w':World) (G':Gh) (A':AS),Rel F G' A' (a'.put o.dst u).tmps cst w'→UntH G ((Eh ops is).map (kb + ·)++hid) w G' w'→Gp tt hd kb ops is hid A' K=some r→
           aev T (Agr (·∈hid) G0 w0) (listed.setIfInBounds k true) w'∧wpAnyL P .any ops (Qh ops Q) T (Agr (·∈hid) G0 w0) n' (listed.setIfInBounds k true) (a'.put o.dst u) w':=by
          intro u w' G' A' hR hu hk'
          have hold:(∀j∈T,listed.getD j false=false)→Hold G0 w0 hid G' w':=fun hT=>(S.hold hT).step ⟨hu.1,fun key hkey=>hu.2 key (List.mem_append_right _ hkey)⟩
          refine ⟨fun hT=>(hold fun j hj=>by rw[← hset' j hj (hiT j hj)];exact hT j hj).agr,?_⟩
          refine j0 htt hh hs hkb is hc hk' hK (S.next ho hip hpe (fun j hj o' d ho' hd'=>List.mem_append_left _ (List.mem_map_of_mem (qh is hj ho' hd'))) hu hR hold) fun e=>by cases e
         unfold wpOp
         rw[ho]
         simp only
         rcases ju S.rel h with ⟨hw,A2,R2,h2⟩ | ⟨hw,A2,R2,h2⟩
         ·rw[if_pos hw]
          refine .inl (vE htt hh R2 hkb _ o h2 ?_)
          intro ex A' G' a'' w' R' hd' hk'
          cases ex with
          |normal=>
           rintro ⟨hu,u,rfl⟩
           exact hrest u w' G' A' R' hu hk'
          |exit id=>exact hK _ A' G' a'' w' R' (hd'.trans S.dfs) hk'
          |ret=>exact hK _ A' G' a'' w' R' (hd'.trans S.dfs) hk'
          |panic v=>exact fun u hu=>Qh.post hK R' (hd'.trans S.dfs) hk' u hu
         ·rw[if_neg (by simp[hw])]
          exact hrest undef w G A2 R2 (.refl _ _ _) h2
       exact key _ ud n listed G a w rfl S1
     |false=>
      rw[h6] at hc h
      simp only[cond_false,zA,List.any_eq_true,beq_iff_eq,exists_eq_right,zB,List.isEmpty_iff] at hc h
      obtain ⟨⟨⟨hso,hiT,hil⟩,hpe⟩,hc⟩:=hc
      have hpf:kI ((i,n0+3)::is)=kI is:=by
       have:Nat.beq (n0+3) 4=Nat.beq n0 1:=rfl
       rw[kI,this,h4];rfl
      have hlsz:i<listed.size:=by rw[S.size];exact hil
      have hno:¬ ∀j∈T,(listed.setIfInBounds i true).getD j false=false:=fun hT=>by
       have:=hT i hiT
       simp[hlsz] at this
      exact sole false [] hpe hpf hso (fun a' w' G' A' R' hd' hu _ hk=>⟨⟨fun hT=>absurd hT hno,.inr hno⟩,fun e=>by cases e⟩) hc h
def V1 (tt:TT):Op→Bool
 |.move _ | .nilCheck _ | .binOp .. | .unOp .. | .fieldAddr .. | .field .. | .indexAddr .. | .index .. | .slice .. | .load .. | .extract .. | .build .. | .makeInterface .. | .makeFunc ..=>true
 |.convert _ d _=>match (tt.at d).d with | .sl _=>false | _=>true
 |.call c=>match c.callee with | .builtin .len=>true | .builtin .min=>true | .builtin .max=>true | _=>false
 |_=>false
def KQ (tt:TT)(ops:Array Oper)(t0:Nat):Nat→Bool→Array Bool→List (Nat×Nat)
 |0,_,_=>[]
 |n+1,ph,listed=>
  let rd:=Region.ready .any ops listed
  match rd.find? fun i=>Nat.blt i t0&&(match ops[i]? with | some o=>V1 tt o.op&&(ph || !EB tt o.op) | none=>false) with
  |some i=>(i,bif LR tt ops i then 0 else 1)::KQ tt ops t0 n ph (listed.setIfInBounds i true)
  |none=>match rd with
   |i::_=>(i,bif Nat.blt i t0 then 2 else 3)::KQ tt ops t0 n (ph&&LQ ops i) (listed.setIfInBounds i true)
   |[]=>[]
def Cx (tt:TT)(ops:Array Oper)(t0:Nat)(fl:List Nat):Nat→Bool→Array Bool→List (Nat×Nat)
 |0,_,_=>[]
 |n+1,ph,listed=>
  let rd:=(Region.ready .any ops listed).filter fun i=>!fl.contains i
  match rd.find? fun i=>Nat.blt i t0&&(match ops[i]? with | some o=>V1 tt o.op&&(ph || !EB tt o.op) | none=>false) with
  |some i=>(i,bif LR tt ops i then 0 else 1)::Cx tt ops t0 fl n ph (listed.setIfInBounds i true)
  |none=>match rd with
   |i::_=>(i,bif Nat.blt i t0 then (bif fl.all fun j=>listed.getD j false then 2 else 6) else 3)::Cx tt ops t0 fl n false (listed.setIfInBounds i true)
   |[]=>match fl.find? fun j=>!listed.getD j true with
    |some j=>(j,4)::Cx tt ops t0 fl n false (listed.setIfInBounds j true)
    |none=>[]
def aia (ops:Array Oper):Nat→Nat
 |0=>0
 |t+1=>bif (List.range t).all fun i=>Mb ops t i then aia ops t else t+1
def CK (tt:TT)(ops:Array Oper)(t0:Nat)(is:List (Nat×Nat)):Option (List (Nat×Nat)):=
 bif Region.noSelect ops&&(is.length == ops.size&&(cR (kI is)&&vC tt ops ((List.range (ops.size - t0)).map (t0 + ·)) true (Array.replicate ops.size false) is)) then some is else none
def LL (tt:TT)(t0:Nat):Dr:=fun ops=>
 match CK tt ops t0 (KQ tt ops t0 ops.size true (Array.replicate ops.size false)) with
 |some is=>some is
 |none=>CK tt ops t0 (Cx tt ops t0 ((List.range ops.size).filter (tK ops)) ops.size true (Array.replicate ops.size false))
def wh (tt:TT):Dr:=fun ops=>LL tt (aia ops ops.size) ops
theorem xX:∀l:List Nat,cR l=true→l.Nodup
 |[],_=>List.nodup_nil
 |x::xs,h=>by
  simp only[cR,zA,Bool.not_eq_true',List.any_eq_false,beq_iff_eq] at h
  exact List.nodup_cons.2 ⟨fun hx=>h.1 x hx rfl,xX xs h.2⟩
theorem E3 (htt:gH P tt){hd:Hd}(hh:yR P hd){R:Type}{F:Fra}{cst:List (Array Value)}{kb:Nat}{ops:Array Oper}{is' is:List (Nat×Nat)}{r:R}{Q:Exit→Act→World→Prop}{G:Gh}{A:AS}{a:Act}{w:World}{K:Ex→AS→Option R}
  (hkb:∀d,F.mu0 (kb+d)=none) {t0:Nat} (ho:CK tt ops t0 is'=some is) (h:Gp tt hd kb ops is [] A K=some r) (Rl:Rel F G A a.tmps cst w) (hK:Gr F cst a.defers r K Q):
  wpAny P .any ops Q ops.size (Array.replicate ops.size false) a { w with drawn:=w.drawn+1 }:=by
 unfold CK at ho
 cases hc:Region.noSelect ops&&(is'.length == ops.size&&(cR (kI is')&&vC tt ops ((List.range (ops.size - t0)).map (t0 + ·)) true (Array.replicate ops.size false) is')) with
 |false=>rw[hc] at ho;cases ho
 |true=>
  rw[hc] at ho
  simp only[cond_true,zC] at ho
  subst ho
  simp only[zA,beq_iff_eq] at hc
  obtain ⟨hs,hl,hnd,hc⟩:=hc
  have Rl':Rel F G A a.tmps cst { w with drawn:=w.drawn+1 }:=Rl.drew
  have:=j0 (T:=(List.range (ops.size - t0)).map (t0 + ·)) (G0:=G) (w0:={ w with drawn:=w.drawn+1 }) (ud:=kI is') (n:=is'.length) (listed:=Array.replicate ops.size false) htt hh hs hkb is' hc h hK
   ⟨rfl,fun _ _=>rfl,xX _ hnd,fun j hj=>⟨hj,rfl⟩,fun j hj h=>absurd hj h,rfl,Rl',fun _=>⟨fun _ _ h=>h,fun _ _ _ h=>h,Agr.refl _ _ _⟩,rfl⟩ fun _=>⟨rfl,rfl⟩
  rw[hl] at this
  exact B8 (fun e a w=>Qh.of) _ (wpAnyL.any _ this)
theorem RX (htt:gH P tt){hd:Hd}(hh:yR P hd){R:Type}{F:Fra}{cst:List (Array Value)}{kb:Nat}{ops:Array Oper}{is:List (Nat×Nat)}{r:R}{Q:Exit→Act→World→Prop}{G:Gh}{A:AS}{a:Act}{w:World}{K:Ex→AS→Option R}
  (hkb:∀d,F.mu0 (kb+d)=none) {t0:Nat} (ho:LL tt t0 ops=some is) (h:Gp tt hd kb ops is [] A K=some r) (Rl:Rel F G A a.tmps cst w) (hK:Gr F cst a.defers r K Q):
  wpAny P .any ops Q ops.size (Array.replicate ops.size false) a { w with drawn:=w.drawn+1 }:=by
 unfold LL at ho
 split at ho
 ·rename_i is1 h1
  cases ho
  exact E3 htt hh hkb h1 h Rl hK
 ·exact E3 htt hh hkb ho h Rl hK
theorem ux (htt:gH P tt):yG P tt (wh tt):=by
 intro hd hh R F cst kb ops is r Q G A a w K hkb ho h Rl hK
 exact RX htt hh hkb ho h Rl hK
end
end Go.Proofs.YtomeplopmndbgaaGreat.Sym
namespace Go.Proofs.YtomeplopmndbgaaGreat.Sym
open Go
def ajx (f:Nat→Option Ty):List Field→Option Ty
 |[]=>some .unit
 |x::xs=>match f x.type with
  |some a=>match ajx f xs with
   |some b=>some (.prod a b)
   |none=>none
  |none=>none
def ajt (P:Program)(t:Nat)(fs:List Field):Option Nat:=match fs.getLast? with
 |some x=>match P.underlying x.type with
  |some (.slice e)=>bif Nat.beq e t then some e else none
  |_=>none
 |none=>none
def ahi (P:Program):Nat→Nat→Option Ty
 |0,_=>none
 |n+1,t=>match P.underlying t with
  |some .bool=>some .bool
  |some (.int k)=>some (.int k)
  |some .string=>some .str
  |some (.slice e)=>match ahi P n e with
   |some t=>some (.sl e t)
   |none=>none
  |some (.struct fs)=>match ajt P t fs.toList with
   |some e=>match ajx (ahi P n) fs.toList.dropLast with
    |some a=>some (.tree a e)
    |none=>none
   |none=>ajx (ahi P n) fs.toList
  |_=>none
def aaC (P:Program)(t:Nat):Bool:=!P.stoodInHeld t&&(!P.eqGuardType P.depth t&&match P.underlying t with
 |some (.struct F)=>F.toList.all fun f=>f.name != "_"
 |_=>true)
theorem aaD {P:Program}{t:Nat}(h:aaC P t=true):P.stoodInHeld t=false∧P.eqGuardType P.depth t=false∧∀F,P.underlying t=some (.struct F)→∀f∈F.toList,f.name≠"_":=by
 unfold aaC at h
 simp only[zA,Bool.not_eq_true'] at h
 refine ⟨h.1,h.2.1,fun F hF f hf=>?_⟩
 have h2:=h.2.2
 rw[hF] at h2
 simp only[zJ,bne_iff_ne] at h2
 exact h2 f hf
def ajv (P:Program)(t:Nat):TI:=match P.info? t with
 |some i=>match P.underlying t with
  |some d=>match i.zero with
   |some z=>bif Gj z == Rj (vD d) then ⟨vD d,ahi P 8 t,i.size,i.bytes,z.cells.toList,aaC P t⟩ else .none
   |none=>.none
  |none=>.none
 |none=>.none
def uN (P:Program)(n:Nat):TT:=(List.range n).map (ajv P)
theorem mU (P:Program)(n:Nat):gH P (uN P n):=by
 intro t ht
 have e:(uN P n).at t=if t<n then ajv P t else .none:=by
  unfold uN TT.at
  rw[List.getD_eq_getElem?_getD,List.getElem?_map]
  by_cases h:t<n
  ·rw[List.getElem?_range h,if_pos h];rfl
  ·rw[List.getElem?_eq_none (by simp;omega),if_neg h];rfl
 rw[e] at ht ⊢
 by_cases h:t<n
 ·rw[if_pos h] at ht ⊢
  unfold ajv at ht ⊢
  split
  ·rename_i i hi
   rw[hi] at ht
   simp only at ht
   split
   ·rename_i d hd
    rw[hd] at ht
    simp only at ht
    split
    ·rename_i z hz
     rw[hz] at ht
     simp only at ht
     cases hb:Gj z == Rj (vD d) with
     |false=>rw[hb] at ht;exact absurd rfl ht
     |true=>exact ⟨⟨d,hd,rfl⟩,⟨i,z,hi,rfl,rfl,hz,rfl,by simpa using hb⟩,fun h=>aaD h⟩
    ·rename_i hz;rw[hz] at ht;exact absurd rfl ht
   ·rename_i hd;rw[hd] at ht;exact absurd rfl ht
  ·rename_i hi;rw[hi] at ht;exact absurd rfl ht
 ·rw[if_neg h] at ht;exact absurd rfl ht
abbrev Hc:=(R:Type)→List V→Nat→AS→(Oc→AS→Option R)→Option R
def aeP:List (Nat×Hc)→Nat→Option Hc
 |[],_=>none
 |(g,h)::l,f=>bif Nat.beq g f then some h else aeP l f
def bM (l:List (Nat×Hc)):Hd:=fun R f args id A K=>match aeP l f with
 |some h=>h R args id A K
 |none=>none
def HcsOk (P:Program):List (Nat×Hc)→Prop
 |[]=>True
 |p::l=>HcOk P p.1 p.2∧HcsOk P l
theorem HcsOk.nil {P:Program}:HcsOk P []:=trivial
theorem HcsOk.cons {P:Program}{f:Nat}{h:Hc}{l:List (Nat×Hc)}(a:HcOk P f h)(b:HcsOk P l):HcsOk P ((f,h)::l):=⟨a,b⟩
theorem UV {P:Program}:∀{l:List (Nat×Hc)} {f:Nat} {h:Hc},HcsOk P l→aeP l f=some h→HcOk P f h
 |[],_,_,_,e=>by cases e
 |(g,h')::l,f,h,hl,e=>by
  simp only[aeP] at e
  cases hb:Nat.beq g f with
  |true=>
   rw[hb] at e
   simp only[cond_true,zC] at e
   subst e
   have:=Nat.eq_of_beq_eq_true hb
   subst this
   exact hl.1
  |false=>
   rw[hb] at e
   exact UV hl.2 e
def eX (sel:List V→AS→Bool)(h1 h2:Hc):Hc:=fun R args id A K=>bif sel args A then h1 R args id A K else h2 R args id A K
theorem bb {P:Program}{f:Nat}{sel:List V→AS→Bool}{h1 h2:Hc}(a:HcOk P f h1)(b:HcOk P f h2):HcOk P f (eX sel h1 h2):=by
 intro R args id A K r F G ts cst w vals hid h Rl hv
 unfold eX at h
 cases hs:sel args A with
 |true=>rw[hs] at h;exact a R args id A K r F G ts cst w vals hid h Rl hv
 |false=>rw[hs] at h;exact b R args id A K r F G ts cst w vals hid h Rl hv
def ahX (A:AS)(k:Nat):Bool:=match A.ob.getD k Option.none with
 |some (.nilp::_)=>true
 |_=>false
def di (args:List V)(A:AS):Bool:=args.any fun v=>match v with
 |.one (.ptr k _)=>ahX A k || (match A.ob.getD k Option.none with
  |some (.ptr k' _::_)=>ahX A k'
  |_=>false)
 |_=>false
theorem KR {P:Program}{l:List (Nat×Hc)}(hl:HcsOk P l):yR P (bM l):=by
 intro R f args id A K r F G ts cst w vals hid h Rl hv
 unfold bM at h
 split at h
 ·rename_i hc e
  exact UV hl e R args id A K r F G ts cst w vals hid h Rl hv
 ·cases h
inductive SC where
 |hol (t:Ty)
 |onl (e:Nat) (t:Ty) (own:Nat)
 |exl (e:Nat) (t:Ty) (i j:Nat)
 |ext (e:Nat) (t:Ty) (i j:Nat)
 |ptr (key off:Nat)
 |fnp (f:Nat) (q:Bool) (ks:List Nat)
 |nils | nilp | top | itr
@[reducible] def SC.den:SC→Type
 |.hol t=>t.den
 |.onl _ t _=>List t.den
 |.exl _ t _ _=>List t.den
 |.ext _ t _ _=>Nat×List t.den
 |.itr=>LI×Int
 |_=>Unit
@[reducible] def SCs.den:List SC→Type
 |[]=>Unit
 |.hol t::ss=>t.den×SCs.den ss
 |.onl _ t _::ss=>List t.den×SCs.den ss
 |.exl _ t _ _::ss=>List t.den×SCs.den ss
 |.ext _ t _ _::ss=>(Nat×List t.den)×SCs.den ss
 |.ptr _ _::ss=>SCs.den ss
 |.fnp _ _ _::ss=>SCs.den ss
 |.nils::ss=>SCs.den ss
 |.nilp::ss=>SCs.den ss
 |.top::ss=>SCs.den ss
 |.itr::ss=>(LI×Int)×SCs.den ss
def aez:List Cp→Option (List Nat)
 |[]=>some []
 |.ptr k o::cs=>bif Nat.beq o 0 then (match aez cs with | some ks=>some (k::ks) | none=>none) else none
 |_=>none
def SC.dec:(s:SC)→C→Option s.den
 |.hol t,c=>iG t c
 |.onl e t own,.lst e' t' xs own'=>if h:e=e'∧t'=t∧own=own' then some (h.2.1▸xs) else none
 |.exl e t i j,.ex e' t' lo xs i' j'=>bif !(Nat.beq j 0)&&(Nat.beq i i'&&(Nat.beq j j' || Nat.beq i' j')) then (bif Nat.beq lo 0 then (if h:e=e'∧t'=t then some (h.2▸xs) else none) else none) else none
 |.ext e t i j,.ex e' t' lo xs i' j'=>bif !(Nat.beq j 0)&&(Nat.beq i i'&&(Nat.beq j j' || Nat.beq i' j')) then (if h:e=e'∧t'=t then some (lo,h.2▸xs) else none) else none
 |.ptr k o,.ptr k' o'=>bif Nat.beq k k'&&Nat.beq o o' then some () else none
 |.fnp f q ks,.fn f' q' cs=>match aez cs with | some ks'=>(if f=f'∧q=q'∧ks=ks' then some () else none) | none=>none
 |.nils,.nils=>some ()
 |.nilp,.nilp=>some ()
 |.top,_=>some ()
 |_,_=>none
def SC.mk:(s:SC)→s.den→C
 |.hol (.int k),x=>.int k x
 |.hol .bool,x=>.bool x
 |.hol .str,x=>.str x
 |.hol (.sl e t),x=>.lst e t x 0
 |.hol _,_=>.top
 |.onl e t own,x=>.lst e t x own
 |.exl e t i j,x=>.ex e t 0 x i j
 |.ext e t i j,x=>.ex e t x.1 x.2 i j
 |.ptr k o,_=>.ptr k o
 |.fnp f q ks,_=>.fn f q (ks.map (.ptr · 0))
 |.nils,_=>.nils
 |.nilp,_=>.nilp
 |.top,_=>.top
 |.itr,x=>.itr x
def SCs.dec:(ss:List SC)→List C→Option (SCs.den ss)
 |[],[]=>some ()
 |.hol t::ss,c::cs=>match SC.dec (.hol t) c with | some x=>(match SCs.dec ss cs with | some xs=>some (x,xs) | none=>none) | none=>none
 |.onl e t own::ss,c::cs=>match SC.dec (.onl e t own) c with | some x=>(match SCs.dec ss cs with | some xs=>some (x,xs) | none=>none) | none=>none
 |.exl e t i j::ss,c::cs=>match SC.dec (.exl e t i j) c with | some x=>(match SCs.dec ss cs with | some xs=>some (x,xs) | none=>none) | none=>none
 |.ext e t i j::ss,c::cs=>match SC.dec (.ext e t i j) c with | some x=>(match SCs.dec ss cs with | some xs=>some (x,xs) | none=>none) | none=>none
 |.ptr k o::ss,c::cs=>match SC.dec (.ptr k o) c with | some _=>SCs.dec ss cs | none=>none
 |.fnp f q ks::ss,c::cs=>match SC.dec (.fnp f q ks) c with | some _=>SCs.dec ss cs | none=>none
 |.nils::ss,c::cs=>match SC.dec .nils c with | some _=>SCs.dec ss cs | none=>none
 |.nilp::ss,c::cs=>match SC.dec .nilp c with | some _=>SCs.dec ss cs | none=>none
 |.top::ss,_::cs=>SCs.dec ss cs
 |_,_=>none
def SCs.mk:(ss:List SC)→SCs.den ss→List C
 |[],_=>[]
 |.hol t::ss,x=>SC.mk (.hol t) x.1::SCs.mk ss x.2
 |.onl e t own::ss,x=>SC.mk (.onl e t own) x.1::SCs.mk ss x.2
 |.exl e t i j::ss,x=>SC.mk (.exl e t i j) x.1::SCs.mk ss x.2
 |.ext e t i j::ss,x=>SC.mk (.ext e t i j) x.1::SCs.mk ss x.2
 |.ptr k o::ss,x=>.ptr k o::SCs.mk ss x
 |.fnp f q ks::ss,x=>.fn f q (ks.map (.ptr · 0))::SCs.mk ss x
 |.nils::ss,x=>.nils::SCs.mk ss x
 |.nilp::ss,x=>.nilp::SCs.mk ss x
 |.top::ss,x=>.top::SCs.mk ss x
 |.itr::ss,x=>.itr x.1::SCs.mk ss x.2
def SC.wf:(s:SC)→s.den→Prop
 |.hol t,x=>t.wf x
 |.onl _ t _,xs=>xs.length≤maxLen∧∀x∈xs,t.wf x
 |.exl _ t _ _,xs=>xs.length≤maxLen∧∀x∈xs,t.wf x
 |.ext _ t _ _,xs=>xs.1+xs.2.length≤maxLen∧∀x∈xs.2,t.wf x
 |_,_=>True
def SCs.wf:(ss:List SC)→SCs.den ss→Prop
 |[],_=>True
 |.hol t::ss,x=>t.wf x.1∧SCs.wf ss x.2
 |.onl _ t _::ss,x=>(x.1.length≤maxLen∧∀y∈x.1,t.wf y)∧SCs.wf ss x.2
 |.exl _ t _ _::ss,x=>(x.1.length≤maxLen∧∀y∈x.1,t.wf y)∧SCs.wf ss x.2
 |.ext _ t _ _::ss,x=>(x.1.1+x.1.2.length≤maxLen∧∀y∈x.1.2,t.wf y)∧SCs.wf ss x.2
 |.ptr _ _::ss,x=>SCs.wf ss x
 |.fnp _ _ _::ss,x=>SCs.wf ss x
 |.nils::ss,x=>SCs.wf ss x
 |.nilp::ss,x=>SCs.wf ss x
 |.top::ss,x=>SCs.wf ss x
 |.itr::ss,x=>(byteR x.1.1∧x.1.1.length≤maxLen∧0≤x.1.2)∧SCs.wf ss x.2
section
variable {G:Gh} {w:World}
theorem Wn {t:Ty}{c:C}{x:t.den}{v:Value}(h:iG t c=some x)(hv:Rc G w c v):Rc G w (SC.mk (.hol t) x) v:=by
 have hcell:=hv.cell
 have hr:=gF (G:=G) (w:=w) t c x v h hv
 have hs:=fy (G:=G) (w:=w) t x [v] hr
 cases t <;> first | exact hs.1 | exact hcell
theorem exw {e:Nat}{t:Ty}{lo:Nat}{xs:List t.den}{i j i' j':Nat}{v:Value}(hb:(!(Nat.beq j 0)&&(Nat.beq i i'&&(Nat.beq j j' || Nat.beq i' j')))=true)(hv:Rc G w (.ex e t lo xs i' j') v):Rc G w (.ex e t lo xs i j) v:=by
 simp only[zA,Bool.not_eq_true',Bool.or_eq_true] at hb
 obtain ⟨h0,h1,h2⟩:=hb
 have h1:=Nat.eq_of_beq_eq_true h1
 subst h1
 have hj:j≠0:=by rintro rfl;cases h0
 rcases hv with hv | ⟨b,cap,e0,⟨n1,n2,ho⟩,hx⟩
 ·exact .inl hv
 ·refine .inr ⟨b,cap,e0,⟨n1,hj,?_⟩,hx⟩
  rcases h2 with h2 | h2
  ·rw[Nat.eq_of_beq_eq_true h2];exact ho
  ·have h2:=Nat.eq_of_beq_eq_true h2
   subst h2
   rcases ho with ho | ho <;> exact .inl ho
theorem ajZ {e:Nat}{t:Ty}{lo:Nat}{xs:List t.den}{i j:Nat}{v:Value}(hv:Rc G w (.ex e t lo xs i j) v):lo+xs.length≤maxLen∧∀x∈xs,t.wf x:=by
 rcases hv with ⟨rfl,rfl,_⟩ | ⟨b,cap,e0,_,cur,el,_,_,h2,h3,h4⟩
 ·exact ⟨Nat.zero_le _,fun x hx=>by simp at hx⟩
 ·refine ⟨Nat.le_trans h2 h3,fun x hx=>?_⟩
  obtain ⟨k,hk⟩:=List.getElem?_of_mem hx
  obtain ⟨c,hc,_⟩:=h4 k x hk
  exact Rt.wf _ x c hc
theorem T6:∀{cs:List Cp} {ks:List Nat},aez cs=some ks→cs=ks.map (Cp.ptr · 0)
 |[],_,h=>by cases h;rfl
 |.dat _ _::_,_,h=>by cases h
 |.ptr k o::cs,_,h=>by
  simp only[aez] at h
  cases ho:Nat.beq o 0 with
  |false=>rw[ho] at h;cases h
  |true=>
   rw[ho] at h
   simp only[cond_true] at h
   split at h
   ·rename_i ks hk
    cases h
    rw[Nat.eq_of_beq_eq_true ho,T6 hk];rfl
   ·cases h
theorem SC.dec_sound:∀{s:SC} {c:C} {x:s.den} {v:Value},s.dec c=some x→Rc G w c v→Rc G w (s.mk x) v∧s.wf x:=by
 intro s c x v h hv
 cases s with
 |hol t=>exact ⟨Wn h hv,Rt.wf (w:=w) t x [v] (gF t c x v h hv)⟩
 |onl e t own=>
  cases c <;> simp only[SC.dec] at h <;> try cases h
  rename_i e' t' xs own'
  split at h
  ·rename_i hh
   obtain ⟨rfl,rfl,rfl⟩:=hh
   cases h
   refine ⟨hv,?_⟩
   obtain ⟨A,cap,_,h1,h2,hrow,_⟩:=hv
   refine ⟨Nat.le_trans h1 h2,fun y hy=>?_⟩
   obtain ⟨i,hi⟩:=List.getElem?_of_mem hy
   obtain ⟨b,o,c,_,hc,_⟩:=hrow.cellAt hi
   exact Rt.wf _ y c hc
  ·cases h
 |exl e t i j=>
  cases c <;> simp only[SC.dec] at h <;> try cases h
  rename_i e' t' lo xs i' j'
  cases hb : !(Nat.beq j 0)&&(Nat.beq i i'&&(Nat.beq j j' || Nat.beq i' j')) with
  |false=>rw[hb] at h;cases h
  |true=>
   rw[hb] at h
   simp only[cond_true] at h
   cases hl:Nat.beq lo 0 with
   |false=>rw[hl] at h;cases h
   |true=>
    rw[hl] at h
    simp only[cond_true] at h
    have hl:=Nat.eq_of_beq_eq_true hl
    subst hl
    split at h
    ·rename_i hh
     obtain ⟨rfl,rfl⟩:=hh
     cases h
     exact ⟨exw hb hv,by have:=ajZ hv;rwa [Nat.zero_add] at this⟩
    ·cases h
 |ext e t i j=>
  cases c <;> simp only[SC.dec] at h <;> try cases h
  rename_i e' t' lo xs i' j'
  cases hb : !(Nat.beq j 0)&&(Nat.beq i i'&&(Nat.beq j j' || Nat.beq i' j')) with
  |false=>rw[hb] at h;cases h
  |true=>
   rw[hb] at h
   simp only[cond_true] at h
   split at h
   ·rename_i hh
    obtain ⟨rfl,rfl⟩:=hh
    cases h
    exact ⟨exw hb hv,ajZ hv⟩
   ·cases h
 |ptr k o=>
  cases c <;> simp only[SC.dec] at h <;> try cases h
  rename_i k' o'
  cases hb:Nat.beq k k'&&Nat.beq o o' with
  |false=>rw[hb] at h;cases h
  |true=>
   simp only[zA] at hb
   have e1:=Nat.eq_of_beq_eq_true hb.1
   have e2:=Nat.eq_of_beq_eq_true hb.2
   subst e1;subst e2
   exact ⟨hv,trivial⟩
 |fnp f q ks=>
  cases c <;> simp only[SC.dec] at h <;> try cases h
  rename_i f' q' cs
  split at h
  ·rename_i ks' hk
   split at h
   ·rename_i hh
    obtain ⟨rfl,rfl,rfl⟩:=hh
    rw[T6 hk] at hv
    exact ⟨hv,trivial⟩
   ·cases h
  ·cases h
 |nils=>cases c <;> simp only[SC.dec] at h <;> first | exact ⟨hv,trivial⟩ | cases h
 |nilp=>cases c <;> simp only[SC.dec] at h <;> first | exact ⟨hv,trivial⟩ | cases h
 |top=>exact ⟨hv.cell,trivial⟩
 |itr=>cases c <;> simp[SC.dec] at h
theorem SCs.dec_sound:∀{ss:List SC} {cs:List C} {x:SCs.den ss} {vs:List Value},SCs.dec ss cs=some x→All2 (Rc G w) cs vs→All2 (Rc G w) (SCs.mk ss x) vs∧SCs.wf ss x
 |[],[],_,vs,_,hv=>⟨hv,trivial⟩
 |[],_::_,_,_,h,_=>by simp[SCs.dec] at h
 |s::ss,[],_,_,h,_=>by cases s <;> simp[SCs.dec] at h
 |s::ss,c::cs,x,[],h,hv=>hv.elim
 |s::ss,c::cs,x,v::vs,h,hv=>by
  cases s <;> simp only[SCs.dec] at h
  case hol t=>
   split at h
   ·rename_i y hy
    split at h
    ·rename_i ys hys
     cases h
     obtain ⟨h1,h2⟩:=SC.dec_sound hy hv.1
     obtain ⟨h3,h4⟩:=SCs.dec_sound hys hv.2
     exact ⟨⟨h1,h3⟩,h2,h4⟩
    ·cases h
   ·cases h
  case onl e t own=>
   split at h
   ·rename_i y hy
    split at h
    ·rename_i ys hys
     cases h
     obtain ⟨h1,h2⟩:=SC.dec_sound hy hv.1
     obtain ⟨h3,h4⟩:=SCs.dec_sound hys hv.2
     exact ⟨⟨h1,h3⟩,h2,h4⟩
    ·cases h
   ·cases h
  case exl e t i j=>
   split at h
   ·rename_i y hy
    split at h
    ·rename_i ys hys
     cases h
     obtain ⟨h1,h2⟩:=SC.dec_sound hy hv.1
     obtain ⟨h3,h4⟩:=SCs.dec_sound hys hv.2
     exact ⟨⟨h1,h3⟩,h2,h4⟩
    ·cases h
   ·cases h
  case ext e t i j=>
   split at h
   ·rename_i y hy
    split at h
    ·rename_i ys hys
     cases h
     obtain ⟨h1,h2⟩:=SC.dec_sound hy hv.1
     obtain ⟨h3,h4⟩:=SCs.dec_sound hys hv.2
     exact ⟨⟨h1,h3⟩,h2,h4⟩
    ·cases h
   ·cases h
  case top=>
   obtain ⟨h3,h4⟩:=SCs.dec_sound h hv.2
   exact ⟨⟨hv.1.cell,h3⟩,h4⟩
  case itr=>cases h
  all_goals
   split at h
   ·rename_i y hy
    obtain ⟨h1,_⟩:=SC.dec_sound hy hv.1
    obtain ⟨h3,h4⟩:=SCs.dec_sound h hv.2
    exact ⟨⟨h1,h3⟩,h4⟩
   ·cases h
end
inductive SV where
 |one (s:SC) | agg (ss:List SC) | any
abbrev ce (l:List SV):List SV:=.any::.any::l
abbrev dq (l:List SV):List SV:=.any::.any::.any::.any::l
abbrev gE (l:List SV):List SV:=dq (dq l)
abbrev am (l:List SV):List SV:=gE (gE l)
@[reducible] def rJ:List SV→Type
 |[]=>Unit
 |.any::vs=>rJ vs
 |.one (.ptr _ _)::vs=>rJ vs
 |.one (.fnp _ _ _)::vs=>rJ vs
 |.one .nils::vs=>rJ vs
 |.one .nilp::vs=>rJ vs
 |.one .top::vs=>rJ vs
 |.one .itr::vs=>rJ vs
 |.one (.hol t)::vs=>t.den×rJ vs
 |.one (.onl _ t _)::vs=>List t.den×rJ vs
 |.one (.exl _ t _ _)::vs=>List t.den×rJ vs
 |.one (.ext _ t _ _)::vs=>(Nat×List t.den)×rJ vs
 |.agg ss::vs=>SCs.den ss×rJ vs
def pa:(vs:List SV)→List V→Option (rJ vs)
 |[],[]=>some ()
 |.any::vs,_::us=>pa vs us
 |.one (.ptr k o)::vs,.one c::us=>match SC.dec (.ptr k o) c with | some _=>pa vs us | none=>none
 |.one (.fnp f q ks)::vs,.one c::us=>match SC.dec (.fnp f q ks) c with | some _=>pa vs us | none=>none
 |.one .nils::vs,.one c::us=>match SC.dec .nils c with | some _=>pa vs us | none=>none
 |.one .nilp::vs,.one c::us=>match SC.dec .nilp c with | some _=>pa vs us | none=>none
 |.one .top::vs,.one _::us=>pa vs us
 |.one (.hol t)::vs,.one c::us=>match SC.dec (.hol t) c with | some x=>(match pa vs us with | some xs=>some (x,xs) | none=>none) | none=>none
 |.one (.onl e t own)::vs,.one c::us=>match SC.dec (.onl e t own) c with | some x=>(match pa vs us with | some xs=>some (x,xs) | none=>none) | none=>none
 |.one (.exl e t i j)::vs,.one c::us=>match SC.dec (.exl e t i j) c with | some x=>(match pa vs us with | some xs=>some (x,xs) | none=>none) | none=>none
 |.one (.ext e t i j)::vs,.one c::us=>match SC.dec (.ext e t i j) c with | some x=>(match pa vs us with | some xs=>some (x,xs) | none=>none) | none=>none
 |.agg ss::vs,.agg cs::us=>match SCs.dec ss cs with | some x=>(match pa vs us with | some xs=>some (x,xs) | none=>none) | none=>none
 |_,_=>none
def VM:(vs:List SV)→rJ vs→List V
 |[],_=>[]
 |.any::vs,x=>.any::VM vs x
 |.one (.ptr k o)::vs,x=>.one (.ptr k o)::VM vs x
 |.one (.fnp f q ks)::vs,x=>.one (.fn f q (ks.map (.ptr · 0)))::VM vs x
 |.one .nils::vs,x=>.one .nils::VM vs x
 |.one .nilp::vs,x=>.one .nilp::VM vs x
 |.one .top::vs,x=>.one .top::VM vs x
 |.one .itr::vs,x=>.any::VM vs x
 |.one (.hol t)::vs,x=>.one (SC.mk (.hol t) x.1)::VM vs x.2
 |.one (.onl e t own)::vs,x=>.one (SC.mk (.onl e t own) x.1)::VM vs x.2
 |.one (.exl e t i j)::vs,x=>.one (SC.mk (.exl e t i j) x.1)::VM vs x.2
 |.one (.ext e t i j)::vs,x=>.one (SC.mk (.ext e t i j) x.1)::VM vs x.2
 |.agg ss::vs,x=>.agg (SCs.mk ss x.1)::VM vs x.2
def V8:(vs:List SV)→rJ vs→Prop
 |[],_=>True
 |.any::vs,x=>V8 vs x
 |.one (.ptr _ _)::vs,x=>V8 vs x
 |.one (.fnp _ _ _)::vs,x=>V8 vs x
 |.one .nils::vs,x=>V8 vs x
 |.one .nilp::vs,x=>V8 vs x
 |.one .top::vs,x=>V8 vs x
 |.one .itr::vs,x=>V8 vs x
 |.one (.hol t)::vs,x=>t.wf x.1∧V8 vs x.2
 |.one (.onl _ t _)::vs,x=>(x.1.length≤maxLen∧∀y∈x.1,t.wf y)∧V8 vs x.2
 |.one (.exl _ t _ _)::vs,x=>(x.1.length≤maxLen∧∀y∈x.1,t.wf y)∧V8 vs x.2
 |.one (.ext _ t _ _)::vs,x=>(x.1.1+x.1.2.length≤maxLen∧∀y∈x.1.2,t.wf y)∧V8 vs x.2
 |.agg ss::vs,x=>SCs.wf ss x.1∧V8 vs x.2
theorem gI {G:Gh}{w:World}:∀{vs:List SV} {us:List V} {x:rJ vs} {zs:List Value},pa vs us=some x→All2 (Rv G w) us zs→All2 (Rv G w) (VM vs x) zs∧V8 vs x
 |[],[],_,zs,_,hv=>⟨hv,trivial⟩
 |[],_::_,_,_,h,_=>by simp[pa] at h
 |v::vs,[],_,_,h,_=>by
  cases v with
  |one s=>cases s <;> simp[pa] at h
  |agg ss=>simp[pa] at h
  |any=>simp[pa] at h
 |v::vs,u::us,x,[],h,hv=>hv.elim
 |v::vs,u::us,x,z::zs,h,hv=>by
  cases v with
  |any=>
   simp only[pa] at h
   obtain ⟨h3,h4⟩:=gI h hv.2
   exact ⟨⟨trivial,h3⟩,h4⟩
  |agg ss=>
   cases u <;> simp only[pa] at h <;> try cases h
   rename_i cs
   split at h
   ·rename_i y hy
    split at h
    ·rename_i ys hys
     cases h
     obtain ⟨us',rfl,hu⟩:=hv.1
     obtain ⟨h1,h2⟩:=SCs.dec_sound hy hu
     obtain ⟨h3,h4⟩:=gI hys hv.2
     exact ⟨⟨⟨us',rfl,h1⟩,h3⟩,h2,h4⟩
    ·cases h
   ·cases h
  |one s=>
   cases u with
   |one c=>
    cases s <;> simp only[pa] at h
    case hol t=>
     split at h
     ·rename_i y hy
      split at h
      ·rename_i ys hys
       cases h
       obtain ⟨h1,h2⟩:=SC.dec_sound hy hv.1
       obtain ⟨h3,h4⟩:=gI hys hv.2
       exact ⟨⟨h1,h3⟩,h2,h4⟩
      ·cases h
     ·cases h
    case onl e t own=>
     split at h
     ·rename_i y hy
      split at h
      ·rename_i ys hys
       cases h
       obtain ⟨h1,h2⟩:=SC.dec_sound hy hv.1
       obtain ⟨h3,h4⟩:=gI hys hv.2
       exact ⟨⟨h1,h3⟩,h2,h4⟩
      ·cases h
     ·cases h
    case exl e t i j=>
     split at h
     ·rename_i y hy
      split at h
      ·rename_i ys hys
       cases h
       obtain ⟨h1,h2⟩:=SC.dec_sound hy hv.1
       obtain ⟨h3,h4⟩:=gI hys hv.2
       exact ⟨⟨h1,h3⟩,h2,h4⟩
      ·cases h
     ·cases h
    case ext e t i j=>
     split at h
     ·rename_i y hy
      split at h
      ·rename_i ys hys
       cases h
       obtain ⟨h1,h2⟩:=SC.dec_sound hy hv.1
       obtain ⟨h3,h4⟩:=gI hys hv.2
       exact ⟨⟨h1,h3⟩,h2,h4⟩
      ·cases h
     ·cases h
    case top=>
     obtain ⟨h3,h4⟩:=gI h hv.2
     exact ⟨⟨Rc.cell hv.1,h3⟩,h4⟩
    case itr=>cases h
    all_goals
     split at h
     ·rename_i y hy
      obtain ⟨h1,_⟩:=SC.dec_sound hy hv.1
      obtain ⟨h3,h4⟩:=gI h hv.2
      exact ⟨⟨h1,h3⟩,h4⟩
     ·cases h
   |_=>cases s <;> simp[pa] at h
@[reducible] def Qm:List (Option (List SC))→Type
 |[]=>Unit
 |none::os=>Qm os
 |some ss::os=>SCs.den ss×Qm os
def aiq:(ss:List SC)→List C→Option (SCs.den ss)
 |[.itr],[.itr x]=>some (x,())
 |_,_=>none
def Gs:(os:List (Option (List SC)))→List (Option (List C))→Option (Qm os)
 |[],_=>some ()
 |none::os,_::bs=>Gs os bs
 |none::os,[]=>Gs os []
 |some ss::os,some cs::bs=>match (bif cs.any C.isItr then aiq ss cs else SCs.dec ss cs) with | some x=>(match Gs os bs with | some xs=>some (x,xs) | none=>none) | none=>none
 |_,_=>none
def mkB:(os:List (Option (List SC)))→Qm os→List (Option (List C))
 |[],_=>[]
 |none::os,x=>none::mkB os x
 |some ss::os,x=>some (SCs.mk ss x.1)::mkB os x.2
def wfB:(os:List (Option (List SC)))→Qm os→Prop
 |[],_=>True
 |none::os,x=>wfB os x
 |some ss::os,x=>SCs.wf ss x.1∧wfB os x.2
theorem KB {G:Gh}{w:World}{ss:List SC}{cs:List C}{y:SCs.den ss}(h:(bif cs.any C.isItr then aiq ss cs else SCs.dec ss cs)=some y)(ho:∃o:Obj,ObjOk G w cs o):
  SCs.wf ss y∧∀o,ObjOk G w cs o→ObjOk G w (SCs.mk ss y) o:=by
 obtain ⟨o,ho⟩:=ho
 cases hn:cs.any C.isItr with
 |false=>
  rw[hn] at h
  obtain ⟨cur,el,_,hr⟩:=ho.cells hn
  refine ⟨(SCs.dec_sound h hr).2,fun o' ho'=>?_⟩
  obtain ⟨cur',el',e',hr'⟩:=ho'.cells hn
  exact .inl ⟨cur',el',e',(SCs.dec_sound h hr').1⟩
 |true=>
  rw[hn] at h
  simp only[cond_true] at h
  unfold aiq at h
  split at h
  ·rename_i x
   cases h
   refine ⟨?_,fun o' ho'=>ho'⟩
   rcases ho with ⟨cur,el,_,hr⟩ | ⟨s,n,e2,rfl,hbr,hlen⟩
   ·match hcl:cur.toList,hr with
    |[],hr=>exact hr.elim
    |_::_,hr=>exact hr.1.elim
   ·simp only[List.cons.injEq,C.itr.injEq,and_true] at e2
    subst e2
    exact ⟨⟨hbr,hlen,Int.natCast_nonneg n⟩,trivial⟩
  ·cases h
theorem qg {G:Gh}{w:World}:∀{os:List (Option (List SC))} {bs:List (Option (List C))} {x:Qm os},Gs os bs=some x→
  (∀(k:Nat) (cs:List C),bs[k]?=some (some cs)→∃o:Obj,ObjOk G w cs o)→
  wfB os x∧∀(k:Nat) (cs:List C),(mkB os x)[k]?=some (some cs)→∃cs0:List C,bs[k]?=some (some cs0)∧∀o,ObjOk G w cs0 o→ObjOk G w cs o
 |[],_,_,_,_=>⟨trivial,fun k cs h=>by simp[mkB] at h⟩
 |none::os,[],x,h,hb=>by
  simp only[Gs] at h
  obtain ⟨h1,h2⟩:=qg h hb
  refine ⟨h1,fun k cs hk=>?_⟩
  cases k with
  |zero=>simp[mkB] at hk
  |succ k=>obtain ⟨cs0,h3,_⟩:=h2 k cs (by simpa [mkB] using hk);simp at h3
 |none::os,b::bs,x,h,hb=>by
  simp only[Gs] at h
  obtain ⟨h1,h2⟩:=qg h fun k cs hk=>hb (k+1) cs (by simpa using hk)
  refine ⟨h1,fun k cs hk=>?_⟩
  cases k with
  |zero=>simp[mkB] at hk
  |succ k=>obtain ⟨cs0,h3,h4⟩:=h2 k cs (by simpa [mkB] using hk);exact ⟨cs0,by simpa using h3,h4⟩
 |some ss::os,[],x,h,hb=>by simp[Gs] at h
 |some ss::os,none::bs,x,h,hb=>by simp[Gs] at h
 |some ss::os,some cs::bs,x,h,hb=>by
  simp only[Gs] at h
  split at h
  ·rename_i y hy
   split at h
   ·rename_i ys hys
    cases h
    obtain ⟨h1,h2⟩:=qg hys fun k cs hk=>hb (k+1) cs (by simpa using hk)
    obtain ⟨h6,h7⟩:=KB hy (hb 0 cs rfl)
    refine ⟨⟨h6,h1⟩,fun k cs' hk=>?_⟩
    cases k with
    |zero=>
     simp only[mkB,List.getElem?_cons_zero,zC] at hk
     subst hk
     exact ⟨cs,rfl,h7⟩
    |succ k=>obtain ⟨cs0,h3,h4⟩:=h2 k cs' (by simpa [mkB] using hk);exact ⟨cs0,by simpa using h3,h4⟩
   ·cases h
  ·cases h
structure Ls where
 tm:List SV
 ob:List (Option (List SC))
abbrev Ls.den (s:Ls):Type:=rJ s.tm×Qm s.ob
def Ls.mk' (s:Ls)(x:s.den):AS:=⟨VM s.tm x.1,[],mkB s.ob x.2⟩
def Ls.dec (s:Ls)(A:AS):Option s.den:=match A with
 |⟨tm,[],ob⟩=>match pa s.tm tm with
  |some x=>match Gs s.ob ob with
   |some y=>some (x,y)
   |none=>none
  |none=>none
 |_=>none
def Ls.wf (s:Ls)(x:s.den):Prop:=V8 s.tm x.1∧wfB s.ob x.2
theorem Ls.dec_sound {s:Ls}{A:AS}{x:s.den}(h:s.dec A=some x){F:Fra}{G:Gh}{ts:Array Value}{cst:List (Array Value)}{w:World}(R:Rel F G A ts cst w):Rel F G (s.mk' x) ts cst w∧s.wf x:=by
 obtain ⟨tm,stk,ob⟩:=A
 unfold Ls.dec at h
 split at h
 ·rename_i tm' ob' e
  cases e
  split at h
  ·rename_i y hy
   split at h
   ·rename_i z hz
    cases h
    obtain ⟨h1,h2⟩:=gI hy R.tm
    obtain ⟨h3,h4⟩:=qg (G:=G) (w:=w) hz fun k cs hk=>let ⟨b,o,_,_,hr⟩:=R.ob k cs hk;⟨_,hr⟩
    refine ⟨⟨h1,R.stk,fun k cs hk=>?_,R.gh⟩,h2,h3⟩
    obtain ⟨cs0,h5,h6⟩:=h4 k cs hk
    obtain ⟨b,o,hm,hh,hr⟩:=R.ob k cs0 h5
    exact ⟨b,o,hm,hh,h6 _ hr⟩
   ·cases h
  ·cases h
 ·cases h
inductive Lx where
 |exit (id:Nat) | ret | normal | panic (T:Nat) (t:Ty)
@[reducible] def Lx.den:Lx→Type
 |.panic _ t=>t.den
 |_=>Unit
def Lx.ex:(e:Lx)→e.den→Ex
 |.exit id,_=>.exit id
 |.ret,_=>.ret
 |.normal,_=>.normal
 |.panic T t,x=>.panic (.one (.ifc T t x))
def Lx.dec:(e:Lx)→Ex→Option e.den
 |.exit id,.exit id'=>bif Nat.beq id id' then some () else none
 |.ret,.ret=>some ()
 |.panic T t,.panic (.one (.ifc T' t' x))=>if h:T=T'∧t'=t then some (h.2▸x) else none
 |_,_=>none
@[reducible] def aH:List (Lx×Ls)→Type
 |[]=>Empty
 |x::xs=>Out (x.1.den×x.2.den) (aH xs)
def ci:(xs:List (Lx×Ls))→Ex→AS→Option (aH xs)
 |[],_,_=>none
 |x::xs,e,A=>match x.1.dec e with
  |some p=>match x.2.dec A with
   |some d=>some (.ret (p,d))
   |none=>match ci xs e A with
    |some y=>some (.pan y)
    |none=>none
  |none=>match ci xs e A with
   |some y=>some (.pan y)
   |none=>none
def mkX {R:Type}:(xs:List (Lx×Ls))→aH xs→(Ex→AS→Option R)→Option R
 |[],x,_=>nomatch x
 |x::_,.ret d,K=>K (x.1.ex d.1) (x.2.mk' d.2)
 |_::xs,.pan y,K=>mkX xs y K
structure Lo where
 st:Ls
 xs:List (Lx×Ls)
def aS (lo:Lo)(Fn:lo.st.den→Tr (aH lo.xs)):Lh:=fun R A K=>match lo.st.dec A with
 |some x=>(Fn x).run fun y=>mkX lo.xs y K
 |none=>none
theorem Ee {R:Type}{F:Fra}{G:Gh}{A:AS}{a:Act}{cst:List (Array Value)}{w:World}(Rl:Rel F G A a.tmps cst w){K:Ex→AS→Option R}{r:R}{Q:Exit→Act→World→Prop}{dfs:List Deferred}(hd:a.defers=dfs)(hK:Gr F cst dfs r K Q):
  ∀{xs:List (Lx×Ls)} {e:Ex} {y:aH xs},ci xs e A=some y→mkX xs y K=some r→
   match e with
   |.normal=>Q .normal a w
   |.exit id=>Q (.exit id) a w
   |.ret=>Q .ret a w
   |.panic v=>∀u,Rv G w v u→Q (.panic [{ v:=u,recovered:=false }]) a w
 |[],e,y,h,_=>by simp[ci] at h
 |(l,s)::xs,e,y,h,hm=>by
  simp only[ci] at h
  have rest:∀{y':aH xs},ci xs e A=some y'→mkX xs y' K=some r→_:=fun h1 h2=>Ee Rl hd hK h1 h2
  split at h
  ·rename_i p hp
   split at h
   ·rename_i d hdd
    cases h
    simp only[mkX] at hm
    have R':=(Ls.dec_sound hdd Rl).1
    cases l with
    |normal=>cases e <;> simp[Lx.dec] at hp
    |ret=>
     cases e <;> simp only[Lx.dec] at hp <;> try cases hp
     exact hK .ret _ G a w R' hd hm
    |exit id=>
     cases e <;> simp only[Lx.dec] at hp <;> try cases hp
     rename_i id'
     cases hb:Nat.beq id id' with
     |false=>rw[hb] at hp;cases hp
     |true=>
      have:=Nat.eq_of_beq_eq_true hb
      subst this
      exact hK (.exit id) _ G a w R' hd hm
    |panic T t=>
     cases e with
     |panic v=>
      cases v with
      |one c=>
       cases c <;> simp only[Lx.dec] at hp <;> try cases hp
       rename_i T' t' x
       split at hp
       ·rename_i hh
        obtain ⟨rfl,rfl⟩:=hh
        cases hp
        exact hK (.panic _) _ G a w R' hd hm
       ·cases hp
      |_=>simp[Lx.dec] at hp
     |_=>simp[Lx.dec] at hp
   ·split at h
    ·rename_i y' hy'
     cases h
     exact rest hy' hm
    ·cases h
  ·split at h
   ·rename_i y' hy'
    cases h
    exact rest hy' hm
   ·cases h
theorem abk {P:Program}{tt:TT}(htt:gH P tt)(hm:P.follows .mixedOrders=true){hd:Hd}(hh:yR P hd){okDraw:Dr}(hdr:yG P tt okDraw){lp:Lp}{kb lr:Nat}{m:Nat}{b:Code}{x:List (Nat×Nat)}
  (hlp:∀e∈eO lr b m x,∀h,lp (fB e.2.1)=some h→Gq P kb e.2.1 h) (lo:Lo) (Fn:lo.st.den→Tr (aH lo.xs))
  (hF:∀d y,lo.st.wf d→(Fn d).val=some y→∃n,EH m kb (fun A K=>ev tt hd okDraw lp kb lr b m x A K) n (lo.st.mk' d) (ci lo.xs)=some y):Gq P kb b (aS lo Fn):=by
 intro R F cst r Q G A a w K hkb h Rl hK
 unfold aS at h
 split at h
 ·rename_i d hdec
  obtain ⟨y,hy,h⟩:=Tr.run_val h
  obtain ⟨R1,hwf⟩:=Ls.dec_sound hdec Rl
  obtain ⟨n,hn⟩:=hF d y hwf hy
  refine NZ htt hm hh hdr hkb hlp hn R1 ?_
  intro ex A' G' a' w' R' hd' hk
  have:=Ee R' hd' hK hk h
  cases ex <;> exact this
 ·cases h
abbrev Le:=Nat×Code×List (Nat×Nat)
def lM:Le:=(0,.skip,[])
def y5 (fn:Func):Code:=match fn.body with
 |some c=>c
 |none=>.skip
def dc (fn:Func):List Le:=eO (Lm fn) (y5 fn) (Lm fn) []
def Tt (fn:Func)(e:Le):List Le:=eO (Lm fn) e.2.1 e.1 e.2.2
def db (fn:Func)(j:Nat):Le:=(dc fn).getD j lM
def pV (fn:Func)(e:Le)(j:Nat):Le:=(Tt fn e).getD j lM
def bB:List (Nat×Lh)→Lp
 |[],_=>none
 |(g,h)::l,f=>bif Nat.beq g f then some h else bB l f
def il (tt:TT)(hd:Hd)(dr:Dr)(lp:Lp)(kb:Nat)(fn:Func)(e:Le){R:Type}(n:Nat)(A:AS)(K:Ex→AS→Option R):Option R:=
 EH e.1 kb (fun A K=>ev tt hd dr lp kb (Lm fn) e.2.1 e.1 e.2.2 A K) n A K
def LpsOk (P:Program)(kb:Nat)(lp:Lp)(es:List Le)(i:Nat):Prop:=∀j,i≤j→j<es.length→∀h,lp (fB (es.getD j lM).2.1)=some h→Gq P kb (es.getD j lM).2.1 h
theorem LpsOk.done {P:Program}{kb:Nat}{lp:Lp}{es:List Le}{i:Nat}(h:Nat.ble es.length i=true):LpsOk P kb lp es i:=fun j h1 h2=>by
 have:=Nat.le_of_ble_eq_true h
 omega
theorem LpsOk.step {P:Program}{kb:Nat}{lp:Lp}{es:List Le}{i:Nat}{h0:Lh}(e:lp (fB (es.getD i lM).2.1)=some h0)(h:Gq P kb (es.getD i lM).2.1 h0)(r:LpsOk P kb lp es (i+1)):LpsOk P kb lp es i:=fun j h1 h2 g hg=>by
 by_cases hj:j=i
 ·subst hj
  rw[e] at hg
  cases hg
  exact h
 ·exact r j (by omega) h2 g hg
theorem LpsOk.all {P:Program}{kb:Nat}{lp:Lp}{es:List Le}(h:LpsOk P kb lp es 0):∀e∈es,∀g,lp (fB e.2.1)=some g→Gq P kb e.2.1 g:=by
 intro e he g hg
 obtain ⟨j,hj⟩:=List.getElem?_of_mem he
 have hlt:=(List.getElem?_eq_some_iff.1 hj).1
 have e0:es.getD j lM=e:=by rw[List.getD_eq_getElem?_getD,hj];rfl
 have:=h j (Nat.zero_le _) hlt g
 rw[e0] at this
 exact this hg
theorem Rm {P:Program}{n:Nat}(hm:P.follows .mixedOrders=true){cs:List (Nat×Hc)}(hcs:HcsOk P cs){lp:Lp}{kb:Nat}{fn:Func}{e:Le}(hsub:LpsOk P kb lp (Tt fn e) 0)(lo:Lo)(Fn:lo.st.den→Tr (aH lo.xs))
  (hF:∀d y,lo.st.wf d→(Fn d).val=some y→∃k,il (uN P n) (bM cs) (wh (uN P n)) lp kb fn e k (lo.st.mk' d) (ci lo.xs)=some y):Gq P kb e.2.1 (aS lo Fn):=
 abk (mU P n) hm (KR hcs) (ux (mU P n)) hsub.all lo Fn hF
theorem sf {P:Program}{n:Nat}(hm:P.follows .mixedOrders=true){cs:List (Nat×Hc)}(hcs:HcsOk P cs){lp:Lp}{f:Nat}{fn:Func}(hf:P.funcs[f]?=some fn)(hname:(fn.name == "runtime.NumGoroutine")=false) (hbody:fn.body.isNone=false)
  (io:Io) (hlp:LpsOk P io.obs.length lp (dc fn) 0) (Fn:io.In→Tr io.Res) (hF:∀d out,io.wf d→(Fn d).val=some out→io.run (uN P n) (bM cs) (wh (uN P n)) lp fn d=some out):HcOk P f (ae io Fn):=by
 refine NY (mU P n) hm (KR hcs) (ux (mU P n)) hf hname io lp (fun c hc=>?_) Fn (fun d out=>hF d out) hbody
 have:y5 fn=c:=by unfold y5;rw[hc]
 have h:=hlp.all
 unfold dc at h
 rw[this] at h
 exact h
noncomputable def Lt (tt:TT):Dr:=fun ops=>bif Nat.beq ops.size 0 then none else wh tt ops
theorem Xb {P:Program}{tt:TT}(htt:gH P tt):yG P tt (Lt tt):=by
 intro hd hh R F cst kb ops is r Q G A a w K hkb ho
 unfold Lt at ho
 cases hz:Nat.beq ops.size 0 with
 |true=>rw[hz] at ho;cases ho
 |false=>rw[hz] at ho;exact ux htt hd hh R F cst kb ops is r Q G A a w K hkb ho
theorem Ip {P:Program}{n:Nat}(hm:P.follows .mixedOrders=true){cs:List (Nat×Hc)}(hcs:HcsOk P cs){lp:Lp}{f:Nat}{fn:Func}(hf:P.funcs[f]?=some fn)(hname:(fn.name == "runtime.NumGoroutine")=false) (hbody:fn.body.isNone=false)
  (io:Io) (hlp:LpsOk P io.obs.length lp (dc fn) 0) (Fn:io.In→Tr io.Res) (hF:∀d out,io.wf d→(Fn d).val=some out→io.run (uN P n) (bM cs) (Lt (uN P n)) lp fn d=some out):HcOk P f (ae io Fn):=by
 refine NY (mU P n) hm (KR hcs) (Xb (mU P n)) hf hname io lp (fun c hc=>?_) Fn (fun d out=>hF d out) hbody
 have:y5 fn=c:=by unfold y5;rw[hc]
 have h:=hlp.all
 unfold dc at h
 rw[this] at h
 exact h
end Go.Proofs.YtomeplopmndbgaaGreat.Sym
namespace Go.Proofs.YtomeplopmndbgaaGreat.Sym
open Go
def Yq:Code→Code
 |.seq a _=>a
 |c=>c
def adD:Code→Code
 |.seq _ b=>b
 |c=>c
def ajW:Code→Code
 |.cond _ t _=>t
 |c=>c
def ajh:Code→Array Oper
 |.region _ ops _=>ops
 |_=>#[]
theorem Lw {Pr:(Nat×Code×List (Nat×Nat))→Prop}{lr l:Nat}{c:Code}{x:List (Nat×Nat)}(h:eO lr c l x=[]):∀e∈eO lr c l x,Pr e:=by
 intro e he
 rw[h] at he
 cases he
noncomputable section
section
variable {P:Program} {tt:TT}
end
end
end Go.Proofs.YtomeplopmndbgaaGreat.Sym
namespace Go.Proofs.YtomeplopmndbgaaGreat.Sym
open Go
open Go.IntKind (i8 i16 i32 i64 u8 u16 u32 u64)
noncomputable section
abbrev tt:TT:=uN Tryz.prog 400
def dr:Dr:=wh (uN Tryz.prog 400)
def drG:Dr:=Lt (uN Tryz.prog 400)
theorem hm:Tryz.prog.follows .mixedOrders=true:=by kernel_rfl
abbrev prog:Program:=Tryz.prog
abbrev bs:Ty:=.sl 5 (.int .u8)
abbrev dL:Sh:=.dat bs false false
abbrev dO:Sh:=.dat bs false true
abbrev dI:Sh:=.dat (.int .i64) false false
abbrev dB:Sh:=.dat .bool false false
abbrev dU:Sh:=.dat (.int .u8) false false
theorem dY {k:IntKind}{n:Int}(h:eD k n):k.wrap n=n:=by
 unfold eD at h
 cases k <;> simp[IntKind.wrap,IntKind.min,IntKind.max,IntKind.signed,IntKind.bits] at * <;> (try split) <;> omega
theorem aI {n:Int}(h0 : -9223372036854775808≤n)(h:n≤9223372036854775807):IntKind.wrap .i64 n=n:=by
 apply dY
 simp[eD,IntKind.min,IntKind.max,IntKind.signed,IntKind.bits]
 omega
theorem pB:maxLen=9223372036854775807:=rfl
theorem cq {i n:Nat}(h:i<n)(hn:n≤maxLen):IntKind.wrap .i64 ((i:Int)+1)=((i+1:Nat):Int):=by
 rw[aI] <;> rw[pB] at hn <;> omega
theorem aa {α:Type}{c:Bool}(h:c=true)(a b:α):(bif c then a else b)=a:=by rw[h];rfl
theorem af {α:Type}{c:Bool}(h:c=false)(a b:α):(bif c then a else b)=b:=by rw[h];rfl
theorem aJ {α:Type}{xs:List α}{i:Nat}{d:α}(h:i<xs.length):xs.getD i d=xs[i]:=by simp[List.getD,h]
theorem Tr.val_ret {α:Type}(a:α):(Tr.ret a).val=some a:=rfl
theorem Tr.val_ite {α:Type}(c:Bool)(t e:Tr α):(Tr.ite c t e).val=if c=true then t.val else e.val:=by cases c <;> rfl
theorem Tr.run_ret {α R:Type}(a:α)(K:α→Option R):(Tr.ret a).run K=K a:=rfl
theorem Tr.run_ite {α R:Type}(c:Bool)(t e:Tr α)(K:α→Option R):(Tr.ite c t e).run K=if c=true then t.run K else e.run K:=by cases c <;> rfl
theorem Tr.guard {α:Type}{c:Bool}{t:Tr α}{y:α}(h:(Tr.ite c t .no).val=some y):c=true∧t.val=some y:=by
 cases c with
 |true=>exact ⟨rfl,h⟩
 |false=>cases h
theorem eK {i:Int}(h:0≤i):∃n:Nat,i=n:=⟨i.toNat,by omega⟩
theorem cg {f:Nat}{cs:List (Nat×Hc)}(hcs:HcsOk prog cs){lp:Lp}{fn:Func}(io:Io)(hlp:LpsOk prog io.obs.length lp (dc fn) 0)(Fn:io.In→Tr io.Res)(hF:∀d out,io.wf d→(Fn d).val=some out→io.run (uN prog 400) (bM cs) (wh (uN prog 400)) lp fn d=some out)(hf:prog.funcs[f]?=some fn:=by kernel_rfl)(hname:(fn.name=="runtime.NumGoroutine")=false:=by kernel_rfl) (hbody:fn.body.isNone=false:=by kernel_rfl):HcOk prog f (ae io Fn):=sf (n:=400) hm hcs hf hname hbody io hlp Fn hF
theorem jh {cs:List (Nat×Hc)}(hcs:HcsOk prog cs){lp:Lp}{kb:Nat}{fn:Func}{e:Le}(hsub:LpsOk prog kb lp (Tt fn e) 0)(lo:Lo)(Fn:lo.st.den→Tr (aH lo.xs))(hF:∀d y,lo.st.wf d→(Fn d).val=some y→∃k,il (uN prog 400) (bM cs) (wh (uN prog 400)) lp kb fn e k (lo.st.mk' d) (ci lo.xs)=some y):Gq prog kb e.2.1 (aS lo Fn):=Rm (n:=400) hm hcs hsub lo Fn hF
theorem bT {α:Type}{c:Bool}{a b r:α}(h:c=true)(k:a=r):(bif c then a else b)=r:=by rw[h];exact k
theorem bF {α:Type}{c:Bool}{a b r:α}(h:c=false)(k:b=r):(bif c then a else b)=r:=by rw[h];exact k
abbrev oR {α β:Type}(a:α):Option (Out α β):=some (.ret a)
abbrev hI:SC:=.hol (.int .i64)
abbrev hJ:SC:=.hol (.int .i32)
abbrev hK:SC:=.hol (.int .i16)
abbrev hL:SC:=.hol .bool
abbrev aw:Int:=BH (BG 131072 0) 1048576
abbrev sk:Io:=⟨[dL,dL],[],[],[dB],none⟩
def TA (d:sk.In):Tr sk.Res:=.ret (.ret ((decide (d.1.1=d.1.2.1),()),()))
abbrev QR:List (Nat×Hc):=[]
def aaI:Hd:=bM QR
abbrev kq:Lo:=⟨⟨(.one (.hol (.sl 5 (Ty.int u8)))::.one (.hol (.sl 5 (Ty.int u8)))::.any::ce (.one hI::am (dq []))),[]⟩,[(.ret,⟨(dq (.one hL::.any::am (dq []))),[]⟩),(.exit 0,⟨(am (gE (ce []))),[]⟩)]⟩
def tk (d:kq.st.den):Tr (aH kq.xs):=
 .ite (decide (0≤d.1.2.2.1)&&decide (d.1.1.length=d.1.2.1.length)) (.ite (decide (d.1.1.drop d.1.2.2.1.toNat=d.1.2.1.drop d.1.2.2.1.toNat)) (.ret (.pan (.ret ((),((),()))))) (.ret (.ret ((),((false,()),()))))) .no
def Lj:Lp:=bB [(5,aS kq tk)]
def wz {R:Type}(h2 h3:LI)(h4:Int)(next:LI→LI→Int→Option R)(out:aH kq.xs→Option R):Option R:=bif decide (h4<(↑h2.length:Int)) then bif decide (0≤h4)&&decide (h4<(↑h2.length:Int)) then bif decide (0≤h4)&&decide (h4<(↑h3.length:Int)) then bif h2.getD h4.toNat 0 != h3.getD h4.toNat 0 then out (.ret ((),((false,()),()))) else next (h2) (h3) (i64.wrap (h4+1)) else none else none else out (.pan (.ret ((),((),()))))
def xK (n:Nat)(h2 h3:LI)(h4:Int):Option (aH kq.xs):=il tt aaI dr Lj 0 Tryz.f28 (db Tryz.f28 0) n (kq.st.mk' ((h2,(h3,(h4,()))),())) (ci kq.xs)
theorem Ps (n:Nat)(h2 h3:LI)(h4:Int):xK (n+1) h2 h3 h4=wz h2 h3 h4 (xK n) some:=by kernel_rfl
theorem abm (xs ys:LI)(hl:xs.length=ys.length)(hb:xs.length≤maxLen):∀(k i:Nat),i≤xs.length→xs.length<i+k→
  xK k xs ys (i:Int)=if xs.drop i=ys.drop i then some (.pan (.ret ((),((),())))) else some (.ret ((),((false,()),()))):=by
 intro k
 induction k with
 |zero=>intro i h h';omega
 |succ k ih=>
  intro i hi h
  rw[Ps]
  unfold wz
  by_cases h1:i<xs.length
  ·have h2:i<ys.length:=by omega
   rw[cq h1 hb,ih (i+1) h1 (by omega)]
   have e:(xs.drop i=ys.drop i)↔(xs[i]=ys[i]∧xs.drop (i+1)=ys.drop (i+1)):=by rw[zE h1,zE h2,List.cons.injEq]
   simp only[zG,aJ h1,aJ h2]
   by_cases he:xs[i]=ys[i] <;> simp[h1,h2,he,e,cond_eq_ite]
  ·rw[zI (by omega),zI (by omega)]
   simp[h1]
def Ms (a0 a1:LI):Option sk.Res:=bif (↑a0.length:Int) != (↑a1.length:Int) then oR ((false,()),()) else (tk ((a0,(a1,(0,()))),())).run fun y=>match y with | .ret ((),((x9,()),()))=>(oR ((x9,()),())) | .pan (.ret ((),((),())))=>(oR ((true,()),()))
theorem agh (a0 a1:LI):Io.run tt aaI dr Lj sk Tryz.f28 ((a0,a1,()),())=Ms a0 a1:=by kernel_rfl
theorem RC:HcOk prog 28 (ae sk TA):=by
 refine cg (cs:=QR) HcsOk.nil (lp:=Lj) (fn:=Tryz.f28) sk
  (.step (h0:=aS kq tk) (by kernel_rfl) (jh (cs:=QR) HcsOk.nil (lp:=Lj) (fn:=Tryz.f28) (.done (by kernel_rfl)) kq tk ?_) (.done (by kernel_rfl))) TA ?_
 ·rintro ⟨⟨xs,ys,i,⟨⟩⟩,⟨⟩⟩ y hw hy
  obtain ⟨hg,hy⟩:=Tr.guard hy
  simp only[zA,zB] at hg
  obtain ⟨n,rfl⟩:=eK hg.1
  by_cases hn:n≤xs.length
  ·refine ⟨xs.length+1,(abm xs ys hg.2 hw.1.1.1 _ n hn (by omega)).trans ?_⟩
   rw[← hy]
   simp only[Tr.val_ite,zB,zG,Tr.val_ret]
  ·refine ⟨1,?_⟩
   show xK (0+1) xs ys n=_
   rw[Ps,← hy]
   unfold wz
   have h1:¬ n<xs.length:=by omega
   simp[Tr.val_ite,Tr.val_ret,h1,zI (show xs.length≤n by omega),zI (show ys.length≤n by omega)]
 ·rintro ⟨⟨xs,ys,⟨⟩⟩,⟨⟩⟩ out hw ho
  refine (agh xs ys).trans ?_
  cases ho
  unfold Ms
  by_cases hl:xs.length=ys.length
  ·by_cases he:xs=ys
   ·subst he;simp[tk,Tr.run]
   ·simp[tk,Tr.run,hl,he]
  ·have:xs≠ys:=fun e=>hl (by rw[e])
   have h2:(xs.length:Int)≠ys.length:=by omega
   simp[this,h2,cond_eq_ite]
end
end Go.Proofs.YtomeplopmndbgaaGreat.Sym
namespace Go.Proofs.YtomeplopmndbgaaGreat.Sym
open Go
open Go.ChangeShapes Go.WideShapes Go.ChangeAt Go.RowKit
def jr (P:Program):Ty→(TypeId ⊕ (List Field×Nat))→Bool
 |.int k,.inl t=>match P.underlying t with
  |some (.int k')=>decide (k'=k)
  |_=>false
 |.bool,.inl t=>match P.underlying t with
  |some .bool=>true
  |_=>false
 |.str,.inl t=>match P.underlying t with
  |some .string=>true
  |_=>false
 |.sl e ty,.inl t=>match P.underlying t with
  |some (.slice e')=>(e' == e)&&(jr P ty (.inl e)&&((P.cellsOf e == ty.size)&&!(ty.size == 0)))
  |_=>false
 |.prod a b,.inl t=>match P.underlying t with
  |some (.struct fs)=>(P.cellsOf t == a.size+b.size)&&match fs.toList with
   |f::fs'=>(f.offset == 0)&&((P.cellsOf f.type == a.size)&&(jr P a (.inl f.type)&&jr P b (.inr (fs',a.size))))
   |[]=>false
  |_=>false
 |.unit,.inr ([],_)=>true
 |.prod a b,.inr (f::fs,off)=>(f.offset == off)&&((P.cellsOf f.type == a.size)&&(jr P a (.inl f.type)&&jr P b (.inr (fs,off+a.size))))
 |_,_=>false
def ga:(t:Ty)→t.den→Nat
 |.int _,_=>1
 |.bool,_=>1
 |.str,s=>List.length (α:=Int) s+1
 |.sl _ t,xs=>(List.map (ga t) xs).sum+1
 |.unit,_=>0
 |.prod a b,x=>ga a x.1+ga b x.2
 |.tree _ _,_=>0
def S0 (W:World)(b o:Nat):Prop:=∃v,W.cell? ⟨b,o,none⟩=some v
section
variable {P:Program} {W:World} {H:Type} {enc:TypeId×Value→H} {sp:Nat→Bool} {held:Bool}
theorem ZQ {a:Addr}{n:Nat}{cs:List Value}(h:W.cells? 0 a n=some cs)(hn:0<n):a.spot=none∧cs.length=n∧At (S0 W) W a.block a.off cs:=by
 simp only[World.cells?,Nat.zero_le,if_true] at h
 have hl:=mapM_some_length h
 rw[List.length_range] at hl
 have hg:∀i,i<n→W.cell? (a.add i)=cs[i]?:=fun i hi=>mapM_some_get h i i (by simp[hi])
 have hsp:a.spot=none:=by
  have h0:=hg 0 hn
  rw[List.getElem?_eq_getElem (by omega)] at h0
  unfold World.cell? at h0
  split at h0
  ·split at h0
   ·cases h0
   ·rename_i hs
    cases e:a.spot with
    |none=>rfl
    |some x=>simp[Addr.add,e] at hs
  ·cases h0
 refine ⟨hsp,hl,fun j v hv=>?_⟩
 have hj:j<n:=by rw[← hl];exact (List.getElem?_eq_some_iff.1 hv).1
 have:=hg j hj
 rw[hv] at this
 have e:a.add j=⟨a.block,a.off+j,none⟩:=by
  obtain ⟨b,o,s⟩:=a
  simp only at hsp
  subst hsp
  exact Addr.add_plain ..
 rw[e] at this
 exact ⟨⟨v,this⟩,this⟩
theorem yF (ub:DataW H→Nat)(uba:List (DataW H)→Nat)(u1:∀l,1≤ub (.lit l))(u2:∀bs,bs.length+1≤ub (.lit (.string bs)))(u3:1≤ub .nil)(u4:∀es ss,uba es+1≤ub (.slice es ss))(u5:∀ps,uba ps≤ub (.agg ps))
  (u6:∀d ds,uba (d::ds)=ub d+uba ds) (u7:uba []=0):
  ∀(ty:Ty),(∀(t:TypeId),jr P ty (.inl t)=true→∀(fuel:Nat) (cs:List Value) (x:DataW H×List MemPlace),DataW.trod enc P W 0 sp held fuel t cs=some x→∃y:ty.den,Rt (S0 W) W ty y cs∧ga ty y≤ub x.1)∧
   (∀(fs:List Field) (off:Nat),jr P ty (.inr (fs,off))=true→∀(fuel:Nat) (cs:List Value) (xs:List (DataW H×List MemPlace)),fs.mapM (fun f=>DataW.trod enc P W 0 sp held fuel f.type ((cs.drop f.offset).take (P.cellsOf f.type)))=some xs→
    (cs.drop off).length=ty.size→∃y:ty.den,Rt (S0 W) W ty y (cs.drop off)∧ga ty y≤uba (xs.map (·.1)))
 |.int k=>by
  refine ⟨fun t ht fuel cs x h=>?_,fun fs off ht=>by cases fs <;> simp[jr] at ht⟩
  simp only[jr] at ht
  split at ht
  ·rename_i k' hu
   have ht:=of_decide_eq_true ht
   subst ht
   obtain ⟨n2,rfl,rfl,hw⟩:=DataW.trod_int hu h
   refine ⟨n2,⟨rfl,?_⟩,u1 _⟩
   simpa [Lit.wf,eD] using hw
  ·cases ht
 |.bool=>by
  refine ⟨fun t ht fuel cs x h=>?_,fun fs off ht=>by cases fs <;> simp[jr] at ht⟩
  simp only[jr] at ht
  split at ht
  ·rename_i hu
   obtain ⟨b,rfl,rfl⟩:=DataW.trod_bool hu h
   exact ⟨b,rfl,u1 _⟩
  ·cases ht
 |.str=>by
  refine ⟨fun t ht fuel cs x h=>?_,fun fs off ht=>by cases fs <;> simp[jr] at ht⟩
  simp only[jr] at ht
  split at ht
  ·rename_i hu
   obtain ⟨s,rfl,rfl,hl⟩:=DataW.trod_string hu h
   refine ⟨o7 s,⟨by rw[sF],B6 s,?_⟩,?_⟩
   ·have:(o7 s).length=s.size:=by rw[← eC,sF]
    rw[this];exact hl
   ·have:(o7 s).length=s.data.toList.length:=by unfold o7;exact List.length_map _
    show (o7 s).length+1≤_
    rw[this]
    exact u2 _
  ·cases ht
 |.unit=>by
  refine ⟨fun t ht=>by simp[jr] at ht,fun fs off ht fuel cs xs h hl=>?_⟩
  refine ⟨(),?_,Nat.zero_le _⟩
  exact zF hl
 |.sl e ty=>by
  refine ⟨fun t ht fuel cs x h=>?_,fun fs off ht=>by cases fs <;> simp[jr] at ht⟩
  simp only[jr] at ht
  split at ht
  ·rename_i e' hu
   simp only[zA,beq_iff_eq,Bool.not_eq_true',beq_eq_false_iff_ne] at ht
   obtain ⟨rfl,hT,hsz,hpos⟩:=ht
   have ih:=(yF ub uba u1 u2 u3 u4 u5 u6 u7 ty).1 e' hT
   rcases DataW.trod_slice hu h with ⟨rfl,rfl⟩ | ⟨a,len,cap,elems,rest,n,_,rfl,rfl,hb,hl,hm,hlen,hel,_,_⟩
   ·exact ⟨[],⟨none,0,rfl,Nat.le_refl _,Nat.zero_le _,fun h=>absurd rfl h⟩,u3⟩
   ·have each:∀i,i<len→∃y:ty.den,(∃c,Rt (S0 W) W ty y c∧(i=0→a.spot=none)∧At (S0 W) W a.block (a.off+i*ty.size) c)∧∃d,elems[i]?=some d∧ga ty y≤ub d.1:=by
     intro i hi
     have h1:=hel i hi
     rw[List.getElem?_eq_getElem (by omega)] at h1
     obtain ⟨c,hc,hd⟩:=Option.bind_eq_some_iff.1 h1
     obtain ⟨y,hy,hs⟩:=ih _ _ _ hd
     rw[hsz] at hc
     obtain ⟨h2,h3,h4⟩:=ZQ hc (by omega)
     have e1:(a.add (i*ty.size)).block=a.block:=by unfold Addr.add;split <;> rfl
     have e2:(a.add (i*ty.size)).off=a.off+i*ty.size:=by
      unfold Addr.add
      split
      ·rename_i h0;rw[h0];rfl
      ·rfl
     rw[e1,e2] at h4
     refine ⟨y,⟨c,hy,fun h0=>?_,h4⟩,elems[i],by simp,hs⟩
     subst h0
     simpa [Addr.add] using h2
    have mk:∀m,m≤len→∃ys:List ty.den,ys.length=m∧(∀i y,ys[i]?=some y→∃c,Rt (S0 W) W ty y c∧(i=0→a.spot=none)∧At (S0 W) W a.block (a.off+i*ty.size) c)∧(ys.map (ga ty)).sum≤uba ((elems.take m).map (·.1)):=by
     intro m
     induction m with
     |zero=>intro _;exact ⟨[],rfl,fun i y h=>by simp at h,by simp⟩
     |succ m ihm=>
      intro hm'
      obtain ⟨ys,g1,g2,g3⟩:=ihm (by omega)
      obtain ⟨y,g4,d,g5,g6⟩:=each m (by omega)
      refine ⟨ys++[y],by simp[g1],fun i z hz=>?_,?_⟩
      ·rw[List.getElem?_append] at hz
       split at hz
       ·exact g2 i z hz
       ·rename_i hlt
        have:i=m:=by
         have:=(List.getElem?_eq_some_iff.1 hz).1
         simp at this;omega
        subst this
        simp[g1] at hz
        subst hz
        exact g4
      ·have hap:∀(xs bs:List (DataW H)),uba (xs++bs)=uba xs+uba bs:=by
        intro xs bs
        induction xs with
        |nil=>simp[u7]
        |cons c xs ih=>rw[List.cons_append,u6,u6,ih];omega
       rw[List.take_add_one,g5]
       simp only[List.map_append,List.sum_append,hap,Option.toList,zL,List.map_nil,List.sum_cons,List.sum_nil,u6,u7]
       omega
    obtain ⟨ys,g1,g2,g3⟩:=mk len (Nat.le_refl _)
    refine ⟨ys,⟨some a,cap,by rw[g1],by omega,hm,fun hne=>?_⟩,?_⟩
    ·have h0:0<ys.length:=List.length_pos_iff.2 hne
     obtain ⟨c,_,hsp,_⟩:=g2 0 ys[0] (by simp)
     have hsp:=hsp rfl
     refine ⟨a.block,a.off,?_,fun i y hy=>?_⟩
     ·obtain ⟨b,o,s⟩:=a
      simp only at hsp
      rw[hsp]
     ·obtain ⟨c,hc,_,hat⟩:=g2 i y hy
      exact ⟨c,hc,hat⟩
    ·rw[List.take_of_length_le (by omega)] at g3
     show (ys.map (ga ty)).sum+1≤_
     exact Nat.le_trans (by omega) (u4 _ _)
  ·cases ht
 |.tree a e=>⟨fun t ht=>by simp[jr] at ht,fun fs off ht=>by cases fs <;> simp[jr] at ht⟩
 |.prod a b=>by
  have step:∀(f:Field) (fs:List Field) (off:Nat),((f.offset == off)&&((P.cellsOf f.type == a.size)&&(jr P a (.inl f.type)&&jr P b (.inr (fs,off+a.size)))))=true→
    ∀(fuel:Nat) (cs:List Value) (xs:List (DataW H×List MemPlace)),(f::fs).mapM (fun f=>DataW.trod enc P W 0 sp held fuel f.type ((cs.drop f.offset).take (P.cellsOf f.type)))=some xs→
    (cs.drop off).length=a.size+b.size→∃y:a.den×b.den,Rt (S0 W) W (.prod a b) y (cs.drop off)∧ga a y.1+ga b y.2≤uba (xs.map (·.1)):=by
   intro f fs off ht fuel cs xs h hl
   simp only[zA,beq_iff_eq] at ht
   obtain ⟨rfl,hs,hA,hB⟩:=ht
   simp only[List.mapM_cons,Option.bind_eq_bind,Option.bind_eq_some_iff] at h
   obtain ⟨x0,h0,xs',h1,h2⟩:=h
   simp only[Option.pure_def,zC] at h2
   subst h2
   rw[hs] at h0
   obtain ⟨y1,hy1,hd1⟩:=(yF ub uba u1 u2 u3 u4 u5 u6 u7 a).1 f.type hA _ _ _ h0
   have hl2:(cs.drop (f.offset+a.size)).length=b.size:=by
    simp only[List.length_drop] at hl ⊢
    omega
   obtain ⟨y2,hy2,hd2⟩:=(yF ub uba u1 u2 u3 u4 u5 u6 u7 b).2 fs _ hB _ _ _ h1 hl2
   refine ⟨(y1,y2),⟨_,_,?_,hy1,hy2⟩,?_⟩
   ·rw[← List.drop_drop,List.take_append_drop]
   ·simp only[zL,u6]
    omega
  refine ⟨fun t ht fuel cs x h=>?_,fun fs off ht fuel cs xs h hl=>?_⟩
  ·simp only[jr] at ht
   split at ht
   ·rename_i fs hu
    simp only[zA,beq_iff_eq] at ht
    obtain ⟨hsz,ht⟩:=ht
    split at ht
    ·rename_i f fs' hfs
     cases fuel with
     |zero=>simp[DataW.trod] at h
     |succ n=>
      unfold DataW.trod at h
      rw[hu] at h
      simp only at h
      split at h
      ·rename_i hlen
       obtain ⟨xs,hxs,rfl⟩:=Option.map_eq_some_iff.1 h
       rw[hfs] at hxs
       obtain ⟨y,hy,hd⟩:=step f fs' 0 (by simpa using ht) n cs xs hxs (by simpa [hsz] using hlen)
       exact ⟨y,by simpa using hy,Nat.le_trans hd (u5 _)⟩
      ·cases h
    ·cases ht
   ·cases ht
  ·cases fs with
   |nil=>simp[jr] at ht
   |cons f fs=>exact step f fs off (by simpa only [jr] using ht) fuel cs xs h hl
theorem ajY {ty:Ty}{t:TypeId}(ht:jr P ty (.inl t)=true){fuel:Nat}{cs:List Value}{d:DataW H}{ps:List MemPlace}(h:DataW.trod enc P W 0 sp held fuel t cs=some (d,ps)):∃y:ty.den,Rt (S0 W) W ty y cs∧ga ty y≤Rows.uptoBulk d:=
 (yF Rows.uptoBulk Rows.uptoBulkAll (fun l=>by cases l <;> simp[Rows.uptoBulk]) (fun bs=>by simp[Rows.uptoBulk]) (by simp[Rows.uptoBulk]) (fun es ss=>by simp[Rows.uptoBulk]) (fun ps=>by simp[Rows.uptoBulk]) (fun d ds=>by simp[Rows.uptoBulkAll]) (by simp[Rows.uptoBulkAll]) ty).1 t ht fuel cs _ h
def G0 (W:World):Gh:=⟨S0 W,fun _=>none,fun _=>none⟩
def F0 (W:World):Fra:=⟨W,fun _=>False,S0 W,fun _=>none⟩
theorem ako (h:∀g,ahh g=false)(W:World):AP (S0 W) W:=fun g i hg _=>absurd hg (by rw[h g];decide)
theorem akD (W:World)(htab:AP (S0 W) W):Rel (F0 W) (G0 W) ⟨[],[],[]⟩ #[] [] W where
 tm:=trivial
 stk:=trivial
 ob:=fun k cs h=>by simp at h
 gh:=⟨fun _ _ h=>(by cases h),fun _ _ _ h=>(by cases h),fun _ _ _ h=>(by cases h),fun _ _ _ _ _ h=>(by cases h),fun b o h=>(by
   obtain ⟨v,h⟩:=h
   unfold World.cell? at h
   split at h
   ·rename_i e
    exact (Array.getElem?_eq_some_iff.1 e).1
   ·cases h),⟨rfl,rfl,rfl,Nat.le_refl _,fun _ _ _=>rfl⟩,fun _ _ h=>h,fun _ _ h=>.inl h,fun _ _ _=>rfl,fun _ _ h=>(by cases h),htab⟩
def W2 (oc:Oc)(A:AS):Option Unit:=match oc with
 |.ret (.one (.bool true)) _=>some ()
 |_=>none
theorem W3 {f:Nat}{io:Io}{Fn:io.In→Tr io.Res}(hok:HcOk P f (ae io Fn)){args:List V}{vals:Array Value}(hargs:All2 (Rv (G0 W) W) args vals.toList)(hrun:ae io Fn Unit args 1 ⟨[],[],[]⟩ W2=some ())(htab:AP (S0 W) W:=by exact ako (fun _=>rfl) _):
  Calls P f vals W fun e w'=>e=.returned (.bool true)∧w'.os=W.os∧w'.output=W.output∧∀i,i<W.heap.size→w'.heap[i]?=W.heap[i]?:=by
 refine (hok Unit args 1 _ W2 () (F0 W) (G0 W) #[] [] W vals (fun _=>rfl) hrun (akD W htab) hargs).2.mono ?_
 rintro e w' ⟨G',A',v,u,R',hv,h⟩
 have hfr:=R'.gh.fr
 refine ⟨?_,hfr.os,hfr.output,fun i hi=>hfr.block i hi (fun h=>h)⟩
 rcases h with ⟨rfl,ks,_,hk⟩ | ⟨rfl,hk⟩
 ·unfold W2 at hk
  split at hk
  ·rename_i e
   cases e
   rw[show u=.bool true from hv]
  ·cases hk
 ·cases hk
def QG (ty:Ty)(y:ty.den):V:=bif ty.isProd then .agg (yD ty y) else match yD ty y with
 |[c]=>.one c
 |_=>.any
theorem QH {G:Gh}{ty:Ty}{y:ty.den}{v:Value}(h:Rt G.S W ty y v.cells.toList)(hp:ty.isProd=true→∃vs,v=.agg vs)(hn:ty.isProd=false→v.cells = #[v]):Rv G W (QG ty y) v:=by
 have hs:=fy (G:=G) (w:=W) ty y _ h
 unfold QG
 cases hb:ty.isProd with
 |true=>
  obtain ⟨vs,rfl⟩:=hp hb
  exact ⟨vs,rfl,hs⟩
 |false=>
  rw[hn hb] at hs
  simp only[cond_false]
  split
  ·rename_i c e
   rw[e] at hs
   exact hs.1
  ·trivial
theorem Wb {ty:Ty}{t:TypeId}(ht:jr P ty (.inl t)=true){r:Reach}{base:Nat}{v:Value}(hval:Value.okWide P W r base t v):(ty.isProd=true→∃vs,v=.agg vs)∧(ty.isProd=false→v.cells = #[v]):=by
 cases ty with
 |tree a e=>simp[jr] at ht
 |int k=>
  refine ⟨fun h=>(by cases h),fun _=>?_⟩
  simp only[jr] at ht
  split at ht
  ·rename_i k' hu
   cases v <;> simp[Value.okWide,hu,Cell.okWide,Cell.ok] at hval <;> rfl
  ·cases ht
 |bool=>
  refine ⟨fun h=>(by cases h),fun _=>?_⟩
  simp only[jr] at ht
  split at ht
  ·rename_i hu
   cases v <;> simp[Value.okWide,hu,Cell.okWide,Cell.ok] at hval <;> rfl
  ·cases ht
 |str=>
  refine ⟨fun h=>(by cases h),fun _=>?_⟩
  simp only[jr] at ht
  split at ht
  ·rename_i hu
   cases v <;> simp[Value.okWide,hu,Cell.okWide,Cell.ok] at hval <;> rfl
  ·cases ht
 |sl e ty=>
  refine ⟨fun h=>(by cases h),fun _=>?_⟩
  simp only[jr] at ht
  split at ht
  ·rename_i e' hu
   cases v <;> simp[Value.okWide,hu,Cell.okWide,Cell.ok] at hval <;> rfl
  ·cases ht
 |unit=>simp[jr] at ht
 |prod a b=>
  refine ⟨fun _=>?_,fun h=>(by cases h)⟩
  simp only[jr] at ht
  split at ht
  ·rename_i fs hu
   simp only[Value.okWide,hu] at hval
   obtain ⟨cs,rfl,_⟩:=hval
   exact ⟨cs,rfl⟩
  ·cases ht
def CN (P:Program):Bool:=(List.range P.types.size).all fun t=>match P.underlying t with
 |some (.slice e)=>decide (0<P.cellsOf e)
 |_=>true
theorem G4 (hl:laidOutB P=true)(hm:mapsRowed P=true)(hs:CN P=true){W':World}(hk:∀i,i<W.heap.size→W'.heap[i]?=W.heap[i]?):∀{ts:List TypeId} {vs:List Value} {ds:List (DataW H)} {ps:List MemPlace},
  (∀t∈ts,t<P.types.size)→DataW.TrodAll enc P W 0 (fun _=>true) true ts vs ds ps→(∀p∈ps,sp p.block=true)→DataW.TrodAll enc P W' 0 sp true ts vs ds ps
 |[],[],[],_,_,h,_=>h
 |t::ts,v::vs,d::ds,ps,hT,⟨p,q,⟨fuel,h1⟩,h2,e⟩,hsp=>by
  refine ⟨p,q,⟨fuel,DataW.trod_stays (kids_rows hl hm) (fun {t e} ht hu=>?_) (fun h=>(by cases h)) (hT t (by simp)) h1 (fun x hx=>?_) fun x hx=>hsp x (by rw[e];exact List.mem_append_left _ hx)⟩,
   G4 hl hm hs hk (fun t ht=>hT t (by simp[ht])) h2 (fun x hx=>hsp x (by rw[e];exact List.mem_append_right _ hx)),e⟩
  ·have:=List.all_eq_true.1 hs t (by simpa using ht)
   rw[hu] at this
   exact of_decide_eq_true this
  ·have hb:=DataW.trod_lt _ _ _ _ h1 x hx
   cases x with
   |cell b off=>simp[World.sameAt,World.cell?,hk b hb]
   |map b=>exact hk b hb
 |[],[],_::_,_,_,h,_=>h.elim
 |[],_::_,_,_,_,h,_=>h.elim
 |_::_,[],_,_,_,h,_=>h.elim
 |_::_,_::_,[],_,_,h,_=>h.elim
theorem acJ {f:Func}{s:ChangeSpec}{apart fresh handsOn again:Bool}{W':World}{args:Array Value}{ds gs:List (DataW H)}{before:List MemPlace}
  (hl:laidOutB P=true) (hm:mapsRowed P=true) (hs:CN P=true) (hT:∀t∈f.params.toList,t<P.types.size) {tb:TypeId} (hr:f.resultTypes = #[tb]) (htb:P.underlying tb=some .bool) (hv:s.vars=[])
  (hW:DataW.Whole enc P f.params.toList s.vars apart W args.toList ds gs before) (hfn:s.fn H (ds++gs)={ results:=[.lit (.bool true)],args:=ds })
  (hos:W'.os=W.os) (hout:W'.output=W.output) (hk:∀i,i<W.heap.size→W'.heap[i]?=W.heap[i]?):s.post enc P f apart fresh handsOn again W args (.bool true) W':=by
 have hlt:=hW.lt
 obtain ⟨p,q,hA,hV,hpq,hfz,hnd⟩:=id hW
 rw[hv] at hV
 obtain ⟨rfl,rfl⟩:=trodVars_none hV
 rw[List.append_nil] at hpq
 subst hpq
 have hres:∀(b:Nat) (sp:Nat→Bool) (hd:Bool),DataW.TrodAll enc P W' b sp hd f.resultTypes.toList ((Value.bool true).resultList f.resultTypes.size) [.lit (.bool true)] []:=by
  intro b sp hd
  rw[hr]
  exact trodAll_cons_mk (shut_bool htb _) trodAll_mk0
 have hargs:∀sp:Nat→Bool,(∀x∈before,sp x.block=true)→DataW.TrodAll enc P W' 0 sp true f.params.toList args.toList ds before:=
  fun sp hsp=>G4 hl hm hs hk hT hA hsp
 have hvars:∀sp:Nat→Bool,DataW.TrodVars enc P W' sp s.vars [] []:=by
  intro sp
  rw[hv]
  rfl
 have hold:∀x∈before,(fun b=>decide (b<W.heap.size)) x.block=true:=fun x hx=>by simpa using hlt x hx
 have hkept:∀may:MemPlace→Prop,W.keptBut W' may:=fun may=>⟨hos,hout,fun i hi=>by
  rw[hk i hi]
  cases h:W.heap[i]? with
  |none=>rfl
  |some o=>cases o <;> simp⟩
 refine ⟨ds,[],before,[],before,[],hW,by rw[hfn];exact hres _ _ _,by rw[hfn];exact hargs _ hold,by rw[hfn];exact hvars _,hkept _,fun _=>?_⟩
 refine ⟨ok_one hr rfl (okWide_bool_mk htb true),[.lit (.bool true)]++ds,[],[]++before,⟨[]++before,[],trodAll_append (hargs _ fun _ _=>rfl) (hres _ _ _),hvars _,by simp,fun b off hx=>?_,fun ha=>by simpa using hnd ha⟩,fun x hx _=>by simpa using hx⟩
 have hx:MemPlace.cell b off∈before:=by simpa using hx
 rw[← hfz b off hx]
 simp[World.frozen?,hk b (hlt _ hx)]
@[reducible] def yS:List Ty→Type
 |[]=>Unit
 |t::ts=>t.den×yS ts
def TU:(tys:List Ty)→yS tys→List V
 |[],_=>[]
 |t::ts,y=>QG t y.1::TU ts y.2
def WA:(tys:List Ty)→yS tys→Nat
 |[],_=>0
 |t::ts,y=>ga t y.1+WA ts y.2
def wfs:(tys:List Ty)→yS tys→Prop
 |[],_=>True
 |t::ts,y=>t.wf y.1∧wfs ts y.2
def afF (P:Program):List Ty→List TypeId→Bool
 |[],[]=>true
 |ty::tys,t::ts=>jr P ty (.inl t)&&afF P tys ts
 |_,_=>false
theorem Mo {r:Reach}{base:Nat}:∀(tys:List Ty) (ts:List TypeId),afF P tys ts=true→∀{vs:List Value} {ds:List (DataW H)} {ps:List MemPlace},DataW.TrodAll enc P W 0 sp held ts vs ds ps→
  (∀(j:Nat) t v,ts[j]?=some t→vs[j]?=some v→Value.okWide P W r base t v)→
  ∃ys:yS tys,All2 (Rv (G0 W) W) (TU tys ys) vs∧WA tys ys≤Rows.uptoBulkAll ds∧wfs tys ys∧ds.length=tys.length
 |[],[],_,[],[],_,_,_=>⟨(),trivial,Nat.zero_le _,trivial,rfl⟩
 |ty::tys,t::ts,ht,v::vs,d::ds,_,⟨p,q,⟨fuel,h1⟩,h2,_⟩,hv=>by
  simp only[afF,zA] at ht
  obtain ⟨y,hy,hs⟩:=ajY ht.1 h1
  obtain ⟨k1,k2⟩:=Wb ht.1 (hv 0 t v rfl rfl)
  obtain ⟨ys,g1,g2,g3,g4⟩:=Mo tys ts ht.2 h2 fun j t' v' e1 e2=>hv (j+1) t' v' (by simpa using e1) (by simpa using e2)
  refine ⟨(y,ys),⟨QH hy k1 k2,g1⟩,?_,⟨Rt.wf ty y _ hy,g3⟩,by simp[g4]⟩
  simp only[WA,Rows.uptoBulkAll]
  omega
 |[],[],_,[],_::_,_,h,_=>h.elim
 |[],[],_,_::_,_,_,h,_=>h.elim
 |_::_,_::_,_,[],_,_,h,_=>h.elim
 |_::_,_::_,_,_::_,[],_,h,_=>h.elim
 |[],_::_,h,_,_,_,_,_=>by cases h
 |_::_,[],h,_,_,_,_,_=>by cases h
theorem K6 {fn:Func}{f:Nat}{io:Io}{Fn:io.In→Tr io.Res}(hok:HcOk P f (ae io Fn)){s:ChangeSpec}(tys:List Ty)(hts:afF P tys fn.params.toList=true)
  (hl:laidOutB P=true) (hm:mapsRowed P=true) (hs:CN P=true) (hT:∀t∈fn.params.toList,t<P.types.size) {tb:TypeId} (hr:fn.resultTypes = #[tb]) (htb:P.underlying tb=some .bool) (hv:s.vars=[])
  (hfn:∀ds:List (DataW H),ds.length=tys.length→s.fn H ds={ results:=[.lit (.bool true)],args:=ds })
  (hrun:∀ys:yS tys,WA tys ys≤1048576→wfs tys ys→ae io Fn Unit (TU tys ys) 1 ⟨[],[],[]⟩ W2=some ())
  (base:Nat) (args:Array Value) (ds gs:List (DataW H)) (before:List MemPlace)
  (hval:∀(j:Nat) t v,fn.params[j]?=some t→args[j]?=some v→Value.okWide P W .any base t v)
  (hW:DataW.Whole enc P fn.params.toList s.vars false W args.toList ds gs before) (hk:Rows.uptoSmall H (ds++gs)=true) (htab:AP (S0 W) W:=by exact ako (fun _=>rfl) _):
  Calls P f args W fun e W'=>∃v,e=.returned v∧s.post enc P fn false true false false W args v W':=by
 have hW':=hW
 obtain ⟨p,q,hA,hV,_,_,_⟩:=hW
 rw[hv] at hV
 obtain ⟨rfl,rfl⟩:=trodVars_none hV
 obtain ⟨ys,g1,g2,g3,g4⟩:=Mo tys fn.params.toList hts hA fun j t v e1 e2=>hval j t v (by simpa using e1) (by simpa using e2)
 have hb:Rows.uptoBulkAll ds≤1048576:=by simpa [Rows.uptoSmall] using hk
 refine (W3 hok (vals:=args) (args:=TU tys ys) g1 (hrun ys (by omega) g3) htab).mono ?_
 rintro e W' ⟨rfl,hos,hout,hkeep⟩
 exact ⟨_,rfl,acJ hl hm hs hT hr htb hv hW' (by rw[List.append_nil];exact hfn ds g4) hos hout hkeep⟩
end
end Go.Proofs.YtomeplopmndbgaaGreat.Sym
namespace Go.Proofs.YtomeplopmndbgaaGreat.Sym
open Go
noncomputable section
section
variable {P:Program} {tt:TT}
end
end
end Go.Proofs.YtomeplopmndbgaaGreat.Sym
namespace Go.Proofs.YtomeplopmndbgaaGreat.Sym
open Go
def Ty.flatB:Ty→Bool
 |.sl _ _=>false
 |.tree _ _=>false
 |.prod a b=>a.flatB&&b.flatB
 |_=>true
theorem Rt.flat {S S':Nat→Nat→Prop}{w w':World}:∀(t:Ty) (x:t.den) (cs:List Value),t.flatB=true→Rt S w t x cs→Rt S' w' t x cs
 |.int _,_,_,_,h=>h
 |.bool,_,_,_,h=>h
 |.str,_,_,_,h=>h
 |.unit,_,_,_,h=>h
 |.prod a b,_,_,hf,⟨c1,c2,e,h1,h2⟩=>by
  simp only[Ty.flatB,zA] at hf
  exact ⟨c1,c2,e,Rt.flat a _ _ hf.1 h1,Rt.flat b _ _ hf.2 h2⟩
 |.sl _ _,_,_,hf,_=>by cases hf
 |.tree _ _,_,_,hf,_=>by cases hf
noncomputable section
structure Grown (w w':World):Prop where
 os:w'.os=w.os
 tape:w'.tape=w.tape
 output:w'.output=w.output
 size:w.heap.size≤w'.heap.size
 old:∀k,k<w.heap.size→w'.heap[k]?=w.heap[k]?
section
variable {F:Fra} {G:Gh} {w w':World}
variable {G':Gh}
end
end
end Go.Proofs.YtomeplopmndbgaaGreat.Sym
namespace Go.Proofs.YtomeplopmndbgaaGreat.Sym
open Go
noncomputable section
end
end Go.Proofs.YtomeplopmndbgaaGreat.Sym
namespace Go.Proofs.YtomeplopmndbgaaGreat.Sym
open Go
open Go.IntKind (i8 i16 i32 i64 u8 u16 u32 u64)
noncomputable section
theorem AQ {R:Type}(it:Nat→LI→LI→Int→Option R)(out:LI→Option R)
  (h:∀n b o i,it (n+1) b o i=bif decide (i<(b.length:Int)) then bif decide (0≤i)&&decide (i<(b.length:Int)) then bif decide (o.length+[b.getD i.toNat 0].length≤4294967296) then it n b (o++[b.getD i.toNat 0]) (i64.wrap (i+1)) else none else none else out o)
  (b:LI) (hb:b.length≤maxLen):∀(k:Nat) (o:LI) (i:Nat),i≤b.length→b.length<i+k→o.length+(b.length - i)≤4294967296→it k b o i=out (o++b.drop i):=by
 intro k
 induction k with
 |zero=>intro o i h1 h2;omega
 |succ k ih=>
  intro o i h1 h2 h3
  rw[h]
  by_cases hi:i<b.length
  ·rw[cq hi hb,ih _ (i+1) hi (by omega) (by simp;omega),zE hi]
   simp only[zG,aJ hi]
   have h4:o.length+1≤4294967296:=by omega
   simp[hi,h4]
  ·rw[zI (by omega)]
   simp[hi]
abbrev qk:Io:=⟨[dL],[],[],[dO],none⟩
def Md (d:qk.In):Tr qk.Res:=.ite (decide (d.1.1.length≤4294967296)) (.ret (.ret ((d.1.1,()),()))) .no
abbrev QQ:List (Nat×Hc):=[]
def aaH:Hd:=bM QQ
abbrev kp:Lo:=⟨⟨(.one (.hol (.sl 5 (Ty.int u8)))::ce (.one (.onl 5 (Ty.int u8) 7)::.one hI::.any::gE (dq (ce [])))),[]⟩,[(.exit 0,⟨(.any::ce (.one (.onl 5 (Ty.int u8) 7)::am [])),[]⟩)]⟩
def wD (d:kp.st.den):Tr (aH kp.xs):=
 .ite (decide (d.1.2.2.1=0)&&decide (d.1.2.1.length+d.1.1.length≤4294967296)) (.ret (.ret ((),((d.1.2.1++d.1.1,()),())))) .no
def Li:Lp:=bB [(4,aS kp wD)]
def Ts {R:Type}(h1 h2:LI)(h3:Int)(next:LI→LI→Int→Option R)(out:aH kp.xs→Option R):Option R:=bif decide (h3<(↑h1.length:Int)) then bif decide (0≤h3)&&decide (h3<(↑h1.length:Int)) then bif decide (h2.length+[h1.getD h3.toNat 0].length≤4294967296) then next (h1) (h2++[h1.getD h3.toNat 0]) (i64.wrap (h3+1)) else none else none else out (.ret ((),((h2,()),())))
def EC (n:Nat)(h1 h2:LI)(h3:Int):Option (aH kp.xs):=il tt aaH dr Li 0 Tryz.f27 (db Tryz.f27 0) n (kp.st.mk' ((h1,(h2,(h3,()))),())) (ci kp.xs)
theorem adF (n:Nat)(h1 h2:LI)(h3:Int):EC (n+1) h1 h2 h3=Ts h1 h2 h3 (EC n) some:=by kernel_rfl
def Mq (a0:LI):Option qk.Res:=(wD ((a0,([],(0,()))),())).run fun y=>match y with | .ret ((),((x8,()),()))=>(oR ((x8,()),()))
theorem agf (a0:LI):Io.run tt aaH dr Li qk Tryz.f27 ((a0,()),())=Mq a0:=by kernel_rfl
theorem Lz:HcOk prog 27 (ae qk Md):=by
 refine cg (cs:=QQ) HcsOk.nil (lp:=Li) (fn:=Tryz.f27) qk
  (.step (h0:=aS kp wD) (by kernel_rfl) (jh (cs:=QQ) HcsOk.nil (lp:=Li) (fn:=Tryz.f27) (.done (by kernel_rfl)) kp wD ?_) (.done (by kernel_rfl))) Md ?_
 ·rintro ⟨⟨b,o,i,⟨⟩⟩,⟨⟩⟩ y hw hy
  obtain ⟨hg,hy⟩:=Tr.guard hy
  simp only[zA,zB] at hg
  obtain ⟨rfl,hl⟩:=hg
  refine ⟨b.length+1,(AQ (fun k b o i=>EC k b o i) (fun o=>some (.ret ((),((o,()),())))) (fun n b o i=>adF n b o i) b hw.1.1.1 _ o 0 (by omega) (by omega) (by omega)).trans ?_⟩
  rw[← hy];rfl
 ·rintro ⟨⟨b,⟨⟩⟩,⟨⟩⟩ out hw ho
  obtain ⟨hg,ho⟩:=Tr.guard ho
  cases ho
  refine (agf b).trans ?_
  simp only[zB] at hg
  unfold Mq wD
  simp[Tr.run_ite,Tr.run_ret,hg]
abbrev uR:Io:=⟨[dL,dL],[],[],[dO],none⟩
def Wa (d:uR.In):Tr uR.Res:=.ite (decide (d.1.1.length+d.1.2.1.length≤4294967296)) (.ret (.ret ((d.1.1++d.1.2.1,()),()))) .no
abbrev ahu:List (Nat×Hc):=[(27,ae qk Md)]
def ahL:Hd:=bM ahu
abbrev mM:Lo:=⟨⟨(.any::.one (.hol (.sl 5 (Ty.int u8)))::.any::ce (.one (.onl 5 (Ty.int u8) 11)::.one hI::am [])),[]⟩,[(.exit 0,⟨(.any::dq (.one (.onl 5 (Ty.int u8) 11)::.any::am [])),[]⟩)]⟩
def CQ (d:mM.st.den):Tr (aH mM.xs):=
 .ite (decide (d.1.2.2.1=0)&&decide (d.1.2.1.length+d.1.1.length≤4294967296)) (.ret (.ret ((),((d.1.2.1++d.1.1,()),())))) .no
def U5:Lp:=bB [(4,aS mM CQ)]
def Zb {R:Type}(h2 h3:LI)(h4:Int)(next:LI→LI→Int→Option R)(out:aH mM.xs→Option R):Option R:=bif decide (h4<(↑h2.length:Int)) then bif decide (0≤h4)&&decide (h4<(↑h2.length:Int)) then bif decide (h3.length+[h2.getD h4.toNat 0].length≤4294967296) then next (h2) (h3++[h2.getD h4.toNat 0]) (i64.wrap (h4+1)) else none else none else out (.ret ((),((h3,()),())))
def K3 (n:Nat)(h2 h3:LI)(h4:Int):Option (aH mM.xs):=il tt ahL dr U5 0 Tryz.f38 (db Tryz.f38 0) n (mM.st.mk' ((h2,(h3,(h4,()))),())) (ci mM.xs)
theorem agV (n:Nat)(h2 h3:LI)(h4:Int):K3 (n+1) h2 h3 h4=Zb h2 h3 h4 (K3 n) some:=by kernel_rfl
def TV (a0 a1:LI):Option uR.Res:=bif decide (a0.length≤4294967296) then (CQ ((a1,(a0,(0,()))),())).run fun y=>match y with | .ret ((),((x9,()),()))=>(oR ((x9,()),())) else none
theorem aji (a0 a1:LI):Io.run tt ahL dr U5 uR Tryz.f38 ((a0,a1,()),())=TV a0 a1:=by kernel_rfl
theorem UW:HcsOk prog ahu:=.cons Lz .nil
theorem IW:HcOk prog 38 (ae uR Wa):=by
 refine cg UW (lp:=U5) (fn:=Tryz.f38) uR
  (.step (h0:=aS mM CQ) (by kernel_rfl) (jh UW (lp:=U5) (fn:=Tryz.f38) (.done (by kernel_rfl)) mM CQ ?_) (.done (by kernel_rfl))) Wa ?_
 ·rintro ⟨⟨b,o,i,⟨⟩⟩,⟨⟩⟩ y hw hy
  obtain ⟨hg,hy⟩:=Tr.guard hy
  simp only[zA,zB] at hg
  obtain ⟨rfl,hl⟩:=hg
  refine ⟨b.length+1,(AQ (fun k b o i=>K3 k b o i) (fun o=>some (.ret ((),((o,()),())))) (fun n b o i=>agV n b o i) b hw.1.1.1 _ o 0 (by omega) (by omega) (by omega)).trans ?_⟩
  rw[← hy];rfl
 ·rintro ⟨⟨a,b,⟨⟩⟩,⟨⟩⟩ out hw ho
  obtain ⟨hg,ho⟩:=Tr.guard ho
  cases ho
  refine (aji a b).trans ?_
  simp only[zB] at hg
  have hg:a.length+b.length≤4294967296:=hg
  have h1:a.length≤4294967296:=by omega
  unfold TV CQ
  simp[Tr.run_ite,Tr.run_ret,hg,h1]
end
end Go.Proofs.YtomeplopmndbgaaGreat.Sym
namespace Go.Proofs.YtomeplopmndbgaaGreat.Sym
open Go
noncomputable section
def cF (b:LI)(p lo hi:Int):Bool:=decide (p<(b.length:Int))&&(decide (lo≤b.getD p.toNat 0)&&decide (b.getD p.toNat 0≤hi))
abbrev kY:Io:=⟨[dL,dI,dU,dU],[],[],[dB],none⟩
def Dc (d:kY.In):Tr kY.Res:=.ite (decide ((0:Int)≤d.1.2.1)) (.ret (.ret ((cF d.1.1 d.1.2.1 d.1.2.2.1 d.1.2.2.2.1,()),()))) .no
abbrev H7:List (Nat×Hc):=[]
def WQ:Hd:=bM H7
def II:Lp:=bB []
def Ba (a0:LI)(a1 a2 a3:Int):Option kY.Res:=bif decide (a1<(↑a0.length:Int)) then bif decide (0≤a1)&&decide (a1<(↑a0.length:Int)) then bif decide (a2≤a0.getD a1.toNat 0) then bif decide (0≤a1)&&decide (a1<(↑a0.length:Int)) then oR ((decide (a0.getD a1.toNat 0≤a3),()),()) else none else oR ((false,()),()) else none else oR ((false,()),())
theorem Sq (a0:LI)(a1 a2 a3:Int):Io.run tt WQ dr II kY Tryz.f186 ((a0,a1,a2,a3,()),())=Ba a0 a1 a2 a3:=by kernel_rfl
theorem Xw:HcOk prog 186 (ae kY Dc):=by
 refine cg (cs:=H7) HcsOk.nil (lp:=II) (fn:=Tryz.f186) kY (.done (by kernel_rfl)) Dc ?_
 rintro ⟨⟨(b:LI),(p:Int),(lo:Int),(hi:Int),⟨⟩⟩,⟨⟩⟩ out hw ho
 obtain ⟨hg,ho⟩:=Tr.guard ho
 cases ho
 refine (Sq b p lo hi).trans ?_
 have hg:(0:Int)≤p:=by simpa using hg
 unfold Ba
 show _=oR ((cF b p lo hi,()),())
 unfold cF
 generalize b.getD p.toNat 0=c
 by_cases h1:p<(b.length:Int)
 ·by_cases h2:lo≤c
  ·simp[hg,h1,h2]
  ·simp[hg,h1,h2]
 ·simp[h1]
end
end Go.Proofs.YtomeplopmndbgaaGreat.Sym
namespace Go.Proofs.YtomeplopmndbgaaGreat.Sym
open Go
open Go.IntKind (i8 i16 i32 i64 u8 u16 u32 u64)
noncomputable section
def nW (c:Int):Int:=if c=240 then 144 else if c=224 then 160 else 128
def nU (c:Int):Int:=if c=244 then 143 else if c=237 then 159 else 191
def gZ (b:LI)(p:Int):Int:=
 if p<0∨(b.length:Int)≤p then 0
 else if b.getD p.toNat 0<128 then 1
 else if b.getD p.toNat 0<194∨244<b.getD p.toNat 0∨cF b (p+1) (nW (b.getD p.toNat 0)) (nU (b.getD p.toNat 0))=false then 0
 else if b.getD p.toNat 0<224 then 2
 else if cF b (p+2) 128 191=false then 0
 else if b.getD p.toNat 0<240 then 3
 else if cF b (p+3) 128 191=false then 0
 else 4
abbrev oI:Io:=⟨[dL,dI],[],[],[dI],none⟩
def Qt (d:oI.In):Tr oI.Res:=.ret (.ret ((gZ d.1.1 d.1.2.1,()),()))
abbrev Uv:List (Nat×Hc):=[(186,ae kY Dc)]
def afb:Hd:=bM Uv
def Vs:Lp:=bB []
def Hz (a0:LI)(a1:Int):Option oI.Res:=bif decide (a1<0) then oR ((0,()),()) else bif decide ((↑a0.length:Int)≤a1) then oR ((0,()),()) else bif decide (0≤a1)&&decide (a1<(↑a0.length:Int)) then bif decide (a0.getD a1.toNat 0<128) then oR ((1,()),()) else bif a0.getD a1.toNat 0 == 224 then bif a0.getD a1.toNat 0 == 237 then bif a0.getD a1.toNat 0 == 240 then bif a0.getD a1.toNat 0 == 244 then bif decide (a0.getD a1.toNat 0<194) then oR ((0,()),()) else bif decide (244<a0.getD a1.toNat 0) then oR ((0,()),()) else bif decide (0≤i64.wrap (a1+1)) then bif !cF a0 (i64.wrap (a1+1)) 144 143 then oR ((0,()),()) else bif decide (a0.getD a1.toNat 0<224) then oR ((2,()),()) else bif decide (0≤i64.wrap (a1+2)) then bif !cF a0 (i64.wrap (a1+2)) 128 191 then oR ((0,()),()) else bif decide (a0.getD a1.toNat 0<240) then oR ((3,()),()) else bif decide (0≤i64.wrap (a1+3)) then bif !cF a0 (i64.wrap (a1+3)) 128 191 then oR ((0,()),()) else oR ((4,()),()) else none else none else none else bif decide (a0.getD a1.toNat 0<194) then oR ((0,()),()) else bif decide (244<a0.getD a1.toNat 0) then oR ((0,()),()) else bif decide (0≤i64.wrap (a1+1)) then bif !cF a0 (i64.wrap (a1+1)) 144 159 then oR ((0,()),()) else bif decide (a0.getD a1.toNat 0<224) then oR ((2,()),()) else bif decide (0≤i64.wrap (a1+2)) then bif !cF a0 (i64.wrap (a1+2)) 128 191 then oR ((0,()),()) else bif decide (a0.getD a1.toNat 0<240) then oR ((3,()),()) else bif decide (0≤i64.wrap (a1+3)) then bif !cF a0 (i64.wrap (a1+3)) 128 191 then oR ((0,()),()) else oR ((4,()),()) else none else none else none else bif a0.getD a1.toNat 0 == 244 then bif decide (a0.getD a1.toNat 0<194) then oR ((0,()),()) else bif decide (244<a0.getD a1.toNat 0) then oR ((0,()),()) else bif decide (0≤i64.wrap (a1+1)) then bif !cF a0 (i64.wrap (a1+1)) 160 143 then oR ((0,()),()) else bif decide (a0.getD a1.toNat 0<224) then oR ((2,()),()) else bif decide (0≤i64.wrap (a1+2)) then bif !cF a0 (i64.wrap (a1+2)) 128 191 then oR ((0,()),()) else bif decide (a0.getD a1.toNat 0<240) then oR ((3,()),()) else bif decide (0≤i64.wrap (a1+3)) then bif !cF a0 (i64.wrap (a1+3)) 128 191 then oR ((0,()),()) else oR ((4,()),()) else none else none else none else bif decide (a0.getD a1.toNat 0<194) then oR ((0,()),()) else bif decide (244<a0.getD a1.toNat 0) then oR ((0,()),()) else bif decide (0≤i64.wrap (a1+1)) then bif !cF a0 (i64.wrap (a1+1)) 160 159 then oR ((0,()),()) else bif decide (a0.getD a1.toNat 0<224) then oR ((2,()),()) else bif decide (0≤i64.wrap (a1+2)) then bif !cF a0 (i64.wrap (a1+2)) 128 191 then oR ((0,()),()) else bif decide (a0.getD a1.toNat 0<240) then oR ((3,()),()) else bif decide (0≤i64.wrap (a1+3)) then bif !cF a0 (i64.wrap (a1+3)) 128 191 then oR ((0,()),()) else oR ((4,()),()) else none else none else none else bif a0.getD a1.toNat 0 == 240 then bif a0.getD a1.toNat 0 == 244 then bif decide (a0.getD a1.toNat 0<194) then oR ((0,()),()) else bif decide (244<a0.getD a1.toNat 0) then oR ((0,()),()) else bif decide (0≤i64.wrap (a1+1)) then bif !cF a0 (i64.wrap (a1+1)) 144 143 then oR ((0,()),()) else bif decide (a0.getD a1.toNat 0<224) then oR ((2,()),()) else bif decide (0≤i64.wrap (a1+2)) then bif !cF a0 (i64.wrap (a1+2)) 128 191 then oR ((0,()),()) else bif decide (a0.getD a1.toNat 0<240) then oR ((3,()),()) else bif decide (0≤i64.wrap (a1+3)) then bif !cF a0 (i64.wrap (a1+3)) 128 191 then oR ((0,()),()) else oR ((4,()),()) else none else none else none else bif decide (a0.getD a1.toNat 0<194) then oR ((0,()),()) else bif decide (244<a0.getD a1.toNat 0) then oR ((0,()),()) else bif decide (0≤i64.wrap (a1+1)) then bif !cF a0 (i64.wrap (a1+1)) 144 191 then oR ((0,()),()) else bif decide (a0.getD a1.toNat 0<224) then oR ((2,()),()) else bif decide (0≤i64.wrap (a1+2)) then bif !cF a0 (i64.wrap (a1+2)) 128 191 then oR ((0,()),()) else bif decide (a0.getD a1.toNat 0<240) then oR ((3,()),()) else bif decide (0≤i64.wrap (a1+3)) then bif !cF a0 (i64.wrap (a1+3)) 128 191 then oR ((0,()),()) else oR ((4,()),()) else none else none else none else bif a0.getD a1.toNat 0 == 244 then bif decide (a0.getD a1.toNat 0<194) then oR ((0,()),()) else bif decide (244<a0.getD a1.toNat 0) then oR ((0,()),()) else bif decide (0≤i64.wrap (a1+1)) then bif !cF a0 (i64.wrap (a1+1)) 160 143 then oR ((0,()),()) else bif decide (a0.getD a1.toNat 0<224) then oR ((2,()),()) else bif decide (0≤i64.wrap (a1+2)) then bif !cF a0 (i64.wrap (a1+2)) 128 191 then oR ((0,()),()) else bif decide (a0.getD a1.toNat 0<240) then oR ((3,()),()) else bif decide (0≤i64.wrap (a1+3)) then bif !cF a0 (i64.wrap (a1+3)) 128 191 then oR ((0,()),()) else oR ((4,()),()) else none else none else none else bif decide (a0.getD a1.toNat 0<194) then oR ((0,()),()) else bif decide (244<a0.getD a1.toNat 0) then oR ((0,()),()) else bif decide (0≤i64.wrap (a1+1)) then bif !cF a0 (i64.wrap (a1+1)) 160 191 then oR ((0,()),()) else bif decide (a0.getD a1.toNat 0<224) then oR ((2,()),()) else bif decide (0≤i64.wrap (a1+2)) then bif !cF a0 (i64.wrap (a1+2)) 128 191 then oR ((0,()),()) else bif decide (a0.getD a1.toNat 0<240) then oR ((3,()),()) else bif decide (0≤i64.wrap (a1+3)) then bif !cF a0 (i64.wrap (a1+3)) 128 191 then oR ((0,()),()) else oR ((4,()),()) else none else none else none else bif a0.getD a1.toNat 0 == 237 then bif a0.getD a1.toNat 0 == 240 then bif a0.getD a1.toNat 0 == 244 then bif decide (a0.getD a1.toNat 0<194) then oR ((0,()),()) else bif decide (244<a0.getD a1.toNat 0) then oR ((0,()),()) else bif decide (0≤i64.wrap (a1+1)) then bif !cF a0 (i64.wrap (a1+1)) 144 143 then oR ((0,()),()) else bif decide (a0.getD a1.toNat 0<224) then oR ((2,()),()) else bif decide (0≤i64.wrap (a1+2)) then bif !cF a0 (i64.wrap (a1+2)) 128 191 then oR ((0,()),()) else bif decide (a0.getD a1.toNat 0<240) then oR ((3,()),()) else bif decide (0≤i64.wrap (a1+3)) then bif !cF a0 (i64.wrap (a1+3)) 128 191 then oR ((0,()),()) else oR ((4,()),()) else none else none else none else bif decide (a0.getD a1.toNat 0<194) then oR ((0,()),()) else bif decide (244<a0.getD a1.toNat 0) then oR ((0,()),()) else bif decide (0≤i64.wrap (a1+1)) then bif !cF a0 (i64.wrap (a1+1)) 144 159 then oR ((0,()),()) else bif decide (a0.getD a1.toNat 0<224) then oR ((2,()),()) else bif decide (0≤i64.wrap (a1+2)) then bif !cF a0 (i64.wrap (a1+2)) 128 191 then oR ((0,()),()) else bif decide (a0.getD a1.toNat 0<240) then oR ((3,()),()) else bif decide (0≤i64.wrap (a1+3)) then bif !cF a0 (i64.wrap (a1+3)) 128 191 then oR ((0,()),()) else oR ((4,()),()) else none else none else none else bif a0.getD a1.toNat 0 == 244 then bif decide (a0.getD a1.toNat 0<194) then oR ((0,()),()) else bif decide (244<a0.getD a1.toNat 0) then oR ((0,()),()) else bif decide (0≤i64.wrap (a1+1)) then bif !cF a0 (i64.wrap (a1+1)) 128 143 then oR ((0,()),()) else bif decide (a0.getD a1.toNat 0<224) then oR ((2,()),()) else bif decide (0≤i64.wrap (a1+2)) then bif !cF a0 (i64.wrap (a1+2)) 128 191 then oR ((0,()),()) else bif decide (a0.getD a1.toNat 0<240) then oR ((3,()),()) else bif decide (0≤i64.wrap (a1+3)) then bif !cF a0 (i64.wrap (a1+3)) 128 191 then oR ((0,()),()) else oR ((4,()),()) else none else none else none else bif decide (a0.getD a1.toNat 0<194) then oR ((0,()),()) else bif decide (244<a0.getD a1.toNat 0) then oR ((0,()),()) else bif decide (0≤i64.wrap (a1+1)) then bif !cF a0 (i64.wrap (a1+1)) 128 159 then oR ((0,()),()) else bif decide (a0.getD a1.toNat 0<224) then oR ((2,()),()) else bif decide (0≤i64.wrap (a1+2)) then bif !cF a0 (i64.wrap (a1+2)) 128 191 then oR ((0,()),()) else bif decide (a0.getD a1.toNat 0<240) then oR ((3,()),()) else bif decide (0≤i64.wrap (a1+3)) then bif !cF a0 (i64.wrap (a1+3)) 128 191 then oR ((0,()),()) else oR ((4,()),()) else none else none else none else bif a0.getD a1.toNat 0 == 240 then bif a0.getD a1.toNat 0 == 244 then bif decide (a0.getD a1.toNat 0<194) then oR ((0,()),()) else bif decide (244<a0.getD a1.toNat 0) then oR ((0,()),()) else bif decide (0≤i64.wrap (a1+1)) then bif !cF a0 (i64.wrap (a1+1)) 144 143 then oR ((0,()),()) else bif decide (a0.getD a1.toNat 0<224) then oR ((2,()),()) else bif decide (0≤i64.wrap (a1+2)) then bif !cF a0 (i64.wrap (a1+2)) 128 191 then oR ((0,()),()) else bif decide (a0.getD a1.toNat 0<240) then oR ((3,()),()) else bif decide (0≤i64.wrap (a1+3)) then bif !cF a0 (i64.wrap (a1+3)) 128 191 then oR ((0,()),()) else oR ((4,()),()) else none else none else none else bif decide (a0.getD a1.toNat 0<194) then oR ((0,()),()) else bif decide (244<a0.getD a1.toNat 0) then oR ((0,()),()) else bif decide (0≤i64.wrap (a1+1)) then bif !cF a0 (i64.wrap (a1+1)) 144 191 then oR ((0,()),()) else bif decide (a0.getD a1.toNat 0<224) then oR ((2,()),()) else bif decide (0≤i64.wrap (a1+2)) then bif !cF a0 (i64.wrap (a1+2)) 128 191 then oR ((0,()),()) else bif decide (a0.getD a1.toNat 0<240) then oR ((3,()),()) else bif decide (0≤i64.wrap (a1+3)) then bif !cF a0 (i64.wrap (a1+3)) 128 191 then oR ((0,()),()) else oR ((4,()),()) else none else none else none else bif a0.getD a1.toNat 0 == 244 then bif decide (a0.getD a1.toNat 0<194) then oR ((0,()),()) else bif decide (244<a0.getD a1.toNat 0) then oR ((0,()),()) else bif decide (0≤i64.wrap (a1+1)) then bif !cF a0 (i64.wrap (a1+1)) 128 143 then oR ((0,()),()) else bif decide (a0.getD a1.toNat 0<224) then oR ((2,()),()) else bif decide (0≤i64.wrap (a1+2)) then bif !cF a0 (i64.wrap (a1+2)) 128 191 then oR ((0,()),()) else bif decide (a0.getD a1.toNat 0<240) then oR ((3,()),()) else bif decide (0≤i64.wrap (a1+3)) then bif !cF a0 (i64.wrap (a1+3)) 128 191 then oR ((0,()),()) else oR ((4,()),()) else none else none else none else bif decide (a0.getD a1.toNat 0<194) then oR ((0,()),()) else bif decide (244<a0.getD a1.toNat 0) then oR ((0,()),()) else bif decide (0≤i64.wrap (a1+1)) then bif !cF a0 (i64.wrap (a1+1)) 128 191 then oR ((0,()),()) else bif decide (a0.getD a1.toNat 0<224) then oR ((2,()),()) else bif decide (0≤i64.wrap (a1+2)) then bif !cF a0 (i64.wrap (a1+2)) 128 191 then oR ((0,()),()) else bif decide (a0.getD a1.toNat 0<240) then oR ((3,()),()) else bif decide (0≤i64.wrap (a1+3)) then bif !cF a0 (i64.wrap (a1+3)) 128 191 then oR ((0,()),()) else oR ((4,()),()) else none else none else none else none
theorem adf (a0:LI)(a1:Int):Io.run tt afb dr Vs oI Tryz.f87 ((a0,a1,()),())=Hz a0 a1:=by kernel_rfl
theorem yh {b:LI}{p lo hi:Int}(h:cF b p lo hi=true):p<(b.length:Int):=by
 simp only[cF,zA,zB] at h
 exact h.1
def QP (b:LI)(p c lo hi:Int):Option oI.Res:=
 bif decide (c<194) then oR ((0,()),()) else bif decide (244<c) then oR ((0,()),()) else bif decide (0≤p+1) then bif !cF b (p+1) lo hi then oR ((0,()),())
  else bif decide (c<224) then oR ((2,()),()) else bif decide (0≤i64.wrap (p+2)) then bif !cF b (i64.wrap (p+2)) 128 191 then oR ((0,()),())
  else bif decide (c<240) then oR ((3,()),()) else bif decide (0≤i64.wrap (p+3)) then bif !cF b (i64.wrap (p+3)) 128 191 then oR ((0,()),()) else oR ((4,()),()) else none else none else none
theorem Wp {b:LI}{p c lo hi:Int}(hp:0≤p)(hb:(b.length:Int)≤9223372036854775807):QP b p c lo hi=oR ((if c<194∨244<c∨cF b (p+1) lo hi=false then 0 else if c<224 then 2 else if cF b (p+2) 128 191=false then 0 else if c<240 then 3 else if cF b (p+3) 128 191=false then 0 else 4,()),()):=by
 unfold QP
 by_cases d2:c<194
 ·simp[d2]
 by_cases d3:244<c
 ·simp[d2,d3]
 rw[af (by simpa using d2),af (by simpa using d3),aa (by simp;omega)]
 cases a1:cF b (p+1) lo hi with
 |false=>simp
 |true=>
  have h1:=yh a1
  have e2:i64.wrap (p+2)=p+2:=by rw[aI] <;> omega
  rw[e2]
  by_cases d4:c<224
  ·simp[d2,d3,d4]
  rw[af (by rfl),af (by simpa using d4),aa (by simp;omega)]
  cases a2:cF b (p+2) 128 191 with
  |false=>simp[d2,d3,d4]
  |true=>
   have h2:=yh a2
   have e3:i64.wrap (p+3)=p+3:=by rw[aI] <;> omega
   rw[e3]
   by_cases d5:c<240
   ·simp[d2,d3,d4,d5]
   rw[af (by rfl),af (by simpa using d5),aa (by simp;omega)]
   cases a3:cF b (p+3) 128 191 <;> simp[d2,d3,d4,d5]
theorem afR:HcOk prog 87 (ae oI Qt):=by
 refine cg (cs:=Uv) (.cons Xw .nil) (lp:=Vs) (fn:=Tryz.f87) oI (.done (by kernel_rfl)) Qt ?_
 rintro ⟨⟨(b:LI),(p:Int),⟨⟩⟩,⟨⟩⟩ out hw ho
 cases ho
 refine (adf b p).trans ?_
 have hb:b.length≤maxLen:=hw.1.1.1
 rw[pB] at hb
 unfold Hz
 show _=oR ((gZ b p,()),())
 unfold gZ
 by_cases h1:p<0
 ·simp[h1]
 by_cases h2:(b.length:Int)≤p
 ·simp[h1,h2]
 have e1:i64.wrap (p+1)=p+1:=by rw[aI] <;> omega
 rw[e1]
 have h3:0≤p:=by omega
 have h4:p<(b.length:Int):=by omega
 have h5:(0:Int)≤p+1:=by omega
 have h6:(0:Int)≤p+2:=by omega
 have h7:(0:Int)≤p+3:=by omega
 generalize b.getD p.toNat 0=c
 rw[af (by simpa using h1),af (by simpa using h2),aa (by simp;omega),if_neg (by omega)]
 by_cases d1:c<128
 ·rw[aa (by simpa using d1),if_pos d1]
 rw[af (by simpa using d1),if_neg d1]
 have tail:∀lo hi,nW c=lo→nU c=hi→QP b p c lo hi=oR ((if c<194∨244<c∨cF b (p+1) (nW c) (nU c)=false then 0 else if c<224 then 2 else if cF b (p+2) 128 191=false then 0 else if c<240 then 3 else if cF b (p+3) 128 191=false then 0 else 4,()),()):=by
  intro lo hi e1 e2
  rw[e1,e2]
  exact Wp h3 (by omega)
 have no:∀x:Int,c≠x→(c == x)=false:=fun x h=>by simpa using h
 have ye:∀x:Int,c=x→(c == x)=true:=fun x h=>by simpa using h
 by_cases c1:c=224
 ·rw[aa (ye _ c1),af (no 237 (by omega)),af (no 240 (by omega)),af (no 244 (by omega))]
  exact tail 160 191 (by simp[nW,c1]) (by simp[nU,c1])
 rw[af (no _ c1)]
 by_cases c2:c=237
 ·rw[aa (ye _ c2),af (no 240 (by omega)),af (no 244 (by omega))]
  exact tail 128 159 (by simp[nW,c2]) (by simp[nU,c2])
 rw[af (no _ c2)]
 by_cases c3:c=240
 ·rw[aa (ye _ c3),af (no 244 (by omega))]
  exact tail 144 191 (by simp[nW,c3]) (by simp[nU,c3])
 rw[af (no _ c3)]
 by_cases c4:c=244
 ·rw[aa (ye _ c4)]
  exact tail 128 143 (by simp[nW,c4]) (by simp[nU,c4])
 rw[af (no _ c4)]
 exact tail 128 191 (by simp[nW,c1,c3]) (by simp[nU,c2,c4])
def eZ (b:LI):Nat→Int→Int×Bool
 |0,p=>(p,true)
 |n+1,p=>if (b.length:Int)≤p then (p,true) else if gZ b p=0 then (p,false) else eZ b n (p+gZ b p)
def cC (b:LI):Int×Bool:=eZ b (b.length+1) 0
theorem Al {b:LI}{p:Int}(h0:0≤p)(h:p<(b.length:Int)):0≤gZ b p∧p+gZ b p≤b.length:=by
 unfold gZ
 rw[if_neg (by omega)]
 split
 ·omega
 split
 ·omega
 rename_i h1
 have a1:cF b (p+1) (nW (b.getD p.toNat 0)) (nU (b.getD p.toNat 0))=true:=by
  cases hx:cF b (p+1) (nW (b.getD p.toNat 0)) (nU (b.getD p.toNat 0)) with
  |true=>rfl
  |false=>exact absurd (.inr (.inr hx)) h1
 have h2:=yh a1
 split
 ·omega
 split
 ·omega
 rename_i h3
 have h4:=yh (show cF b (p+2) 128 191=true by simpa using h3)
 split
 ·omega
 split
 ·omega
 rename_i h5
 have h6:=yh (show cF b (p+3) 128 191=true by simpa using h5)
 omega
abbrev sq:Io:=⟨[dL],[],[],[dI,dB],none⟩
def TM (d:sq.In):Tr sq.Res:=.ret (.ret (((cC d.1.1).1,(cC d.1.1).2,()),()))
abbrev aai:List (Nat×Hc):=[(87,ae oI Qt)]
def aa0:Hd:=bM aai
abbrev kw:Lo:=⟨⟨(.one (.hol (.sl 5 (Ty.int u8)))::.any::ce (.one hI::.any::gE (dq (ce [])))),[]⟩,[(.ret,⟨(ce (.one hI::.one hL::am [])),[]⟩),(.exit 0,⟨(dq (.one hI::.any::gE (dq (ce [])))),[]⟩)]⟩
def wL (d:kw.st.den):Tr (aH kw.xs):=
 .ite (decide (d.1.2.1=(0:Int))) (.ite (cC d.1.1).2 (.ret (.pan (.ret ((),(((cC d.1.1).1,()),()))))) (.ret (.ret ((),(((cC d.1.1).1,(false,())),()))))) .no
def Ll:Lp:=bB [(3,aS kw wL)]
def Gd {R:Type}(h1:LI)(h2:Int)(next:LI→Int→Option R)(out:aH kw.xs→Option R):Option R:=bif decide (h2<(↑h1.length:Int)) then bif gZ h1 h2 == 0 then out (.ret ((),((h2,(false,())),()))) else next (h1) (i64.wrap (h2+gZ h1 h2)) else out (.pan (.ret ((),((h2,()),()))))
def EF (n:Nat)(h1:LI)(h2:Int):Option (aH kw.xs):=il tt aa0 dr Ll 0 Tryz.f34 (db Tryz.f34 0) n (kw.st.mk' ((h1,(h2,())),())) (ci kw.xs)
theorem adK (n:Nat)(h1:LI)(h2:Int):EF (n+1) h1 h2=Gd h1 h2 (EF n) some:=by kernel_rfl
theorem abo (b:LI)(hb:(b.length:Int)≤9223372036854775807):∀(k:Nat) (p:Int),0≤p→p≤b.length→(b.length:Int)<p+k→
  EF k b p=if (eZ b k p).2=true then some (.pan (.ret ((),(((eZ b k p).1,()),())))) else some (.ret ((),(((eZ b k p).1,(false,())),()))):=by
 intro k
 induction k with
 |zero=>intro p h0 h1 h2;omega
 |succ k ih=>
  intro p h0 h1 h2
  rw[adK]
  unfold Gd
  by_cases h3:(b.length:Int)≤p
  ·have h4:¬ p<(b.length:Int):=by omega
   have hS:eZ b (k+1) p=(p,true):=by simp[eZ,h3]
   simp[hS,h4]
  ·have h4:p<(b.length:Int):=by omega
   obtain ⟨h5,h6⟩:=Al h0 h4
   rw[aa (by simpa using h4)]
   by_cases h7:gZ b p=0
   ·have hS:eZ b (k+1) p=(p,false):=by simp[eZ,h3,h7]
    simp[hS,h7]
   ·have hS:eZ b (k+1) p=eZ b k (p+gZ b p):=by simp[eZ,h3,h7]
    simp only[hS]
    rw[af (by simpa using h7),aI (by omega) (by omega),ih _ (by omega) h6 (by omega)]
def MM (a0:LI):Option sq.Res:=(wL ((a0,(0,())),())).run fun y=>match y with | .ret ((),((x8,x9,()),()))=>(oR ((x8,x9,()),())) | .pan (.ret ((),((x10,()),())))=>(oR ((x10,true,()),()))
theorem agG (a0:LI):Io.run tt aa0 dr Ll sq Tryz.f34 ((a0,()),())=MM a0:=by kernel_rfl
theorem NQ:HcsOk prog aai:=.cons afR .nil
theorem RP:HcOk prog 34 (ae sq TM):=by
 refine cg NQ (lp:=Ll) (fn:=Tryz.f34) sq
  (.step (h0:=aS kw wL) (by kernel_rfl) (jh NQ (lp:=Ll) (fn:=Tryz.f34) (.done (by kernel_rfl)) kw wL ?_) (.done (by kernel_rfl))) TM ?_
 ·rintro ⟨⟨(b:LI),(p:Int),⟨⟩⟩,⟨⟩⟩ y hw hy
  obtain ⟨hg,hy⟩:=Tr.guard hy
  have hg:p=0:=by simpa using hg
  subst hg
  have hb:b.length≤maxLen:=hw.1.1.1
  rw[pB] at hb
  refine ⟨b.length+1,(abo b (by omega) (b.length+1) 0 (by omega) (by omega) (by omega)).trans ?_⟩
  rw[← hy]
  simp only[Tr.val_ite,Tr.val_ret]
  rfl
 ·rintro ⟨⟨(b:LI),⟨⟩⟩,⟨⟩⟩ out hw ho
  cases ho
  refine (agG b).trans ?_
  unfold MM wL
  show _=oR (((cC b).1,(cC b).2,()),())
  simp only[Tr.run_ite,Tr.run_ret]
  generalize cC b=r
  obtain ⟨r1,r2⟩:=r
  cases r2 <;> simp
abbrev dS:Sh:=.dat .str false false
def rI (s p:LI):Bool:=decide (s.take p.length=p)
theorem IU {s:LI}(hs:byteR s)(k:Nat):((bp s).get! k).toNat=(s.getD k 0).toNat:=by
 by_cases h:k<s.length
 ·have h1:(bp s).get! k=UInt8.ofNat (s[k]).toNat:=by
   have:k<(bp s).data.size:=by simp[bp,h]
   have e:(bp s).get! k=(bp s).data[k]:=getElem!_pos (bp s).data k this
   rw[e]
   simp[bp]
  rw[h1,aJ h]
  have:=hs s[k] (List.getElem_mem h)
  rw[UInt8.toNat_ofNat',Nat.mod_eq_of_lt (by omega)]
 ·have h1:(bp s).get! k=0:=by
   have:¬ k<(bp s).data.size:=by simp[bp];omega
   have e:(bp s).get! k=default:=getElem!_neg (bp s).data k this
   rw[e]
   rfl
  rw[h1,List.getD_eq_getElem?_getD,List.getElem?_eq_none (by omega)]
  rfl
def Wo (r1 r2 r3:Prop)[Decidable r1][Decidable r2][Decidable r3](x0 x1 x2 x3:Nat):Nat:=
 if x0<128 then 1
 else if x0<194∨244<x0∨¬(r1∧(if x0=240 then 144 else if x0=224 then 160 else 128)≤x1∧x1≤(if x0=244 then 143 else if x0=237 then 159 else 191)) then 0
 else if x0<224 then 2
 else if ¬(r2∧128≤x2∧x2≤191) then 0
 else if x0<240 then 3
 else if ¬(r3∧128≤x3∧x3≤191) then 0 else 4
theorem adT {b:LI}(hs:byteR b){n:Nat}(h:n<b.length):gZ b n=(Wo (n+1<b.length) (n+2<b.length) (n+3<b.length) (b.getD n 0).toNat (b.getD (n+1) 0).toNat (b.getD (n+2) 0).toNat (b.getD (n+3) 0).toNat:Int):=by
 have hr:∀k,0≤b.getD k 0∧b.getD k 0<256:=fun k=>by
  by_cases hk:k<b.length
  ·rw[aJ hk];exact hs _ (List.getElem_mem hk)
  ·rw[List.getD_eq_getElem?_getD,List.getElem?_eq_none (by omega)];simp
 unfold gZ Wo cF nW nU
 have e1:((n:Int)+1).toNat=n+1:=by omega
 have e2:((n:Int)+2).toNat=n+2:=by omega
 have e3:((n:Int)+3).toNat=n+3:=by omega
 rw[e1,e2,e3,zG]
 have h0:=hr n
 have h1:=hr (n+1)
 have h2:=hr (n+2)
 have h3:=hr (n+3)
 generalize b.getD n 0=y0 at *
 generalize b.getD (n+1) 0=y1 at *
 generalize b.getD (n+2) 0=y2 at *
 generalize b.getD (n+3) 0=y3 at *
 obtain ⟨x0,rfl⟩:=eK h0.1
 obtain ⟨x1,rfl⟩:=eK h1.1
 obtain ⟨x2,rfl⟩:=eK h2.1
 obtain ⟨x3,rfl⟩:=eK h3.1
 generalize b.length=L at *
 rw[if_neg (by omega)]
 simp only[Bool.and_eq_false_iff,decide_eq_false_iff_not,zG]
 by_cases a0:x0<128
 ·rw[if_pos (by omega),if_pos a0];rfl
 rw[if_neg (by omega),if_neg a0]
 have hi:(if (x0:Int)=240 then (144:Int) else if (x0:Int)=224 then 160 else 128)=((if x0=240 then 144 else if x0=224 then 160 else 128:Nat):Int):=by
  repeat' split
  all_goals omega
 have hj:(if (x0:Int)=244 then (143:Int) else if (x0:Int)=237 then 159 else 191)=((if x0=244 then 143 else if x0=237 then 159 else 191:Nat):Int):=by
  repeat' split
  all_goals omega
 rw[hi,hj]
 generalize (if x0=240 then 144 else if x0=224 then 160 else 128:Nat)=lo
 generalize (if x0=244 then 143 else if x0=237 then 159 else 191:Nat)=hi
 by_cases a1:x0<194∨244<x0∨¬(n+1<L∧lo≤x1∧x1≤hi)
 ·rw[if_pos a1,if_pos (by omega)];rfl
 rw[if_neg a1,if_neg (by omega)]
 by_cases a2:x0<224
 ·rw[if_pos a2,if_pos (by omega)];rfl
 rw[if_neg a2,if_neg (by omega)]
 by_cases a3:¬(n+2<L∧128≤x2∧x2≤191)
 ·rw[if_pos a3,if_pos (by omega)];rfl
 rw[if_neg a3,if_neg (by omega)]
 by_cases a4:x0<240
 ·rw[if_pos a4,if_pos (by omega)];rfl
 rw[if_neg a4,if_neg (by omega)]
 by_cases a5:¬(n+3<L∧128≤x3∧x3≤191)
 ·rw[if_pos a5,if_pos (by omega)];rfl
 rw[if_neg a5,if_neg (by omega)];rfl
def V3 (r1 r2 r3:Prop)[Decidable r1][Decidable r2][Decidable r3](x0 x1 x2 x3:Nat):Nat×Nat:=
 if x0<128 then (x0,1)
 else if x0 / 32=6∧(r1∧x1 / 64=2) then (if 128≤(x0 % 32)*64+x1 % 64 then ((x0 % 32)*64+x1 % 64,2) else (65533,1))
 else if (x0 / 16=14∧(r1∧x1 / 64=2))∧(r2∧x2 / 64=2) then
  (if 2048≤(x0 % 16)*4096+(x1 % 64)*64+x2 % 64∧((x0 % 16)*4096+(x1 % 64)*64+x2 % 64<55296∨57344≤(x0 % 16)*4096+(x1 % 64)*64+x2 % 64) then ((x0 % 16)*4096+(x1 % 64)*64+x2 % 64,3) else (65533,1))
 else if ((x0 / 8=30∧(r1∧x1 / 64=2))∧(r2∧x2 / 64=2))∧(r3∧x3 / 64=2) then
  (if 65536≤(x0 % 8)*262144+(x1 % 64)*4096+(x2 % 64)*64+x3 % 64∧(x0 % 8)*262144+(x1 % 64)*4096+(x2 % 64)*64+x3 % 64≤1114111 then ((x0 % 8)*262144+(x1 % 64)*4096+(x2 % 64)*64+x3 % 64,4) else (65533,1))
 else (65533,1)
theorem aeg {c:Nat}(h:c<65536):Utf8.valid (c:Int)=true↔(c<55296∨57344≤c):=by
 simp only[Utf8.valid,Bool.or_eq_true,zA,zB];omega
theorem aeh {c:Nat}(h:65536≤c):Utf8.valid (c:Int)=true↔c≤1114111:=by
 simp only[Utf8.valid,Bool.or_eq_true,zA,zB];omega
theorem aax {b:LI}(hs:byteR b)(n:Nat):Utf8.decode (bp b) n=V3 (n+1<b.length) (n+2<b.length) (n+3<b.length) (b.getD n 0).toNat (b.getD (n+1) 0).toNat (b.getD (n+2) 0).toNat (b.getD (n+3) 0).toNat:=by
 unfold Utf8.decode V3 Utf8.runeError
 simp only[IU hs,eC,Nat.add_zero]
 generalize (b.getD n 0).toNat=x0
 generalize (b.getD (n+1) 0).toNat=x1
 generalize (b.getD (n+2) 0).toNat=x2
 generalize (b.getD (n+3) 0).toNat=x3
 simp only[zA,zB,beq_iff_eq,ge_iff_le]
 congr 1
 congr 1
 congr 1
 ·congr 1
  apply propext
  constructor
  ·rintro ⟨h1,h2⟩;exact ⟨h1,(aeg (by omega)).1 h2⟩
  ·rintro ⟨h1,h2⟩;exact ⟨h1,(aeg (by omega)).2 h2⟩
 ·congr 1
  congr 1
  apply propext
  constructor
  ·rintro ⟨h1,h2⟩;exact ⟨h1,(aeh h1).1 h2⟩
  ·rintro ⟨h1,h2⟩;exact ⟨h1,(aeh h1).2 h2⟩
theorem ru2 {x0 x1:Nat}(h0:x0<256)(h1:x1<256):(x0 / 32=6∧x1 / 64=2)∧128≤(x0 % 32)*64+x1 % 64↔194≤x0∧x0<224∧128≤x1∧x1≤191:=by omega
theorem ru3 {x0 x1 x2:Nat}(h0:x0<256)(h1:x1<256)(h2:x2<256):((x0 / 16=14∧x1 / 64=2)∧x2 / 64=2)∧(2048≤(x0 % 16)*4096+(x1 % 64)*64+x2 % 64∧((x0 % 16)*4096+(x1 % 64)*64+x2 % 64<55296∨57344≤(x0 % 16)*4096+(x1 % 64)*64+x2 % 64)) ↔
  224≤x0∧x0<240∧((if x0=224 then 160 else 128)≤x1∧x1≤(if x0=237 then 159 else 191))∧128≤x2∧x2≤191:=by
 constructor
 ·rintro ⟨⟨⟨h3,h4⟩,h5⟩,h6⟩
  refine ⟨by omega,by omega,⟨?_,?_⟩,by omega,by omega⟩
  ·split <;> omega
  ·split <;> omega
 ·rintro ⟨h3,h4,⟨h5,h6⟩,h7,h8⟩
  split at h5 <;> split at h6 <;> omega
theorem ru4 {x0 x1 x2 x3:Nat}(h0:x0<256)(h1:x1<256)(h2:x2<256)(h3:x3<256):(((x0 / 8=30∧x1 / 64=2)∧x2 / 64=2)∧x3 / 64=2)∧(65536≤(x0 % 8)*262144+(x1 % 64)*4096+(x2 % 64)*64+x3 % 64∧(x0 % 8)*262144+(x1 % 64)*4096+(x2 % 64)*64+x3 % 64≤1114111) ↔
  240≤x0∧x0≤244∧((if x0=240 then 144 else 128)≤x1∧x1≤(if x0=244 then 143 else 191))∧(128≤x2∧x2≤191)∧(128≤x3∧x3≤191):=by
 constructor
 ·rintro ⟨⟨⟨⟨h3,h4⟩,h5⟩,h6⟩,h7⟩
  refine ⟨by omega,by omega,⟨?_,?_⟩,⟨by omega,by omega⟩,by omega,by omega⟩
  ·split <;> omega
  ·split <;> omega
 ·rintro ⟨h3,h4,⟨h5,h6⟩,⟨h7,h8⟩,h9,h10⟩
  split at h5 <;> split at h6 <;> omega
theorem ajS (r1 r2 r3:Prop)[Decidable r1][Decidable r2][Decidable r3](x0 x1 x2 x3:Nat)(h0:x0<256)(h1:x1<256)(h2:x2<256)(h3:x3<256):
  (Wo r1 r2 r3 x0 x1 x2 x3=0∧V3 r1 r2 r3 x0 x1 x2 x3=(65533,1)∧¬(r1∧r2∧x0=239∧x1=191∧x2=189)) ∨
  (0<Wo r1 r2 r3 x0 x1 x2 x3∧(V3 r1 r2 r3 x0 x1 x2 x3).2=Wo r1 r2 r3 x0 x1 x2 x3∧((V3 r1 r2 r3 x0 x1 x2 x3).1=65533→(r1∧r2∧x0=239∧x1=191∧x2=189))):=by
 by_cases a0:x0<128
 ·right
  unfold Wo V3
  rw[if_pos a0,if_pos a0]
  exact ⟨by omega,rfl,fun h=>by simp only at h;omega⟩
 by_cases c2:r1∧194≤x0∧x0<224∧128≤x1∧x1≤191
 ·right
  obtain ⟨⟨g1,g2⟩,g3⟩:=(ru2 h0 h1).2 c2.2
  have e1:Wo r1 r2 r3 x0 x1 x2 x3=2:=by
   unfold Wo
   rw[if_neg a0,if_neg,if_pos (by omega)]
   rintro (h | h | h)
   ·omega
   ·omega
   ·refine h ⟨c2.1,?_,?_⟩
    ·rw[if_neg (by omega),if_neg (by omega)];omega
    ·rw[if_neg (by omega),if_neg (by omega)];omega
  have e2:V3 r1 r2 r3 x0 x1 x2 x3=((x0 % 32)*64+x1 % 64,2):=by
   unfold V3
   rw[if_neg a0,if_pos ⟨g1,c2.1,g2⟩,if_pos g3]
  rw[e1,e2]
  exact ⟨by omega,rfl,fun h=>by simp only at h;omega⟩
 by_cases c3:r1∧r2∧(224≤x0∧x0<240∧((if x0=224 then 160 else 128)≤x1∧x1≤(if x0=237 then 159 else 191))∧128≤x2∧x2≤191)
 ·right
  obtain ⟨k1,k2,k⟩:=c3
  obtain ⟨⟨⟨g1,g2⟩,g3⟩,g4⟩:=(ru3 h0 h1 h2).2 k
  have e1:Wo r1 r2 r3 x0 x1 x2 x3=3:=by
   unfold Wo
   rw[if_neg a0,if_neg,if_neg (by omega),if_neg (fun h=>h ⟨k2,k.2.2.2⟩),if_pos (by omega)]
   rintro (h | h | h)
   ·omega
   ·omega
   ·refine h ⟨k1,?_,?_⟩
    ·rw[if_neg (by omega)];exact k.2.2.1.1
    ·rw[if_neg (by omega)];exact k.2.2.1.2
  have e2:V3 r1 r2 r3 x0 x1 x2 x3=((x0 % 16)*4096+(x1 % 64)*64+x2 % 64,3):=by
   unfold V3
   rw[if_neg a0,if_neg (by omega),if_pos ⟨⟨g1,k1,g2⟩,k2,g3⟩,if_pos g4]
  rw[e1,e2]
  refine ⟨by omega,rfl,fun h=>?_⟩
  simp only at h
  exact ⟨k1,k2,by omega⟩
 by_cases c4:r1∧r2∧r3∧(240≤x0∧x0≤244∧((if x0=240 then 144 else 128)≤x1∧x1≤(if x0=244 then 143 else 191))∧(128≤x2∧x2≤191)∧(128≤x3∧x3≤191))
 ·right
  obtain ⟨k1,k2,k3,k⟩:=c4
  obtain ⟨⟨⟨⟨g1,g2⟩,g3⟩,g4⟩,g5⟩:=(ru4 h0 h1 h2 h3).2 k
  have e1:Wo r1 r2 r3 x0 x1 x2 x3=4:=by
   unfold Wo
   rw[if_neg a0,if_neg,if_neg (by omega),if_neg (fun h=>h ⟨k2,k.2.2.2.1⟩),if_neg (by omega),if_neg (fun h=>h ⟨k3,k.2.2.2.2⟩)]
   rintro (h | h | h)
   ·omega
   ·omega
   ·refine h ⟨k1,?_,?_⟩
    ·have:=k.2.2.1.1
     split at this
     ·rename_i e;rw[if_pos e];exact this
     ·rename_i e;rw[if_neg e,if_neg (by omega)];exact this
    ·have:=k.2.2.1.2
     split at this
     ·rename_i e;rw[if_pos e];exact this
     ·rename_i e;rw[if_neg e,if_neg (by omega)];exact this
  have e2:V3 r1 r2 r3 x0 x1 x2 x3=((x0 % 8)*262144+(x1 % 64)*4096+(x2 % 64)*64+x3 % 64,4):=by
   unfold V3
   rw[if_neg a0,if_neg (by omega),if_neg (by omega),if_pos ⟨⟨⟨g1,k1,g2⟩,k2,g3⟩,k3,g4⟩,if_pos g5]
  rw[e1,e2]
  exact ⟨by omega,rfl,fun h=>by simp only at h;omega⟩
 ·left
  have e2:V3 r1 r2 r3 x0 x1 x2 x3=(65533,1):=by
   unfold V3
   rw[if_neg a0]
   split
   ·rename_i g
    rw[if_neg fun g'=>c2 ⟨g.2.1,(ru2 h0 h1).1 ⟨⟨g.1,g.2.2⟩,g'⟩⟩]
   split
   ·rename_i g
    rw[if_neg fun g'=>c3 ⟨g.1.2.1,g.2.1,(ru3 h0 h1 h2).1 ⟨⟨⟨g.1.1,g.1.2.2⟩,g.2.2⟩,g'⟩⟩]
   split
   ·rename_i g
    rw[if_neg fun g'=>c4 ⟨g.1.1.2.1,g.1.2.1,g.2.1,(ru4 h0 h1 h2 h3).1 ⟨⟨⟨⟨g.1.1.1,g.1.1.2.2⟩,g.1.2.2⟩,g.2.2⟩,g'⟩⟩]
   rfl
  have e3:¬(r1∧r2∧x0=239∧x1=191∧x2=189):=by
   rintro ⟨k1,k2,rfl,rfl,rfl⟩
   exact c3 ⟨k1,k2,by simp⟩
  refine ⟨?_,e2,e3⟩
  unfold Wo
  rw[if_neg a0]
  generalize hlo:(if x0=240 then 144 else if x0=224 then 160 else 128:Nat)=lo
  generalize hhi:(if x0=244 then 143 else if x0=237 then 159 else 191:Nat)=hi
  by_cases g:x0<194∨244<x0∨¬(r1∧lo≤x1∧x1≤hi)
  ·rw[if_pos g]
  rw[if_neg g]
  simp only[not_or,Decidable.not_not] at g
  obtain ⟨g1,g2,g3,g4,g5⟩:=g
  by_cases g6:x0<224
  ·rw[if_neg (by omega),if_neg (by omega)] at hlo hhi
   exact absurd ⟨g3,by omega,by omega,by omega,by omega⟩ c2
  rw[if_neg g6]
  by_cases g7:¬(r2∧128≤x2∧x2≤191)
  ·rw[if_pos g7]
  rw[if_neg g7]
  simp only[Decidable.not_not] at g7
  by_cases g8:x0<240
  ·rw[if_neg (by omega)] at hlo hhi
   subst hlo hhi
   exact absurd ⟨g3,g7.1,by omega,by omega,⟨g4,g5⟩,g7.2⟩ c3
  rw[if_neg g8]
  by_cases g9:¬(r3∧128≤x3∧x3≤191)
  ·rw[if_pos g9]
  exfalso
  simp only[Decidable.not_not] at g9
  refine c4 ⟨g3,g7.1,g9.1,by omega,by omega,⟨?_,?_⟩,g7.2,g9.2⟩
  ·by_cases e:x0=240
   ·rw[if_pos e] at hlo ⊢;omega
   ·rw[if_neg e] at hlo ⊢;rw[if_neg (by omega)] at hlo;omega
  ·by_cases e:x0=244
   ·rw[if_pos e] at hhi ⊢;omega
   ·rw[if_neg e] at hhi ⊢;rw[if_neg (by omega)] at hhi;omega
theorem VY {b:LI}{n:Nat}(hs:byteR b):rI (b.drop n) [239,191,189]=true↔(n+1<b.length∧n+2<b.length∧(b.getD n 0).toNat=239∧(b.getD (n+1) 0).toNat=191∧(b.getD (n+2) 0).toNat=189):=by
 unfold rI
 rw[zB]
 show (b.drop n).take 3=_↔_
 constructor
 ·intro h
  have hl:=congrArg List.length h
  simp only[List.length_take,List.length_drop,zN,List.length_nil] at hl
  have h3:n+2<b.length:=by omega
  rw[zE (by omega),zE (by omega),zE (by omega)] at h
  simp only[List.take_succ_cons,List.take_zero,List.cons.injEq,and_true] at h
  obtain ⟨k1,k2,k3⟩:=h
  have k3:b[n+2]=189:=k3
  rw[aJ (by omega),aJ (by omega),aJ h3,k1,k2,k3]
  exact ⟨by omega,by omega,rfl,rfl,rfl⟩
 ·rintro ⟨h1,h2,h3,h4,h5⟩
  rw[aJ (by omega)] at h3 h4 h5
  rw[zE (by omega),zE (by omega),zE (by omega)]
  simp only[List.take_succ_cons,List.take_zero,List.cons.injEq,and_true]
  refine ⟨by omega,by omega,?_⟩
  show b[n+2]=189
  omega
theorem XX {b:LI}(hs:byteR b){n:Nat}(h:n<b.length):
  (gZ b n=0∧(jY b n).1=65533∧rI (b.drop n) [239,191,189]=false) ∨
  (0<gZ b n∧(jY b n).2=gZ b n∧((jY b n).1=65533→rI (b.drop n) [239,191,189]=true)):=by
 rw[rm,adT hs h,aax hs n]
 have hx:∀k,(b.getD k 0).toNat<256:=fun k=>by rw[← IU hs];exact UInt8.toNat_lt _
 have:=ajS (n+1<b.length) (n+2<b.length) (n+3<b.length) _ _ _ _ (hx n) (hx (n+1)) (hx (n+2)) (hx (n+3))
 rw[VY hs,← Bool.not_eq_true,VY hs]
 rcases this with ⟨h1,h2,h3⟩ | ⟨h1,h2,h3⟩
 ·left
  exact ⟨by rw[h1];rfl,by rw[h2];rfl,h3⟩
 ·right
  exact ⟨by omega,by simp only;rw[h2],fun h=>h3 (by simp only at h;omega)⟩
abbrev qB:Io:=⟨[dS,dS],[],[],[dB],none⟩
def Qr (d:qB.In):Tr qB.Res:=.ret (.ret ((rI d.1.1 d.1.2.1,()),()))
abbrev Ut:List (Nat×Hc):=[]
def ae9:Hd:=bM Ut
def Vq:Lp:=bB []
def Hx (a0 a1:LI):Option qB.Res:=bif decide ((↑a1.length:Int)≤(↑a0.length:Int)) then bif decide (0≤0)&&(decide (0≤(↑a1.length:Int))&&decide ((↑a1.length:Int)≤(↑a0.length:Int))) then oR ((decide (List.drop (Int.toNat 0) (List.take (↑a1.length:Int).toNat a0)=a1),()),()) else none else oR ((false,()),())
theorem adc (a0 a1:LI):Io.run tt ae9 dr Vq qB Tryz.f212 ((a0,a1,()),())=Hx a0 a1:=by kernel_rfl
theorem afO:HcOk prog 212 (ae qB Qr):=by
 refine cg (cs:=Ut) .nil (lp:=Vq) (fn:=Tryz.f212) qB (.done (by kernel_rfl)) Qr ?_
 rintro ⟨⟨(s:LI),(p:LI),⟨⟩⟩,⟨⟩⟩ out hw ho
 cases ho
 refine (adc s p).trans ?_
 show _=oR ((rI s p,()),())
 unfold Hx
 by_cases h:p.length≤s.length
 ·rw[aa (by simpa using h),aa (by simp;omega)]
  rfl
 ·rw[af (by simpa using h)]
  have:rI s p=false:=by
   unfold rI
   rw[decide_eq_false_iff_not]
   intro e
   have:=congrArg List.length e
   simp only[List.length_take] at this
   omega
  rw[this]
abbrev vP:Io:=⟨[dS,dS],[],[],[dB],none⟩
def Zo (d:vP.In):Tr vP.Res:=.ret (.ret ((rI d.1.1 d.1.2.1,()),()))
abbrev aab:List (Nat×Hc):=[(212,ae qB Qr)]
def aiS:Hd:=bM aab
def abI:Lp:=bB []
def ZF (a0 a1:LI):Option vP.Res:=oR ((rI a0 a1,()),())
theorem agC (a0 a1:LI):Io.run tt aiS dr abI vP Tryz.f193 ((a0,a1,()),())=ZF a0 a1:=by kernel_rfl
theorem ai9:HcOk prog 193 (ae vP Zo):=by
 refine cg (cs:=aab) (.cons afO .nil) (lp:=abI) (fn:=Tryz.f193) vP (.done (by kernel_rfl)) Zo ?_
 rintro ⟨⟨(s:LI),(p:LI),⟨⟩⟩,⟨⟩⟩ out hw ho
 cases ho
 exact agC s p
theorem FH (b:LI):∀(n:Nat) (p:Int),0≤p→p≤b.length→(b.length:Int)<p+n→(eZ b n p).2=true→(eZ b n p).1=b.length
 |0,p,h0,h1,h2,h=>by omega
 |n+1,p,h0,h1,h2,h=>by
  unfold eZ at h ⊢
  split
  ·rename_i h3;simp only;omega
  ·rename_i h3
   rw[if_neg h3] at h
   split
   ·rename_i h4;rw[if_pos h4] at h;cases h
   ·rename_i h4
    rw[if_neg h4] at h
    have h5:=Al (b:=b) h0 (show p<(b.length:Int) by omega)
    exact FH b n _ (by omega) (by omega) (by omega) h
theorem YX (b:LI)(h:(cC b).2=true):(cC b).1=b.length:=FH b (b.length+1) 0 (by omega) (by omega) (by omega) h
abbrev pc:Io:=⟨[dL],[],[],[dI,dB],none⟩
def GV (d:pc.In):Tr pc.Res:=.ret (.ret (((cC d.1.1).1,(cC d.1.1).2,()),()))
abbrev aac:List (Nat×Hc):=[(193,ae vP Zo)]
def aaY:Hd:=bM aac
abbrev kt:Lo:=⟨⟨(.one (.hol (.sl 5 (Ty.int u8)))::.any::ce (.one (.hol .str)::.any::dq (.one (.ptr 10 0)::am []))),[none,none,none,none,none,none,none,none,none,none,some [.itr]]⟩,[(.ret,⟨(ce (.one hI::.one hL::.any::am (dq (ce [])))),[]⟩),(.exit 0,⟨(.one (.hol (.sl 5 (Ty.int u8)))::am (gE (ce []))),[]⟩)]⟩
def wI (d:kt.st.den):Tr (aH kt.xs):=
 .ite (decide (d.2.1.1.2=(0:Int))&&decide (d.2.1.1.1=d.1.2.1)) (.ite (cC d.1.2.1).2 (.ret (.pan (.ret ((),((d.1.1,()),()))))) (.ret (.ret ((),(((cC d.1.2.1).1,(false,())),()))))) .no
def Lk:Lp:=bB [(4,aS kt wI)]
def Ga {R:Type}(h1 h2:LI)(h3:LI×Int)(next:LI→LI→LI×Int→Option R)(out:aH kt.xs→Option R):Option R:=bif decide (h3.2<(↑h3.1.length:Int)) then bif (jY h3.1 h3.2).1 == 65533 then bif decide (0≤h3.2)&&(decide (h3.2≤(↑h2.length:Int))&&decide ((↑h2.length:Int)≤(↑h2.length:Int))) then bif !rI (List.drop h3.2.toNat (List.take (↑h2.length:Int).toNat h2)) (List.map (fun (c:UInt8)=>(↑c.toNat:Int)) [UInt8.ofBitVec (BitVec.ofFin (Fin.mk (239 % 2 ^ 8) (Nat.mod_lt 239 (BitVec.ofNat._proof_1 8)))),UInt8.ofBitVec (BitVec.ofFin (Fin.mk (191 % 2 ^ 8) (Nat.mod_lt 191 (BitVec.ofNat._proof_1 8)))),UInt8.ofBitVec (BitVec.ofFin (Fin.mk (189 % 2 ^ 8) (Nat.mod_lt 189 (BitVec.ofNat._proof_1 8))))]) then out (.ret ((),((h3.2,(false,())),()))) else next (h1) (h2) ((h3.1,h3.2+(jY h3.1 h3.2).2)) else none else next (h1) (h2) ((h3.1,h3.2+(jY h3.1 h3.2).2)) else out (.pan (.ret ((),((h1,()),()))))
def sw (n:Nat)(h1 h2:LI)(h3:LI×Int):Option (aH kt.xs):=il tt aaY dr Lk 0 Tryz.f92 (db Tryz.f92 0) n (kt.st.mk' ((h1,(h2,())),((h3,()),()))) (ci kt.xs)
theorem adH (n:Nat)(h1 h2:LI)(h3:LI×Int):sw (n+1) h1 h2 h3=Ga h1 h2 h3 (sw n) some:=by kernel_rfl
theorem abn (b s:LI)(hs:byteR s)(hb:(s.length:Int)≤9223372036854775807):∀(k:Nat) (p:Int),0≤p→p≤s.length→(s.length:Int)<p+k→
  sw k b s (s,p)=if (eZ s k p).2=true then some (.pan (.ret ((),((b,()),())))) else some (.ret ((),(((eZ s k p).1,(false,())),()))):=by
 intro k
 induction k with
 |zero=>intro p h0 h1 h2;omega
 |succ k ih=>
  intro p h0 h1 h2
  rw[adH]
  unfold Ga
  change (bif decide (p<(s.length:Int)) then bif (jY s p).1 == 65533 then bif decide (0≤p)&&(decide (p≤(s.length:Int))&&decide ((s.length:Int)≤(s.length:Int))) then bif !rI (List.drop p.toNat (List.take (s.length:Int).toNat s)) [239,191,189] then some (.ret ((),((p,(false,())),()))) else sw k b s (s,p+(jY s p).2) else none else sw k b s (s,p+(jY s p).2) else some (.pan (.ret ((),((b,()),())))))=_
  by_cases h3:(s.length:Int)≤p
  ·have h4:¬ p<(s.length:Int):=by omega
   have hS:eZ s (k+1) p=(p,true):=by simp[eZ,h3]
   simp[hS,h4]
  ·have h4:p<(s.length:Int):=by omega
   obtain ⟨n,rfl⟩:=eK h0
   have h5:=XX hs (show n<s.length by omega)
   have h6:=Al h0 h4
   rw[aa (by simpa using h4),zG,zG,List.take_length]
   rcases h5 with ⟨g1,g2,g3⟩ | ⟨g1,g2,g3⟩
   ·have hS:eZ s (k+1) n=(↑n,false):=by simp[eZ,h3,g1]
    rw[hS,g3,aa (by simpa using g2),aa (by simp;omega)]
    rfl
   ·have hS:eZ s (k+1) n=eZ s k (n+gZ s n):=by
     simp only[eZ]
     rw[if_neg h3,if_neg (by omega)]
    rw[hS,g2]
    have hn:=ih (n+gZ s n) (by omega) (by omega) (by omega)
    by_cases g4:(jY s n).1=65533
    ·rw[aa (by simpa using g4),aa (by simp;omega),g3 g4]
     exact hn
    ·rw[af (by simpa using g4)]
     exact hn
def MJ (a0:LI):Option pc.Res:=(wI ((a0,(a0,())),(((a0,0),()),()))).run fun y=>match y with | .ret ((),((x13,x14,()),()))=>(oR ((x13,x14,()),())) | .pan (.ret ((),((x15,()),())))=>(oR (((↑x15.length:Int),true,()),()))
theorem agD (a0:LI):Io.run tt aaY dr Lk pc Tryz.f92 ((a0,()),())=MJ a0:=by kernel_rfl
theorem NP:HcsOk prog aac:=.cons ai9 .nil
theorem LG:HcOk prog 92 (ae pc GV):=by
 refine cg NP (lp:=Lk) (fn:=Tryz.f92) pc
  (.step (h0:=aS kt wI) (by kernel_rfl) (jh NP (lp:=Lk) (fn:=Tryz.f92) (.done (by kernel_rfl)) kt wI ?_) (.done (by kernel_rfl))) GV ?_
 ·rintro ⟨⟨(b:LI),(s:LI),⟨⟩⟩,⟨⟨⟨(s':LI),(p:Int)⟩,⟨⟩⟩,⟨⟩⟩⟩ y hw hy
  obtain ⟨hg,hy⟩:=Tr.guard hy
  simp only[zA,zB] at hg
  have hg1:p=0:=hg.1
  have hg2:s'=s:=hg.2
  subst hg1 hg2
  have hs:byteR s'∧s'.length≤maxLen:=hw.1.2.1
  have hb:=hs.2
  rw[pB] at hb
  refine ⟨s'.length+1,(abn b s' hs.1 (by omega) (s'.length+1) 0 (by omega) (by omega) (by omega)).trans ?_⟩
  rw[← hy]
  simp only[Tr.val_ite,Tr.val_ret]
  rfl
 ·rintro ⟨⟨(b:LI),⟨⟩⟩,⟨⟩⟩ out hw ho
  cases ho
  refine (agD b).trans ?_
  unfold MJ wI
  show _=oR (((cC b).1,(cC b).2,()),())
  simp only[Tr.run_ite,Tr.run_ret]
  have he:(cC b).2=true→(cC b).1=b.length:=YX b
  generalize cC b=r at *
  obtain ⟨r1,r2⟩:=r
  cases r2 with
  |true=>
   have he:r1=b.length:=he rfl
   simp[he]
  |false=>simp
abbrev clC:Code:=y5 Tryz.f118
abbrev clO:Array Oper:=ajh (Yq (Yq (adD clC)))
abbrev clX:Code:=ajW (adD (Yq (adD clC)))
abbrev clY:Code:=adD (adD clC)
abbrev jv:Io:=⟨[dL],[],[],[dO],none⟩
def wH (d:jv.In):Tr jv.Res:=.ite (decide (d.1.1.length≤4294967296)) (.ret (.ret ((d.1.1,()),()))) .no
abbrev aeA:Hd:=bM []
abbrev Wq:Lp:=bB []
def clA (b:LI)(v3 v4:V):AS:=⟨[.one (.lst 5 (.int .u8) b 0),.any,.one (.lst 5 (.int .u8) [] 5),v3,v4,.any,.any,.any],[],[]⟩
def clK (ex:Ex)(A:AS):Option jv.Res:=match ex with
 |.ret=>jv.fin tt Tryz.f118 .ret A
 |_=>none
abbrev M0:Nat:=Lm Tryz.f118
theorem cl0 (b:LI):ev tt aeA dr Wq 0 M0 (Yq clC) M0 [] (jv.start 8 ((b,()),())) (fun ex A=>match ex with | .normal=>some A | _=>none)=some (clA b .any .any):=by kernel_rfl
theorem clx (b:LI):ev tt aeA dr Wq 0 M0 clX M0 [] (clA b (.one (.lst 5 (.int .u8) b 0)) (.one (.bool true))) clK=some (.ret (([],()),())):=by kernel_rfl
theorem cly (b:LI):ev tt aeA dr Wq 0 M0 clY M0 [] (clA b (.one (.lst 5 (.int .u8) b 0)) (.one (.bool false))) clK=bif decide (([]:LI).length+b.length≤4294967296) then some (.ret ((b,()),())) else none:=by kernel_rfl
theorem EY:HcOk prog 118 (ae jv wH):=by
 have htt:=mU Tryz.prog 400
 refine zk (P:=prog) htt (fn:=Tryz.f118) (by kernel_rfl) (by kernel_rfl) jv wH ?_ (by kernel_rfl)
 rintro ⟨⟨(b:LI),⟨⟩⟩,⟨⟩⟩ out hwf hout F G cst w vals R Rl hkb hend
 obtain ⟨hg,hout⟩:=Tr.guard hout
 have hg:b.length≤4294967296:=by simpa using hg
 cases hout
 have hc:(Tryz.f118).body=some (.seq (Yq clC) (.seq (.seq (.region 1 clO false) (.cond (.tmp 4) clX .skip)) clY)):=by kernel_rfl
 have hdr:=ux (mU Tryz.prog 400)
 have hhd:yR prog aeA:=KR HcsOk.nil
 refine calls_of_wp (P:=prog) (fn:=Tryz.f118) (by kernel_rfl) hc ?_
 refine wp_seq (sd htt hm hhd hdr hkb (lp:=Wq) _ (Lw (c:=(Yq clC)) (by kernel_rfl)) (cl0 b) Rl ?_)
 intro ex A1 G1 a1 w1 R1 hd1 h1
 cases ex with
 |normal=>
  simp only[zC] at h1
  subst h1
  show (Code.seq (.seq (.region 1 clO false) (.cond (.tmp 4) clX .skip)) clY).wp prog _ a1 w1
  refine wp_seq (wp_seq (wp_region ?_))
  have hr:List.range clO.size=[0,1]:=by kernel_rfl
  rw[hr]
  obtain ⟨p0,f0,ho0⟩:∃pos after,clO[0]?=some { dst:=some 3,op:=.move (.tmp 0),type:=39,pos:=pos,after:=after,guard:=none }:=⟨_,_,rfl⟩
  obtain ⟨p1,f1,ho1⟩:∃pos after,clO[1]?=some { dst:=some 4,op:=.binOp .eql 39 (.tmp 3) (.const (.slice none 0 0)) 39,type:=4,pos:=pos,after:=after,guard:=none }:=⟨_,_,rfl⟩
  have hu:Program.underlying prog 39=some (.slice 5):=by kernel_rfl
  simp only[wpOps,ho0,ho1]
  rw[if_pos (by rfl)]
  refine .inl ?_
  obtain ⟨u0,hu0,hv0⟩:=y4 (P:=prog) htt R1.gh.tabs (fun x=>R1.opd x) R1.ob { dst:=some 3,op:=.move (.tmp 0),type:=39,pos:=p0,after:=f0,guard:=none } (id:=7) (chk:=true) (v:=.one (.lst 5 (.int .u8) b 0)) (by kernel_rfl) rfl
  unfold Oper.wp
  rw[hu0,Oper.upon_value]
  have R2:=R1.puts hv0 (some 3)
  have hd2:(a1.put (some 3) u0).defers=[]:=(Act.put_defers' _ _ _).trans hd1
  generalize a1.put (some 3) u0=a2 at R2 hd2 ⊢
  rw[if_pos (by rfl)]
  refine .inl ?_
  obtain ⟨Aa,cap,he,hc1,hc2,hrow,_⟩:Rc G1 w1 (.lst 5 (.int .u8) b 0) (a2.eval (.tmp 3)):=R2.opd (.tmp 3)
  have hrun:(execOp a2.eval { dst:=some 4,op:=.binOp .eql 39 (.tmp 3) (.const (.slice none 0 0)) 39,type:=4,pos:=p1,after:=f1,guard:=none }).run prog w1=.ok (.value (.bool Aa.isNone)) w1:=by
   have h1:=Go.Lib.run_eql_slice_nil (P:=prog) w1 39 5 Aa b.length cap 0 0 hu
   have h2:a2.eval (.const (.slice none 0 0))=.slice none 0 0:=rfl
   simp only[execOp,Sem.run_bind,he,h2]
   simp[eqGuard,h1]
  rw[hrun,Oper.upon_value]
  have R3:=R2.puts (v:=.one (.bool Aa.isNone)) (u:=.bool Aa.isNone) rfl (some 4)
  have hd3:(a2.put (some 4) (.bool Aa.isNone)).defers=[]:=(Act.put_defers' _ _ _).trans hd2
  generalize a2.put (some 4) (.bool Aa.isNone)=a3 at R3 hd3 ⊢
  have hb4:a3.eval (.tmp 4)=.bool Aa.isNone:=R3.opd (.tmp 4)
  refine wp_cond hb4 ?_
  cases Aa with
  |none=>
   have hb:b=[]:=Classical.byContradiction fun hne=>by
    obtain ⟨_,_,e,_⟩:=hrow hne
    cases e
   subst hb
   refine sd htt hm hhd hdr hkb (lp:=Wq) (l:=M0) (x:=[]) clX (Lw (c:=clX) (by kernel_rfl)) (clx []) R3 ?_
   intro ex A' G' a' w' R' hd' hk
   cases ex with
   |ret=>exact ⟨hd'.trans hd3,hend .ret A' G' a' w' R' hk⟩
   |normal=>cases hk
   |exit i=>cases hk
   |panic v=>cases hk
  |some ad=>
   refine wp_skip ?_
   refine sd htt hm hhd hdr hkb (lp:=Wq) (l:=M0) (x:=[]) clY (Lw (c:=clY) (by kernel_rfl)) ((cly b).trans (aa (by simpa using hg) _ _)) R3 ?_
   intro ex A' G' a' w' R' hd' hk
   cases ex with
   |ret=>exact ⟨hd'.trans hd3,hend .ret A' G' a' w' R' hk⟩
   |normal=>cases hk
   |exit i=>cases hk
   |panic v=>cases hk
 |exit i=>cases h1
 |ret=>cases h1
 |panic v=>cases h1
abbrev oWr:List Sh:=[dO,dI]
abbrev Ql:Sh:=.dat (.int .i16) false false
abbrev Wy:Sh:=.dat (.int .i32) false false
abbrev ajX:Sh:=.dat (.int .u64) false false
def aB (v:Int):Nat→LI
 |0=>[]
 |n+1=>(v / 256 ^ n) % 256::aB v n
theorem bj (v:Int):∀n,(aB v n).length=n
 |0=>rfl
 |n+1=>by rw[aB,zN,bj v n]
def aC (b:LI)(most v:Int)(n:Nat):Int×LI:=if most - b.length<n then (10,b) else (0,b++aB v n)
def bx (b:LI)(most:Int):Bool:=decide (b.length≤4294960000)&&(decide (0≤most)&&decide (most≤(1048576:Int)))
abbrev oN:Io:=⟨[.ptr 0 0],[oWr],[],[dI],none⟩
def Ki (d:oN.In):Tr oN.Res:=.ret (.ret ((i64.wrap (d.2.1.2.1 - d.2.1.1.length),()),((d.2.1.1,(d.2.1.2.1,())),())))
abbrev UM:List (Nat×Hc):=[]
def afq:Hd:=bM UM
def VH:Lp:=bB []
def Wh (a0:LI)(a1:Int):Option oN.Res:=oR ((i64.wrap (a1 - (↑a0.length:Int)),()),(a0,a1,()),())
theorem ady (a0:LI)(a1:Int):Io.run tt afq dr VH oN Tryz.f117 (((),()),(a0,a1,()),())=Wh a0 a1:=by kernel_rfl
theorem VV:HcOk prog 117 (ae oN Ki):=by
 refine cg (cs:=UM) HcsOk.nil (lp:=VH) (fn:=Tryz.f117) oN (.done (by kernel_rfl)) Ki ?_
 rintro ⟨⟨⟨⟩,⟨⟩⟩,⟨⟨(b:LI),(m:Int),⟨⟩⟩,⟨⟩⟩⟩ out hw ho
 rw[← ho]
 exact ady b m
abbrev iy:Io:=⟨[.ptr 0 0,ajX,dI],[oWr],[],[dI],none⟩
def px (d:iy.In):Tr iy.Res:=
 .ite (bx d.2.1.1 d.2.1.2.1&&(decide ((0:Int)≤d.1.2.2.1)&&decide (d.1.2.2.1≤(8:Int)))) (.ret (.ret (((aC d.2.1.1 d.2.1.2.1 d.1.2.1 d.1.2.2.1.toNat).1,()),(((aC d.2.1.1 d.2.1.2.1 d.1.2.1 d.1.2.2.1.toNat).2,(d.2.1.2.1,())),())))) .no
abbrev Id:List (Nat×Hc):=[(117,ae oN Ki)]
def Iu:Hd:=bM Id
abbrev fO:Lo:=⟨⟨(.one (.ptr 0 0)::.one (.hol (.int u64))::.any::dq (.one hI::am (gE []))),[some [.onl 5 (Ty.int u8) 2,hI]]⟩,[(.exit 0,⟨(am (am ([]))),[some [.onl 5 (Ty.int u8) 2,hI]]⟩)]⟩
def na (d:fO.st.den):Tr (aH fO.xs):=
 .ite (decide (-1≤d.1.2.1)&&(decide (d.1.2.1≤7)&&decide (d.2.1.1.length≤4294960000))) (.ret (.ret ((),((),((d.2.1.1++aB d.1.1 (d.1.2.1+1).toNat,(d.2.1.2.1,())),()))))) .no
def uc:Lp:=bB [(5,aS fO na)]
def vj {R:Type}(h4 h5:Int)(h6:LI)(h7:Int)(next:Int→Int→LI→Int→Option R)(out:aH fO.xs→Option R):Option R:=bif decide (0≤h5) then bif decide (0≤i64.wrap (8*h5)) then bif !(0 == 1+29 || false)&&true&&decide (h6.length+[u8.wrap (Jh u64 h4 (i64.wrap (8*h5)))].length≤4294967296) then next (h4) (i64.wrap (h5 - 1)) (h6++[u8.wrap (Jh u64 h4 (i64.wrap (8*h5)))]) (h7) else none else none else out (.ret ((),((),((h6,(h7,())),()))))
def sA (n:Nat)(h4 h5:Int)(h6:LI)(h7:Int):Option (aH fO.xs):=il tt Iu dr uc 1 Tryz.f116 (db Tryz.f116 0) n (fO.st.mk' ((h4,(h5,())),((h6,(h7,())),()))) (ci fO.xs)
theorem Pv (n:Nat)(h4 h5:Int)(h6:LI)(h7:Int):sA (n+1) h4 h5 h6 h7=vj h4 h5 h6 h7 (sA n) some:=by kernel_rfl
theorem adE {v:Int}(h0:0≤v)(h1:v≤18446744073709551615){i:Nat}(hi:i≤7):u8.wrap (Jh .u64 v (i64.wrap (8*(i:Int))))=(v / 256 ^ i) % 256:=by
 rw[aI (n:=8*(i:Int)) (by omega) (by omega)]
 unfold Jh
 have e:min (8*(i:Int)).toNat (u64).bits=8*i:=by
  show min (8*(i:Int)).toNat 64=8*i
  omega
 rw[e]
 have e2:(2:Int) ^ (8*i)=256 ^ i:=by rw[Int.pow_mul];rfl
 have hp:(0:Int)<256 ^ i:=Int.pow_pos (by decide)
 rw[e2,Int.fdiv_eq_ediv_of_nonneg _ (Int.le_of_lt hp)]
 have h3:0≤v / 256 ^ i:=Int.ediv_nonneg h0 (Int.le_of_lt hp)
 have h4:v / 256 ^ i≤v:=Int.ediv_le_self _ h0
 rw[dY (k:=.u64) (by simp[eD,IntKind.min,IntKind.max,IntKind.signed,IntKind.bits];omega)]
 simp[IntKind.wrap,IntKind.signed,IntKind.bits]
theorem Oe {v:Int}(h0:0≤v)(h1:v≤18446744073709551615)(most:Int):∀(k m:Nat) (b:LI),m<k→m≤8→b.length+m≤4294967296→
  sA k v ((m:Int) - 1) b most=some (.ret ((),((),((b++aB v m,(most,())),())))):=by
 intro k
 induction k with
 |zero=>intro m b h;omega
 |succ k ih=>
  intro m b h2 h3 h4
  rw[Pv]
  unfold vj
  cases m with
  |zero=>simp[aB]
  |succ m=>
   have e:((m+1:Nat):Int) - 1=(m:Int):=by omega
   rw[e,aa (by simp),aI (n:=(m:Int) - 1) (by omega) (by omega),adE h0 h1 (by omega),aI (n:=8*(m:Int)) (by omega) (by omega),aa (by simp;omega),aa (by simp;omega),ih m _ (by omega) (by omega) (by simp;omega)]
   simp[aB]
def Be (a0 a1:Int)(a2:LI)(a3:Int):Option iy.Res:=bif decide (i64.wrap (a3 - (↑a2.length:Int))<a1) then oR ((10,()),(a2,a3,()),()) else (na ((a0,(i64.wrap (a1 - 1),())),((a2,(a3,())),()))).run fun y=>match y with | .ret ((),((),(x14,x15,()),()))=>(oR ((0,()),(x14,x15,()),()))
theorem Sw (a0 a1:Int)(a2:LI)(a3:Int):Io.run tt Iu dr uc iy Tryz.f116 (((),a0,a1,()),(a2,a3,()),())=Be a0 a1 a2 a3:=by kernel_rfl
theorem Bu:HcsOk prog Id:=.cons VV .nil
theorem uw:HcOk prog 116 (ae iy px):=by
 refine cg Bu (lp:=uc) (fn:=Tryz.f116) iy (.step (h0:=aS fO na) (by kernel_rfl) (jh Bu (lp:=uc) (fn:=Tryz.f116) (.done (by kernel_rfl)) fO na ?_) (.done (by kernel_rfl))) px ?_
 ·rintro ⟨⟨(v:Int),(i:Int),⟨⟩⟩,⟨⟨(b:LI),(m:Int),⟨⟩⟩,⟨⟩⟩⟩ y hw hy
  obtain ⟨hg,hy⟩:=Tr.guard hy
  simp only[zA,zB] at hg
  have hv:eD .u64 v:=hw.1.1
  simp[eD,IntKind.min,IntKind.max,IntKind.signed,IntKind.bits] at hv
  have g1:(-1:Int)≤i:=hg.1
  have g2:i≤(7:Int):=hg.2.1
  have g3:b.length≤4294960000:=hg.2.2
  obtain ⟨n,hn⟩:∃n:Nat,i=(n:Int) - 1:=⟨(i+1).toNat,by omega⟩
  subst hn
  refine ⟨10,(Oe hv.1 (by omega) m 10 n b (by omega) (by omega) (by omega)).trans ?_⟩
  rw[← hy,show ((n:Int) - 1+1).toNat=n by omega];rfl
 ·rintro ⟨⟨⟨⟩,(v:Int),(n:Int),⟨⟩⟩,⟨⟨(b:LI),(m:Int),⟨⟩⟩,⟨⟩⟩⟩ out hw ho
  obtain ⟨hg,ho⟩:=Tr.guard ho
  simp only[bx,zA,zB] at hg
  obtain ⟨⟨h1,h2,h3⟩,h4,h5⟩:=hg
  have h4:(0:Int)≤n:=h4
  have h5:n≤(8:Int):=h5
  cases ho
  refine (Sw v n b m).trans ?_
  unfold Be na
  simp only
  rw[aI (n:=m - (b.length:Int)) (by omega) (by omega),aI (n:=n - 1) (by omega) (by omega),show n - 1+1=n by omega]
  unfold aC
  by_cases hl:m - (b.length:Int)<n
  ·rw[aa (by simpa using hl),if_pos (by omega)]
  ·rw[af (by simpa using hl),if_neg (by omega)]
   have:(decide (-1≤n - 1)&&(decide (n - 1≤7)&&decide (b.length≤4294960000)))=true:=by simp;omega
   rw[this]
   rfl
theorem yc (v:Int){n:Nat}(h:n≤8):aB (u64.wrap v) n=aB v n:=by
 have e:u64.wrap v=v % 18446744073709551616:=by simp[IntKind.wrap,IntKind.signed,IntKind.bits]
 rw[e]
 have key:∀k:Nat,k<8→(v % 18446744073709551616 / 256 ^ k) % 256=(v / 256 ^ k) % 256:=by
  intro k hk
  match k,hk with
  |0,_=>omega
  |1,_=>omega
  |2,_=>omega
  |3,_=>omega
  |4,_=>omega
  |5,_=>omega
  |6,_=>omega
  |7,_=>omega
 induction n with
 |zero=>rfl
 |succ n ih=>rw[aB,aB,key n (by omega),ih (by omega)]
abbrev su:Io:=⟨[.ptr 0 0,Ql],[oWr],[],[dI],none⟩
def TS (d:su.In):Tr su.Res:=
 .ite (bx d.2.1.1 d.2.1.2.1) (.ret (.ret (((aC d.2.1.1 d.2.1.2.1 d.1.2.1 2).1,()),(((aC d.2.1.1 d.2.1.2.1 d.1.2.1 2).2,(d.2.1.2.1,())),())))) .no
abbrev aar:List (Nat×Hc):=[(116,ae iy px)]
def aiZ:Hd:=bM aar
def abP:Lp:=bB []
def MT (a0:Int)(a1:LI)(a2:Int):Option su.Res:=bif bx a1 a2&&(decide (0≤2)&&decide (2≤8)) then oR (((aC a1 a2 (u64.wrap a0) (Int.toNat 2)).1,()),((aC a1 a2 (u64.wrap a0) (Int.toNat 2)).2,a2,()),()) else none
theorem agN (a0:Int)(a1:LI)(a2:Int):Io.run tt aiZ dr abP su Tryz.f47 (((),a0,()),(a1,a2,()),())=MT a0 a1 a2:=by kernel_rfl
theorem acB:HcOk prog 47 (ae su TS):=by
 refine cg (cs:=aar) (.cons uw .nil) (lp:=abP) (fn:=Tryz.f47) su (.done (by kernel_rfl)) TS ?_
 rintro ⟨⟨⟨⟩,(v:Int),⟨⟩⟩,⟨⟨(b:LI),(m:Int),⟨⟩⟩,⟨⟩⟩⟩ out hw ho
 obtain ⟨hg,ho⟩:=Tr.guard ho
 have hg:bx b m=true:=hg
 cases ho
 refine (agN v b m).trans ?_
 unfold MT
 have e:aC b m (u64.wrap v) 2=aC b m v 2:=by unfold aC;rw[yc v (by decide)]
 simp[hg,e]
abbrev qL:Io:=⟨[.ptr 0 0,Wy],[oWr],[],[dI],none⟩
def Mm (d:qL.In):Tr qL.Res:=
 .ite (bx d.2.1.1 d.2.1.2.1) (.ret (.ret (((aC d.2.1.1 d.2.1.2.1 d.1.2.1 4).1,()),(((aC d.2.1.1 d.2.1.2.1 d.1.2.1 4).2,(d.2.1.2.1,())),())))) .no
abbrev aas:List (Nat×Hc):=[(116,ae iy px)]
def ai0:Hd:=bM aas
def abQ:Lp:=bB []
def MU (a0:Int)(a1:LI)(a2:Int):Option qL.Res:=bif bx a1 a2&&(decide (0≤4)&&decide (4≤8)) then oR (((aC a1 a2 (u64.wrap a0) (Int.toNat 4)).1,()),((aC a1 a2 (u64.wrap a0) (Int.toNat 4)).2,a2,()),()) else none
theorem agO (a0:Int)(a1:LI)(a2:Int):Io.run tt ai0 dr abQ qL Tryz.f48 (((),a0,()),(a1,a2,()),())=MU a0 a1 a2:=by kernel_rfl
theorem RT:HcOk prog 48 (ae qL Mm):=by
 refine cg (cs:=aas) (.cons uw .nil) (lp:=abQ) (fn:=Tryz.f48) qL (.done (by kernel_rfl)) Mm ?_
 rintro ⟨⟨⟨⟩,(v:Int),⟨⟩⟩,⟨⟨(b:LI),(m:Int),⟨⟩⟩,⟨⟩⟩⟩ out hw ho
 obtain ⟨hg,ho⟩:=Tr.guard ho
 have hg:bx b m=true:=hg
 cases ho
 refine (agO v b m).trans ?_
 unfold MU
 have e:aC b m (u64.wrap v) 4=aC b m v 4:=by unfold aC;rw[yc v (by decide)]
 simp[hg,e]
abbrev vU:Io:=⟨[.ptr 0 0,.dat (.int .i64) false false],[oWr],[],[dI],none⟩
def Zu (d:vU.In):Tr vU.Res:=
 .ite (bx d.2.1.1 d.2.1.2.1) (.ret (.ret (((aC d.2.1.1 d.2.1.2.1 d.1.2.1 8).1,()),(((aC d.2.1.1 d.2.1.2.1 d.1.2.1 8).2,(d.2.1.2.1,())),())))) .no
abbrev aat:List (Nat×Hc):=[(116,ae iy px)]
def ai1:Hd:=bM aat
def abR:Lp:=bB []
def MV (a0:Int)(a1:LI)(a2:Int):Option vU.Res:=bif bx a1 a2&&(decide (0≤8)&&decide (8≤8)) then oR (((aC a1 a2 (u64.wrap a0) (Int.toNat 8)).1,()),((aC a1 a2 (u64.wrap a0) (Int.toNat 8)).2,a2,()),()) else none
theorem agP (a0:Int)(a1:LI)(a2:Int):Io.run tt ai1 dr abR vU Tryz.f197 (((),a0,()),(a1,a2,()),())=MV a0 a1 a2:=by kernel_rfl
theorem ajf:HcOk prog 197 (ae vU Zu):=by
 refine cg (cs:=aat) (.cons uw .nil) (lp:=abR) (fn:=Tryz.f197) vU (.done (by kernel_rfl)) Zu ?_
 rintro ⟨⟨⟨⟩,(v:Int),⟨⟩⟩,⟨⟨(b:LI),(m:Int),⟨⟩⟩,⟨⟩⟩⟩ out hw ho
 obtain ⟨hg,ho⟩:=Tr.guard ho
 have hg:bx b m=true:=hg
 cases ho
 refine (agP v b m).trans ?_
 unfold MV
 have e:aC b m (u64.wrap v) 8=aC b m v 8:=by unfold aC;rw[yc v (by decide)]
 simp[hg,e]
abbrev qM:Io:=⟨[dI],[],[oWr],[.ptr 0 0],none⟩
def Mn (d:qM.In):Tr qM.Res:=.ret (.ret (((),()),((([]:LI),(BH (BG d.1.1 0) 1048576,())),())))
abbrev aau:List (Nat×Hc):=[]
def ai2:Hd:=bM aau
def abS:Lp:=bB []
def ZI (a0:Int):Option qM.Res:=oR (((),()),([],BH (BG a0 0) 1048576,()),())
theorem agQ (a0:Int):Io.run tt ai2 dr abS qM Tryz.f46 ((a0,()),())=ZI a0:=by kernel_rfl
theorem RU:HcOk prog 46 (ae qM Mn):=by
 refine cg (cs:=aau) HcsOk.nil (lp:=abS) (fn:=Tryz.f46) qM (.done (by kernel_rfl)) Mn ?_
 rintro ⟨⟨(m:Int),⟨⟩⟩,⟨⟩⟩ out hw ho
 rw[← ho]
 exact agQ m
abbrev ko:Io:=⟨[.ptr 0 0],[oWr],[],[dO],none⟩
def wT (d:ko.In):Tr ko.Res:=.ite (decide (d.2.1.1.length≤4294967296)) (.ret (.ret ((d.2.1.1,()),((d.2.1.1,(d.2.1.2.1,())),())))) .no
abbrev ND:List (Nat×Hc):=[(118,ae jv wH)]
def abe:Hd:=bM ND
def OO:Lp:=bB []
def QN (a0:LI)(a1:Int):Option ko.Res:=bif decide (a0.length≤4294967296) then oR ((a0,()),(a0,a1,()),()) else none
theorem Yn (a0:LI)(a1:Int):Io.run tt abe dr OO ko Tryz.f50 (((),()),(a0,a1,()),())=QN a0 a1:=by kernel_rfl
theorem E0:HcOk prog 50 (ae ko wT):=by
 refine cg (cs:=ND) (.cons EY .nil) (lp:=OO) (fn:=Tryz.f50) ko (.done (by kernel_rfl)) wT ?_
 rintro ⟨⟨⟨⟩,⟨⟩⟩,⟨⟨(b:LI),(m:Int),⟨⟩⟩,⟨⟩⟩⟩ out hw ho
 obtain ⟨hg,ho⟩:=Tr.guard ho
 cases ho
 exact (Yn b m).trans (aa hg _ _)
def be:List (LI)→Nat
 |[]=>0
 |p::ps=>p.length+be ps
def nV:List (LI)→LI
 |[]=>[]
 |p::ps=>p++nV ps
def bI (b:LI)(most:Int)(ps:List (LI)):Int×LI:=if most - b.length<be ps then (10,b) else (0,b++nV ps)
abbrev pd:Io:=⟨[.ptr 0 0,.dat (.sl 39 bs) false false],[oWr],[],[dI],none⟩
def GX (d:pd.In):Tr pd.Res:=
 .ite (bx d.2.1.1 d.2.1.2.1&&decide (be d.1.2.1≤4294960000)) (.ret (.ret (((bI d.2.1.1 d.2.1.2.1 d.1.2.1).1,()),(((bI d.2.1.1 d.2.1.2.1 d.1.2.1).2,(d.2.1.2.1,())),())))) .no
abbrev aav:List (Nat×Hc):=[(117,ae oN Ki)]
def Rb:Hd:=bM aav
abbrev ky:Lo:=⟨⟨(.one (.ptr 0 0)::.one (.hol (.sl 39 (Ty.sl 5 (Ty.int u8))))::.any::ce (.one hI::dq (.one (.hol (.sl 39 (Ty.sl 5 (Ty.int u8))))::.one hI::.one hI::am (gE (dq []))))),[some [.onl 5 (Ty.int u8) 2,hI]]⟩,[(.exit 0,⟨(.one (.ptr 0 0)::.one (.hol (.sl 39 (Ty.sl 5 (Ty.int u8))))::.any::ce (.one hI::.any::am (am (ce [])))),[some [.onl 5 (Ty.int u8) 2,hI]]⟩)]⟩
abbrev jc:Lo:=⟨⟨(.one (.ptr 0 0)::am (gE (.one (.hol (.sl 39 (Ty.sl 5 (Ty.int u8))))::.one hI::.one hI::.any::gE (dq [])))),[some [.onl 5 (Ty.int u8) 2,hI]]⟩,[(.exit 2,⟨(.any::am (am (gE []))),[some [.onl 5 (Ty.int u8) 2,hI]]⟩)]⟩
def wU (d:ky.st.den):Tr (aH ky.xs):=
 .ite (decide (d.1.2.1=0)&&(decide (d.1.2.2.2.2.1=0)&&(decide (d.1.2.2.2.1=(d.1.2.2.1.length:Int))&&decide (be d.1.2.2.1≤4294960000)))) (.ret (.ret ((),((d.1.1,((be d.1.2.2.1:Int),())),(d.2.1,()))))) .no
def r9 (d:jc.st.den):Tr (aH jc.xs):=
 .ite (decide (d.1.2.2.1=0)&&(decide (d.1.2.1=(d.1.1.length:Int))&&decide (d.2.1.1.length+be d.1.1≤4294967296))) (.ret (.ret ((),((),((d.2.1.1++nV d.1.1,(d.2.1.2.1,())),()))))) .no
def zT:Lp:=bB [(4,aS ky wU),(11,aS jc r9)]
def Gf {R:Type}(h3:List bs.den)(h4:Int)(h5:List bs.den)(h6 h7:Int)(h8:LI)(h9:Int)(next:List bs.den→Int→List bs.den→Int→Int→LI→Int→Option R)(out:aH ky.xs→Option R):Option R:=bif decide (h7<h6) then bif decide (0≤h7)&&decide (h7<(↑h5.length:Int)) then next (h3) (i64.wrap (h4+(↑(List.length (h5.getD h7.toNat [])):Int))) (h5) (h6) (i64.wrap (h7+1)) (h8) (h9) else none else out (.ret ((),((h3,(h4,())),((h8,(h9,())),()))))
def EG (n:Nat)(h3:List bs.den)(h4:Int)(h5:List bs.den)(h6 h7:Int)(h8:LI)(h9:Int):Option (aH ky.xs):=il tt Rb dr zT 1 Tryz.f49 (db Tryz.f49 0) n (ky.st.mk' ((h3,(h4,(h5,(h6,(h7,()))))),((h8,(h9,())),()))) (ci ky.xs)
theorem adM (n:Nat)(h3:List bs.den)(h4:Int)(h5:List bs.den)(h6 h7:Int)(h8:LI)(h9:Int):EG (n+1) h3 h4 h5 h6 h7 h8 h9=Gf h3 h4 h5 h6 h7 h8 h9 (EG n) some:=by kernel_rfl
def B1 {R:Type}(h25:List (Ty.sl 5 (Ty.int u8)).den)(h26 h27:Int)(h28:LI)(h29:Int)(next:List (Ty.sl 5 (Ty.int u8)).den→Int→Int→LI→Int→Option R)(out:aH jc.xs→Option R):Option R:=bif decide (h27<h26) then bif decide (0≤h27)&&decide (h27<(↑h25.length:Int)) then bif decide (h28.length+List.length (h25.getD h27.toNat [])≤4294967296) then next (h25) (h26) (i64.wrap (h27+1)) (h28++h25.getD h27.toNat []) (h29) else none else none else out (.ret ((),((),((h28,(h29,())),()))))
def zx (n:Nat)(h25:List (Ty.sl 5 (Ty.int u8)).den)(h26 h27:Int)(h28:LI)(h29:Int):Option (aH jc.xs):=il tt Rb dr zT 1 Tryz.f49 (db Tryz.f49 1) n (jc.st.mk' ((h25,(h26,(h27,()))),((h28,(h29,())),()))) (ci jc.xs)
theorem YF (n:Nat)(h25:List (Ty.sl 5 (Ty.int u8)).den)(h26 h27:Int)(h28:LI)(h29:Int):zx (n+1) h25 h26 h27 h28 h29=B1 h25 h26 h27 h28 h29 (zx n) some:=by kernel_rfl
theorem vc {ps:List (LI)}{i:Nat}(h:i<ps.length):be (ps.drop i)=ps[i].length+be (ps.drop (i+1)):=by rw[zE h];rfl
theorem PY {ps:List (LI)}{i:Nat}(h:i<ps.length):nV (ps.drop i)=ps[i]++nV (ps.drop (i+1)):=by rw[zE h];rfl
theorem Rz (ps0 ps:List (LI))(b:LI)(m:Int)(hl:ps.length≤maxLen):∀(k i s:Nat),ps.length<i+k→i≤ps.length→s+be (ps.drop i)≤4294960000→
  EG k ps0 s ps (ps.length:Int) i b m=some (.ret ((),((ps0,(((s+be (ps.drop i):Nat):Int),())),((b,(m,())),())))):=by
 intro k
 induction k with
 |zero=>intro i s h;omega
 |succ k ih=>
  intro i s h1 h2 h3
  rw[adM]
  unfold Gf
  by_cases hi:i<ps.length
  ·rw[vc hi] at h3 ⊢
   have e:List.getD ps (i:Int).toNat []=ps[i]:=by simp only[zG,aJ hi]
   rw[aa (by simpa using hi),aa (by simpa using hi),e,cq hi hl,aI (n:=(s:Int)+(List.length (α:=Int) ps[i]:Int)) (by omega) (by omega)]
   have e2:(s:Int)+(List.length (α:=Int) ps[i]:Int)=((s+ps[i].length:Nat):Int):=by omega
   rw[e2,ih (i+1) (s+ps[i].length) (by omega) (by omega) (by omega),Nat.add_assoc]
  ·rw[af (by simp;omega),zI (by omega)]
   rfl
theorem Od (ps:List (LI))(m:Int)(hl:ps.length≤maxLen):∀(k i:Nat) (b:LI),ps.length<i+k→i≤ps.length→b.length+be (ps.drop i)≤4294967296→
  zx k ps (ps.length:Int) i b m=some (.ret ((),((),((b++nV (ps.drop i),(m,())),())))):=by
 intro k
 induction k with
 |zero=>intro i b h;omega
 |succ k ih=>
  intro i b h1 h2 h3
  rw[YF]
  unfold B1
  by_cases hi:i<ps.length
  ·rw[vc hi] at h3
   rw[PY hi]
   have e:List.getD ps (i:Int).toNat []=ps[i]:=by simp only[zG,aJ hi]
   rw[aa (by simpa using hi),aa (by simpa using hi),e,cq hi hl,aa (by simp;omega),ih (i+1) _ (by omega) (by omega) (by simp;omega),zK]
  ·rw[af (by simp;omega),zI (by omega)]
   simp[nV]
def MW (a0:List bs.den)(a1:LI)(a2:Int):Option pd.Res:=(wU ((a0,(0,(a0,((↑a0.length:Int),(0,()))))),((a1,(a2,())),()))).run fun y=>match y with | .ret ((),((x21,x22,()),(x23,x24,()),()))=>(bif decide (i64.wrap (x24 - (↑x23.length:Int))<x22) then oR ((10,()),(x23,x24,()),()) else (r9 ((x21,((↑x21.length:Int),(0,()))),((x23,(x24,())),()))).run fun y=>match y with | .ret ((),((),(x37,x38,()),()))=>(oR ((0,()),(x37,x38,()),())))
theorem agR (a0:List bs.den)(a1:LI)(a2:Int):Io.run tt Rb dr zT pd Tryz.f49 (((),a0,()),(a1,a2,()),())=MW a0 a1 a2:=by kernel_rfl
theorem Em:HcsOk prog aav:=.cons VV .nil
theorem LK:HcOk prog 49 (ae pd GX):=by
 refine cg Em (lp:=zT) (fn:=Tryz.f49) pd (.step (h0:=aS ky wU) (by kernel_rfl) (jh Em (lp:=zT) (fn:=Tryz.f49) (.done (by kernel_rfl)) ky wU ?_) (.step (h0:=aS jc r9) (by kernel_rfl) (jh Em (lp:=zT) (fn:=Tryz.f49) (.done (by kernel_rfl)) jc r9 ?_) (.done (by kernel_rfl)))) GX ?_
 ·rintro ⟨⟨ps0,s,ps,n,i,⟨⟩⟩,⟨⟨b,m,⟨⟩⟩,⟨⟩⟩⟩ y hw hy
  obtain ⟨hg,hy⟩:=Tr.guard hy
  simp only[zA,zB] at hg
  obtain ⟨rfl,rfl,rfl,h4⟩:=hg
  refine ⟨ps.length+1,(Rz ps0 ps b m hw.1.2.2.1.1 _ 0 0 (by omega) (by omega) (by simpa using h4)).trans ?_⟩
  rw[← hy,Nat.zero_add];rfl
 ·rintro ⟨⟨ps,n,i,⟨⟩⟩,⟨⟨b,m,⟨⟩⟩,⟨⟩⟩⟩ y hw hy
  obtain ⟨hg,hy⟩:=Tr.guard hy
  simp only[zA,zB] at hg
  obtain ⟨rfl,rfl,h4⟩:=hg
  refine ⟨ps.length+1,(Od ps m hw.1.1.1 _ 0 b (by omega) (by omega) (by simpa using h4)).trans ?_⟩
  rw[← hy];rfl
 ·rintro ⟨⟨⟨⟩,(ps:List (LI)),⟨⟩⟩,⟨⟨(b:LI),(m:Int),⟨⟩⟩,⟨⟩⟩⟩ out hw ho
  obtain ⟨hg,ho⟩:=Tr.guard ho
  simp only[bx,zA,zB] at hg
  obtain ⟨⟨h1,h2,h3⟩,h4⟩:=hg
  have h4:be ps≤4294960000:=h4
  cases ho
  refine (agR ps b m).trans ?_
  unfold MW
  have c1:(decide ((0:Int)=0)&&(decide ((0:Int)=0)&&(decide ((ps.length:Int)=(ps.length:Int))&&decide (be ps≤4294960000))))=true:=by simp;omega
  have e1:wU ((ps,(0,(ps,((ps.length:Int),(0,()))))),((b,(m,())),()))=.ite true (.ret (.ret ((),((ps,((be ps:Int),())),((b,(m,())),()))))) .no:=congrArg (fun c=>Tr.ite c _ _) c1
  rw[e1]
  simp only[Tr.run,cond_true]
  rw[aI (n:=m - (b.length:Int)) (by omega) (by omega)]
  unfold bI
  by_cases hl:m - (b.length:Int)<(be ps:Int)
  ·rw[aa (by simpa using hl),if_pos hl]
  ·rw[af (by simpa using hl),if_neg hl]
   have c2:(decide ((0:Int)=0)&&(decide ((ps.length:Int)=(ps.length:Int))&&decide (b.length+be ps≤4294967296)))=true:=by simp;omega
   have e2:r9 ((ps,((ps.length:Int),(0,()))),((b,(m,())),()))=.ite true (.ret (.ret ((),((),((b++nV ps,(m,())),()))))) .no:=congrArg (fun c=>Tr.ite c _ _) c2
   rw[e2]
   rfl
end
end Go.Proofs.YtomeplopmndbgaaGreat.Sym
