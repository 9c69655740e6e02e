/- Regions that may be carried out in several orders: one canonical order tells of all. -/
import Derived.OrdersHeld
import Derived.Recover
import Derived.Test.YthpcdhgpplmneaaGreatDoorProg
import Derived.Lib.SliceRun
import Derived.Test.YthpcdhgpplmneaaGreatDoorQ2

set_option linter.unusedVariables false
set_option linter.unusedSimpArgs false
namespace Go.Proofs.YthpcdhgpplmneaaGreatDoor.Sym
open Go
section
variable {P:Program} {ops:Array Oper} {Q:Exit→Act→World→Prop} {md:Region.Mode} {T:List Nat} {S0:World→Prop}
def On (T:List Nat)(S0:World→Prop)(listed:Array Bool)(w:World):Prop:=(∀j∈T,listed.getD j false=false)→S0 w
def wpAnyL (P:Program)(md:Region.Mode)(ops:Array Oper)(Q:Exit→Act→World→Prop)(T:List Nat)(S0:World→Prop):Nat→Array Bool→Act→World→Prop
 |0,listed,a,w=>Region.ready md ops listed=[]∧Q .normal a w
 |n+1,listed,a,w=>(Region.ready md ops listed=[]→Q .normal a w)∧
  ∀i∈Region.ready md ops listed,wpOp P ops Q i (fun a' w'=>On T S0 (listed.setIfInBounds i true) w'∧wpAnyL P md ops Q T S0 n (listed.setIfInBounds i true) a' w') a w
theorem wpAnyL.any:∀(n:Nat) {listed:Array Bool} {a:Act} {w:World},wpAnyL P md ops Q T S0 n listed a w→wpAny P md ops Q n listed a w
 |0,_,_,_,h=>h
 |n+1,_,_,_,h=>⟨h.1,fun i hi=>wpOp_mono (fun _ _ h'=>wpAnyL.any n h'.2) (h.2 i hi)⟩
theorem wpAnyL.weaken {S1:World→Prop}(hS:∀w,S0 w→S1 w):∀(n:Nat) {listed:Array Bool} {a:Act} {w:World},wpAnyL P md ops Q T S0 n listed a w→wpAnyL P md ops Q T S1 n listed a w
 |0,_,_,_,h=>h
 |n+1,_,_,_,h=>⟨h.1,fun i hi=>wpOp_mono (fun _ _ h'=>⟨fun ht=>hS _ (h'.1 ht),wpAnyL.weaken hS n h'.2⟩) (h.2 i hi)⟩
theorem wpAnyL.first {i:Nat}{oi:Oper}{v:Value}(hi:ops[i]?=some oi)(hsel:∀(j:Nat) (o:Oper) cs b,ops[j]?=some o→o.op≠.select cs b)
  (hQ:∀c a w,Q (.panic c) (a.put oi.dst v) w→Q (.panic c) a w) {Z:List Nat} (hTZ:∀j∈T,j∈Z) (hZ:∀j∈Z,j≠i∧∀oj,ops[j]?=some oj→∃e∈oj.after,Region.binds md e=true∧(e.on=i∨e.on∈Z)):
  ∀(n:Nat) (listed:Array Bool) (a:Act) (w:World),
   (∀j oj,ops[j]?=some oj→j≠i→listed.getD j true=false→(∀e∈oj.after,Region.binds md e=true→e.on≠i)→oi.apart ops oj=true)→
   i∈Region.ready md ops listed→YieldsIf P ops S0 oi v a→S0 w→(∀j∈Z,listed.getD j false=false)→
   wpAnyL P md ops Q T S0 n (listed.setIfInBounds i true) (a.put oi.dst v) w→wpAnyL P md ops Q T S0 (n+1) listed a w:=by
 intro n
 induction n with
 |zero=>
  intro listed a w _ hr hy hS hno h
  refine ⟨fun e=>(by rw[e] at hr;cases hr),fun j hj=>?_⟩
  by_cases hji:j=i
  ·subst hji;exact hy.wpOp hi hS ⟨fun _=>hS,h⟩
  ·have:=ready_mono hj hji
   rw[h.1] at this
   cases this
 |succ n ih=>
  intro listed a w hfree hr hy hS hno h
  refine ⟨fun e=>(by rw[e] at hr;cases hr),fun j hj=>?_⟩
  by_cases hji:j=i
  ·subst hji;exact hy.wpOp hi hS ⟨fun _=>hS,h⟩
  ·have h1:=h.2 j (ready_mono hj hji)
   obtain ⟨hjun,oj,hoj,hall⟩:=mem_ready.1 hj
   have hnot:∀e∈oj.after,Region.binds md e=true→e.on≠i:=fun e he hb heq=>by
    have h2:=hall e he hb
    have h0:=(mem_ready.1 hr).1
    rw[heq] at h2
    rcases Nat.lt_or_ge i listed.size with h' | h'
    ·simp[h'] at h0 h2;rw[h0] at h2;cases h2
    ·simp[Array.getElem?_eq_none h'] at h2
   have hjZ:j ∉ Z:=fun hin=>by
    obtain ⟨e,he,hb,heq⟩:=(hZ j hin).2 oj hoj
    rcases heq with heq | heq
    ·exact hnot e he hb heq
    ·have h2:=hall e he hb
     have h0:=hno e.on heq
     rw[Array.getD_eq_getD_getElem?] at h0
     rcases Nat.lt_or_ge e.on listed.size with h' | h'
     ·simp[h'] at h0 h2;rw[h0] at h2;cases h2
     ·simp[Array.getElem?_eq_none h'] at h2
   have h2:=wpOp_putIf hoj (hfree j oj hoj hji hjun hnot) (fun cs b=>hsel i oi cs b hi) (fun cs b=>hsel j oj cs b hoj) hQ hy h1
   have hfree':∀k ok,ops[k]?=some ok→k≠i→(listed.setIfInBounds j true).getD k true=false→
     (∀e∈ok.after,Region.binds md e=true→e.on≠i)→oi.apart ops ok=true:=fun k ok hk hki hun hno=>by
    refine hfree k ok hk hki ?_ hno
    by_cases hjk:j=k
    ·subst hjk;exact hjun
    ·rw[getD_set_ne true hjk] at hun;exact hun
   have hno':∀k∈Z,(listed.setIfInBounds j true).getD k false=false:=fun k hk=>by
    rw[getD_set_ne false (fun e=>hjZ (by rw[e];exact hk))];exact hno k hk
   refine wpOp_mono (fun a' w' h3=>?_) h2
   have hs:S0 w':=h3.2.1 fun k hk=>by
    rw[getD_set_ne false (fun e=>hjZ (by rw[e];exact hTZ k hk)),getD_set_ne false (Ne.symm (hZ k (hTZ k hk)).1)];exact hno k (hTZ k hk)
   refine ⟨fun _=>hs,ih (listed.setIfInBounds j true) a' w' hfree' (ready_mono hr (Ne.symm hji)) h3.1 hs hno' ?_⟩
   rw[Array.setIfInBounds_comm _ _ hji]
   exact h3.2.2
theorem Oper.wp_monoQ {o:Oper}{a:Act}{w:World}{K:Act→World→Prop}{Q':Exit→Act→World→Prop}(h:∀e a w,Q e a w→Q' e a w)(hh:o.wp P a w K Q):o.wp P a w K Q':=by
 unfold Oper.wp at *
 generalize (execOp a.eval o).run P w=r at *
 cases r with
 |ok n w'=>
  cases n <;> simp only[Oper.upon] at hh ⊢ <;>
   first
    |exact hh
    |exact h _ _ _ hh
    |exact Calls.mono hh (fun e w'' he=>by cases e <;> first | exact he | (obtain ⟨a0,w0,h0⟩:=he;exact ⟨a0,w0,h _ _ _ h0⟩) | exact h _ _ _ he)
    |exact Rows.mono hh (fun _ _ he=>he)
 |halt x w'=>cases x <;> simp only[Oper.upon] at hh ⊢ <;> first | exact hh | exact h _ _ _ hh
theorem FR {i:Nat}{K:Act→World→Prop}{Q':Exit→Act→World→Prop}(h:∀e a w,Q e a w→Q' e a w){a:Act}{w:World}(hh:wpOp P ops Q i K a w):wpOp P ops Q' i K a w:=by
 unfold wpOp at *
 split
 ·rename_i ho
  simpa only [ho] using hh
 ·rename_i o ho
  simp only[ho] at hh
  split
  ·rename_i hw
   simp only[hw,if_true] at hh
   rcases hh with hh | ⟨h1,a0,w0,h2⟩
   ·exact .inl (Oper.wp_monoQ h hh)
   ·exact .inr ⟨h1,a0,w0,h _ _ _ h2⟩
  ·rename_i hw
   simpa [hw] using hh
theorem sM {Q':Exit→Act→World→Prop}(h:∀e a w,Q e a w→Q' e a w):∀(n:Nat) {listed:Array Bool} {a:Act} {w:World},wpAny P md ops Q n listed a w→wpAny P md ops Q' n listed a w
 |0,_,_,_,hh=>⟨hh.1,h _ _ _ hh.2⟩
 |n+1,_,_,_,hh=>⟨fun e=>h _ _ _ (hh.1 e),fun i hi=>FR h (wpOp_mono (fun _ _ h'=>sM h n h') (hh.2 i hi))⟩
def RX (ops:Array Oper)(a a':Act):Prop:=
 a'.defers=a.defers∧a'.tmps.size=a.tmps.size∧∀t,(∀(j:Nat) (oj:Oper),ops[j]?=some oj→oj.dst≠some t)→a'.tmps[t]?=a.tmps[t]?
def Qh (ops:Array Oper)(Q:Exit→Act→World→Prop):Exit→Act→World→Prop
 |.panic c,a,w=>∀a',RX ops a a'→Q (.panic c) a' w
 |e,a,w=>Q e a w
theorem Qh.of {e:Exit}{a:Act}{w:World}(h:Qh ops Q e a w):Q e a w:=by
 cases e <;> first | exact h | exact h a ⟨rfl,rfl,fun _ _=>rfl⟩
theorem Qh.put {i:Nat}{oi:Oper}(hi:ops[i]?=some oi)(v:Value)(c:List PanicEntry)(a:Act)(w:World)(h:Qh ops Q (.panic c) (a.put oi.dst v) w):Qh ops Q (.panic c) a w:=by
 intro a' ⟨h1,h2,h3⟩
 refine h a' ⟨h1.trans (Act.put_defers' _ _ _).symm,?_,fun t ht=>?_⟩
 ·rw[h2];cases oi.dst <;> simp[Act.put]
 ·rw[h3 t ht]
  cases hd:oi.dst with
  |none=>rfl
  |some d=>
   have:d≠t:=by rintro rfl;exact ht i oi hi hd
   simp[Act.put,Array.getElem?_setIfInBounds_ne this]
end
theorem Cr {ops:Array Oper}{j t:Nat}{oj:Oper}(hj:ops[j]?=some oj)(hd:oj.dst=some t):(gI ops).testBit t=true:=by
 unfold gI
 have hm:oj∈ops.toList:=List.mem_of_getElem? (by simpa using hj)
 generalize ops.toList=l at hm
 have mono:∀(l:List Oper) (m:Nat),m.testBit t=true→(l.foldl (fun m o=>match o.dst with | some d=>m ||| 2 ^ d | none=>m) m).testBit t=true:=by
  intro l
  induction l with
  |nil=>intro m h;exact h
  |cons o l ih=>
   intro m h
   rw[List.foldl_cons]
   refine ih _ ?_
   split
   ·rw[Nat.testBit_or,h];rfl
   ·exact h
 generalize 0=m
 induction l generalizing m with
 |nil=>cases hm
 |cons o l ih=>
  rw[List.foldl_cons]
  rcases List.mem_cons.1 hm with rfl | hm
  ·refine mono l _ ?_
   rw[hd]
   simp only
   rw[Nat.testBit_or,Nat.testBit_two_pow_self,Bool.or_true]
  ·exact ih hm _
theorem se {G:Gh}{w:World}(m:Nat):∀(i:Nat) {vs:List V} {us us':List Value},All2 (Rv G w) vs us→us'.length=us.length→(∀t,m.testBit (i+t)=false→us'[t]?=us[t]?)→All2 (Rv G w) (sd m i vs) us'
 |_,[],[],[],_,_,_=>trivial
 |i,v::vs,u::us,u'::us',h,hl,ht=>by
  refine ⟨?_,se m (i+1) h.2 (by simpa using hl) fun t h'=>?_⟩
  ·cases hb:m.testBit i with
   |true=>trivial
   |false=>
    have:=ht 0 (by simpa using hb)
    simp only[List.getElem?_cons_zero,zC] at this
    rw[this];exact h.1
  ·have:=ht (t+1) (by rw[← h'];congr 1;omega)
   simpa using this
 |_,[],_::_,_,h,_,_=>h.elim
 |_,_::_,[],_,h,_,_=>h.elim
 |_,[],[],_::_,_,hl,_=>by simp at hl
 |_,_::_,_::_,[],_,hl,_=>by simp at hl
theorem Rel.mask {F:Fra}{G:Gh}{A:AS}{a a':Act}{cst:List (Array Value)}{w:World}(R:Rel F G A a.tmps cst w){ops:Array Oper}(hn:RX ops a a'):
  Rel F G { A with tm:=sd (gI ops) 0 A.tm } a'.tmps cst w:=
 ⟨se _ 0 R.tm (by simpa using hn.2.1) fun t ht=>by
  have:=hn.2.2 t fun j oj hj hd=>by rw[Nat.zero_add,Cr hj hd] at ht;cases ht
  simpa using this,R.stk,R.ob,R.gh⟩
def s4 (ops:Array Oper)(i:Nat)(Z:List Nat)(j:Nat):List Nat:=match ops[j]? with
 |some o=>bif o.after.any fun e=>Region.binds .any e&&(e.on == i || Z.any (· == e.on)) then j::Z else Z
 |none=>Z
def qO (ops:Array Oper)(i:Nat):List Nat:=(List.range ops.size).foldl (s4 ops i) []
def Bt (ops:Array Oper)(j i:Nat):Bool:=(qO ops i).any (· == j)
def tv (ops:Array Oper)(T:List Nat)(listed:Array Bool)(i:Nat):Bool:=
 Region.free .any ops listed i&&((Region.ready .any ops listed).contains i&&((T.all fun j=>Bt ops j i)&&(qO ops i).all fun j=>!(j == i)&&!listed.getD j false))
theorem rX (ops:Array Oper)(i:Nat):∀j∈qO ops i,∀oj,ops[j]?=some oj→∃e∈oj.after,Region.binds .any e=true∧(e.on=i∨e.on∈qO ops i):=by
 have key:∀(l Z:List Nat),(∀j∈Z,∀oj,ops[j]?=some oj→∃e∈oj.after,Region.binds .any e=true∧(e.on=i∨e.on∈Z))→
   ∀j∈l.foldl (s4 ops i) Z,∀oj,ops[j]?=some oj→∃e∈oj.after,Region.binds .any e=true∧(e.on=i∨e.on∈l.foldl (s4 ops i) Z):=by
  intro l
  induction l with
  |nil=>intro Z h;exact h
  |cons k l ih=>
   intro Z h
   rw[List.foldl_cons]
   refine ih _ fun j hj oj hoj=>?_
   unfold s4 at hj ⊢
   cases hk:ops[k]? with
   |none=>rw[hk] at hj;exact h j hj oj hoj
   |some o=>
    rw[hk] at hj
    simp only at hj ⊢
    cases hc:o.after.any fun e=>Region.binds .any e&&(e.on == i || Z.any (· == e.on)) with
    |false=>rw[hc] at hj;exact h j hj oj hoj
    |true=>
     rw[hc] at hj
     simp only[cond_true] at hj ⊢
     rcases List.mem_cons.1 hj with rfl | hj
     ·rw[hk] at hoj;cases hoj
      obtain ⟨e,he,hb⟩:=Array.any_eq_true'.1 hc
      simp only[zA,Bool.or_eq_true,beq_iff_eq,List.any_eq_true,exists_eq_right] at hb
      exact ⟨e,he,hb.1,hb.2.imp id fun h=>List.mem_cons_of_mem _ h⟩
     ·obtain ⟨e,he,hb,h2⟩:=h j hj oj hoj
      exact ⟨e,he,hb,h2.imp id fun h=>List.mem_cons_of_mem _ h⟩
 exact key _ [] fun j hj=>by cases hj
def Bg (ops:Array Oper)(listed:Array Bool)(i:Nat):Bool:=match Region.ready .any ops listed with
 |[j]=>j == i
 |_=>false
def A9 (tt:TT)(ops:Array Oper)(i:Nat):Bool:=match ops[i]? with
 |some o=>!vc tt o.op
 |none=>false
def fT:List (Nat×Nat)→List Nat
 |[]=>[]
 |(i,m)::is=>bif Nat.beq m 4 then i::fT is else fT is
def pm (l:Array Bool):List Nat→Array Bool
 |[]=>l
 |j::js=>pm (l.setIfInBounds j true) js
def m6 (ops:Array Oper)(j:Nat):Bool:=match ops[j]? with
 |some o=>(match o.op with | .alloc _=>true | _=>false)&&(o.after.isEmpty&&(o.guard.isNone&&(match o.dst with
  |some d=>(List.range ops.size).all fun k=>k == j || (match ops[k]? with | some o'=>!(o'.dst == some d) | none=>true)
  |none=>false)))
 |none=>false
def jP (ops:Array Oper)(l0:Array Bool)(pf:List Nat):Bool:=pf.all fun j=>m6 ops j&&!l0.getD j true
def QG (ops:Array Oper)(l0:Array Bool)(pf:List Nat)(i:Nat):Bool:=(Region.ready .any ops l0).contains i&&(Region.ready .any ops (pm l0 pf)).all (· == i)
def I1:Op→Bool
 |.pick ..=>true
 |_=>false
def A7 (ops:Array Oper)(i:Nat):Bool:=match ops[i]? with
 |some o=>I1 o.op
 |none=>false
def nZ (tt:TT)(ops:Array Oper)(T:List Nat):Bool→Array Bool→List (Nat×Nat)→Bool
 |_,listed,[]=>(Region.ready .any ops listed).isEmpty
 |ph,listed,(i,m)::is=>match m with
  |0=>tv ops T listed i&&A9 tt ops i&&(!(fT is).contains i&&jP ops listed (fT is))&&nZ tt ops T ph (listed.setIfInBounds i true) is
  |1=>tv ops T listed i&&ph&&(!(fT is).contains i&&jP ops listed (fT is))&&nZ tt ops T ph (listed.setIfInBounds i true) is
  |2=>Bg ops listed i&&T.all (fun j=>!(j == i))&&(fT is).isEmpty&&nZ tt ops T (ph&&A7 ops i) (listed.setIfInBounds i true) is
  |n+3=>bif Nat.beq n 1 then (!(fT is).contains i&&jP ops listed (i::fT is))&&(Region.ready .any ops (pm listed (fT is))).all (· == i)&&nZ tt ops T false (listed.setIfInBounds i true) is
   else bif Nat.beq n 3 then QG ops listed (fT is) i&&T.all (fun j=>!(j == i))&&(!(fT is).contains i&&jP ops listed (fT is))&&nZ tt ops T false (listed.setIfInBounds i true) is
   else Bg ops listed i&&(T.any (· == i)&&decide (i<listed.size))&&(fT is).isEmpty&&nZ tt ops T false (listed.setIfInBounds i true) is
section
variable {P:Program} {tt:TT} {ops:Array Oper} {T:List Nat}
theorem Qh.post {R:Type}{F:Fra}{G':Gh}{A':AS}{a':Act}{cst:List (Array Value)}{w':World}{r:R}{K:Ex→AS→Option R}{Q:Exit→Act→World→Prop}{dfs:List Deferred}(hK:tZ F cst dfs r K Q)
  (R':Rel F G' A' a'.tmps cst w') (hd:a'.defers=dfs) {v:V} (hk:K (.panic v) { A' with tm:=sd (gI ops) 0 A'.tm }=some r) (u:Value) (hu:Rv G' w' v u):
  Qh ops Q (.panic [{ v:=u,recovered:=false }]) a' w':=by
 intro a'' hn
 exact hK (.panic v) _ G' a'' w' (R'.mask hn) (hn.1.trans hd) hk u hu
structure Hold (G0:Gh) (w0:World) (hid:List Nat) (G:Gh) (w:World):Prop where
 sub:∀b o,G0.S b o→G.S b o
 mu:∀key∈hid,∀b,G0.mu key=some b→G.mu key=some b
 agr:Agr (·∈hid) G0 w0 w
theorem Hold.step {G0 G G':Gh}{w0 w w':World}{hid:List Nat}(h:Hold G0 w0 hid G w)(u:UntH G hid w G' w'):Hold G0 w0 hid G' w' where
 sub:=fun b o hs=>(u.1 b o (h.sub b o hs)).1
 mu:=fun key hk b hb=>(u.2 key hk b (h.mu key hk b hb)).1
 agr:=⟨fun b o hs=>(u.1 b o (h.sub b o hs)).2.trans (h.agr.1 b o hs),fun key b hk hb=>(u.2 key hk b (h.mu key hk b hb)).2.trans (h.agr.2 key b hk hb)⟩
theorem wK:∀(X:List Nat) (l:Array Bool) (k:Nat),k ∉ X→(pm l X)[k]?=l[k]?
 |[],_,_,_=>rfl
 |j::js,l,k,h=>by
  rw[pm,wK js _ k (fun e=>h (List.mem_cons_of_mem _ e)),Array.getElem?_setIfInBounds_ne]
  exact fun e=>h (e▸List.mem_cons_self)
theorem nW:∀(X:List Nat) (l:Array Bool) (k:Nat),l.getD k false=true→(pm l X).getD k false=true
 |[],_,_,h=>h
 |j::js,l,k,h=>nW js _ k (getD_set_true h)
theorem wL:∀(X:List Nat) (l:Array Bool) (k:Nat),k∈X→k<l.size→(pm l X).getD k false=true
 |j::js,l,k,h,hk=>by
  rw[pm]
  rcases List.mem_cons.1 h with rfl | h
  ·exact nW js _ _ (by simp[hk])
  ·exact wL js _ k h (by simpa using hk)
theorem A6:∀is:List (Nat×Nat),(fT is).length≤is.length
 |[]=>Nat.le_refl _
 |(i,m)::is=>by
  rw[fT]
  cases Nat.beq m 4 with
  |true=>have:=A6 is;simp only[cond_true,zN];omega
  |false=>have:=A6 is;simp only[cond_false,zN];omega
theorem kw:∀(is:List (Nat×Nat)) {j d:Nat} {o:Oper},j∈fT is→ops[j]?=some o→o.dst=some d→d∈uP ops is
 |[],_,_,_,hj,_,_=>by simp[fT] at hj
 |(i,m)::is,j,d,o,hj,ho,hd=>by
  rw[fT] at hj
  rw[uP]
  cases hm:Nat.beq m 4 with
  |true=>
   rw[hm] at hj
   simp only[cond_true] at hj ⊢
   rcases List.mem_cons.1 hj with rfl | hj
   ·rw[ho,Option.bind_some,hd];simp
   ·have:=kw is hj ho hd
    split
    ·exact List.mem_cons_of_mem _ this
    ·exact this
  |false=>rw[hm] at hj;exact kw is hj ho hd
theorem pn {tt:TT}{kb:Nat}:∀(is:List (Nat×Nat)),Eu tt ops is=true→∀{j:Nat},j∈fT is→∀o t d,ops[j]?=some o→o.op=.alloc t→o.dst=some d→∀z,∃A',Ok tt kb z o.dst o.op=some (true,A')
 |[],_,j,hj=>by simp[fT] at hj
 |(i,m)::is,h,j,hj=>by
  intro o t d ho hop hd z
  rw[fT] at hj
  rw[Eu] at h
  simp only[zA] at h
  cases hm:Nat.beq m 4 with
  |true=>
   rw[hm] at hj h
   simp only[cond_true] at hj h
   rcases List.mem_cons.1 hj with rfl | hj
   ·have h1:=h.1
    rw[ho] at h1
    simp only[hop] at h1
    rw[hop,hd]
    simp only[Ok]
    rw[h1]
    exact ⟨_,rfl⟩
   ·exact pn is h.2 hj o t d ho hop hd z
  |false=>rw[hm] at hj;exact pn is h.2 hj o t d ho hop hd z
theorem gJ {j:Nat}(h:m6 ops j=true):∃o t d,ops[j]?=some o∧o.op=.alloc t∧o.after = #[]∧o.guard=none∧o.dst=some d∧∀k o',k≠j→ops[k]?=some o'→o'.dst≠some d:=by
 unfold m6 at h
 split at h
 ·rename_i o ho
  simp only[zA] at h
  obtain ⟨h1,h2,h3,h4⟩:=h
  split at h1
  ·rename_i t ht
   split at h4
   ·rename_i d hd
    refine ⟨o,t,d,ho,ht,by simpa using h2,by simpa using h3,hd,fun k o' hk hk'=>?_⟩
    simp only[zJ,List.mem_range,Bool.or_eq_true,beq_iff_eq] at h4
    have:=(h4 k (Array.getElem?_eq_some_iff.1 hk').1).resolve_left hk
    rw[hk'] at this
    simpa using this
   ·cases h4
  ·cases h1
 ·cases h
theorem bU {l0:Array Bool}{pf:List Nat}(h:jP ops l0 pf=true):∀j∈pf,m6 ops j=true∧l0.getD j true=false:=by
 intro j hj
 have:=List.all_eq_true.1 h j hj
 simpa using this
theorem V.map_noKey {v:V}{k:Nat}(h:v.hasKey k=false):v.map (C.noKey k)=v:=by
 have hl:∀cs:List C,cs.any (·.hasKey k)=false→cs.map (C.noKey k)=cs:=fun cs h=>by
  conv=>rhs;rw[← List.map_id cs]
  refine List.map_congr_left fun c hc=>?_
  have:=List.any_eq_false.1 h c hc
  simp[C.noKey,this]
 cases v with
 |one c=>simp only[V.map];simp only[V.hasKey] at h;simp[C.noKey,h]
 |agg cs=>simp only[V.map];rw[hl cs h]
 |tup ps=>
  simp only[V.map]
  congr 1
  conv=>rhs;rw[← List.map_id ps]
  refine List.map_congr_left fun p hp=>?_
  have:=List.any_eq_false.1 h p hp
  rw[hl p.2 (by simpa using this)];rfl
 |any=>rfl
theorem AS.map_noKey {A:AS}{k:Nat}(h:A.uses k=false):A.map (C.noKey k)=A:=by
 unfold AS.uses at h
 simp only[Bool.or_eq_false_iff] at h
 obtain ⟨⟨h1,h2⟩,h3⟩:=h
 obtain ⟨tm,stk,ob⟩:=A
 have ht:∀vs:List V,(∀v∈vs,v.map (C.noKey k)=v)→vs.map (V.map (C.noKey k))=vs:=fun vs h=>by
  conv=>rhs;rw[← List.map_id vs]
  exact List.map_congr_left h
 simp only[AS.map]
 congr 1
 ·exact ht tm fun v hv=>V.map_noKey (by have:=List.any_eq_false.1 h1 v hv;simpa using this)
 ·conv=>rhs;rw[← List.map_id stk]
  refine List.map_congr_left fun vs hvs=>?_
  have:=List.any_eq_false.1 h2 vs hvs
  exact ht vs fun v hv=>V.map_noKey (by
   have h':vs.any (·.hasKey k)=false:=by simpa using this
   have:=List.any_eq_false.1 h' v hv;simpa using this)
 ·conv=>rhs;rw[← List.map_id ob]
  refine List.map_congr_left fun o ho=>?_
  have:=List.any_eq_false.1 h3 o ho
  cases o with
  |none=>rfl
  |some cs=>
   have h':cs.any (·.hasKey k)=false:=by simpa using this
   simp only[Option.map_some,id]
   congr 1
   conv=>rhs;rw[← List.map_id cs]
   refine List.map_congr_left fun c hc=>?_
   have:=List.any_eq_false.1 h' c hc
   simp[C.noKey,this]
theorem Rc.noKey' {G:Gh}{w:World}{c:C}{v:Value}(k:Nat)(h:Rc G w c v):Rc G w (c.noKey k) v:=by
 unfold C.noKey
 split
 ·exact h.cell
 ·exact h
theorem Rel.forgetO {F:Fra}{G:Gh}{A:AS}{ts:Array Value}{cst:List (Array Value)}{w:World}(R:Rel F G A ts cst w)(k:Nat):Rel F G (A.forgetO k) ts cst w:=by
 have R':=R.map (f:=C.noKey k) (fun c v h=>h.noKey' k) (kg k) (fun _ _ h=>⟨h,rfl⟩) R.gh
 refine ⟨R'.tm,R'.stk,fun j cs hj=>?_,R.gh⟩
 simp only[AS.forgetO,List.getElem?_set] at hj
 split at hj
 ·split at hj <;> cases hj
 ·exact R'.ob j cs hj
theorem Rel.anyT {F:Fra}{G:Gh}{A:AS}{ts:Array Value}{cst:List (Array Value)}{w:World}(R:Rel F G A ts cst w)(d:Nat):Rel F G (A.put (some d) .any) ts cst w:=
 ⟨R.tm.set_left d fun _ _=>trivial,R.stk,R.ob,R.gh⟩
theorem Rel.clean {F:Fra}{G:Gh}{ts:Array Value}{cst:List (Array Value)}{w:World}{kb:Nat}:∀(ds:List Nat) {A:AS},Rel F G A ts cst w→Rel F G (jG kb ds A) ts cst w
 |[],_,R=>R
 |d::ds,_,R=>Rel.clean ds ((R.forgetO (kb+d)).anyT d)
theorem All2.set_right {α β:Type}{R:α→β→Prop}:∀{xs:List α} {ys:List β} (n:Nat) {b:β},All2 R xs ys→(∀a,xs[n]?=some a→R a b)→All2 R xs (ys.set n b)
 |[],[],_,_,_,_=>by simp[All2]
 |_::_,_::_,0,_,h,h'=>⟨h' _ rfl,h.2⟩
 |_::_,_::_,n+1,_,h,h'=>⟨h.1,All2.set_right n h.2 fun b hb=>h' b (by simpa using hb)⟩
 |[],_::_,_,_,h,_=>h.elim
 |_::_,[],_,_,h,_=>h.elim
theorem Rel.newFl {F:Fra}{G:Gh}{A:AS}{ts:Array Value}{cst:List (Array Value)}{w w':World}{kb d:Nat}(R:Rel F G A ts cst w)(g:Grew w w')(hk0:F.mu0 (kb+d)=none)(hc:kX kb A d=true)(u:Value):
  Rel F (G.newOb (kb+d) w.heap.size) A (ts.setIfInBounds d u) cst w':=by
 unfold kX at hc
 simp only[zA,Bool.not_eq_true'] at hc
 obtain ⟨h1,h2,h3⟩:=hc
 have e:=AS.map_noKey h1
 have go:=Goes.newOb R.gh g (kb+d)
 have hf:∀c v,Rc G w c v→Rc (G.newOb (kb+d) w.heap.size) w' (c.noKey (kb+d)) v:=fun c v h=>h.noKey go
 have ht:All2 (Rv (G.newOb (kb+d) w.heap.size) w') (A.map (C.noKey (kb+d))).tm ts.toList:=R.tm.map_left _ fun a b h=>Rv.map hf h
 have hs:All2 (fun vs (t:Array Value)=>All2 (Rv (G.newOb (kb+d) w.heap.size) w') vs t.toList) (A.map (C.noKey (kb+d))).stk cst:=R.stk.map_left _ fun a b h=>h.map_left _ fun a b h=>Rv.map hf h
 rw[e] at ht hs
 refine ⟨?_,hs,fun k cs hk=>?_,R.gh.newOb g (kb+d) hk0⟩
 ·rw[Array.toList_setIfInBounds]
  refine ht.set_right d fun v hv=>?_
  rw[hv] at h2
  cases v <;> first | trivial | cases h2
 ·have hne:k≠kb+d:=by rintro rfl;rw[hk] at h3;cases h3
  have hk':(A.map (C.noKey (kb+d))).ob[k]?=some (some cs):=by rw[e];exact hk
  obtain ⟨cs0,h0,rfl⟩:=AS.map_ob hk'
  obtain ⟨b,o',hm,hh',hr'⟩:=R.ob k cs0 h0
  exact ⟨b,o',by simp[Gh.newOb,hne,hm],(g.old b (R.gh.mu k b hm).2.2).trans hh',hr'.map hf (kg _)⟩
theorem vN (htt:cm P tt){o:Oper}{t d kb:Nat}{A A':AS}{chk:Bool}(ho:o.op=.alloc t)(hd:o.dst=some d)(h:Ok tt kb A o.dst o.op=some (chk,A'))(a:Act)(w:World):
  ∃cur:Array Value,(execOp a.eval o).run P w=.ok (.value (.pointer (some ⟨w.heap.size,0,none⟩))) (w.alloc (.cells cur t))∧cur.toList=(tt.at t).zero∧(tt.at t).zero.all Value.oneCell'=true∧
   A'=(A.newOb (kb+d) (ja tt (cn (kb+d) 0) t)).put (some d) (.one (.ptr (kb+d) 0)):=by
 rw[ho,hd] at h
 simp only[Ok] at h
 cases hz:(wE tt t).isSome&&(tt.at t).zero.all Value.oneCell' with
 |false=>rw[hz] at h;cases h
 |true=>
  rw[hz] at h
  simp only[cond_true,zC,zD] at h
  obtain ⟨_,rfl⟩:=h
  simp only[zA] at hz
  obtain ⟨n,hn⟩:=Option.isSome_iff_exists.1 hz.1
  obtain ⟨hT,_⟩:=i0 htt hn
  obtain ⟨z,hzr,hzc,_⟩:=hT.zero w
  refine ⟨z.cells,?_,hzc,hz.2,rfl⟩
  obtain ⟨dst,op,type,pos,after,guard⟩:=o
  simp only at ho hd
  subst ho
  simp[execOp,Instr.alloc,hzr,newVar,iR]
def FlDone (tt:TT)(ops:Array Oper)(kb j:Nat)(G:Gh)(a:Act)(w:World):Prop:=
 ∃(o:Oper) (t d b:Nat) (cur:Array Value),ops[j]?=some o∧o.op=.alloc t∧o.dst=some d∧G.mu (kb+d)=some b∧(∀u,a.tmps[d]?=some u→u=.pointer (some ⟨b,0,none⟩))∧
  w.heap[b]?=some (.cells cur t (0,0))∧cur.toList=(tt.at t).zero
theorem Act.put_get {a:Act}{dst:Option Tmp}{d:Nat}(h:dst≠some d)(u:Value):(a.put dst u).tmps[d]?=a.tmps[d]?:=by
 cases dst with
 |none=>rfl
 |some d'=>
  have:d'≠d:=fun e=>h (by rw[e])
  simp[Act.put,Array.getElem?_setIfInBounds_ne this]
theorem FlDone.put {kb i j:Nat}{oi:Oper}{G:Gh}{a:Act}{w:World}(h:FlDone tt ops kb j G a w)(hf:m6 ops j=true)(hi:ops[i]?=some oi)(hne:i≠j)(u:Value):FlDone tt ops kb j G (a.put oi.dst u) w:=by
 obtain ⟨o,t,d,b,cur,ho,h1,h2,h3,h4,h5,h6⟩:=h
 refine ⟨o,t,d,b,cur,ho,h1,h2,h3,fun v hv=>h4 v ?_,h5,h6⟩
 obtain ⟨o',t',d',ho',_,_,_,hd',hall⟩:=gJ hf
 rw[ho] at ho';cases ho'
 rw[h2] at hd';cases hd'
 rw[Act.put_get (hall i oi hne hi)] at hv
 exact hv
theorem FlDone.unt {kb j:Nat}{ks:List Nat}{G G':Gh}{a:Act}{w w':World}(h:FlDone tt ops kb j G a w)(hk:∀o d,ops[j]?=some o→o.dst=some d→kb+d∈ks)(hu:UntH G ks w G' w'):FlDone tt ops kb j G' a w':=by
 obtain ⟨o,t,d,b,cur,ho,h1,h2,h3,h4,h5,h6⟩:=h
 obtain ⟨e1,e2⟩:=hu.2 _ (hk o d ho h2) b h3
 exact ⟨o,t,d,b,cur,ho,h1,h2,e1,h4,e2.trans h5,h6⟩
theorem Rel.found {F:Fra}{G:Gh}{A:AS}{a:Act}{cst:List (Array Value)}{w:World}{kb d t b:Nat}{cur:Array Value}(R:Rel F G A a.tmps cst w)(h3:G.mu (kb+d)=some b)(h4:∀u,a.tmps[d]?=some u→u=.pointer (some ⟨b,0,none⟩))
  (h5:w.heap[b]?=some (.cells cur t (0,0))) (h6:cur.toList=(tt.at t).zero) (hz:(tt.at t).zero.all Value.oneCell'=true):
  Rel F G ((A.newOb (kb+d) (ja tt (cn (kb+d) 0) t)).put (some d) (.one (.ptr (kb+d) 0))) a.tmps cst w:=by
 have R':=R.map (f:=C.noKey (kb+d)) (fun c v h=>h.noKey' (kb+d)) (kg _) (fun _ _ h=>⟨h,rfl⟩) R.gh
 refine ⟨?_,R'.stk,?_,R.gh⟩
 ·refine R'.tm.set_left d fun u hu=>?_
  rw[Array.getElem?_toList] at hu
  exact ⟨b,h3,h4 u hu⟩
 ·intro k cs hk
  rcases lF _ (kb+d) k _ cs hk with ⟨rfl,rfl⟩ | ⟨hne,hk'⟩
  ·exact ⟨b,_,h3,h5,.inl ⟨cur,t,rfl,by rw[h6];exact fQ _ _ hz⟩⟩
  ·exact R'.ob k cs hk'
structure FlSt (P:Program) (tt:TT) (ops:Array Oper) (T:List Nat) (kb:Nat) (F:Fra) (cst:List (Array Value)) (dfs:List Deferred) (A:AS) (hid:List Nat) (G0:Gh) (w0:World) (l0:Array Bool) (pf:List Nat) (L:Nat)
  (ud:List Nat) (n:Nat) (listed:Array Bool) (G:Gh) (a:Act) (w:World):Prop where
 size:listed.size=l0.size
 get:∀k,k ∉ pf→listed[k]?=l0[k]?
 nodup:ud.Nodup
 und:∀j∈ud,j∈pf∧listed[j]?=l0[j]?
 done:∀j∈pf,j ∉ ud→listed.getD j false=true∧FlDone tt ops kb j G a w
 cnt:n+pf.length=L+ud.length
 rel:Rel F G A a.tmps cst w
 hold:(∀j∈T,listed.getD j false=false)→Hold G0 w0 hid G w
 dfs:a.defers=dfs
theorem bS {l l':Array Bool}{k:Nat}(h:l[k]?=l'[k]?)(d:Bool):l.getD k d=l'.getD k d:=by
 rw[Array.getD_eq_getD_getElem?,Array.getD_eq_getD_getElem?,h]
theorem FlSt.fl (htt:cm P tt){kb:Nat}{F:Fra}(hkb:∀d,F.mu0 (kb+d)=none){cst:List (Array Value)}{dfs:List Deferred}{A:AS}{hid:List Nat}{G0:Gh}{w0:World}{l0:Array Bool}{pf:List Nat}{L:Nat}
  {ud:List Nat} {n:Nat} {listed:Array Bool} {G:Gh} {a:Act} {w:World} (S:FlSt P tt ops T kb F cst dfs A hid G0 w0 l0 pf L ud (n+1) listed G a w) (hp:jP ops l0 pf=true)
  (hcl:∀j∈pf,∀o d,ops[j]?=some o→o.dst=some d→kX kb A d=true) (hal:∀j∈pf,∀o t d,ops[j]?=some o→o.op=.alloc t→o.dst=some d→∀z,∃A',Ok tt kb z o.dst o.op=some (true,A'))
  (hhid:∀j∈pf,∀o d,ops[j]?=some o→o.dst=some d→kb+d ∉ hid)
  {Q:Exit→Act→World→Prop} {k:Nat} (hk:k∈ud):wpOp P ops Q k (fun a' w'=>∃G',FlSt P tt ops T kb F cst dfs A hid G0 w0 l0 pf L (ud.erase k) n (listed.setIfInBounds k true) G' a' w') a w:=by
 obtain ⟨hkp,hkl⟩:=S.und k hk
 obtain ⟨hf,hu0⟩:=bU hp k hkp
 obtain ⟨o,t,d,ho,hop,haf,hgd,hd,hall⟩:=gJ hf
 obtain ⟨A',hz⟩:=hal k hkp o t d ho hop hd A
 obtain ⟨cur,hrun,hcur,hzz,_⟩:=vN htt hop hd hz a w
 have hlt:k<l0.size:=by
  rcases Nat.lt_or_ge k l0.size with h | h
  ·exact h
  ·rw[Array.getD_eq_getD_getElem?,Array.getElem?_eq_none h] at hu0;cases hu0
 unfold wpOp
 rw[ho]
 simp only
 rw[if_pos (by simp[Region.wanted,hgd])]
 refine .inl ?_
 unfold Oper.wp
 rw[hrun]
 simp only[Oper.upon]
 have hg:=Grew.alloc w (.cells cur t)
 have go:=Goes.newOb S.rel.gh hg (kb+d)
 have hh:(w.alloc (.cells cur t)).heap[w.heap.size]?=some (.cells cur t (0,0)):=heap_alloc_new w _
 refine ⟨G.newOb (kb+d) w.heap.size,⟨by simp[S.size],fun j hj=>?_,S.nodup.erase _,fun j hj=>?_,fun j hj hju=>?_,?_,?_,fun hT=>?_,(Act.put_defers' _ _ _).trans S.dfs⟩⟩
 ·rw[Array.getElem?_setIfInBounds_ne (by rintro rfl;exact hj hkp)];exact S.get j hj
 ·have hjk:j≠k:=by rintro rfl;exact absurd hj (by rw[S.nodup.mem_erase_iff];simp)
  obtain ⟨h1,h2⟩:=S.und j (List.mem_of_mem_erase hj)
  exact ⟨h1,by rw[Array.getElem?_setIfInBounds_ne (Ne.symm hjk)];exact h2⟩
 ·by_cases hjk:j=k
  ·subst hjk
   refine ⟨by simp[S.size,hlt],o,t,d,w.heap.size,cur,ho,hop,hd,by simp[Gh.newOb],fun u hu=>?_,hh,hcur⟩
   rw[hd] at hu
   simp only[Act.put,Array.getElem?_setIfInBounds_self] at hu
   split at hu
   ·cases hu;rfl
   ·cases hu
  ·have hju':j ∉ ud:=fun h=>hju (by rw[S.nodup.mem_erase_iff];exact ⟨hjk,h⟩)
   obtain ⟨h1,h2⟩:=S.done j hj hju'
   refine ⟨getD_set_true h1,?_⟩
   have h3:=h2.put (bU hp j hj).1 ho (Ne.symm hjk) (.pointer (some ⟨w.heap.size,0,none⟩))
   obtain ⟨o',t',d',b',cur',ho',g1,g2,g3,g4,g5,g6⟩:=h3
   have hdd:d'≠d:=by rintro rfl;exact hall j o' hjk ho' g2
   exact ⟨o',t',d',b',cur',ho',g1,g2,by simp[Gh.newOb,hdd,g3],g4,(hg.old b' (S.rel.gh.mu _ b' g3).2.2).trans g5,g6⟩
 ·have h1:=S.cnt
  have h2:(ud.erase k).length+1=ud.length:=by
   have:=List.length_erase_of_mem hk
   have:=List.length_pos_of_mem hk
   omega
  omega
 ·have:=S.rel.newFl hg (hkb d) (hcl k hkp o d ho hd) (.pointer (some ⟨w.heap.size,0,none⟩))
  rw[hd]
  exact this
 ·have h0:=S.hold fun j hj=>by
   cases hh:listed.getD j false with
   |false=>rfl
   |true=>have:=hT j hj;rw[getD_set_true hh] at this;cases this
  refine h0.step ⟨go.kept,fun key hkey b hb=>?_⟩
  have:key≠kb+d:=by rintro rfl;exact hhid k hkp o d ho hd hkey
  exact ⟨by simp[Gh.newOb,this,hb],hg.old b (S.rel.gh.mu key b hb).2.2⟩
theorem MO {l0 listed:Array Bool}{pf:List Nat}(hp:jP ops l0 pf=true)(hg:∀k,k ∉ pf→listed[k]?=l0[k]?){i:Nat}(hip:i ∉ pf)(hr:i∈Region.ready .any ops l0):i∈Region.ready .any ops listed:=by
 rw[mem_ready] at hr ⊢
 obtain ⟨h1,o',h2,h3⟩:=hr
 refine ⟨by rw[bS (hg i hip)];exact h1,o',h2,fun e he hb=>?_⟩
 have h4:=h3 e he hb
 by_cases hep:e.on∈pf
 ·have:=(bU hp _ hep).2
  rw[Array.getD_eq_getD_getElem?] at this h4
  cases hx:l0[e.on]? with
  |none=>rw[hx] at this;cases this
  |some x=>rw[hx] at this h4;simp at this h4;rw[this] at h4;cases h4
 ·rw[bS (hg _ hep)];exact h4
theorem A5 {l0:Array Bool}{pf:List Nat}(hp:jP ops l0 pf=true){j:Nat}(hj:j∈pf):j<l0.size:=by
 have:=(bU hp j hj).2
 rcases Nat.lt_or_ge j l0.size with h | h
 ·exact h
 ·rw[Array.getD_eq_getD_getElem?,Array.getElem?_eq_none h] at this;cases this
theorem Dq {l0 listed:Array Bool}{X:List Nat}{k:Nat}(hX:∀j∈X,j<l0.size)(hl:∀j,listed.getD j false=true→j∈X∨l0.getD j false=true)(hkX:k ∉ X)(hk:listed[k]?=l0[k]?)(hr:k∈Region.ready .any ops listed):
  k∈Region.ready .any ops (pm l0 X):=by
 rw[mem_ready] at hr ⊢
 obtain ⟨h1,o',h2,h3⟩:=hr
 refine ⟨?_,o',h2,fun e he hb=>?_⟩
 ·rw[bS ((wK X l0 k hkX).trans hk.symm)];exact h1
 ·rcases hl _ (h3 e he hb) with h | h
  ·exact wL X l0 _ h (hX _ h)
  ·exact nW X l0 _ h
theorem yv {listed:Array Bool}{k:Nat}(h:listed.getD k false=true):k ∉ Region.ready .any ops listed:=by
 intro hr
 have h0:=(mem_ready.1 hr).1
 rw[Array.getD_eq_getD_getElem?] at h h0
 cases hx:listed[k]? with
 |none=>rw[hx] at h0;cases h0
 |some x=>rw[hx] at h h0;simp at h h0;rw[h] at h0;cases h0
theorem FlSt.next {kb:Nat}{F:Fra}{cst:List (Array Value)}{dfs:List Deferred}{A A':AS}{hid hid':List Nat}{G0:Gh}{w0:World}{l0:Array Bool}{pf:List Nat}{L:Nat}
  {ud:List Nat} {n:Nat} {listed:Array Bool} {G G':Gh} {a:Act} {w w':World} (S:FlSt P tt ops T kb F cst dfs A hid G0 w0 l0 pf (L+1) ud (n+1) listed G a w) {i:Nat} {o:Oper} (ho:ops[i]?=some o) (hip:i ∉ pf)
  (hpe:jP ops l0 pf=true) {u:Value} {ks:List Nat} (hk:∀j∈pf,∀o d,ops[j]?=some o→o.dst=some d→kb+d∈ks) (hu:UntH G ks w G' w') (hR:Rel F G' A' (a.put o.dst u).tmps cst w')
  (hold:(∀j∈T,listed.getD j false=false)→Hold G0 w0 hid' G' w'):
  FlSt P tt ops T kb F cst dfs A' hid' G0 w0 (l0.setIfInBounds i true) pf L ud n (listed.setIfInBounds i true) G' (a.put o.dst u) w':=by
 refine ⟨by simp[S.size],fun k hk=>?_,S.nodup,fun j hj=>?_,fun j hj hju=>?_,?_,hR,fun hT'=>?_,(Act.put_defers' _ _ _).trans S.dfs⟩
 ·by_cases hki:k=i
  ·rw[hki,Array.getElem?_setIfInBounds_self,Array.getElem?_setIfInBounds_self,S.size]
  ·rw[Array.getElem?_setIfInBounds_ne (Ne.symm hki),Array.getElem?_setIfInBounds_ne (Ne.symm hki)];exact S.get k hk
 ·obtain ⟨h1,h2⟩:=S.und j hj
  have hji:i≠j:=by rintro rfl;exact hip h1
  exact ⟨h1,by rw[Array.getElem?_setIfInBounds_ne hji,Array.getElem?_setIfInBounds_ne hji];exact h2⟩
 ·obtain ⟨h1,h2⟩:=S.done j hj hju
  exact ⟨getD_set_true h1,(h2.unt (hk j hj) hu).put (bU hpe j hj).1 ho (by rintro rfl;exact hip hj) u⟩
 ·have:=S.cnt;omega
 ·exact hold fun j hj=>by
   cases hh:listed.getD j false with
   |false=>rfl
   |true=>have:=hT' j hj;rw[getD_set_true hh] at this;cases this
theorem Cu (htt:cm P tt){hd:Hd}(hh:lJ P hd){R:Type}{F:Fra}{G:Gh}{A:AS}{a:Act}{cst:List (Array Value)}{w:World}(Rl:Rel F G A a.tmps cst w){kb:Nat}(hkb:∀d,F.mu0 (kb+d)=none)(hid:List Nat)(o:Oper){K:Ex→AS→Option R}{r:R}
  (h:zT tt hd kb hid o A K=some r) {N:Act→World→Prop} {Q:Exit→Act→World→Prop} (hK:Qx F cst a.defers r K (fun G' a' w'=>UntH G hid w G' w'∧(I1 o.op=true→G'=G∧w'=w)) N Q):o.wp P a w N Q:=by
 cases hp:I1 o.op with
 |false=>
  refine ip htt hh Rl hkb hid o h fun ex A' G' a' w' hR hd hk=>?_
  have:=hK ex A' G' a' w' hR hd hk
  cases ex with
  |normal=>exact fun hu=>this ⟨hu.1,fun e=>by rw[hp] at e;cases e⟩
  |exit id=>exact this
  |ret=>exact this
  |panic v=>exact this
 |true=>
  unfold zT at h
  simp only[AS.putK_eq,AS.force_eq] at h
  unfold Oper.wp
  split at h
  ·rename_i c x y hop
   have hc:=Rl.opd c
   split at h
   ·rename_i b e1
    rw[e1] at hc
    have hc':a.eval c=.bool b:=hc
    have hrun:(execOp a.eval o).run P w=.ok (.value (if b then a.eval x else a.eval y)) w:=by
     simp only[execOp,hop,Sem.run_bind,hc',asBool,Sem.run_pure,Result.andThen_ok]
    rw[hrun]
    simp only[Oper.upon]
    cases b with
    |true=>exact hK .normal _ _ _ _ (Rl.puts (Rl.opd x) o.dst) (Act.put_defers' _ _ _) h ⟨.refl _ _ _,fun _=>⟨rfl,rfl⟩⟩
    |false=>exact hK .normal _ _ _ _ (Rl.puts (Rl.opd y) o.dst) (Act.put_defers' _ _ _) h ⟨.refl _ _ _,fun _=>⟨rfl,rfl⟩⟩
   ·cases h
  all_goals
   exfalso
   unfold I1 at hp
   split at hp
   ·simp_all
   ·cases hp
theorem fj (htt:cm P tt){hd:Hd}(hh:lJ P hd)(hs:Region.noSelect ops=true){R:Type}{F:Fra}{cst:List (Array Value)}{kb:Nat}(hkb:∀d,F.mu0 (kb+d)=none){r:R}{Q:Exit→Act→World→Prop}{G0:Gh}{w0:World}:
  ∀(is:List (Nat×Nat)) {ph:Bool} {l0 listed:Array Bool} {ud:List Nat} {n:Nat} {hid:List Nat} {G:Gh} {A:AS} {a:Act} {w:World} {K:Ex→AS→Option R} {dfs:List Deferred},
  nZ tt ops T ph l0 is=true→wq tt hd kb ops is hid A K=some r→tZ F cst dfs r K Q→
  FlSt P tt ops T kb F cst dfs A hid G0 w0 l0 (fT is) is.length ud n listed G a w→(ph=true→G=G0∧w=w0)→
  wpAnyL P .any ops (Qh ops Q) T (Agr (·∈hid) G0 w0) n listed a w
 |[],ph,l0,listed,ud,n,hid,G,A,a,w,K,dfs,hc,h,hK,S,hph=>by
  simp only[nZ,List.isEmpty_iff] at hc
  have hud:ud=[]:=by
   cases ud with
   |nil=>rfl
   |cons x xs=>exact absurd (S.und x (by simp)).1 (by simp[fT])
  have hn:n=0:=by have:=S.cnt;subst hud;simp[fT] at this;exact this
  have hl:listed=l0:=Array.ext_getElem? fun k=>S.get k (by simp[fT])
  subst hn hl
  exact ⟨hc,hK .normal A G a w S.rel S.dfs h⟩
 |(i,m)::is,ph,l0,listed,ud,n,hid,G,A,a,w,K,dfs,hc,h,hK,S,hph=>by
  obtain rfl:=S.dfs
  simp only[wq] at h
  cases ho:ops[i]? with
  |none=>rw[ho] at h;cases h
  |some o=>
   rw[ho] at h
   simp only at h
   have hpl:=A6 is
   have quiet:∀(hid':List Nat),fT ((i,m)::is)=fT is→tv ops T l0 i=true→(!(fT is).contains i&&jP ops l0 (fT is))=true→(∀w',Agr (·∈hid') G0 w0 w'→Agr (·∈hid) G0 w0 w')→((∀j∈T,listed.getD j false=false)→Hold G0 w0 hid' G w)→
     ∀v,YieldsIf P ops (Agr (·∈hid') G0 w0) o v a→∀A',Rel F G A' (a.put o.dst v).tmps cst w→
     (∀n',FlSt P tt ops T kb F cst (a.put o.dst v).defers A' hid' G0 w0 (l0.setIfInBounds i true) (fT is) is.length ud n' (listed.setIfInBounds i true) G (a.put o.dst v) w→wpAnyL P .any ops (Qh ops Q) T (Agr (·∈hid') G0 w0) n' (listed.setIfInBounds i true) (a.put o.dst v) w)→
     wpAnyL P .any ops (Qh ops Q) T (Agr (·∈hid) G0 w0) n listed a w:=by
    intro hid' hpf hq hpe hm hA v hy A' hR hrest
    rw[hpf] at S
    simp only[zA,Bool.not_eq_true',List.contains_eq_mem,decide_eq_false_iff_not] at hpe
    obtain ⟨hip,hpe⟩:=hpe
    simp only[tv,zA,zJ,Bool.not_eq_true',beq_eq_false_iff_ne,Bt,List.any_eq_true,beq_iff_eq,exists_eq_right] at hq
    obtain ⟨hf,hr,hT,hZ⟩:=hq
    have hnZ:∀j∈qO ops i,j ∉ fT is:=fun j hj hjp=>by
     obtain ⟨o',t,d,ho',_,haf,_⟩:=gJ (bU hpe j hjp).1
     obtain ⟨e,he,_⟩:=rX ops i j hj o' ho'
     rw[haf] at he;simp at he
    have hZl:∀j∈qO ops i,listed.getD j false=false:=fun j hj=>by rw[bS (S.get j (hnZ j hj))];exact (hZ j hj).2
    have hir:i∈Region.ready .any ops listed:=by
     have hr':i∈Region.ready .any ops l0:=by simpa using hr
     rw[mem_ready] at hr' ⊢
     obtain ⟨h1,o',h2,h3⟩:=hr'
     refine ⟨by rw[bS (S.get i hip)];exact h1,o',h2,fun e he hb=>?_⟩
     have h4:=h3 e he hb
     by_cases hep:e.on∈fT is
     ·have:=(bU hpe _ hep).2
      rw[Array.getD_eq_getD_getElem?] at this h4
      cases hx:l0[e.on]? with
      |none=>rw[hx] at this;cases this
      |some x=>rw[hx] at this h4;simp at this h4;rw[this] at h4;cases h4
     ·rw[bS (S.get _ hep)];exact h4
    obtain ⟨n',rfl⟩:∃n',n=n'+1:=⟨n - 1,by have:=S.cnt;simp only[zN] at this;omega⟩
    refine (wpAnyL.first ho (Region.noSelect_spec hs) (fun c a w=>Qh.put ho v c a w) hT (fun j hj=>⟨(hZ j hj).1,rX ops i j hj⟩) n' listed a w (fun j oj hoj hji hjl hjd=>?_) hir hy
     (hA fun j hj=>hZl j (hT j hj)).agr hZl (hrest n' ⟨by simp[S.size],fun k hk=>?_,S.nodup,fun j hj=>?_,fun j hj hju=>?_,?_,hR,fun hT'=>?_,rfl⟩)).weaken hm
    ·refine Region.free_spec ho hf j oj hoj hji ?_ hjd
     by_cases hjp:j∈fT is
     ·exact (bU hpe j hjp).2
     ·rw[← bS (S.get j hjp)];exact hjl
    ·by_cases hki:k=i
     ·rw[hki,Array.getElem?_setIfInBounds_self,Array.getElem?_setIfInBounds_self,S.size]
     ·rw[Array.getElem?_setIfInBounds_ne (Ne.symm hki),Array.getElem?_setIfInBounds_ne (Ne.symm hki)];exact S.get k hk
    ·obtain ⟨h1,h2⟩:=S.und j hj
     have hji:i≠j:=by rintro rfl;exact hip h1
     exact ⟨h1,by rw[Array.getElem?_setIfInBounds_ne hji,Array.getElem?_setIfInBounds_ne hji];exact h2⟩
    ·obtain ⟨h1,h2⟩:=S.done j hj hju
     exact ⟨getD_set_true h1,h2.put (bU hpe j hj).1 ho (by rintro rfl;exact hip hj) v⟩
    ·have h1:=S.cnt;have h2:((i,m)::is).length=is.length+1:=zN;omega
    ·exact hA fun j hj=>by
      cases hh:listed.getD j false with
      |false=>rfl
      |true=>have:=hT' j hj;rw[getD_set_true hh] at this;cases this
   have hset:∀j∈T,j≠i→(listed.setIfInBounds i true).getD j false=listed.getD j false:=fun j _ hne=>getD_set_ne false (Ne.symm hne)
   have sole:∀(ph':Bool) (hid':List Nat),fT is=[]→fT ((i,m)::is)=fT is→Bg ops l0 i=true→(∀(a':Act) (w':World) (G':Gh) (A':AS),Rel F G' A' a'.tmps cst w'→a'.defers=a.defers→UntH G hid' w G' w'→(I1 o.op=true→G'=G∧w'=w)→wq tt hd kb ops is hid A' K=some r→
      (On T (Agr (·∈hid) G0 w0) (listed.setIfInBounds i true) w'∧(Hold G0 w0 hid G' w'∨¬ ∀j∈T,(listed.setIfInBounds i true).getD j false=false))∧(ph'=true→G'=G0∧w'=w0))→
     nZ tt ops T ph' (l0.setIfInBounds i true) is=true→
     gK ops o A (fun A=>zT tt hd kb hid' o A fun ex A'=>match ex with
      |.normal=>wq tt hd kb ops is hid A' K
      |.panic v=>K (.panic v) { A' with tm:=sd (gI ops) 0 A'.tm }
      |ex=>K ex A') (fun A=>wq tt hd kb ops is hid A K)=some r→
     wpAnyL P .any ops (Qh ops Q) T (Agr (·∈hid) G0 w0) n listed a w:=by
    intro ph' hid' hpe hpf hs1 hho hc hgd
    rw[hpf,hpe] at S
    have hud:ud=[]:=by
     cases ud with
     |nil=>rfl
     |cons x xs=>exact absurd (S.und x (by simp)).1 (by simp)
    have hn:n=is.length+1:=by have:=S.cnt;subst hud;simp at this;exact this
    have hl:listed=l0:=Array.ext_getElem? fun k=>S.get k (by simp)
    subst hn hl hud
    have hr:Region.ready .any ops listed=[i]:=by
     unfold Bg at hs1
     split at hs1
     ·rename_i j e
      rw[e,beq_iff_eq.1 hs1]
     ·cases hs1
    have hrest:∀(a':Act) (w':World) (G':Gh) (A':AS),Rel F G' A' a'.tmps cst w'→a'.defers=a.defers→UntH G hid' w G' w'→(I1 o.op=true→G'=G∧w'=w)→wq tt hd kb ops is hid A' K=some r→
      On T (Agr (·∈hid) G0 w0) (listed.setIfInBounds i true) w'∧wpAnyL P .any ops (Qh ops Q) T (Agr (·∈hid) G0 w0) is.length (listed.setIfInBounds i true) a' w':=by
     intro a' w' G' A' hR hd' hu hpk hk
     obtain ⟨⟨h1,h2⟩,h3⟩:=hho a' w' G' A' hR hd' hu hpk hk
     refine ⟨h1,fj htt hh hs hkb is hc hk hK ⟨rfl,fun _ _=>rfl,S.nodup,fun j hj=>(by cases hj),fun j hj=>(by rw[hpe] at hj;cases hj),(by rw[hpe]),hR,fun hT=>h2.resolve_right fun h=>h hT,hd'⟩ h3⟩
    refine ⟨fun e=>(by rw[e] at hr;cases hr),fun j hj=>?_⟩
    rw[hr,List.mem_singleton] at hj
    subst hj
    unfold wpOp
    rw[ho]
    simp only
    rcases cF S.rel hgd with ⟨hw,A1,R1,h1⟩ | ⟨hw,A1,R1,h1⟩
    ·rw[if_pos hw]
     refine .inl (Cu htt hh R1 hkb hid' o h1 ?_)
     intro ex A' G' a' w' R' hd' hk
     cases ex with
     |normal=>exact fun hu=>hrest a' w' G' A' R' hd' hu.1 hu.2 hk
     |exit id=>exact hK _ A' G' a' w' R' hd' hk
     |ret=>exact hK _ A' G' a' w' R' hd' hk
     |panic v=>exact fun u hu=>Qh.post hK R' hd' hk u hu
    ·rw[if_neg (by simp[hw])]
     exact hrest _ w G A1 R1 (Act.put_defers' _ _ _) (.refl _ _ _) (fun _=>⟨rfl,rfl⟩) h1
   match m,hc,h with
   |0,hc,h=>
    simp only[nZ,zA] at hc
    obtain ⟨⟨⟨hq,hrd⟩,hpe⟩,hc⟩:=hc
    have hrd':vc tt o.op=false:=by simpa [A9,ho] using hrd
    rcases cF S.rel h with ⟨hw,A1,R1,h1⟩ | ⟨hw,A1,R1,h1⟩
    ·split at h1
     ·rename_i chk v hv
      cases chk with
      |false=>cases h1
      |true=>
       simp only[cond_true,AS.putK_eq] at h1
       obtain ⟨u,hu,hr⟩:=zU (H:=fun _=>True) htt R1.gh.tabs (fun x=>R1.opd x) R1.ob o hv rfl fun _ _ _ _ _ _=>trivial
       refine quiet hid rfl hq (by simpa using hpe) (fun _ h=>h) S.hold u (.inl ⟨hw,fun w' _=>hu w' fun e=>by rw[hrd'] at e;cases e⟩) _ (R1.puts hr o.dst) fun n' S'=>?_
       exact fj htt hh hs hkb is hc h1 (by rw[Act.put_defers'];exact hK) S' hph
     ·cases h1
    ·refine quiet hid rfl hq (by simpa using hpe) (fun _ h=>h) S.hold undef (.inr ⟨hw,rfl⟩) _ R1 fun n' S'=>?_
     exact fj htt hh hs hkb is hc h1 (by rw[Act.put_defers'];exact hK) S' hph
   |1,hc,h=>
    simp only[nZ,zA] at hc
    obtain ⟨⟨⟨hq,rfl⟩,hpe⟩,hc⟩:=hc
    obtain ⟨rfl,rfl⟩:=hph rfl
    rcases cF S.rel h with ⟨hw,A1,R1,h1⟩ | ⟨hw,A1,R1,h1⟩
    ·split at h1
     ·rename_i chk v hv
      cases chk with
      |false=>cases h1
      |true=>
       simp only[cond_true,AS.putK_eq] at h1
       obtain ⟨u,hu,hr⟩:=zU (H:=(·∈ta A1 o.op++hid)) htt R1.gh.tabs (fun x=>R1.opd x) R1.ob o hv rfl fun t x k j e1 e2=>by
        rw[e1];simp only[ta,e2];simp
       refine quiet (ta A1 o.op++hid) rfl hq (by simpa using hpe) (fun w' h=>⟨h.1,fun key b hk hb=>h.2 key b (List.mem_append_right _ hk) hb⟩) (fun _=>⟨fun _ _ h=>h,fun _ _ _ h=>h,Agr.refl _ _ _⟩) u (.inl ⟨hw,fun w' h'=>hu w' fun _=>h'⟩) _ (R1.puts hr o.dst) fun n' S'=>?_
       exact fj htt hh hs hkb is hc h1 (by rw[Act.put_defers'];exact hK) S' fun _=>⟨rfl,rfl⟩
     ·cases h1
    ·refine quiet hid rfl hq (by simpa using hpe) (fun _ h=>h) S.hold undef (.inr ⟨hw,rfl⟩) _ R1 fun n' S'=>?_
     exact fj htt hh hs hkb is hc h1 (by rw[Act.put_defers'];exact hK) S' fun _=>⟨rfl,rfl⟩
   |2,hc,h=>
    simp only[nZ,zA,zJ,Bool.not_eq_true',beq_eq_false_iff_ne,List.isEmpty_iff] at hc
    obtain ⟨⟨⟨hso,hiT⟩,hpe⟩,hc⟩:=hc
    refine sole (ph&&A7 ops i) hid hpe rfl hso (fun a' w' G' A' R' hd' hu hpk hk=>⟨?_,fun e=>?_⟩) hc h
    rotate_left
    ·rw[zA] at e
     obtain ⟨rfl,rfl⟩:=hpk (by simpa [A7,ho] using e.2)
     exact hph e.1
    have hold:(∀j∈T,(listed.setIfInBounds i true).getD j false=false)→Hold G0 w0 hid G' w':=fun hT=>(S.hold fun j hj=>by rw[← hset j hj (hiT j hj)];exact hT j hj).step hu
    exact ⟨fun hT=>(hold hT).agr,(Classical.em _).imp hold id⟩
   |n0+3,hc,h=>
    simp only[nZ] at hc
    rename_i hx0
    clear hx0
    simp only[AS.force_eq] at h
    cases h4:Nat.beq n0 1 with
    |true=>
     obtain rfl:n0=1:=Nat.eq_of_beq_eq_true h4
     rw[h4] at hc h
     simp only[cond_true,zA,Bool.not_eq_true',List.contains_eq_mem,decide_eq_false_iff_not] at hc
     obtain ⟨⟨⟨hip,hpe⟩,hso⟩,hc⟩:=hc
     have hpf:fT ((i,1+3)::is)=i::fT is:=rfl
     simp only[cond_true] at h
     cases hcl:(Eu tt ops ((i,4)::is)&&(uP ops ((i,4)::is)).all (kX kb (jG kb (uP ops ((i,4)::is)) A)))&&!(hid.any fun k=>(uP ops ((i,4)::is)).any fun d=>k == kb+d) with
     |false=>rw[hcl] at h;cases h
     |true=>
      rw[hcl] at h
      simp only[cond_true] at h
      have S1:FlSt P tt ops T kb F cst a.defers (jG kb (uP ops ((i,4)::is)) A) hid G0 w0 l0 (fT ((i,1+3)::is)) ((i,1+3)::is).length ud n listed G a w:={ S with rel:=S.rel.clean _ }
      generalize jG kb (uP ops ((i,4)::is)) A=A1 at h hcl S1
      clear S
      simp only[zA,Bool.not_eq_true',zJ,List.any_eq_false,List.any_eq_true,beq_iff_eq,not_exists,not_and] at hcl
      cases hA:Ok tt kb A1 o.dst o.op with
      |none=>rw[hA] at h;cases h
      |some p=>
       obtain ⟨chk,A'⟩:=p
       rw[hA] at h
       cases chk with
       |false=>cases h
       |true=>
        simp only[cond_true] at h
        have hpall:=bU hpe
        have key:∀(N:Nat) (ud:List Nat) (n:Nat) (listed:Array Bool) (G:Gh) (a':Act) (w:World),ud.length=N→
          FlSt P tt ops T kb F cst a.defers A1 hid G0 w0 l0 (i::fT is) (is.length+1) ud n listed G a' w→wpAnyL P .any ops (Qh ops Q) T (Agr (·∈hid) G0 w0) n listed a' w:=by
         intro N
         induction N using Nat.strongRecOn with
         |ind N ih=>
         intro ud n listed G a' w hN S
         by_cases hiu:i∈ud
         ·have hlen:=List.length_pos_of_mem hiu
          obtain ⟨n',rfl⟩:∃n',n=n'+1:=⟨n - 1,by have:=S.cnt;simp only[zN] at this;omega⟩
          have hir:i∈Region.ready .any ops listed:=by
           obtain ⟨o',t,d,ho',_,haf,_⟩:=gJ (hpall i (by simp)).1
           rw[mem_ready]
           refine ⟨by rw[bS (S.und i hiu).2];exact (hpall i (by simp)).2,o',ho',fun e he=>by rw[haf] at he;simp at he⟩
          refine ⟨fun e=>(by rw[e] at hir;cases hir),fun k hk=>?_⟩
          by_cases hku:k∈ud
          ·refine wpOp_mono (fun a'' w'' ⟨G',S'⟩=>⟨fun hT=>(S'.hold hT).agr,ih _ ?_ _ _ _ _ _ _ rfl S'⟩) (S.fl htt hkb hpe (fun j hj o' d ho' hd'=>hcl.1.2 d (kw ((i,4)::is) hj ho' hd')) (fun j hj=>pn ((i,4)::is) hcl.1.1 hj) (fun j hj o' d ho' hd' hin=>hcl.2 _ hin d (kw ((i,4)::is) hj ho' hd') rfl) hku)
           rw[List.length_erase_of_mem hku];have:=List.length_pos_of_mem hku;omega
          ·exfalso
           have hkp:k ∉ i::fT is:=fun h=>yv (S.done k h hku).1 hk
           have:=Dq (X:=fT is) (l0:=l0) (fun j hj=>A5 hpe (List.mem_cons_of_mem _ hj)) (fun j hj=>?_) (fun h=>hkp (List.mem_cons_of_mem _ h)) (S.get k hkp) hk
           ·have:=List.all_eq_true.1 hso k this
            exact hkp (by rw[beq_iff_eq.1 this];simp)
           ·by_cases hjp:j∈i::fT is
            ·rcases List.mem_cons.1 hjp with rfl | h
             ·rw[bS (S.und j hiu).2] at hj;exact .inr hj
             ·exact .inl h
            ·rw[bS (S.get j hjp)] at hj;exact .inr hj
         ·obtain ⟨hli,o',t,d,b,cur,ho',hop,hd',hmu,htm,hhp,hcz⟩:=S.done i (by simp) hiu
          rw[ho] at ho';cases ho'
          obtain ⟨_,_,_,hzz,eA⟩:=vN htt hop hd' hA a' w
          subst eA
          refine fj htt hh hs hkb is hc h hK ⟨by simp[S.size],fun k hk=>?_,S.nodup,fun j hj=>?_,fun j hj hju=>S.done j (by simp[hj]) hju,?_,S.rel.found hmu htm hhp hcz hzz,S.hold,S.dfs⟩ fun e=>by cases e
          ·by_cases hki:k=i
           ·have hlt:=A5 hpe (j:=i) (by simp)
            rw[hki,Array.getElem?_setIfInBounds_self,if_pos hlt]
            rw[Array.getD_eq_getD_getElem?] at hli
            cases hx:listed[i]? with
            |none=>rw[hx] at hli;cases hli
            |some x=>rw[hx] at hli;simp at hli;rw[hli]
           ·rw[Array.getElem?_setIfInBounds_ne (Ne.symm hki)]
            exact S.get k (by simp[hki,hk])
          ·obtain ⟨h1,h2⟩:=S.und j hj
           have hji:j≠i:=by rintro rfl;exact hiu hj
           refine ⟨(List.mem_cons.1 h1).resolve_left hji,?_⟩
           rw[Array.getElem?_setIfInBounds_ne (Ne.symm hji)];exact h2
          ·have:=S.cnt;simp only[zN] at this;omega
        exact key _ ud n listed G a w rfl S1
    |false=>
     rw[h4] at hc h
     simp only[cond_false] at hc h
     cases h6:Nat.beq n0 3 with
     |true=>
      obtain rfl:n0=3:=Nat.eq_of_beq_eq_true h6
      rw[h6] at hc h
      simp only[cond_true,zA,Bool.not_eq_true',List.contains_eq_mem,decide_eq_false_iff_not,zJ,beq_eq_false_iff_ne] at hc
      obtain ⟨⟨⟨hso,hiT⟩,hip,hpe⟩,hc⟩:=hc
      have hpf:fT ((i,3+3)::is)=fT is:=rfl
      simp only[cond_true] at h
      cases hcl:(Eu tt ops is&&(uP ops is).all (kX kb (jG kb (uP ops is) A)))&&!(hid.any fun k=>(uP ops is).any fun d=>k == kb+d) with
      |false=>rw[hcl] at h;cases h
      |true=>
       rw[hcl] at h
       simp only[cond_true] at h
       have S1:FlSt P tt ops T kb F cst a.defers (jG kb (uP ops is) A) hid G0 w0 l0 (fT ((i,3+3)::is)) ((i,3+3)::is).length ud n listed G a w:={ S with rel:=S.rel.clean _ }
       generalize jG kb (uP ops is) A=A1 at h hcl S1
       clear S
       simp only[zA,Bool.not_eq_true',zJ,List.any_eq_false,List.any_eq_true,beq_iff_eq,not_exists,not_and] at hcl
       have hpall:=bU hpe
       simp only[QG,zA,List.contains_eq_mem,zB,zJ,beq_iff_eq] at hso
       have key:∀(N:Nat) (ud:List Nat) (n:Nat) (listed:Array Bool) (G:Gh) (a':Act) (w:World),ud.length=N→
         FlSt P tt ops T kb F cst a.defers A1 hid G0 w0 l0 (fT is) (is.length+1) ud n listed G a' w→wpAnyL P .any ops (Qh ops Q) T (Agr (·∈hid) G0 w0) n listed a' w:=by
        intro N
        induction N using Nat.strongRecOn with
        |ind N ih=>
        intro ud n listed G a' w hN S
        obtain ⟨n',rfl⟩:∃n',n=n'+1:=⟨n - 1,by have:=S.cnt;omega⟩
        have hir:i∈Region.ready .any ops listed:=MO hpe S.get hip hso.1
        refine ⟨fun e=>(by rw[e] at hir;cases hir),fun k hk=>?_⟩
        by_cases hku:k∈ud
        ·refine wpOp_mono (fun a'' w'' ⟨G',S'⟩=>⟨fun hT=>(S'.hold hT).agr,ih _ ?_ _ _ _ _ _ _ rfl S'⟩) (S.fl htt hkb hpe (fun j hj o' d ho' hd'=>hcl.1.2 d (kw is hj ho' hd')) (fun j hj=>pn is hcl.1.1 hj) (fun j hj o' d ho' hd' hin=>hcl.2 _ hin d (kw is hj ho' hd') rfl) hku)
         rw[List.length_erase_of_mem hku];have:=List.length_pos_of_mem hku;omega
        ·have hkp:k ∉ fT is:=fun h=>yv (S.done k h hku).1 hk
         have hki:=Dq (X:=fT is) (l0:=l0) (fun j hj=>A5 hpe hj) (fun j hj=>by
          by_cases hjp:j∈fT is
          ·exact .inl hjp
          ·rw[bS (S.get j hjp)] at hj;exact .inr hj) hkp (S.get k hkp) hk
         obtain rfl:=hso.2 k hki
         have hset':∀j∈T,j≠k→(listed.setIfInBounds k true).getD j false=listed.getD j false:=fun j _ hne=>getD_set_ne false (Ne.symm hne)
         have hrest:∀(u:Value) (w':World) (G':Gh) (A':AS),Rel F G' A' (a'.put o.dst u).tmps cst w'→UntH G ((uP ops is).map (kb + ·)++hid) w G' w'→wq tt hd kb ops is hid A' K=some r→
           On T (Agr (·∈hid) G0 w0) (listed.setIfInBounds k true) w'∧wpAnyL P .any ops (Qh ops Q) T (Agr (·∈hid) G0 w0) n' (listed.setIfInBounds k true) (a'.put o.dst u) w':=by
          intro u w' G' A' hR hu hk'
          have hold:(∀j∈T,listed.getD j false=false)→Hold G0 w0 hid G' w':=fun hT=>(S.hold hT).step ⟨hu.1,fun key hkey=>hu.2 key (List.mem_append_right _ hkey)⟩
          refine ⟨fun hT=>(hold fun j hj=>by rw[← hset' j hj (hiT j hj)];exact hT j hj).agr,?_⟩
          refine fj htt hh hs hkb is hc hk' hK (S.next ho hip hpe (fun j hj o' d ho' hd'=>List.mem_append_left _ (List.mem_map_of_mem (kw is hj ho' hd'))) hu hR hold) fun e=>by cases e
         unfold wpOp
         rw[ho]
         simp only
         rcases cF S.rel h with ⟨hw,A2,R2,h2⟩ | ⟨hw,A2,R2,h2⟩
         ·rw[if_pos hw]
          refine .inl (ip htt hh R2 hkb _ o h2 ?_)
          intro ex A' G' a'' w' R' hd' hk'
          cases ex with
          |normal=>
           rintro ⟨hu,u,rfl⟩
           exact hrest u w' G' A' R' hu hk'
          |exit id=>exact hK _ A' G' a'' w' R' (hd'.trans S.dfs) hk'
          |ret=>exact hK _ A' G' a'' w' R' (hd'.trans S.dfs) hk'
          |panic v=>exact fun u hu=>Qh.post hK R' (hd'.trans S.dfs) hk' u hu
         ·rw[if_neg (by simp[hw])]
          exact hrest undef w G A2 R2 (.refl _ _ _) h2
       exact key _ ud n listed G a w rfl S1
     |false=>
      rw[h6] at hc h
      simp only[cond_false,zA,List.any_eq_true,beq_iff_eq,exists_eq_right,zB,List.isEmpty_iff] at hc h
      obtain ⟨⟨⟨hso,hiT,hil⟩,hpe⟩,hc⟩:=hc
      have hpf:fT ((i,n0+3)::is)=fT is:=by
       have:Nat.beq (n0+3) 4=Nat.beq n0 1:=rfl
       rw[fT,this,h4];rfl
      have hlsz:i<listed.size:=by rw[S.size];exact hil
      have hno:¬ ∀j∈T,(listed.setIfInBounds i true).getD j false=false:=fun hT=>by
       have:=hT i hiT
       simp[hlsz] at this
      exact sole false [] hpe hpf hso (fun a' w' G' A' R' hd' hu _ hk=>⟨⟨fun hT=>absurd hT hno,.inr hno⟩,fun e=>by cases e⟩) hc h
def Il (tt:TT):Op→Bool
 |.move _ | .nilCheck _ | .binOp .. | .unOp .. | .fieldAddr .. | .field .. | .indexAddr .. | .index .. | .slice .. | .load .. | .extract .. | .build .. | .makeInterface .. | .makeFunc ..=>true
 |.convert _ d _=>match (tt.at d).d with | .sl _=>false | _=>true
 |.call c=>match c.callee with | .builtin .len=>true | .builtin .min=>true | .builtin .max=>true | _=>false
 |_=>false
def zV (tt:TT)(ops:Array Oper)(t0:Nat):Nat→Bool→Array Bool→List (Nat×Nat)
 |0,_,_=>[]
 |n+1,ph,listed=>
  let rd:=Region.ready .any ops listed
  match rd.find? fun i=>Nat.blt i t0&&(match ops[i]? with | some o=>Il tt o.op&&(ph || !vc tt o.op) | none=>false) with
  |some i=>(i,bif A9 tt ops i then 0 else 1)::zV tt ops t0 n ph (listed.setIfInBounds i true)
  |none=>match rd with
   |i::_=>(i,bif Nat.blt i t0 then 2 else 3)::zV tt ops t0 n (ph&&A7 ops i) (listed.setIfInBounds i true)
   |[]=>[]
def s6 (tt:TT)(ops:Array Oper)(t0:Nat)(fl:List Nat):Nat→Bool→Array Bool→List (Nat×Nat)
 |0,_,_=>[]
 |n+1,ph,listed=>
  let rd:=(Region.ready .any ops listed).filter fun i=>!fl.contains i
  match rd.find? fun i=>Nat.blt i t0&&(match ops[i]? with | some o=>Il tt o.op&&(ph || !vc tt o.op) | none=>false) with
  |some i=>(i,bif A9 tt ops i then 0 else 1)::s6 tt ops t0 fl n ph (listed.setIfInBounds i true)
  |none=>match rd with
   |i::_=>(i,bif Nat.blt i t0 then (bif fl.all fun j=>listed.getD j false then 2 else 6) else 3)::s6 tt ops t0 fl n false (listed.setIfInBounds i true)
   |[]=>match fl.find? fun j=>!listed.getD j true with
    |some j=>(j,4)::s6 tt ops t0 fl n false (listed.setIfInBounds j true)
    |none=>[]
def QK (ops:Array Oper):Nat→Nat
 |0=>0
 |t+1=>bif (List.range t).all fun i=>Bt ops t i then QK ops t else t+1
def tu (tt:TT)(ops:Array Oper)(t0:Nat)(is:List (Nat×Nat)):Option (List (Nat×Nat)):=
 bif Region.noSelect ops&&(is.length == ops.size&&(bj (fT is)&&nZ tt ops ((List.range (ops.size - t0)).map (t0 + ·)) true (Array.replicate ops.size false) is)) then some is else none
def AY (tt:TT)(t0:Nat):Dr:=fun ops=>
 match tu tt ops t0 (zV tt ops t0 ops.size true (Array.replicate ops.size false)) with
 |some is=>some is
 |none=>tu tt ops t0 (s6 tt ops t0 ((List.range ops.size).filter (m6 ops)) ops.size true (Array.replicate ops.size false))
def oU (tt:TT):Dr:=fun ops=>AY tt (QK ops ops.size) ops
theorem pX:∀l:List Nat,bj l=true→l.Nodup
 |[],_=>List.nodup_nil
 |x::xs,h=>by
  simp only[bj,zA,Bool.not_eq_true',List.any_eq_false,beq_iff_eq] at h
  exact List.nodup_cons.2 ⟨fun hx=>h.1 x hx rfl,pX xs h.2⟩
theorem vt (htt:cm P tt){hd:Hd}(hh:lJ P hd){R:Type}{F:Fra}{cst:List (Array Value)}{kb:Nat}{ops:Array Oper}{is' is:List (Nat×Nat)}{r:R}{Q:Exit→Act→World→Prop}{G:Gh}{A:AS}{a:Act}{w:World}{K:Ex→AS→Option R}
  (hkb:∀d,F.mu0 (kb+d)=none) {t0:Nat} (ho:tu tt ops t0 is'=some is) (h:wq tt hd kb ops is [] A K=some r) (Rl:Rel F G A a.tmps cst w) (hK:tZ F cst a.defers r K Q):
  wpAny P .any ops Q ops.size (Array.replicate ops.size false) a { w with drawn:=w.drawn+1 }:=by
 unfold tu at ho
 cases hc:Region.noSelect ops&&(is'.length == ops.size&&(bj (fT is')&&nZ tt ops ((List.range (ops.size - t0)).map (t0 + ·)) true (Array.replicate ops.size false) is')) with
 |false=>rw[hc] at ho;cases ho
 |true=>
  rw[hc] at ho
  simp only[cond_true,zC] at ho
  subst ho
  simp only[zA,beq_iff_eq] at hc
  obtain ⟨hs,hl,hnd,hc⟩:=hc
  have Rl':Rel F G A a.tmps cst { w with drawn:=w.drawn+1 }:=Rl.drew
  have:=fj (T:=(List.range (ops.size - t0)).map (t0 + ·)) (G0:=G) (w0:={ w with drawn:=w.drawn+1 }) (ud:=fT is') (n:=is'.length) (listed:=Array.replicate ops.size false) htt hh hs hkb is' hc h hK
   ⟨rfl,fun _ _=>rfl,pX _ hnd,fun j hj=>⟨hj,rfl⟩,fun j hj h=>absurd hj h,rfl,Rl',fun _=>⟨fun _ _ h=>h,fun _ _ _ h=>h,Agr.refl _ _ _⟩,rfl⟩ fun _=>⟨rfl,rfl⟩
  rw[hl] at this
  exact sM (fun e a w=>Qh.of) _ (wpAnyL.any _ this)
theorem E3 (htt:cm P tt){hd:Hd}(hh:lJ P hd){R:Type}{F:Fra}{cst:List (Array Value)}{kb:Nat}{ops:Array Oper}{is:List (Nat×Nat)}{r:R}{Q:Exit→Act→World→Prop}{G:Gh}{A:AS}{a:Act}{w:World}{K:Ex→AS→Option R}
  (hkb:∀d,F.mu0 (kb+d)=none) {t0:Nat} (ho:AY tt t0 ops=some is) (h:wq tt hd kb ops is [] A K=some r) (Rl:Rel F G A a.tmps cst w) (hK:tZ F cst a.defers r K Q):
  wpAny P .any ops Q ops.size (Array.replicate ops.size false) a { w with drawn:=w.drawn+1 }:=by
 unfold AY at ho
 split at ho
 ·rename_i is1 h1
  cases ho
  exact vt htt hh hkb h1 h Rl hK
 ·exact vt htt hh hkb ho h Rl hK
theorem gZ (htt:cm P tt):km P tt (oU tt):=by
 intro hd hh R F cst kb ops is r Q G A a w K hkb ho h Rl hK
 exact E3 htt hh hkb ho h Rl hK
end
end Go.Proofs.YthpcdhgpplmneaaGreatDoor.Sym
namespace Go.Proofs.YthpcdhgpplmneaaGreatDoor.Sym
open Go
def RG (f:Nat→Option Ty):List Field→Option Ty
 |[]=>some .unit
 |x::xs=>match f x.type with
  |some a=>match RG f xs with
   |some b=>some (.prod a b)
   |none=>none
  |none=>none
def Rw (P:Program)(t:Nat)(fs:List Field):Option Nat:=match fs.getLast? with
 |some x=>match P.underlying x.type with
  |some (.slice e)=>bif Nat.beq e t then some e else none
  |_=>none
 |none=>none
def Qp (P:Program):Nat→Nat→Option Ty
 |0,_=>none
 |n+1,t=>match P.underlying t with
  |some .bool=>some .bool
  |some (.int k)=>some (.int k)
  |some .string=>some .str
  |some (.slice e)=>match Qp P n e with
   |some t=>some (.sl e t)
   |none=>none
  |some (.struct fs)=>match Rw P t fs.toList with
   |some e=>match RG (Qp P n) fs.toList.dropLast with
    |some a=>some (.tree a e)
    |none=>none
   |none=>RG (Qp P n) fs.toList
  |_=>none
def Ll (P:Program)(t:Nat):Bool:=!P.stoodInHeld t&&(!P.eqGuardType P.depth t&&match P.underlying t with
 |some (.struct F)=>F.toList.all fun f=>f.name != "_"
 |_=>true)
theorem Lm {P:Program}{t:Nat}(h:Ll P t=true):P.stoodInHeld t=false∧P.eqGuardType P.depth t=false∧∀F,P.underlying t=some (.struct F)→∀f∈F.toList,f.name≠"_":=by
 unfold Ll at h
 simp only[zA,Bool.not_eq_true'] at h
 refine ⟨h.1,h.2.1,fun F hF f hf=>?_⟩
 have h2:=h.2.2
 rw[hF] at h2
 simp only[zJ,bne_iff_ne] at h2
 exact h2 f hf
def RE (P:Program)(t:Nat):TI:=match P.info? t with
 |some i=>match P.underlying t with
  |some d=>match i.zero with
   |some z=>bif wj z == ET (n6 d) then ⟨n6 d,Qp P 12 t,i.size,i.bytes,z.cells.toList,Ll P t⟩ else .none
   |none=>.none
  |none=>.none
 |none=>.none
def nB (P:Program)(n:Nat):TT:=(List.range n).map (RE P)
theorem eX (P:Program)(n:Nat):cm P (nB P n):=by
 intro t ht
 have e:(nB P n).at t=if t<n then RE P t else .none:=by
  unfold nB TT.at
  rw[List.getD_eq_getElem?_getD,List.getElem?_map]
  by_cases h:t<n
  ·rw[List.getElem?_range h,if_pos h];rfl
  ·rw[List.getElem?_eq_none (by simp;omega),if_neg h];rfl
 rw[e] at ht ⊢
 by_cases h:t<n
 ·rw[if_pos h] at ht ⊢
  unfold RE at ht ⊢
  split
  ·rename_i i hi
   rw[hi] at ht
   simp only at ht
   split
   ·rename_i d hd
    rw[hd] at ht
    simp only at ht
    split
    ·rename_i z hz
     rw[hz] at ht
     simp only at ht
     cases hb:wj z == ET (n6 d) with
     |false=>rw[hb] at ht;exact absurd rfl ht
     |true=>exact ⟨⟨d,hd,rfl⟩,⟨i,z,hi,rfl,rfl,hz,rfl,by simpa using hb⟩,fun h=>Lm h⟩
    ·rename_i hz;rw[hz] at ht;exact absurd rfl ht
   ·rename_i hd;rw[hd] at ht;exact absurd rfl ht
  ·rename_i hi;rw[hi] at ht;exact absurd rfl ht
 ·rw[if_neg h] at ht;exact absurd rfl ht
abbrev Hc:=(R:Type)→List V→Nat→AS→(Oc→AS→Option R)→Option R
def OD:List (Nat×Hc)→Nat→Option Hc
 |[],_=>none
 |(g,h)::l,f=>bif Nat.beq g f then some h else OD l f
def bB (l:List (Nat×Hc)):Hd:=fun R f args id A K=>match OD l f with
 |some h=>h R args id A K
 |none=>none
def HcsOk (P:Program):List (Nat×Hc)→Prop
 |[]=>True
 |p::l=>HcOk P p.1 p.2∧HcsOk P l
theorem HcsOk.nil {P:Program}:HcsOk P []:=trivial
theorem HcsOk.cons {P:Program}{f:Nat}{h:Hc}{l:List (Nat×Hc)}(a:HcOk P f h)(b:HcsOk P l):HcsOk P ((f,h)::l):=⟨a,b⟩
theorem GW {P:Program}:∀{l:List (Nat×Hc)} {f:Nat} {h:Hc},HcsOk P l→OD l f=some h→HcOk P f h
 |[],_,_,_,e=>by cases e
 |(g,h')::l,f,h,hl,e=>by
  simp only[OD] at e
  cases hb:Nat.beq g f with
  |true=>
   rw[hb] at e
   simp only[cond_true,zC] at e
   subst e
   have:=Nat.eq_of_beq_eq_true hb
   subst this
   exact hl.1
  |false=>
   rw[hb] at e
   exact GW hl.2 e
theorem qU {P:Program}{l:List (Nat×Hc)}(hl:HcsOk P l):lJ P (bB l):=by
 intro R f args id A K r F G ts cst w vals hid h Rl hv
 unfold bB at h
 split at h
 ·rename_i hc e
  exact GW hl e R args id A K r F G ts cst w vals hid h Rl hv
 ·cases h
inductive SC where
 |hol (t:Ty)
 |onl (e:Nat) (t:Ty) (own:Nat)
 |exl (e:Nat) (t:Ty) (i j:Nat)
 |ext (e:Nat) (t:Ty) (i j:Nat)
 |ptr (key off:Nat)
 |fnp (f:Nat) (q:Bool) (ks:List Nat)
 |nils | nilp | top | itr
@[reducible] def SC.den:SC→Type
 |.hol t=>t.den
 |.onl _ t _=>List t.den
 |.exl _ t _ _=>List t.den
 |.ext _ t _ _=>Nat×List t.den
 |.itr=>LI×Int
 |_=>Unit
@[reducible] def SCs.den:List SC→Type
 |[]=>Unit
 |.hol t::ss=>t.den×SCs.den ss
 |.onl _ t _::ss=>List t.den×SCs.den ss
 |.exl _ t _ _::ss=>List t.den×SCs.den ss
 |.ext _ t _ _::ss=>(Nat×List t.den)×SCs.den ss
 |.ptr _ _::ss=>SCs.den ss
 |.fnp _ _ _::ss=>SCs.den ss
 |.nils::ss=>SCs.den ss
 |.nilp::ss=>SCs.den ss
 |.top::ss=>SCs.den ss
 |.itr::ss=>(LI×Int)×SCs.den ss
def Ov:List Cp→Option (List Nat)
 |[]=>some []
 |.ptr k o::cs=>bif Nat.beq o 0 then (match Ov cs with | some ks=>some (k::ks) | none=>none) else none
 |_=>none
def SC.dec:(s:SC)→C→Option s.den
 |.hol t,c=>dC t c
 |.onl e t own,.lst e' t' xs own'=>if h:e=e'∧t'=t∧own=own' then some (h.2.1▸xs) else none
 |.exl e t i j,.ex e' t' lo xs i' j'=>bif !(Nat.beq j 0)&&(Nat.beq i i'&&(Nat.beq j j' || Nat.beq i' j')) then (bif Nat.beq lo 0 then (if h:e=e'∧t'=t then some (h.2▸xs) else none) else none) else none
 |.ext e t i j,.ex e' t' lo xs i' j'=>bif !(Nat.beq j 0)&&(Nat.beq i i'&&(Nat.beq j j' || Nat.beq i' j')) then (if h:e=e'∧t'=t then some (lo,h.2▸xs) else none) else none
 |.ptr k o,.ptr k' o'=>bif Nat.beq k k'&&Nat.beq o o' then some () else none
 |.fnp f q ks,.fn f' q' cs=>match Ov cs with | some ks'=>(if f=f'∧q=q'∧ks=ks' then some () else none) | none=>none
 |.nils,.nils=>some ()
 |.nilp,.nilp=>some ()
 |.top,_=>some ()
 |_,_=>none
def SC.mk:(s:SC)→s.den→C
 |.hol (.int k),x=>.int k x
 |.hol .bool,x=>.bool x
 |.hol .str,x=>.str x
 |.hol (.sl e t),x=>.lst e t x 0
 |.hol _,_=>.top
 |.onl e t own,x=>.lst e t x own
 |.exl e t i j,x=>.ex e t 0 x i j
 |.ext e t i j,x=>.ex e t x.1 x.2 i j
 |.ptr k o,_=>.ptr k o
 |.fnp f q ks,_=>.fn f q (ks.map (.ptr · 0))
 |.nils,_=>.nils
 |.nilp,_=>.nilp
 |.top,_=>.top
 |.itr,x=>.itr x
def SCs.dec:(ss:List SC)→List C→Option (SCs.den ss)
 |[],[]=>some ()
 |.hol t::ss,c::cs=>match SC.dec (.hol t) c with | some x=>(match SCs.dec ss cs with | some xs=>some (x,xs) | none=>none) | none=>none
 |.onl e t own::ss,c::cs=>match SC.dec (.onl e t own) c with | some x=>(match SCs.dec ss cs with | some xs=>some (x,xs) | none=>none) | none=>none
 |.exl e t i j::ss,c::cs=>match SC.dec (.exl e t i j) c with | some x=>(match SCs.dec ss cs with | some xs=>some (x,xs) | none=>none) | none=>none
 |.ext e t i j::ss,c::cs=>match SC.dec (.ext e t i j) c with | some x=>(match SCs.dec ss cs with | some xs=>some (x,xs) | none=>none) | none=>none
 |.ptr k o::ss,c::cs=>match SC.dec (.ptr k o) c with | some _=>SCs.dec ss cs | none=>none
 |.fnp f q ks::ss,c::cs=>match SC.dec (.fnp f q ks) c with | some _=>SCs.dec ss cs | none=>none
 |.nils::ss,c::cs=>match SC.dec .nils c with | some _=>SCs.dec ss cs | none=>none
 |.nilp::ss,c::cs=>match SC.dec .nilp c with | some _=>SCs.dec ss cs | none=>none
 |.top::ss,_::cs=>SCs.dec ss cs
 |_,_=>none
def SCs.mk:(ss:List SC)→SCs.den ss→List C
 |[],_=>[]
 |.hol t::ss,x=>SC.mk (.hol t) x.1::SCs.mk ss x.2
 |.onl e t own::ss,x=>SC.mk (.onl e t own) x.1::SCs.mk ss x.2
 |.exl e t i j::ss,x=>SC.mk (.exl e t i j) x.1::SCs.mk ss x.2
 |.ext e t i j::ss,x=>SC.mk (.ext e t i j) x.1::SCs.mk ss x.2
 |.ptr k o::ss,x=>.ptr k o::SCs.mk ss x
 |.fnp f q ks::ss,x=>.fn f q (ks.map (.ptr · 0))::SCs.mk ss x
 |.nils::ss,x=>.nils::SCs.mk ss x
 |.nilp::ss,x=>.nilp::SCs.mk ss x
 |.top::ss,x=>.top::SCs.mk ss x
 |.itr::ss,x=>.itr x.1::SCs.mk ss x.2
def SC.wf:(s:SC)→s.den→Prop
 |.hol t,x=>t.wf x
 |.onl _ t _,xs=>xs.length≤maxLen∧∀x∈xs,t.wf x
 |.exl _ t _ _,xs=>xs.length≤maxLen∧∀x∈xs,t.wf x
 |.ext _ t _ _,xs=>xs.1+xs.2.length≤maxLen∧∀x∈xs.2,t.wf x
 |_,_=>True
def SCs.wf:(ss:List SC)→SCs.den ss→Prop
 |[],_=>True
 |.hol t::ss,x=>t.wf x.1∧SCs.wf ss x.2
 |.onl _ t _::ss,x=>(x.1.length≤maxLen∧∀y∈x.1,t.wf y)∧SCs.wf ss x.2
 |.exl _ t _ _::ss,x=>(x.1.length≤maxLen∧∀y∈x.1,t.wf y)∧SCs.wf ss x.2
 |.ext _ t _ _::ss,x=>(x.1.1+x.1.2.length≤maxLen∧∀y∈x.1.2,t.wf y)∧SCs.wf ss x.2
 |.ptr _ _::ss,x=>SCs.wf ss x
 |.fnp _ _ _::ss,x=>SCs.wf ss x
 |.nils::ss,x=>SCs.wf ss x
 |.nilp::ss,x=>SCs.wf ss x
 |.top::ss,x=>SCs.wf ss x
 |.itr::ss,x=>(byteR x.1.1∧x.1.1.length≤maxLen∧0≤x.1.2)∧SCs.wf ss x.2
section
variable {G:Gh} {w:World}
theorem IK {t:Ty}{c:C}{x:t.den}{v:Value}(h:dC t c=some x)(hv:Rc G w c v):Rc G w (SC.mk (.hol t) x) v:=by
 have hcell:=hv.cell
 have hr:=cS (G:=G) (w:=w) t c x v h hv
 have hs:=b8 (G:=G) (w:=w) t x [v] hr
 cases t <;> first | exact hs.1 | exact hcell
theorem SX {e:Nat}{t:Ty}{lo:Nat}{xs:List t.den}{i j i' j':Nat}{v:Value}(hb:(!(Nat.beq j 0)&&(Nat.beq i i'&&(Nat.beq j j' || Nat.beq i' j')))=true)(hv:Rc G w (.ex e t lo xs i' j') v):Rc G w (.ex e t lo xs i j) v:=by
 simp only[zA,Bool.not_eq_true',Bool.or_eq_true] at hb
 obtain ⟨h0,h1,h2⟩:=hb
 have h1:=Nat.eq_of_beq_eq_true h1
 subst h1
 have hj:j≠0:=by rintro rfl;cases h0
 rcases hv with hv | ⟨b,cap,e0,⟨n1,n2,ho⟩,hx⟩
 ·exact .inl hv
 ·refine .inr ⟨b,cap,e0,⟨n1,hj,?_⟩,hx⟩
  rcases h2 with h2 | h2
  ·rw[Nat.eq_of_beq_eq_true h2];exact ho
  ·have h2:=Nat.eq_of_beq_eq_true h2
   subst h2
   rcases ho with ho | ho <;> exact .inl ho
theorem Sg {e:Nat}{t:Ty}{lo:Nat}{xs:List t.den}{i j:Nat}{v:Value}(hv:Rc G w (.ex e t lo xs i j) v):lo+xs.length≤maxLen∧∀x∈xs,t.wf x:=by
 rcases hv with ⟨rfl,rfl,_⟩ | ⟨b,cap,e0,_,cur,el,_,_,h2,h3,h4⟩
 ·exact ⟨Nat.zero_le _,fun x hx=>by simp at hx⟩
 ·refine ⟨Nat.le_trans h2 h3,fun x hx=>?_⟩
  obtain ⟨k,hk⟩:=List.getElem?_of_mem hx
  obtain ⟨c,hc,_⟩:=h4 k x hk
  exact Rt.wf _ x c hc
theorem F8:∀{cs:List Cp} {ks:List Nat},Ov cs=some ks→cs=ks.map (Cp.ptr · 0)
 |[],_,h=>by cases h;rfl
 |.dat _ _::_,_,h=>by cases h
 |.ptr k o::cs,_,h=>by
  simp only[Ov] at h
  cases ho:Nat.beq o 0 with
  |false=>rw[ho] at h;cases h
  |true=>
   rw[ho] at h
   simp only[cond_true] at h
   split at h
   ·rename_i ks hk
    cases h
    rw[Nat.eq_of_beq_eq_true ho,F8 hk];rfl
   ·cases h
theorem SC.dec_sound:∀{s:SC} {c:C} {x:s.den} {v:Value},s.dec c=some x→Rc G w c v→Rc G w (s.mk x) v∧s.wf x:=by
 intro s c x v h hv
 cases s with
 |hol t=>exact ⟨IK h hv,Rt.wf (w:=w) t x [v] (cS t c x v h hv)⟩
 |onl e t own=>
  cases c <;> simp only[SC.dec] at h <;> try cases h
  rename_i e' t' xs own'
  split at h
  ·rename_i hh
   obtain ⟨rfl,rfl,rfl⟩:=hh
   cases h
   refine ⟨hv,?_⟩
   obtain ⟨A,cap,_,h1,h2,hrow,_⟩:=hv
   refine ⟨Nat.le_trans h1 h2,fun y hy=>?_⟩
   obtain ⟨i,hi⟩:=List.getElem?_of_mem hy
   obtain ⟨b,o,c,_,hc,_⟩:=hrow.cellAt hi
   exact Rt.wf _ y c hc
  ·cases h
 |exl e t i j=>
  cases c <;> simp only[SC.dec] at h <;> try cases h
  rename_i e' t' lo xs i' j'
  cases hb : !(Nat.beq j 0)&&(Nat.beq i i'&&(Nat.beq j j' || Nat.beq i' j')) with
  |false=>rw[hb] at h;cases h
  |true=>
   rw[hb] at h
   simp only[cond_true] at h
   cases hl:Nat.beq lo 0 with
   |false=>rw[hl] at h;cases h
   |true=>
    rw[hl] at h
    simp only[cond_true] at h
    have hl:=Nat.eq_of_beq_eq_true hl
    subst hl
    split at h
    ·rename_i hh
     obtain ⟨rfl,rfl⟩:=hh
     cases h
     exact ⟨SX hb hv,by have:=Sg hv;rwa [Nat.zero_add] at this⟩
    ·cases h
 |ext e t i j=>
  cases c <;> simp only[SC.dec] at h <;> try cases h
  rename_i e' t' lo xs i' j'
  cases hb : !(Nat.beq j 0)&&(Nat.beq i i'&&(Nat.beq j j' || Nat.beq i' j')) with
  |false=>rw[hb] at h;cases h
  |true=>
   rw[hb] at h
   simp only[cond_true] at h
   split at h
   ·rename_i hh
    obtain ⟨rfl,rfl⟩:=hh
    cases h
    exact ⟨SX hb hv,Sg hv⟩
   ·cases h
 |ptr k o=>
  cases c <;> simp only[SC.dec] at h <;> try cases h
  rename_i k' o'
  cases hb:Nat.beq k k'&&Nat.beq o o' with
  |false=>rw[hb] at h;cases h
  |true=>
   simp only[zA] at hb
   have e1:=Nat.eq_of_beq_eq_true hb.1
   have e2:=Nat.eq_of_beq_eq_true hb.2
   subst e1;subst e2
   exact ⟨hv,trivial⟩
 |fnp f q ks=>
  cases c <;> simp only[SC.dec] at h <;> try cases h
  rename_i f' q' cs
  split at h
  ·rename_i ks' hk
   split at h
   ·rename_i hh
    obtain ⟨rfl,rfl,rfl⟩:=hh
    rw[F8 hk] at hv
    exact ⟨hv,trivial⟩
   ·cases h
  ·cases h
 |nils=>cases c <;> simp only[SC.dec] at h <;> first | exact ⟨hv,trivial⟩ | cases h
 |nilp=>cases c <;> simp only[SC.dec] at h <;> first | exact ⟨hv,trivial⟩ | cases h
 |top=>exact ⟨hv.cell,trivial⟩
 |itr=>cases c <;> simp[SC.dec] at h
theorem SCs.dec_sound:∀{ss:List SC} {cs:List C} {x:SCs.den ss} {vs:List Value},SCs.dec ss cs=some x→All2 (Rc G w) cs vs→All2 (Rc G w) (SCs.mk ss x) vs∧SCs.wf ss x
 |[],[],_,vs,_,hv=>⟨hv,trivial⟩
 |[],_::_,_,_,h,_=>by simp[SCs.dec] at h
 |s::ss,[],_,_,h,_=>by cases s <;> simp[SCs.dec] at h
 |s::ss,c::cs,x,[],h,hv=>hv.elim
 |s::ss,c::cs,x,v::vs,h,hv=>by
  cases s <;> simp only[SCs.dec] at h
  case hol t=>
   split at h
   ·rename_i y hy
    split at h
    ·rename_i ys hys
     cases h
     obtain ⟨h1,h2⟩:=SC.dec_sound hy hv.1
     obtain ⟨h3,h4⟩:=SCs.dec_sound hys hv.2
     exact ⟨⟨h1,h3⟩,h2,h4⟩
    ·cases h
   ·cases h
  case onl e t own=>
   split at h
   ·rename_i y hy
    split at h
    ·rename_i ys hys
     cases h
     obtain ⟨h1,h2⟩:=SC.dec_sound hy hv.1
     obtain ⟨h3,h4⟩:=SCs.dec_sound hys hv.2
     exact ⟨⟨h1,h3⟩,h2,h4⟩
    ·cases h
   ·cases h
  case exl e t i j=>
   split at h
   ·rename_i y hy
    split at h
    ·rename_i ys hys
     cases h
     obtain ⟨h1,h2⟩:=SC.dec_sound hy hv.1
     obtain ⟨h3,h4⟩:=SCs.dec_sound hys hv.2
     exact ⟨⟨h1,h3⟩,h2,h4⟩
    ·cases h
   ·cases h
  case ext e t i j=>
   split at h
   ·rename_i y hy
    split at h
    ·rename_i ys hys
     cases h
     obtain ⟨h1,h2⟩:=SC.dec_sound hy hv.1
     obtain ⟨h3,h4⟩:=SCs.dec_sound hys hv.2
     exact ⟨⟨h1,h3⟩,h2,h4⟩
    ·cases h
   ·cases h
  case top=>
   obtain ⟨h3,h4⟩:=SCs.dec_sound h hv.2
   exact ⟨⟨hv.1.cell,h3⟩,h4⟩
  case itr=>cases h
  all_goals
   split at h
   ·rename_i y hy
    obtain ⟨h1,_⟩:=SC.dec_sound hy hv.1
    obtain ⟨h3,h4⟩:=SCs.dec_sound h hv.2
    exact ⟨⟨h1,h3⟩,h4⟩
   ·cases h
end
inductive SV where
 |one (s:SC) | agg (ss:List SC) | any
def SV.cs:SV→List SC
 |.one s=>[s]
 |.agg ss=>ss
 |.any=>[]
abbrev bi (l:List SV):List SV:=.any::.any::l
abbrev bv (l:List SV):List SV:=.any::.any::.any::.any::l
abbrev cN (l:List SV):List SV:=bv (bv l)
abbrev ah (l:List SV):List SV:=cN (cN l)
@[reducible] def lK:List SV→Type
 |[]=>Unit
 |.any::vs=>lK vs
 |.one (.ptr _ _)::vs=>lK vs
 |.one (.fnp _ _ _)::vs=>lK vs
 |.one .nils::vs=>lK vs
 |.one .nilp::vs=>lK vs
 |.one .top::vs=>lK vs
 |.one .itr::vs=>lK vs
 |.one (.hol t)::vs=>t.den×lK vs
 |.one (.onl _ t _)::vs=>List t.den×lK vs
 |.one (.exl _ t _ _)::vs=>List t.den×lK vs
 |.one (.ext _ t _ _)::vs=>(Nat×List t.den)×lK vs
 |.agg ss::vs=>SCs.den ss×lK vs
def jH:(vs:List SV)→List V→Option (lK vs)
 |[],[]=>some ()
 |.any::vs,_::us=>jH vs us
 |.one (.ptr k o)::vs,.one c::us=>match SC.dec (.ptr k o) c with | some _=>jH vs us | none=>none
 |.one (.fnp f q ks)::vs,.one c::us=>match SC.dec (.fnp f q ks) c with | some _=>jH vs us | none=>none
 |.one .nils::vs,.one c::us=>match SC.dec .nils c with | some _=>jH vs us | none=>none
 |.one .nilp::vs,.one c::us=>match SC.dec .nilp c with | some _=>jH vs us | none=>none
 |.one .top::vs,.one _::us=>jH vs us
 |.one (.hol t)::vs,.one c::us=>match SC.dec (.hol t) c with | some x=>(match jH vs us with | some xs=>some (x,xs) | none=>none) | none=>none
 |.one (.onl e t own)::vs,.one c::us=>match SC.dec (.onl e t own) c with | some x=>(match jH vs us with | some xs=>some (x,xs) | none=>none) | none=>none
 |.one (.exl e t i j)::vs,.one c::us=>match SC.dec (.exl e t i j) c with | some x=>(match jH vs us with | some xs=>some (x,xs) | none=>none) | none=>none
 |.one (.ext e t i j)::vs,.one c::us=>match SC.dec (.ext e t i j) c with | some x=>(match jH vs us with | some xs=>some (x,xs) | none=>none) | none=>none
 |.agg ss::vs,.agg cs::us=>match SCs.dec ss cs with | some x=>(match jH vs us with | some xs=>some (x,xs) | none=>none) | none=>none
 |_,_=>none
def HV:(vs:List SV)→lK vs→List V
 |[],_=>[]
 |.any::vs,x=>.any::HV vs x
 |.one (.ptr k o)::vs,x=>.one (.ptr k o)::HV vs x
 |.one (.fnp f q ks)::vs,x=>.one (.fn f q (ks.map (.ptr · 0)))::HV vs x
 |.one .nils::vs,x=>.one .nils::HV vs x
 |.one .nilp::vs,x=>.one .nilp::HV vs x
 |.one .top::vs,x=>.one .top::HV vs x
 |.one .itr::vs,x=>.any::HV vs x
 |.one (.hol t)::vs,x=>.one (SC.mk (.hol t) x.1)::HV vs x.2
 |.one (.onl e t own)::vs,x=>.one (SC.mk (.onl e t own) x.1)::HV vs x.2
 |.one (.exl e t i j)::vs,x=>.one (SC.mk (.exl e t i j) x.1)::HV vs x.2
 |.one (.ext e t i j)::vs,x=>.one (SC.mk (.ext e t i j) x.1)::HV vs x.2
 |.agg ss::vs,x=>.agg (SCs.mk ss x.1)::HV vs x.2
def Iz:(vs:List SV)→lK vs→Prop
 |[],_=>True
 |.any::vs,x=>Iz vs x
 |.one (.ptr _ _)::vs,x=>Iz vs x
 |.one (.fnp _ _ _)::vs,x=>Iz vs x
 |.one .nils::vs,x=>Iz vs x
 |.one .nilp::vs,x=>Iz vs x
 |.one .top::vs,x=>Iz vs x
 |.one .itr::vs,x=>Iz vs x
 |.one (.hol t)::vs,x=>t.wf x.1∧Iz vs x.2
 |.one (.onl _ t _)::vs,x=>(x.1.length≤maxLen∧∀y∈x.1,t.wf y)∧Iz vs x.2
 |.one (.exl _ t _ _)::vs,x=>(x.1.length≤maxLen∧∀y∈x.1,t.wf y)∧Iz vs x.2
 |.one (.ext _ t _ _)::vs,x=>(x.1.1+x.1.2.length≤maxLen∧∀y∈x.1.2,t.wf y)∧Iz vs x.2
 |.agg ss::vs,x=>SCs.wf ss x.1∧Iz vs x.2
theorem cU {G:Gh}{w:World}:∀{vs:List SV} {us:List V} {x:lK vs} {zs:List Value},jH vs us=some x→All2 (Rv G w) us zs→All2 (Rv G w) (HV vs x) zs∧Iz vs x
 |[],[],_,zs,_,hv=>⟨hv,trivial⟩
 |[],_::_,_,_,h,_=>by simp[jH] at h
 |v::vs,[],_,_,h,_=>by
  cases v with
  |one s=>cases s <;> simp[jH] at h
  |agg ss=>simp[jH] at h
  |any=>simp[jH] at h
 |v::vs,u::us,x,[],h,hv=>hv.elim
 |v::vs,u::us,x,z::zs,h,hv=>by
  cases v with
  |any=>
   simp only[jH] at h
   obtain ⟨h3,h4⟩:=cU h hv.2
   exact ⟨⟨trivial,h3⟩,h4⟩
  |agg ss=>
   cases u <;> simp only[jH] at h <;> try cases h
   rename_i cs
   split at h
   ·rename_i y hy
    split at h
    ·rename_i ys hys
     cases h
     obtain ⟨us',rfl,hu⟩:=hv.1
     obtain ⟨h1,h2⟩:=SCs.dec_sound hy hu
     obtain ⟨h3,h4⟩:=cU hys hv.2
     exact ⟨⟨⟨us',rfl,h1⟩,h3⟩,h2,h4⟩
    ·cases h
   ·cases h
  |one s=>
   cases u with
   |one c=>
    cases s <;> simp only[jH] at h
    case hol t=>
     split at h
     ·rename_i y hy
      split at h
      ·rename_i ys hys
       cases h
       obtain ⟨h1,h2⟩:=SC.dec_sound hy hv.1
       obtain ⟨h3,h4⟩:=cU hys hv.2
       exact ⟨⟨h1,h3⟩,h2,h4⟩
      ·cases h
     ·cases h
    case onl e t own=>
     split at h
     ·rename_i y hy
      split at h
      ·rename_i ys hys
       cases h
       obtain ⟨h1,h2⟩:=SC.dec_sound hy hv.1
       obtain ⟨h3,h4⟩:=cU hys hv.2
       exact ⟨⟨h1,h3⟩,h2,h4⟩
      ·cases h
     ·cases h
    case exl e t i j=>
     split at h
     ·rename_i y hy
      split at h
      ·rename_i ys hys
       cases h
       obtain ⟨h1,h2⟩:=SC.dec_sound hy hv.1
       obtain ⟨h3,h4⟩:=cU hys hv.2
       exact ⟨⟨h1,h3⟩,h2,h4⟩
      ·cases h
     ·cases h
    case ext e t i j=>
     split at h
     ·rename_i y hy
      split at h
      ·rename_i ys hys
       cases h
       obtain ⟨h1,h2⟩:=SC.dec_sound hy hv.1
       obtain ⟨h3,h4⟩:=cU hys hv.2
       exact ⟨⟨h1,h3⟩,h2,h4⟩
      ·cases h
     ·cases h
    case top=>
     obtain ⟨h3,h4⟩:=cU h hv.2
     exact ⟨⟨Rc.cell hv.1,h3⟩,h4⟩
    case itr=>cases h
    all_goals
     split at h
     ·rename_i y hy
      obtain ⟨h1,_⟩:=SC.dec_sound hy hv.1
      obtain ⟨h3,h4⟩:=cU h hv.2
      exact ⟨⟨h1,h3⟩,h4⟩
     ·cases h
   |_=>cases s <;> simp[jH] at h
@[reducible] def D3:List (Option (List SC))→Type
 |[]=>Unit
 |none::os=>D3 os
 |some ss::os=>SCs.den ss×D3 os
def QQ:(ss:List SC)→List C→Option (SCs.den ss)
 |[.itr],[.itr x]=>some (x,())
 |_,_=>none
def wr:(os:List (Option (List SC)))→List (Option (List C))→Option (D3 os)
 |[],_=>some ()
 |none::os,_::bs=>wr os bs
 |none::os,[]=>wr os []
 |some ss::os,some cs::bs=>match (bif cs.any C.isItr then QQ ss cs else SCs.dec ss cs) with | some x=>(match wr os bs with | some xs=>some (x,xs) | none=>none) | none=>none
 |_,_=>none
def Mi:(os:List (Option (List SC)))→D3 os→List (Option (List C))
 |[],_=>[]
 |none::os,x=>none::Mi os x
 |some ss::os,x=>some (SCs.mk ss x.1)::Mi os x.2
def SE:(os:List (Option (List SC)))→D3 os→Prop
 |[],_=>True
 |none::os,x=>SE os x
 |some ss::os,x=>SCs.wf ss x.1∧SE os x.2
theorem zR {G:Gh}{w:World}{ss:List SC}{cs:List C}{y:SCs.den ss}(h:(bif cs.any C.isItr then QQ ss cs else SCs.dec ss cs)=some y)(ho:∃o:Obj,ObjOk G w cs o):
  SCs.wf ss y∧∀o,ObjOk G w cs o→ObjOk G w (SCs.mk ss y) o:=by
 obtain ⟨o,ho⟩:=ho
 cases hn:cs.any C.isItr with
 |false=>
  rw[hn] at h
  obtain ⟨cur,el,_,hr⟩:=ho.cells hn
  refine ⟨(SCs.dec_sound h hr).2,fun o' ho'=>?_⟩
  obtain ⟨cur',el',e',hr'⟩:=ho'.cells hn
  exact .inl ⟨cur',el',e',(SCs.dec_sound h hr').1⟩
 |true=>
  rw[hn] at h
  simp only[cond_true] at h
  unfold QQ at h
  split at h
  ·rename_i x
   cases h
   refine ⟨?_,fun o' ho'=>ho'⟩
   rcases ho with ⟨cur,el,_,hr⟩ | ⟨s,n,e2,rfl,hbr,hlen⟩
   ·match hcl:cur.toList,hr with
    |[],hr=>exact hr.elim
    |_::_,hr=>exact hr.1.elim
   ·simp only[List.cons.injEq,C.itr.injEq,and_true] at e2
    subst e2
    exact ⟨⟨hbr,hlen,Int.natCast_nonneg n⟩,trivial⟩
  ·cases h
theorem kt {G:Gh}{w:World}:∀{os:List (Option (List SC))} {bs:List (Option (List C))} {x:D3 os},wr os bs=some x→
  (∀(k:Nat) (cs:List C),bs[k]?=some (some cs)→∃o:Obj,ObjOk G w cs o)→
  SE os x∧∀(k:Nat) (cs:List C),(Mi os x)[k]?=some (some cs)→∃cs0:List C,bs[k]?=some (some cs0)∧∀o,ObjOk G w cs0 o→ObjOk G w cs o
 |[],_,_,_,_=>⟨trivial,fun k cs h=>by simp[Mi] at h⟩
 |none::os,[],x,h,hb=>by
  simp only[wr] at h
  obtain ⟨h1,h2⟩:=kt h hb
  refine ⟨h1,fun k cs hk=>?_⟩
  cases k with
  |zero=>simp[Mi] at hk
  |succ k=>obtain ⟨cs0,h3,_⟩:=h2 k cs (by simpa [Mi] using hk);simp at h3
 |none::os,b::bs,x,h,hb=>by
  simp only[wr] at h
  obtain ⟨h1,h2⟩:=kt h fun k cs hk=>hb (k+1) cs (by simpa using hk)
  refine ⟨h1,fun k cs hk=>?_⟩
  cases k with
  |zero=>simp[Mi] at hk
  |succ k=>obtain ⟨cs0,h3,h4⟩:=h2 k cs (by simpa [Mi] using hk);exact ⟨cs0,by simpa using h3,h4⟩
 |some ss::os,[],x,h,hb=>by simp[wr] at h
 |some ss::os,none::bs,x,h,hb=>by simp[wr] at h
 |some ss::os,some cs::bs,x,h,hb=>by
  simp only[wr] at h
  split at h
  ·rename_i y hy
   split at h
   ·rename_i ys hys
    cases h
    obtain ⟨h1,h2⟩:=kt hys fun k cs hk=>hb (k+1) cs (by simpa using hk)
    obtain ⟨h6,h7⟩:=zR hy (hb 0 cs rfl)
    refine ⟨⟨h6,h1⟩,fun k cs' hk=>?_⟩
    cases k with
    |zero=>
     simp only[Mi,List.getElem?_cons_zero,zC] at hk
     subst hk
     exact ⟨cs,rfl,h7⟩
    |succ k=>obtain ⟨cs0,h3,h4⟩:=h2 k cs' (by simpa [Mi] using hk);exact ⟨cs0,by simpa using h3,h4⟩
   ·cases h
  ·cases h
structure Ls where
 tm:List SV
 ob:List (Option (List SC))
abbrev Ls.den (s:Ls):Type:=lK s.tm×D3 s.ob
def Ls.mk' (s:Ls)(x:s.den):AS:=⟨HV s.tm x.1,[],Mi s.ob x.2⟩
def Ls.dec (s:Ls)(A:AS):Option s.den:=match A with
 |⟨tm,[],ob⟩=>match jH s.tm tm with
  |some x=>match wr s.ob ob with
   |some y=>some (x,y)
   |none=>none
  |none=>none
 |_=>none
def Ls.wf (s:Ls)(x:s.den):Prop:=Iz s.tm x.1∧SE s.ob x.2
theorem Ls.dec_sound {s:Ls}{A:AS}{x:s.den}(h:s.dec A=some x){F:Fra}{G:Gh}{ts:Array Value}{cst:List (Array Value)}{w:World}(R:Rel F G A ts cst w):Rel F G (s.mk' x) ts cst w∧s.wf x:=by
 obtain ⟨tm,stk,ob⟩:=A
 unfold Ls.dec at h
 split at h
 ·rename_i tm' ob' e
  cases e
  split at h
  ·rename_i y hy
   split at h
   ·rename_i z hz
    cases h
    obtain ⟨h1,h2⟩:=cU hy R.tm
    obtain ⟨h3,h4⟩:=kt (G:=G) (w:=w) hz fun k cs hk=>let ⟨b,o,_,_,hr⟩:=R.ob k cs hk;⟨_,hr⟩
    refine ⟨⟨h1,R.stk,fun k cs hk=>?_,R.gh⟩,h2,h3⟩
    obtain ⟨cs0,h5,h6⟩:=h4 k cs hk
    obtain ⟨b,o,hm,hh,hr⟩:=R.ob k cs0 h5
    exact ⟨b,o,hm,hh,h6 _ hr⟩
   ·cases h
  ·cases h
 ·cases h
inductive Lx where
 |exit (id:Nat) | ret | normal | panic (T:Nat) (t:Ty)
@[reducible] def Lx.den:Lx→Type
 |.panic _ t=>t.den
 |_=>Unit
def Lx.ex:(e:Lx)→e.den→Ex
 |.exit id,_=>.exit id
 |.ret,_=>.ret
 |.normal,_=>.normal
 |.panic T t,x=>.panic (.one (.ifc T t x))
def Lx.dec:(e:Lx)→Ex→Option e.den
 |.exit id,.exit id'=>bif Nat.beq id id' then some () else none
 |.ret,.ret=>some ()
 |.panic T t,.panic (.one (.ifc T' t' x))=>if h:T=T'∧t'=t then some (h.2▸x) else none
 |_,_=>none
@[reducible] def ao:List (Lx×Ls)→Type
 |[]=>Empty
 |x::xs=>Out (x.1.den×x.2.den) (ao xs)
def bo:(xs:List (Lx×Ls))→Ex→AS→Option (ao xs)
 |[],_,_=>none
 |x::xs,e,A=>match x.1.dec e with
  |some p=>match x.2.dec A with
   |some d=>some (.ret (p,d))
   |none=>match bo xs e A with
    |some y=>some (.pan y)
    |none=>none
  |none=>match bo xs e A with
   |some y=>some (.pan y)
   |none=>none
def Sk {R:Type}:(xs:List (Lx×Ls))→ao xs→(Ex→AS→Option R)→Option R
 |[],x,_=>nomatch x
 |x::_,.ret d,K=>K (x.1.ex d.1) (x.2.mk' d.2)
 |_::xs,.pan y,K=>Sk xs y K
structure Lo where
 st:Ls
 xs:List (Lx×Ls)
def aA (lo:Lo)(Fn:lo.st.den→Tr (ao lo.xs)):Lh:=fun R A K=>match lo.st.dec A with
 |some x=>(Fn x).run fun y=>Sk lo.xs y K
 |none=>none
theorem uN {R:Type}{F:Fra}{G:Gh}{A:AS}{a:Act}{cst:List (Array Value)}{w:World}(Rl:Rel F G A a.tmps cst w){K:Ex→AS→Option R}{r:R}{Q:Exit→Act→World→Prop}{dfs:List Deferred}(hd:a.defers=dfs)(hK:tZ F cst dfs r K Q):
  ∀{xs:List (Lx×Ls)} {e:Ex} {y:ao xs},bo xs e A=some y→Sk xs y K=some r→
   match e with
   |.normal=>Q .normal a w
   |.exit id=>Q (.exit id) a w
   |.ret=>Q .ret a w
   |.panic v=>∀u,Rv G w v u→Q (.panic [{ v:=u,recovered:=false }]) a w
 |[],e,y,h,_=>by simp[bo] at h
 |(l,s)::xs,e,y,h,hm=>by
  simp only[bo] at h
  have rest:∀{y':ao xs},bo xs e A=some y'→Sk xs y' K=some r→_:=fun h1 h2=>uN Rl hd hK h1 h2
  split at h
  ·rename_i p hp
   split at h
   ·rename_i d hdd
    cases h
    simp only[Sk] at hm
    have R':=(Ls.dec_sound hdd Rl).1
    cases l with
    |normal=>cases e <;> simp[Lx.dec] at hp
    |ret=>
     cases e <;> simp only[Lx.dec] at hp <;> try cases hp
     exact hK .ret _ G a w R' hd hm
    |exit id=>
     cases e <;> simp only[Lx.dec] at hp <;> try cases hp
     rename_i id'
     cases hb:Nat.beq id id' with
     |false=>rw[hb] at hp;cases hp
     |true=>
      have:=Nat.eq_of_beq_eq_true hb
      subst this
      exact hK (.exit id) _ G a w R' hd hm
    |panic T t=>
     cases e with
     |panic v=>
      cases v with
      |one c=>
       cases c <;> simp only[Lx.dec] at hp <;> try cases hp
       rename_i T' t' x
       split at hp
       ·rename_i hh
        obtain ⟨rfl,rfl⟩:=hh
        cases hp
        exact hK (.panic _) _ G a w R' hd hm
       ·cases hp
      |_=>simp[Lx.dec] at hp
     |_=>simp[Lx.dec] at hp
   ·split at h
    ·rename_i y' hy'
     cases h
     exact rest hy' hm
    ·cases h
  ·split at h
   ·rename_i y' hy'
    cases h
    exact rest hy' hm
   ·cases h
theorem LV {P:Program}{tt:TT}(htt:cm P tt)(hm:P.follows .mixedOrders=true){hd:Hd}(hh:lJ P hd){okDraw:Dr}(hdr:km P tt okDraw){lp:Lp}{kb lr:Nat}{m:Nat}{b:Code}{x:List (Nat×Nat)}
  (hlp:∀e∈bD lr b m x,∀h,lp (cV e.2.1)=some h→tY P kb e.2.1 h) (lo:Lo) (Fn:lo.st.den→Tr (ao lo.xs))
  (hF:∀d y,lo.st.wf d→(Fn d).val=some y→∃n,vi m kb (fun A K=>ev tt hd okDraw lp kb lr b m x A K) n (lo.st.mk' d) (bo lo.xs)=some y):tY P kb b (aA lo Fn):=by
 intro R F cst r Q G A a w K hkb h Rl hK
 unfold aA at h
 split at h
 ·rename_i d hdec
  obtain ⟨y,hy,h⟩:=Tr.run_val h
  obtain ⟨R1,hwf⟩:=Ls.dec_sound hdec Rl
  obtain ⟨n,hn⟩:=hF d y hwf hy
  refine CP htt hm hh hdr hkb hlp hn R1 ?_
  intro ex A' G' a' w' R' hd' hk
  have:=uN R' hd' hK hk h
  cases ex <;> exact this
 ·cases h
abbrev Le:=Nat×Code×List (Nat×Nat)
def EU:Le:=(0,.skip,[])
def bA (fn:Func):Code:=match fn.body with
 |some c=>c
 |none=>.skip
def DY (fn:Func):List Le:=bD (li fn) (bA fn) (li fn) []
def RC (fn:Func)(e:Le):List Le:=bD (li fn) e.2.1 e.1 e.2.2
def bI (fn:Func)(j:Nat):Le:=(DY fn).getD j EU
def Kg (fn:Func)(e:Le)(j:Nat):Le:=(RC fn e).getD j EU
def bP:List (Nat×Lh)→Lp
 |[],_=>none
 |(g,h)::l,f=>bif Nat.beq g f then some h else bP l f
def fH (tt:TT)(hd:Hd)(dr:Dr)(lp:Lp)(kb:Nat)(fn:Func)(e:Le){R:Type}(n:Nat)(A:AS)(K:Ex→AS→Option R):Option R:=
 vi e.1 kb (fun A K=>ev tt hd dr lp kb (li fn) e.2.1 e.1 e.2.2 A K) n A K
def LpsOk (P:Program)(kb:Nat)(lp:Lp)(es:List Le)(i:Nat):Prop:=∀j,i≤j→j<es.length→∀h,lp (cV (es.getD j EU).2.1)=some h→tY P kb (es.getD j EU).2.1 h
theorem LpsOk.done {P:Program}{kb:Nat}{lp:Lp}{es:List Le}{i:Nat}(h:Nat.ble es.length i=true):LpsOk P kb lp es i:=fun j h1 h2=>by
 have:=Nat.le_of_ble_eq_true h
 omega
theorem LpsOk.step {P:Program}{kb:Nat}{lp:Lp}{es:List Le}{i:Nat}{h0:Lh}(e:lp (cV (es.getD i EU).2.1)=some h0)(h:tY P kb (es.getD i EU).2.1 h0)(r:LpsOk P kb lp es (i+1)):LpsOk P kb lp es i:=fun j h1 h2 g hg=>by
 by_cases hj:j=i
 ·subst hj
  rw[e] at hg
  cases hg
  exact h
 ·exact r j (by omega) h2 g hg
theorem LpsOk.all {P:Program}{kb:Nat}{lp:Lp}{es:List Le}(h:LpsOk P kb lp es 0):∀e∈es,∀g,lp (cV e.2.1)=some g→tY P kb e.2.1 g:=by
 intro e he g hg
 obtain ⟨j,hj⟩:=List.getElem?_of_mem he
 have hlt:=(List.getElem?_eq_some_iff.1 hj).1
 have e0:es.getD j EU=e:=by rw[List.getD_eq_getElem?_getD,hj];rfl
 have:=h j (Nat.zero_le _) hlt g
 rw[e0] at this
 exact this hg
theorem EW {P:Program}{n:Nat}(hm:P.follows .mixedOrders=true){cs:List (Nat×Hc)}(hcs:HcsOk P cs){lp:Lp}{kb:Nat}{fn:Func}{e:Le}(hsub:LpsOk P kb lp (RC fn e) 0)(lo:Lo)(Fn:lo.st.den→Tr (ao lo.xs))
  (hF:∀d y,lo.st.wf d→(Fn d).val=some y→∃k,fH (nB P n) (bB cs) (oU (nB P n)) lp kb fn e k (lo.st.mk' d) (bo lo.xs)=some y):tY P kb e.2.1 (aA lo Fn):=
 LV (eX P n) hm (qU hcs) (gZ (eX P n)) hsub.all lo Fn hF
theorem Lq {P:Program}{n:Nat}(hm:P.follows .mixedOrders=true){cs:List (Nat×Hc)}(hcs:HcsOk P cs){lp:Lp}{f:Nat}{fn:Func}(hf:P.funcs[f]?=some fn)(hname:(fn.name == "runtime.NumGoroutine")=false) (hbody:fn.body.isNone=false)
  (io:Io) (hlp:LpsOk P io.obs.length lp (DY fn) 0) (Fn:io.In→Tr io.Res) (hF:∀d out,io.wf d→(Fn d).val=some out→io.run (nB P n) (bB cs) (oU (nB P n)) lp fn d=some out):HcOk P f (ai io Fn):=by
 refine CM (eX P n) hm (qU hcs) (gZ (eX P n)) hf hname io lp (fun c hc=>?_) Fn (fun d out=>hF d out) hbody
 have:bA fn=c:=by unfold bA;rw[hc]
 have h:=hlp.all
 unfold DY at h
 rw[this] at h
 exact h
noncomputable def AM (tt:TT):Dr:=fun ops=>bif Nat.beq ops.size 0 then none else oU tt ops
theorem I9 {P:Program}{tt:TT}(htt:cm P tt):km P tt (AM tt):=by
 intro hd hh R F cst kb ops is r Q G A a w K hkb ho
 unfold AM at ho
 cases hz:Nat.beq ops.size 0 with
 |true=>rw[hz] at ho;cases ho
 |false=>rw[hz] at ho;exact gZ htt hd hh R F cst kb ops is r Q G A a w K hkb ho
theorem IS {P:Program}{n:Nat}(hm:P.follows .mixedOrders=true){cs:List (Nat×Hc)}(hcs:HcsOk P cs){lp:Lp}{f:Nat}{fn:Func}(hf:P.funcs[f]?=some fn)(hname:(fn.name == "runtime.NumGoroutine")=false) (hbody:fn.body.isNone=false)
  (io:Io) (hlp:LpsOk P io.obs.length lp (DY fn) 0) (Fn:io.In→Tr io.Res) (hF:∀d out,io.wf d→(Fn d).val=some out→io.run (nB P n) (bB cs) (AM (nB P n)) lp fn d=some out):HcOk P f (ai io Fn):=by
 refine CM (eX P n) hm (qU hcs) (I9 (eX P n)) hf hname io lp (fun c hc=>?_) Fn (fun d out=>hF d out) hbody
 have:bA fn=c:=by unfold bA;rw[hc]
 have h:=hlp.all
 unfold DY at h
 rw[this] at h
 exact h
end Go.Proofs.YthpcdhgpplmneaaGreatDoor.Sym
namespace Go.Proofs.YthpcdhgpplmneaaGreatDoor.Sym
open Go
def jb:Code→Code
 |.seq a _=>a
 |c=>c
def gE:Code→Code
 |.seq _ b=>b
 |c=>c
def Sb:Code→Code
 |.cond _ t _=>t
 |c=>c
def fI:Code→Array Oper
 |.region _ ops _=>ops
 |_=>#[]
theorem nk {Pr:(Nat×Code×List (Nat×Nat))→Prop}{lr l:Nat}{c:Code}{x:List (Nat×Nat)}(h:bD lr c l x=[]):∀e∈bD lr c l x,Pr e:=by
 intro e he
 rw[h] at he
 cases he
noncomputable section
def Sn (tt:TT)(io:Io)(fn:Func)(A:AS):Option io.Res:=match A with
 |⟨_,tm::stk,ob⟩=>iq tt io fn ⟨tm,stk,ob⟩
 |_=>none
def KQ (tt:TT)(hd:Hd)(okDraw:Dr)(kbG:Nat)(io:Io)(fn gfn:Func)(gops:Array Oper)(grest:Code)(ls:List Nat)(caps:List Cp)(rv:V)(A:AS):Option io.Res:=
 l9 tt hd kbG gops ls ((⟨caps.map Cp.toV++List.replicate (gfn.ntmps - caps.length) .any,A.tm::A.stk,A.ob⟩:AS).put ((gops[0]?).bind (·.dst)) rv) fun ex A=>match ex with
  |.normal=>ev tt hd okDraw (fun _=>none) kbG 0 grest 0 [] A fun ex A=>match ex with
   |.exit _=>none
   |.panic _=>none
   |_=>Sn tt io fn A
  |_=>none
def SN (tt:TT)(hd:Hd)(okDraw:Dr)(kbG:Nat)(io:Io)(fn gfn:Func)(gops:Array Oper)(grest:Code)(ls:List Nat)(caps:List Cp)(ex:Ex)(A:AS):Option io.Res:=
 match ex with
 |.exit _=>none
 |.panic v=>KQ tt hd okDraw kbG io fn gfn gops grest ls caps v A
 |_=>KQ tt hd okDraw kbG io fn gfn gops grest ls caps (.one .nilif) A
def Qy (k:Nat)(caps:List Cp):Bool:=caps.all fun c=>match c with
 |.ptr key _=>Nat.blt key k
 |.dat _ _=>false
def Io.runD (tt:TT)(hd:Hd)(okDraw:Dr)(lp:Lp)(kb2 kbG:Nat)(io:Io)(fn:Func)(g:Nat)(gfn:Func)(t:Nat)(d:io.In):Option io.Res:=
 ev tt hd okDraw lp io.obs.length (li fn) (jb (bA fn)) (li fn) [] (io.start fn.ntmps d) fun ex A=>match ex with
  |.normal=>l9 tt hd io.obs.length (fI (jb (gE (bA fn)))) [0] A fun ex A=>match ex with
   |.normal=>match A.get t with
    |.one (.fn g' false caps)=>bif g' == g&&Qy kb2 caps then
      ev tt hd okDraw lp kb2 (li fn) (gE (gE (bA fn))) (li fn) [] A
       (SN tt hd okDraw kbG io fn gfn (fI (jb (bA gfn))) (gE (bA gfn)) ((List.range (fI (jb (bA gfn))).size).drop 1) caps) else none
    |_=>none
   |_=>none
  |_=>none
section
variable {P:Program} {tt:TT}
theorem qQ (htt:cm P tt){hd:Hd}(hh:lJ P hd){R:Type}{F:Fra}{cst:List (Array Value)}{kb:Nat}(hkb:∀d,F.mu0 (kb+d)=none){ops:Array Oper}{r:R}{Q:Exit→Act→World→Prop}(l2:List Nat):∀(l:List Nat) {G:Gh} {A:AS} {a:Act} {w:World} {K:Ex→AS→Option R},
  l9 tt hd kb ops l A K=some r→Rel F G A a.tmps cst w→
  (∀ex A' G' a' w',Rel F G' A' a'.tmps cst w'→a'.defers=a.defers→K ex A'=some r→match ex with
   |.normal=>wpOps P ops Q l2 a' w'
   |.exit id=>Q (.exit id) a' w'
   |.ret=>Q .ret a' w'
   |.panic v=>∀u,Rv G' w' v u→Q (.panic [{ v:=u,recovered:=false }]) a' w')→wpOps P ops Q (l++l2) a w
 |[],G,A,a,w,K,h,Rl,hK=>hK .normal A G a w Rl rfl h
 |i::is,G,A,a,w,K,h,Rl,hK=>by
  simp only[l9] at h
  simp only[List.cons_append,wpOps]
  split at h
  ·cases h
  ·rename_i o ho
   rw[ho]
   simp only
   rcases cF Rl h with ⟨hw,A1,R1,h1⟩ | ⟨hw,A1,R1,h1⟩
   ·rw[if_pos hw]
    refine .inl (ip htt hh R1 hkb [] o h1 ?_)
    intro ex A' G' a' w' R' hd' hk
    cases ex with
    |normal=>exact fun _=>qQ htt hh hkb l2 is hk R' (by rw[hd'];exact hK)
    |exit id=>exact hK _ A' G' a' w' R' hd' hk
    |ret=>exact hK _ A' G' a' w' R' hd' hk
    |panic v=>exact hK _ A' G' a' w' R' hd' hk
   ·rw[if_neg (by simp[hw])]
    exact qQ htt hh hkb l2 is h1 R1 (by rw[Act.put_defers'];exact hK)
theorem ku (htt:cm P tt){hd:Hd}(hh:lJ P hd){R:Type}{F:Fra}{cst:List (Array Value)}{kb:Nat}(hkb:∀d,F.mu0 (kb+d)=none){ops:Array Oper}{r:R}{Q:Exit→Act→List Frame→World→Prop}{cs:List Frame}:∀(l:List Nat) {G:Gh} {A:AS} {a:Act} {w:World} {K:Ex→AS→Option R},
  l9 tt hd kb ops l A K=some r→Rel F G A a.tmps cst w→tZ F cst a.defers r K (fun e a w=>Q e a cs w)→wpOpsS P ops Q l a cs w
 |[],G,A,a,w,K,h,Rl,hK=>hK .normal A G a w Rl rfl h
 |i::is,G,A,a,w,K,h,Rl,hK=>by
  simp only[l9] at h
  simp only[wpOpsS]
  split at h
  ·cases h
  ·rename_i o ho
   rw[ho]
   simp only
   rcases cF Rl h with ⟨hw,A1,R1,h1⟩ | ⟨hw,A1,R1,h1⟩
   ·rw[if_pos hw]
    have hop:o.wp P a w (fun a' w'=>wpOpsS P ops Q is a' cs w') (fun e a' w'=>Q e a' cs w'):=by
     refine ip htt hh R1 hkb [] o h1 ?_
     intro ex A' G' a' w' R' hd' hk
     cases ex with
     |normal=>exact fun _=>ku htt hh hkb is hk R' (by rw[hd'];exact hK)
     |exit id=>exact hK _ A' G' a' w' R' hd' hk
     |ret=>exact hK _ A' G' a' w' R' hd' hk
     |panic v=>exact hK _ A' G' a' w' R' hd' hk
    unfold Oper.wp at hop
    split
    ·rename_i w' e
     rw[e] at hop
     exact hop.elim
    ·exact hop
   ·rw[if_neg (by simp[hw])]
    exact ku htt hh hkb is h1 R1 (by rw[Act.put_defers'];exact hK)
theorem IO (htt:cm P tt)(hm:P.follows .mixedOrders=true){hd:Hd}(hh:lJ P hd){okDraw:Dr}(hdr:km P tt okDraw){kbG:Nat}{io:Io}{fn gfn:Func}{g:Nat}{i2:Nat}{gops:Array Oper}{grest:Code}{ls:List Nat}{caps:List Cp}
  (hg:P.funcs[g]?=some gfn) (hgb:gfn.body=some (.seq (.region i2 gops false) grest)) (hls:List.range gops.size=0::ls) {oo:Oper} (hoo:gops[0]?=some oo)
  (hop:oo.op=.call { callee:=.builtin .recover,args:=#[],argTypes:=#[] }) (hgd:oo.guard=none) (hres:gfn.results = #[]) (hl2:bD 0 grest 0 []=[])
  {F:Fra} {G:Gh} {A:AS} {ts:Array Value} {cst:List (Array Value)} {w:World} (hkb:∀d,F.mu0 (kbG+d)=none) {rv:V} {out:io.Res}
  (h:KQ tt hd okDraw kbG io fn gfn gops grest ls caps rv A=some out) (Rl:Rel F G A ts cst w) {vs:Array Value} (hvs:All2 (Rcp G w) caps vs.toList) {u:FrameMode}
  (hu:(u=.returning∧rv=.one .nilif)∨∃uv,u=.panicking [{ v:=uv,recovered:=false }]∧Rv G w rv uv):
  CallsD P g vs u w fun e u' w'=>e=.returned (.tuple #[])∧settle u'=.returning∧∃G' A',Rel F G' A' ts cst w'∧iq tt io fn A'=some out:=by
 refine callsD_of_wpS hg hgb ?_
 intro c₀ cs hmode
 refine wpS_seq (wpS_region ?_)
 rw[hls]
 simp only[wpOpsS,hoo]
 rw[if_pos (by simp[Region.wanted,hgd])]
 generalize hA0:({ tmps:=vs++Array.replicate (gfn.ntmps - vs.size) undef,defers:=[] }:Act)=a0
 have hrun:(execOp a0.eval oo).run P w=.ok .recover w:=by
  simp[execOp,hop,resolve,invoke,builtin]
 rw[hrun]
 simp only
 have R0:Rel F G ⟨caps.map Cp.toV++List.replicate (gfn.ntmps - caps.length) .any,A.tm::A.stk,A.ob⟩ a0.tmps (ts::cst) w:=by
  refine ⟨?_,⟨Rl.tm,Rl.stk⟩,Rl.ob,Rl.gh⟩
  rw[← hA0]
  have hl:=hvs.length
  simp only[Array.toList_append,Array.toList_replicate]
  refine All2.append (hvs.map_left _ fun c v hc=>Cp.toV_sound hc) ?_
  rw[hl,Array.length_toList]
  generalize gfn.ntmps - vs.size=n
  induction n with
  |zero=>exact trivial
  |succ n ih=>exact ⟨trivial,ih⟩
 have hd0:a0.defers=[]:=by rw[← hA0]
 obtain ⟨uv,c₁,hrec,huv,hset⟩:∃uv u',(recoverD (c₀::cs)=some (uv,{ c₀ with mode:=u' }::cs)∨(recoverD (c₀::cs)=none∧uv=.nilIface∧{ c₀ with mode:=u' }::cs=c₀::cs))∧Rv G w rv uv∧settle u'=.returning:=by
  rcases hu with ⟨rfl,rfl⟩ | ⟨uv,rfl,huv⟩
  ·refine ⟨.nilIface,.returning,.inr ⟨by simp[recoverD,hmode],rfl,?_⟩,rfl,rfl⟩
   rw[← hmode]
  ·exact ⟨uv,.panicking [{ v:=uv,recovered:=true }],.inl (by simp[recoverD,hmode]),huv,rfl⟩
 suffices hgoal:wpOpsS P gops (Exit.thenS (grest.wpS P (bodyPostS P gfn c₀ cs fun e u' w'=>e=.returned (.tuple #[])∧settle u'=.returning∧∃G' A',Rel F G' A' ts cst w'∧iq tt io fn A'=some out)) (bodyPostS P gfn c₀ cs fun e u' w'=>e=.returned (.tuple #[])∧settle u'=.returning∧∃G' A',Rel F G' A' ts cst w'∧iq tt io fn A'=some out)) ls (a0.put oo.dst uv) ({ c₀ with mode:=c₁ }::cs) w by
  rcases hrec with hrec | ⟨hrec,e1,e2⟩
  ·rw[hrec];exact hgoal
  ·rw[hrec];rw[e1,e2] at hgoal;exact hgoal
 unfold KQ at h
 rw[hoo] at h
 have R1:=R0.puts huv oo.dst
 refine ku htt hh hkb ls h R1 ?_
 intro ex A2 G2 a2 w2 R2 hd2 h2
 cases ex with
 |normal=>
  refine wpS_of_wp (fu htt hm hh hdr hkb (lp:=fun _=>none) grest (nk hl2) h2 R2 ?_)
  intro ex A3 G3 a3 w3 R3 hd3 h3
  have fin:∀(hk:Sn tt io fn A3=some out),
    bodyPostS P gfn c₀ cs (fun e u' w'=>e=.returned (.tuple #[])∧settle u'=.returning∧∃G' A',Rel F G' A' ts cst w'∧iq tt io fn A'=some out) .ret a3 ({ c₀ with mode:=c₁ }::cs) w3:=by
   intro hk
   obtain ⟨tm3,stk3,ob3⟩:=A3
   cases stk3 with
   |nil=>cases hk
   |cons tm stk=>
    refine ⟨hd3.trans (hd2.trans ((Act.put_defers' _ _ _).trans hd0)),c₁,rfl,.tuple #[],by simp[results,hres],rfl,hset,G3,⟨tm,stk,ob3⟩,⟨R3.stk.1,R3.stk.2,R3.ob,R3.gh⟩,hk⟩
  cases ex with
  |normal=>exact fin h3
  |ret=>exact fin h3
  |exit i=>cases h3
  |panic v=>cases h3
 |exit i=>cases h2
 |ret=>cases h2
 |panic v=>cases h2
theorem GhOk.withMu {F:Fra}{G:Gh}{w:World}(h:GhOk F G w)(m:Nat→Option Nat)(hm:∀key b,m key=some b→G.mu key=some b):GhOk { F with mu0:=m } G w:=
 ⟨h.mu,h.muI,h.ow,h.owI,h.sB,⟨h.fr.os,h.fr.tape,h.fr.output,h.fr.size,h.fr.block⟩,h.sub,h.sup,h.keep,hm,h.tab⟩
theorem GhOk.back {F:Fra}{G:Gh}{w:World}{m:Nat→Option Nat}(h:GhOk { F with mu0:=m } G w)(hm:∀key b,F.mu0 key=some b→G.mu key=some b):GhOk F G w:=
 ⟨h.mu,h.muI,h.ow,h.owI,h.sB,⟨h.fr.os,h.fr.tape,h.fr.output,h.fr.size,h.fr.block⟩,h.sub,h.sup,h.keep,hm,h.tab⟩
theorem Cq (htt:cm P tt)(hm:P.follows .mixedOrders=true){hd:Hd}(hh:lJ P hd){okDraw:Dr}(hdr:km P tt okDraw){f:Nat}{fn:Func}(hf:P.funcs[f]?=some fn)(hname:(fn.name == "runtime.NumGoroutine")=false)
  (io:Io) {kb2 kbG:Nat} (hkb2:io.obs.length≤kb2) (hkbG:kb2≤kbG) {i1:Nat} {ops1:Array Oper} (hb:fn.body=some (.seq (jb (bA fn)) (.seq (.region i1 ops1 false) (gE (gE (bA fn)))))) (he1:fI (jb (gE (bA fn)))=ops1) (hs1:List.range ops1.size=[0]++[1])
  {o1:Oper} {t:Nat} {aT:Array TypeId} (ho1:ops1[1]?=some o1) (hop1:o1.op=.defer { callee:=.value (.tmp t),args:=#[],argTypes:=aT }) (hg1:o1.guard=none) (hd1:o1.dst=none)
  {lp:Lp} (hl0:bD (li fn) (jb (bA fn)) (li fn) []=[]) (hlp:∀e∈bD (li fn) (gE (gE (bA fn))) (li fn) [],∀h,lp (cV e.2.1)=some h→tY P kb2 e.2.1 h)
  {g:Nat} {gfn:Func} {i2:Nat} {gops:Array Oper} {grest:Code} (hg:P.funcs[g]?=some gfn) (hgn:(gfn.name == "runtime.NumGoroutine")=false) (hgb:gfn.body=some (.seq (.region i2 gops false) grest)) (hge:fI (jb (bA gfn))=gops) (hgr:gE (bA gfn)=grest)
  (hls:List.range gops.size=0::(List.range gops.size).drop 1) {oo:Oper} (hoo:gops[0]?=some oo)
  (hop:oo.op=.call { callee:=.builtin .recover,args:=#[],argTypes:=#[] }) (hgd:oo.guard=none) (hres:gfn.results = #[]) (hl2:bD 0 grest 0 []=[])
  (Fn:io.In→Tr io.Res) (hF:∀d out,io.wf d→(Fn d).val=some out→io.runD tt hd okDraw lp kb2 kbG fn g gfn t d=some out):HcOk P f (ai io Fn):=by
 refine qY htt hf hname io Fn (fun d out hwf hout F G cst w vals R Rl hkb _ hend=>?_) (by rw[hb];rfl)
 have hrun:=hF d out hwf hout
 unfold Io.runD at hrun
 rw[he1,hge,hgr] at hrun
 have hfn:FnOk P g:=⟨gfn,hg,hgn,by rw[hgb];rfl⟩
 refine calls_of_wp_defers hf hb ?_
 refine wp_seq (fu htt hm hh hdr hkb _ (nk hl0) hrun Rl ?_)
 intro ex A1 G1 a1 w1 R1 hdf1 h1
 cases ex with
 |exit i=>cases h1
 |ret=>cases h1
 |panic v=>cases h1
 |normal=>
 show (Code.seq (.region i1 ops1 false) (gE (gE (bA fn)))).wp P _ a1 w1
 refine wp_seq (wp_region ?_)
 rw[hs1]
 refine qQ htt hh hkb [1] [0] h1 R1 ?_
 intro ex A2 G2 a2 w2 R2 hdf2 h2
 cases ex with
 |exit i=>cases h2
 |ret=>cases h2
 |panic v=>cases h2
 |normal=>
 simp only at h2
 split at h2
 rotate_left
 ·cases h2
 rename_i g' caps eg
 cases hgg:g' == g&&Qy kb2 caps with
 |false=>rw[hgg] at h2;cases h2
 |true=>
 rw[hgg] at h2
 simp only[cond_true] at h2
 simp only[zA,beq_iff_eq] at hgg
 obtain ⟨hgg,hcb⟩:=hgg
 subst hgg
 have hv:=R2.opd (.tmp t)
 rw[show opd A2 (.tmp t)=A2.get t from rfl,eg] at hv
 obtain ⟨vs,ev,hvs⟩:=hv
 simp only[pD,cond_false] at ev
 simp only[wpOps,ho1]
 rw[if_pos (by simp[Region.wanted,hg1])]
 refine .inl ?_
 have hrun1:(execOp a2.eval o1).run P w2=.ok (.defer { target:=.fn (.func g') vs,args:=#[] }) w2:=by
  simp[execOp,hop1,resolve,ev,Deferred.ofValue]
 unfold Oper.wp
 rw[hrun1]
 simp only[Oper.upon,hd1]
 have hinv:(invoke (.fn (.func g') vs) #[]).run P=fun w=>.ok (.enter g' vs) w:=by
  funext w
  simp[invoke,hfn.run]
 show (gE (gE (bA fn))).wp P (bodyPostD P fn R) ({ a2 with defers:=_::a2.defers }:Act) w2
 have hdf:a2.defers=[]:=hdf2.trans hdf1
 rw[hdf]
 let m:Nat→Option Nat:=fun key=>if key<kb2 then G2.mu key else none
 have hm0:∀key b,F.mu0 key=some b→m key=some b:=fun key b hb=>by
  have hlt:key<kb2:=by
   rcases Nat.lt_or_ge key io.obs.length with h | h
   ·omega
   ·have:=hkb (key - io.obs.length)
    rw[show io.obs.length+(key - io.obs.length)=key by omega,hb] at this
    cases this
  show (if key<kb2 then G2.mu key else none)=some b
  rw[if_pos hlt]
  exact R2.gh.fix_ key b hb
 have hmk:∀kb,kb2≤kb→∀d,({ F with mu0:=m }:Fra).mu0 (kb+d)=none:=fun kb hkb d=>by
  show (if kb+d<kb2 then G2.mu (kb+d) else none)=none
  rw[if_neg (by omega)]
 have R2':Rel { F with mu0:=m } G2 A2 a2.tmps cst w2:=⟨R2.tm,R2.stk,R2.ob,R2.gh.withMu m fun key b hb=>by
  have hb:(if key<kb2 then G2.mu key else none)=some b:=hb
  split at hb
  ·exact hb
  ·cases hb⟩
 refine fu htt hm hh hdr (hmk kb2 (Nat.le_refl _)) (lp:=lp) _ hlp h2 (a:={ a2 with defers:=[{ target:=.fn (.func g') vs,args:=#[] }] }) R2' ?_
 intro ex A3 G3 a3 w3 R3 hdf3 h3
 have hvs3:All2 (Rcp G3 w3) caps vs.toList:=hvs.mono fun c hc v hv=>by
  have hcc:=List.all_eq_true.1 hcb c hc
  cases c with
  |ptr key off=>
   obtain ⟨b,hb,e⟩:=hv
   have hlt:key<kb2:=by simpa using hcc
   exact ⟨b,R3.gh.fix_ key b (by show (if key<kb2 then G2.mu key else none)=some b;rw[if_pos hlt];exact hb),e⟩
  |dat t x=>cases hcc
 have leave:∀(rv:V) (u:FrameMode),u≠.run→((u=.returning∧rv=.one .nilif)∨∃uv,u=.panicking [{ v:=uv,recovered:=false }]∧Rv G3 w3 rv uv)→
   KQ tt hd okDraw kbG io fn gfn gops grest ((List.range gops.size).drop 1) caps rv A3=some out→Leaves P fn a3.tmps R a3.defers u w3:=by
  intro rv u hne hu h
  rw[hdf3]
  refine leaves_cons hne (by rw[hinv]) ?_
  refine (IO htt hm hh hdr hg hgb hls hoo hop hgd hres hl2 (hmk kbG hkbG) h R3 hvs3 hu).mono ?_
  rintro e u' w' ⟨rfl,hset,G',A',R',hfin⟩
  simp only
  rw[hset]
  exact hend .ret A' G' { tmps:=a3.tmps,defers:=[] } w' ⟨R'.tm,R'.stk,R'.ob,R'.gh.back fun key b hb=>R'.gh.fix_ key b (hm0 key b hb)⟩ hfin
 cases ex with
 |exit i=>cases h3
 |normal=>exact leave _ _ (by simp) (.inl ⟨rfl,rfl⟩) h3
 |ret=>exact leave _ _ (by simp) (.inl ⟨rfl,rfl⟩) h3
 |panic v=>exact fun uv huv=>leave _ _ (by simp) (.inr ⟨uv,rfl,huv⟩) h3
end
end
end Go.Proofs.YthpcdhgpplmneaaGreatDoor.Sym
namespace Go.Proofs.YthpcdhgpplmneaaGreatDoor.Sym
open Go
open Go.IntKind (i8 i16 i32 i64 u8 u16 u32 u64)
noncomputable section
abbrev tt:TT:=nB Tryz.prog 400
def dr:Dr:=oU (nB Tryz.prog 400)
def Tb:Dr:=AM (nB Tryz.prog 400)
theorem hm:Tryz.prog.follows .mixedOrders=true:=by kernel_rfl
abbrev prog:Program:=Tryz.prog
abbrev bs:Ty:=.sl 5 (.int .u8)
abbrev dL:Sh:=.dat bs false false
abbrev dO:Sh:=.dat bs false true
abbrev dI:Sh:=.dat (.int .i64) false false
abbrev dB:Sh:=.dat .bool false false
abbrev dU:Sh:=.dat (.int .u8) false false
theorem bN {k:IntKind}{n:Int}(h:bC k n):k.wrap n=n:=by
 unfold bC at h
 cases k <;> simp[IntKind.wrap,IntKind.min,IntKind.max,IntKind.signed,IntKind.bits] at * <;> (try split) <;> omega
theorem ae {n:Int}(h0 : -9223372036854775808≤n)(h:n≤9223372036854775807):IntKind.wrap .i64 n=n:=by
 apply bN
 simp[bC,IntKind.min,IntKind.max,IntKind.signed,IntKind.bits]
 omega
theorem aG:maxLen=9223372036854775807:=rfl
theorem bb {i n:Nat}(h:i<n)(hn:n≤maxLen):IntKind.wrap .i64 ((i:Int)+1)=((i+1:Nat):Int):=by
 rw[ae] <;> rw[aG] at hn <;> omega
theorem aa {α:Type}{c:Bool}(h:c=true)(a b:α):(bif c then a else b)=a:=by rw[h];rfl
theorem af {α:Type}{c:Bool}(h:c=false)(a b:α):(bif c then a else b)=b:=by rw[h];rfl
theorem aB {α:Type}{xs:List α}{i:Nat}{d:α}(h:i<xs.length):xs.getD i d=xs[i]:=by simp[List.getD,h]
theorem Tr.val_ret {α:Type}(a:α):(Tr.ret a).val=some a:=rfl
theorem Tr.val_no {α:Type}:(Tr.no:Tr α).val=none:=rfl
theorem Tr.val_ite {α:Type}(c:Bool)(t e:Tr α):(Tr.ite c t e).val=if c=true then t.val else e.val:=by cases c <;> rfl
theorem Tr.run_ret {α R:Type}(a:α)(K:α→Option R):(Tr.ret a).run K=K a:=rfl
theorem Tr.run_no {α R:Type}(K:α→Option R):(Tr.no:Tr α).run K=none:=rfl
theorem Tr.run_ite {α R:Type}(c:Bool)(t e:Tr α)(K:α→Option R):(Tr.ite c t e).run K=if c=true then t.run K else e.run K:=by cases c <;> rfl
theorem Tr.guard {α:Type}{c:Bool}{t:Tr α}{y:α}(h:(Tr.ite c t .no).val=some y):c=true∧t.val=some y:=by
 cases c with
 |true=>exact ⟨rfl,h⟩
 |false=>cases h
theorem au {i:Int}(h:0≤i):∃n:Nat,i=n:=⟨i.toNat,by omega⟩
theorem bQ {f:Nat}{cs:List (Nat×Hc)}(hcs:HcsOk prog cs){lp:Lp}{fn:Func}(io:Io)(hlp:LpsOk prog io.obs.length lp (DY fn) 0)(Fn:io.In→Tr io.Res)(hF:∀d out,io.wf d→(Fn d).val=some out→io.run (nB prog 400) (bB cs) (oU (nB prog 400)) lp fn d=some out)(hf:prog.funcs[f]?=some fn:=by kernel_rfl)(hname:(fn.name=="runtime.NumGoroutine")=false:=by kernel_rfl) (hbody:fn.body.isNone=false:=by kernel_rfl):HcOk prog f (ai io Fn):=Lq (n:=400) hm hcs hf hname hbody io hlp Fn hF
theorem fR {cs:List (Nat×Hc)}(hcs:HcsOk prog cs){lp:Lp}{kb:Nat}{fn:Func}{e:Le}(hsub:LpsOk prog kb lp (RC fn e) 0)(lo:Lo)(Fn:lo.st.den→Tr (ao lo.xs))(hF:∀d y,lo.st.wf d→(Fn d).val=some y→∃k,fH (nB prog 400) (bB cs) (oU (nB prog 400)) lp kb fn e k (lo.st.mk' d) (bo lo.xs)=some y):tY prog kb e.2.1 (aA lo Fn):=EW (n:=400) hm hcs hsub lo Fn hF
theorem bT {α:Type}{c:Bool}{a b r:α}(h:c=true)(k:a=r):(bif c then a else b)=r:=by rw[h];exact k
theorem bF {α:Type}{c:Bool}{a b r:α}(h:c=false)(k:b=r):(bif c then a else b)=r:=by rw[h];exact k
abbrev oR {α β:Type}(a:α):Option (Out α β):=some (.ret a)
abbrev hI:SC:=.hol (.int .i64)
abbrev hJ:SC:=.hol (.int .i32)
abbrev hK:SC:=.hol (.int .i16)
abbrev hL:SC:=.hol .bool
abbrev Tc:Int:=qe (co 131072 0) 1048576
abbrev jL:Io:=⟨[dL,dL],[],[],[dB],none⟩
def wG (d:jL.In):Tr jL.Res:=.ret (.ret ((decide (d.1.1=d.1.2.1),()),()))
abbrev EF:List (Nat×Hc):=[]
def Lv:Hd:=bB EF
abbrev fA:Lo:=⟨⟨(.one (.hol (.sl 5 (Ty.int u8)))::.one (.hol (.sl 5 (Ty.int u8)))::.any::bi (.one hI::ah (bv []))),[]⟩,[(.ret,⟨(bv (.one hL::.any::ah (bv []))),[]⟩),(.exit 0,⟨(ah (cN (bi []))),[]⟩)]⟩
def mW (d:fA.st.den):Tr (ao fA.xs):=
 .ite (decide (0≤d.1.2.2.1)&&decide (d.1.1.length=d.1.2.1.length)) (.ite (decide (d.1.1.drop d.1.2.2.1.toNat=d.1.2.1.drop d.1.2.2.1.toNat)) (.ret (.pan (.ret ((),((),()))))) (.ret (.ret ((),((false,()),()))))) .no
def AB:Lp:=bP [(5,aA fA mW)]
def o3 {R:Type}(h2 h3:LI)(h4:Int)(next:LI→LI→Int→Option R)(out:ao fA.xs→Option R):Option R:=bif decide (h4<(↑h2.length:Int)) then bif decide (0≤h4)&&decide (h4<(↑h2.length:Int)) then bif decide (0≤h4)&&decide (h4<(↑h3.length:Int)) then bif h2.getD h4.toNat 0 != h3.getD h4.toNat 0 then out (.ret ((),((false,()),()))) else next (h2) (h3) (i64.wrap (h4+1)) else none else none else out (.pan (.ret ((),((),()))))
def pJ (n:Nat)(h2 h3:LI)(h4:Int):Option (ao fA.xs):=fH tt Lv dr AB 0 Tryz.f22 (bI Tryz.f22 0) n (fA.st.mk' ((h2,(h3,(h4,()))),())) (bo fA.xs)
theorem Dx (n:Nat)(h2 h3:LI)(h4:Int):pJ (n+1) h2 h3 h4=o3 h2 h3 h4 (pJ n) some:=by kernel_rfl
theorem LW (xs ys:LI)(hl:xs.length=ys.length)(hb:xs.length≤maxLen):∀(k i:Nat),i≤xs.length→xs.length<i+k→
  pJ k xs ys (i:Int)=if xs.drop i=ys.drop i then some (.pan (.ret ((),((),())))) else some (.ret ((),((false,()),()))):=by
 intro k
 induction k with
 |zero=>intro i h h';omega
 |succ k ih=>
  intro i hi h
  rw[Dx]
  unfold o3
  by_cases h1:i<xs.length
  ·have h2:i<ys.length:=by omega
   rw[bb h1 hb,ih (i+1) h1 (by omega)]
   have e:(xs.drop i=ys.drop i)↔(xs[i]=ys[i]∧xs.drop (i+1)=ys.drop (i+1)):=by rw[zE h1,zE h2,List.cons.injEq]
   simp only[zG,aB h1,aB h2]
   by_cases he:xs[i]=ys[i] <;> simp[h1,h2,he,e,cond_eq_ite]
  ·rw[zI (by omega),zI (by omega)]
   simp[h1]
def BD (a0 a1:LI):Option jL.Res:=bif (↑a0.length:Int) != (↑a1.length:Int) then oR ((false,()),()) else (mW ((a0,(a1,(0,()))),())).run fun y=>match y with | .ret ((),((x9,()),()))=>(oR ((x9,()),())) | .pan (.ret ((),((),())))=>(oR ((true,()),()))
theorem PR (a0 a1:LI):Io.run tt Lv dr AB jL Tryz.f22 ((a0,a1,()),())=BD a0 a1:=by kernel_rfl
theorem AR:HcOk prog 22 (ai jL wG):=by
 refine bQ (cs:=EF) HcsOk.nil (lp:=AB) (fn:=Tryz.f22) jL
  (.step (h0:=aA fA mW) (by kernel_rfl) (fR (cs:=EF) HcsOk.nil (lp:=AB) (fn:=Tryz.f22) (.done (by kernel_rfl)) fA mW ?_) (.done (by kernel_rfl))) wG ?_
 ·rintro ⟨⟨xs,ys,i,⟨⟩⟩,⟨⟩⟩ y hw hy
  obtain ⟨hg,hy⟩:=Tr.guard hy
  simp only[zA,zB] at hg
  obtain ⟨n,rfl⟩:=au hg.1
  by_cases hn:n≤xs.length
  ·refine ⟨xs.length+1,(LW xs ys hg.2 hw.1.1.1 _ n hn (by omega)).trans ?_⟩
   rw[← hy]
   simp only[Tr.val_ite,zB,zG,Tr.val_ret]
  ·refine ⟨1,?_⟩
   show pJ (0+1) xs ys n=_
   rw[Dx,← hy]
   unfold o3
   have h1:¬ n<xs.length:=by omega
   simp[Tr.val_ite,Tr.val_ret,h1,zI (show xs.length≤n by omega),zI (show ys.length≤n by omega)]
 ·rintro ⟨⟨xs,ys,⟨⟩⟩,⟨⟩⟩ out hw ho
  refine (PR xs ys).trans ?_
  cases ho
  unfold BD
  by_cases hl:xs.length=ys.length
  ·by_cases he:xs=ys
   ·subst he;simp[mW,Tr.run]
   ·simp[mW,Tr.run,hl,he]
  ·have:xs≠ys:=fun e=>hl (by rw[e])
   have h2:(xs.length:Int)≠ys.length:=by omega
   simp[this,h2,cond_eq_ite]
theorem rK {R:Type}(it:Nat→LI→LI→Int→Option R)(out:LI→Option R)
  (h:∀n b o i,it (n+1) b o i=bif decide (i<(b.length:Int)) then bif decide (0≤i)&&decide (i<(b.length:Int)) then bif decide (o.length+[b.getD i.toNat 0].length≤4294967296) then it n b (o++[b.getD i.toNat 0]) (i64.wrap (i+1)) else none else none else out o)
  (b:LI) (hb:b.length≤maxLen):∀(k:Nat) (o:LI) (i:Nat),i≤b.length→b.length<i+k→o.length+(b.length - i)≤4294967296→it k b o i=out (o++b.drop i):=by
 intro k
 induction k with
 |zero=>intro o i h1 h2;omega
 |succ k ih=>
  intro o i h1 h2 h3
  rw[h]
  by_cases hi:i<b.length
  ·rw[bb hi hb,ih _ (i+1) hi (by omega) (by simp;omega),zE hi]
   simp only[zG,aB hi]
   have h4:o.length+1≤4294967296:=by omega
   simp[hi,h4]
  ·rw[zI (by omega)]
   simp[hi]
abbrev jK:Io:=⟨[dL],[],[],[dO],none⟩
def wF (d:jK.In):Tr jK.Res:=.ite (decide (d.1.1.length≤4294967296)) (.ret (.ret ((d.1.1,()),()))) .no
abbrev EE:List (Nat×Hc):=[]
def Lt:Hd:=bB EE
abbrev fz:Lo:=⟨⟨(.one (.hol (.sl 5 (Ty.int u8)))::bi (.one (.onl 5 (Ty.int u8) 7)::.one hI::.any::cN (bv (bi [])))),[]⟩,[(.exit 0,⟨(.any::bi (.one (.onl 5 (Ty.int u8) 7)::ah [])),[]⟩)]⟩
def o6 (d:fz.st.den):Tr (ao fz.xs):=
 .ite (decide (d.1.2.2.1=0)&&decide (d.1.2.1.length+d.1.1.length≤4294967296)) (.ret (.ret ((),((d.1.2.1++d.1.1,()),())))) .no
def AA:Lp:=bP [(4,aA fz o6)]
def FN {R:Type}(h1 h2:LI)(h3:Int)(next:LI→LI→Int→Option R)(out:ao fz.xs→Option R):Option R:=bif decide (h3<(↑h1.length:Int)) then bif decide (0≤h3)&&decide (h3<(↑h1.length:Int)) then bif decide (h2.length+[h1.getD h3.toNat 0].length≤4294967296) then next (h1) (h2++[h1.getD h3.toNat 0]) (i64.wrap (h3+1)) else none else none else out (.ret ((),((h2,()),())))
def vd (n:Nat)(h1 h2:LI)(h3:Int):Option (ao fz.xs):=fH tt Lt dr AA 0 Tryz.f21 (bI Tryz.f21 0) n (fz.st.mk' ((h1,(h2,(h3,()))),())) (bo fz.xs)
theorem NF (n:Nat)(h1 h2:LI)(h3:Int):vd (n+1) h1 h2 h3=FN h1 h2 h3 (vd n) some:=by kernel_rfl
def BC (a0:LI):Option jK.Res:=(o6 ((a0,([],(0,()))),())).run fun y=>match y with | .ret ((),((x8,()),()))=>(oR ((x8,()),()))
theorem PQ (a0:LI):Io.run tt Lt dr AA jK Tryz.f21 ((a0,()),())=BC a0:=by kernel_rfl
theorem AP:HcOk prog 21 (ai jK wF):=by
 refine bQ (cs:=EE) HcsOk.nil (lp:=AA) (fn:=Tryz.f21) jK
  (.step (h0:=aA fz o6) (by kernel_rfl) (fR (cs:=EE) HcsOk.nil (lp:=AA) (fn:=Tryz.f21) (.done (by kernel_rfl)) fz o6 ?_) (.done (by kernel_rfl))) wF ?_
 ·rintro ⟨⟨b,o,i,⟨⟩⟩,⟨⟩⟩ y hw hy
  obtain ⟨hg,hy⟩:=Tr.guard hy
  simp only[zA,zB] at hg
  obtain ⟨rfl,hl⟩:=hg
  refine ⟨b.length+1,(rK (fun k b o i=>vd k b o i) (fun o=>some (.ret ((),((o,()),())))) (fun n b o i=>NF n b o i) b hw.1.1.1 _ o 0 (by omega) (by omega) (by omega)).trans ?_⟩
  rw[← hy];rfl
 ·rintro ⟨⟨b,⟨⟩⟩,⟨⟩⟩ out hw ho
  obtain ⟨hg,ho⟩:=Tr.guard ho
  cases ho
  refine (PQ b).trans ?_
  simp only[zB] at hg
  unfold BC o6
  simp[Tr.run_ite,Tr.run_ret,hg]
abbrev lG:Io:=⟨[dL,dL],[],[],[dO],none⟩
def By (d:lG.In):Tr lG.Res:=.ite (decide (d.1.1.length+d.1.2.1.length≤4294967296)) (.ret (.ret ((d.1.1++d.1.2.1,()),()))) .no
abbrev Qz:List (Nat×Hc):=[(21,ai jK wF)]
def QD:Hd:=bB Qz
abbrev gQ:Lo:=⟨⟨(.any::.one (.hol (.sl 5 (Ty.int u8)))::.any::bi (.one (.onl 5 (Ty.int u8) 11)::.one hI::ah [])),[]⟩,[(.exit 0,⟨(.any::bv (.one (.onl 5 (Ty.int u8) 11)::.any::ah [])),[]⟩)]⟩
def tG (d:gQ.st.den):Tr (ao gQ.xs):=
 .ite (decide (d.1.2.2.1=0)&&decide (d.1.2.1.length+d.1.1.length≤4294967296)) (.ret (.ret ((),((d.1.2.1++d.1.1,()),())))) .no
def Hn:Lp:=bP [(4,aA gQ tG)]
def Kf {R:Type}(h2 h3:LI)(h4:Int)(next:LI→LI→Int→Option R)(out:ao gQ.xs→Option R):Option R:=bif decide (h4<(↑h2.length:Int)) then bif decide (0≤h4)&&decide (h4<(↑h2.length:Int)) then bif decide (h3.length+[h2.getD h4.toNat 0].length≤4294967296) then next (h2) (h3++[h2.getD h4.toNat 0]) (i64.wrap (h4+1)) else none else none else out (.ret ((),((h3,()),())))
def Ag (n:Nat)(h2 h3:LI)(h4:Int):Option (ao gQ.xs):=fH tt QD dr Hn 0 Tryz.f24 (bI Tryz.f24 0) n (gQ.st.mk' ((h2,(h3,(h4,()))),())) (bo gQ.xs)
theorem Qi (n:Nat)(h2 h3:LI)(h4:Int):Ag (n+1) h2 h3 h4=Kf h2 h3 h4 (Ag n) some:=by kernel_rfl
def F7 (a0 a1:LI):Option lG.Res:=bif decide (a0.length≤4294967296) then (tG ((a1,(a0,(0,()))),())).run fun y=>match y with | .ret ((),((x9,()),()))=>(oR ((x9,()),())) else none
theorem Ru (a0 a1:LI):Io.run tt QD dr Hn lG Tryz.f24 ((a0,a1,()),())=F7 a0 a1:=by kernel_rfl
theorem GX:HcsOk prog Qz:=.cons AP .nil
theorem yw:HcOk prog 24 (ai lG By):=by
 refine bQ GX (lp:=Hn) (fn:=Tryz.f24) lG
  (.step (h0:=aA gQ tG) (by kernel_rfl) (fR GX (lp:=Hn) (fn:=Tryz.f24) (.done (by kernel_rfl)) gQ tG ?_) (.done (by kernel_rfl))) By ?_
 ·rintro ⟨⟨b,o,i,⟨⟩⟩,⟨⟩⟩ y hw hy
  obtain ⟨hg,hy⟩:=Tr.guard hy
  simp only[zA,zB] at hg
  obtain ⟨rfl,hl⟩:=hg
  refine ⟨b.length+1,(rK (fun k b o i=>Ag k b o i) (fun o=>some (.ret ((),((o,()),())))) (fun n b o i=>Qi n b o i) b hw.1.1.1 _ o 0 (by omega) (by omega) (by omega)).trans ?_⟩
  rw[← hy];rfl
 ·rintro ⟨⟨a,b,⟨⟩⟩,⟨⟩⟩ out hw ho
  obtain ⟨hg,ho⟩:=Tr.guard ho
  cases ho
  refine (Ru a b).trans ?_
  simp only[zB] at hg
  have hg:a.length+b.length≤4294967296:=hg
  have h1:a.length≤4294967296:=by omega
  unfold F7 tG
  simp[Tr.run_ite,Tr.run_ret,hg,h1]
abbrev gL:Io:=⟨[dL,dI,dI],[],[],[dO],none⟩
def tH (d:gL.In):Tr gL.Res:=.ite (decide (d.1.1.length≤4294967296)) (.ret (.ret ((((d.1.1.take d.1.2.2.1.toNat).drop d.1.2.1.toNat),()),()))) .no
abbrev zx:List (Nat×Hc):=[]
def GY:Hd:=bB zx
abbrev dK:Lo:=⟨⟨(.one (.hol (.sl 5 (Ty.int u8)))::.any::.one hI::bv (.one (.onl 5 (Ty.int u8) 15)::.one hI::.any::ah (bv (bi [])))),[]⟩,[(.exit 0,⟨(.any::bv (bi (.one (.onl 5 (Ty.int u8) 15)::ah (cN [])))),[]⟩)]⟩
def jV (d:dK.st.den):Tr (ao dK.xs):=
 .ite (decide (0≤d.1.2.2.2.1)&&decide (d.1.2.2.1.length+d.1.1.length≤4294967296)) (.ret (.ret ((),((d.1.2.2.1++(d.1.1.take d.1.2.1.toNat).drop d.1.2.2.2.1.toNat,()),())))) .no
def tc:Lp:=bP [(6,aA dK jV)]
def sr {R:Type}(h3:LI)(h4:Int)(h5:LI)(h6:Int)(next:LI→Int→LI→Int→Option R)(out:ao dK.xs→Option R):Option R:=bif decide (h6<(↑h3.length:Int)) then bif decide (h6<h4) then bif decide (0≤h6)&&decide (h6<(↑h3.length:Int)) then bif decide (h5.length+[h3.getD h6.toNat 0].length≤4294967296) then next (h3) (h4) (h5++[h3.getD h6.toNat 0]) (i64.wrap (h6+1)) else none else none else out (.ret ((),((h5,()),()))) else out (.ret ((),((h5,()),())))
def q7 (n:Nat)(h3:LI)(h4:Int)(h5:LI)(h6:Int):Option (ao dK.xs):=fH tt GY dr tc 0 Tryz.f23 (bI Tryz.f23 0) n (dK.st.mk' ((h3,(h4,(h5,(h6,())))),())) (bo dK.xs)
theorem JQ (n:Nat)(h3:LI)(h4:Int)(h5:LI)(h6:Int):q7 (n+1) h3 h4 h5 h6=sr h3 h4 h5 h6 (q7 n) some:=by kernel_rfl
theorem I5 (b:LI)(hi:Int)(hb:b.length≤maxLen):∀(k:Nat) (o:LI) (i:Nat),b.length<i+k→o.length+(b.length - i)≤4294967296→0<k→
  q7 k b hi o i=some (.ret ((),((o++(b.take hi.toNat).drop i,()),()))):=by
 intro k
 induction k with
 |zero=>intro o i _ _ h;omega
 |succ k ih=>
  intro o i h1 h2 _
  rw[JQ]
  unfold sr
  by_cases hl:i<b.length
  ·by_cases hh:(i:Int)<hi
   ·rw[bb hl hb,ih _ (i+1) (by omega) (by simp;omega) (by omega)]
    have hlt:i<(b.take hi.toNat).length:=by simp;omega
    rw[zE hlt]
    simp only[zG,aB hl,List.getElem_take]
    have h4:o.length+1≤4294967296:=by omega
    simp[hl,hh,h4]
   ·rw[zI (by simp;omega)]
    simp[hl,hh]
  ·rw[zI (by simp;omega)]
   simp[hl]
def wO (a0:LI)(a1 a2:Int):Option gL.Res:=bif decide (a1<0) then (jV ((a0,(a2,([],(0,())))),())).run fun y=>match y with | .ret ((),((x13,()),()))=>(oR ((x13,()),())) else (jV ((a0,(a2,([],(a1,())))),())).run fun y=>match y with | .ret ((),((x18,()),()))=>(oR ((x18,()),()))
theorem MQ (a0:LI)(a1 a2:Int):Io.run tt GY dr tc gL Tryz.f23 ((a0,a1,a2,()),())=wO a0 a1 a2:=by kernel_rfl
theorem AQ:HcOk prog 23 (ai gL tH):=by
 refine bQ (cs:=zx) HcsOk.nil (lp:=tc) (fn:=Tryz.f23) gL
  (.step (h0:=aA dK jV) (by kernel_rfl) (fR (cs:=zx) HcsOk.nil (lp:=tc) (fn:=Tryz.f23) (.done (by kernel_rfl)) dK jV ?_) (.done (by kernel_rfl))) tH ?_
 ·rintro ⟨⟨b,hi,o,i,⟨⟩⟩,⟨⟩⟩ y hw hy
  obtain ⟨hg,hy⟩:=Tr.guard hy
  simp only[zA,zB] at hg
  obtain ⟨n,rfl⟩:=au hg.1
  refine ⟨b.length+1,(I5 b hi hw.1.1.1 _ o n (by omega) (by have:=hg.2;omega) (by omega)).trans ?_⟩
  rw[← hy];rfl
 ·rintro ⟨⟨(b:LI),(lo:Int),(hi:Int),⟨⟩⟩,⟨⟩⟩ out hw ho
  obtain ⟨hg,ho⟩:=Tr.guard ho
  cases ho
  refine (MQ b lo hi).trans ?_
  simp only[zB] at hg
  have hg:b.length≤4294967296:=hg
  unfold wO jV
  by_cases h0:lo<0
  ·have:lo.toNat=0:=by omega
   simp[Tr.run_ite,Tr.run_ret,hg,h0,this]
  ·have h1:0≤lo:=by omega
   simp[Tr.run_ite,Tr.run_ret,hg,h0,h1]
abbrev mh:Io:=⟨[dL],[],[],[dO],none⟩
def eN:LI:=(List.range 96).map fun i=>((i*7+13:Nat):Int) % 256
def FV (d:mh.In):Tr mh.Res:=.ite (decide (d.1.1.length≤4294967000)) (.ret (.ret ((d.1.1++eN,()),()))) .no
abbrev KS:List (Nat×Hc):=[(21,ai jK wF)]
def Lw:Hd:=bB KS
abbrev fB:Lo:=⟨⟨(.any::bi (.one (.onl 5 (Ty.int u8) 7)::.one hI::cN (bv (bi [])))),[]⟩,[(.exit 0,⟨(.any::bi (.one (.onl 5 (Ty.int u8) 7)::.any::cN (bv (bi [])))),[]⟩)]⟩
def o7 (d:fB.st.den):Tr (ao fB.xs):=
 .ite (decide (d.1.2.1=0)&&decide (d.1.1.length≤4294967000)) (.ret (.ret ((),((d.1.1++eN,()),())))) .no
def AC:Lp:=bP [(4,aA fB o7)]
def wb {R:Type}(h1:LI)(h2:Int)(next:LI→Int→Option R)(out:ao fB.xs→Option R):Option R:=bif decide (h2<96) then bif decide (h1.length+[u8.wrap (i64.wrap (i64.wrap (h2*7)+13))].length≤4294967296) then next (h1++[u8.wrap (i64.wrap (i64.wrap (h2*7)+13))]) (i64.wrap (h2+1)) else none else out (.ret ((),((h1,()),())))
def ve (n:Nat)(h1:LI)(h2:Int):Option (ao fB.xs):=fH tt Lw dr AC 0 Tryz.f13 (bI Tryz.f13 0) n (fB.st.mk' ((h1,(h2,())),())) (bo fB.xs)
theorem NG (n:Nat)(h1:LI)(h2:Int):ve (n+1) h1 h2=wb h1 h2 (ve n) some:=by kernel_rfl
theorem LX:∀(k:Nat) (o:LI) (i:Nat),96<i+k→i≤96→o.length+(96 - i)≤4294967296→
  ve k o i=some (.ret ((),((o++eN.drop i,()),()))):=by
 intro k
 induction k with
 |zero=>intro o i _ _ h;omega
 |succ k ih=>
  intro o i h1 h2 h3
  rw[NG]
  unfold wb
  by_cases hl:i<96
  ·have hlen:eN.length=96:=by simp[eN]
   rw[bb hl (by rw[aG];omega),ih _ (i+1) (by omega) (by omega) (by simp;omega)]
   rw[zE (show i<eN.length by omega)]
   have e1:i64.wrap ((i:Int)*7)=(i:Int)*7:=by rw[ae] <;> omega
   have e2:i64.wrap ((i:Int)*7+13)=(i:Int)*7+13:=by rw[ae] <;> omega
   have e3:u8.wrap ((i:Int)*7+13)=eN[i]'(by omega):=by
    simp[IntKind.wrap,IntKind.signed,IntKind.bits,eN]
   rw[e1,e2,e3]
   have h4:o.length+1≤4294967296:=by omega
   have h5:(i:Int)<96:=by omega
   simp[h5,h4]
  ·have hlen:eN.length=96:=by simp[eN]
   rw[zI (by omega)]
   have h5:¬(i:Int)<96:=by omega
   simp[h5]
def BE (a0:LI):Option mh.Res:=bif decide (a0.length≤4294967296) then (o7 ((a0,(0,())),())).run fun y=>match y with | .ret ((),((x6,()),()))=>(oR ((x6,()),())) else none
theorem PS (a0:LI):Io.run tt Lw dr AC mh Tryz.f13 ((a0,()),())=BE a0:=by kernel_rfl
theorem Cw:HcsOk prog KS:=.cons AP .nil
theorem okWide:HcOk prog 13 (ai mh FV):=by
 refine bQ Cw (lp:=AC) (fn:=Tryz.f13) mh
  (.step (h0:=aA fB o7) (by kernel_rfl) (fR Cw (lp:=AC) (fn:=Tryz.f13) (.done (by kernel_rfl)) fB o7 ?_) (.done (by kernel_rfl))) FV ?_
 ·rintro ⟨⟨o,i,⟨⟩⟩,⟨⟩⟩ y hw hy
  obtain ⟨hg,hy⟩:=Tr.guard hy
  simp only[zA,zB] at hg
  obtain ⟨rfl,hl⟩:=hg
  refine ⟨97,(LX _ o 0 (by omega) (by omega) (by omega)).trans ?_⟩
  rw[← hy];rfl
 ·rintro ⟨⟨b,⟨⟩⟩,⟨⟩⟩ out hw ho
  obtain ⟨hg,ho⟩:=Tr.guard ho
  cases ho
  refine (PS b).trans ?_
  simp only[zB] at hg
  have hg:b.length≤4294967000:=hg
  have h1:b.length≤4294967296:=by omega
  unfold BE o7
  simp[Tr.run_ite,Tr.run_ret,hg,h1]
abbrev iu:Io:=⟨[dL,dL],[],[],[dB],none⟩
def yL (d:iu.In):Tr iu.Res:=.ite (decide (d.1.2.1.length≤4294967000)) (.ret (.ret ((decide (d.1.1=d.1.2.1++eN),()),()))) .no
abbrev B0:List (Nat×Hc):=[(13,ai mh FV),(22,ai jL wG)]
def Lu:Hd:=bB B0
def C3:Lp:=bP []
def ue (a0 a1:LI):Option iu.Res:=bif decide (a1.length≤4294967000) then oR ((decide (a0=a1++eN),()),()) else none
theorem Jp (a0 a1:LI):Io.run tt Lu dr C3 iu Tryz.f16 ((a0,a1,()),())=ue a0 a1:=by kernel_rfl
theorem Ml:HcOk prog 16 (ai iu yL):=by
 refine bQ (cs:=B0) (.cons okWide (.cons AR .nil)) (lp:=C3) (fn:=Tryz.f16) iu (.done (by kernel_rfl)) yL ?_
 rintro ⟨⟨a,b,⟨⟩⟩,⟨⟩⟩ out hw ho
 obtain ⟨hg,ho⟩:=Tr.guard ho
 cases ho
 refine (Jp a b).trans ?_
 unfold ue
 simp only[zB] at hg
 have hg:b.length≤4294967000:=hg
 simp[hg]
end
end Go.Proofs.YthpcdhgpplmneaaGreatDoor.Sym
namespace Go.Proofs.YthpcdhgpplmneaaGreatDoor.Sym
open Go
noncomputable section
def be (b:LI)(p lo hi:Int):Bool:=decide (p<(b.length:Int))&&(decide (lo≤b.getD p.toNat 0)&&decide (b.getD p.toNat 0≤hi))
abbrev f8:Io:=⟨[dL,dI,dU,dU],[],[],[dB],none⟩
def tQ (d:f8.In):Tr f8.Res:=.ite (decide ((0:Int)≤d.1.2.1)) (.ret (.ret ((be d.1.1 d.1.2.1 d.1.2.2.1 d.1.2.2.2.1,()),()))) .no
abbrev xM:List (Nat×Hc):=[]
def IW:Hd:=bB xM
def yn:Lp:=bP []
def rR (a0:LI)(a1 a2 a3:Int):Option f8.Res:=bif decide (a1<(↑a0.length:Int)) then bif decide (0≤a1)&&decide (a1<(↑a0.length:Int)) then bif decide (a2≤a0.getD a1.toNat 0) then bif decide (0≤a1)&&decide (a1<(↑a0.length:Int)) then oR ((decide (a0.getD a1.toNat 0≤a3),()),()) else none else oR ((false,()),()) else none else oR ((false,()),())
theorem Fe (a0:LI)(a1 a2 a3:Int):Io.run tt IW dr yn f8 Tryz.f186 ((a0,a1,a2,a3,()),())=rR a0 a1 a2 a3:=by kernel_rfl
theorem Jg:HcOk prog 186 (ai f8 tQ):=by
 refine bQ (cs:=xM) HcsOk.nil (lp:=yn) (fn:=Tryz.f186) f8 (.done (by kernel_rfl)) tQ ?_
 rintro ⟨⟨(b:LI),(p:Int),(lo:Int),(hi:Int),⟨⟩⟩,⟨⟩⟩ out hw ho
 obtain ⟨hg,ho⟩:=Tr.guard ho
 cases ho
 refine (Fe b p lo hi).trans ?_
 have hg:(0:Int)≤p:=by simpa using hg
 unfold rR
 show _=oR ((be b p lo hi,()),())
 unfold be
 generalize b.getD p.toNat 0=c
 by_cases h1:p<(b.length:Int)
 ·by_cases h2:lo≤c
  ·simp[hg,h1,h2]
  ·simp[hg,h1,h2]
 ·simp[h1]
end
end Go.Proofs.YthpcdhgpplmneaaGreatDoor.Sym
namespace Go.Proofs.YthpcdhgpplmneaaGreatDoor.Sym
open Go
open Go.IntKind (i8 i16 i32 i64 u8 u16 u32 u64)
noncomputable section
def iW (c:Int):Int:=if c=240 then 144 else if c=224 then 160 else 128
def iU (c:Int):Int:=if c=244 then 143 else if c=237 then 159 else 191
def dm (b:LI)(p:Int):Int:=
 if p<0∨(b.length:Int)≤p then 0
 else if b.getD p.toNat 0<128 then 1
 else if b.getD p.toNat 0<194∨244<b.getD p.toNat 0∨be b (p+1) (iW (b.getD p.toNat 0)) (iU (b.getD p.toNat 0))=false then 0
 else if b.getD p.toNat 0<224 then 2
 else if be b (p+2) 128 191=false then 0
 else if b.getD p.toNat 0<240 then 3
 else if be b (p+3) 128 191=false then 0
 else 4
abbrev jl:Io:=⟨[dL,dI],[],[],[dI],none⟩
def Ej (d:jl.In):Tr jl.Res:=.ret (.ret ((dm d.1.1 d.1.2.1,()),()))
abbrev Gt:List (Nat×Hc):=[(186,ai f8 tQ)]
def OR:Hd:=bB Gt
def HB:Lp:=bP []
def xj (a0:LI)(a1:Int):Option jl.Res:=bif decide (a1<0) then oR ((0,()),()) else bif decide ((↑a0.length:Int)≤a1) then oR ((0,()),()) else bif decide (0≤a1)&&decide (a1<(↑a0.length:Int)) then bif decide (a0.getD a1.toNat 0<128) then oR ((1,()),()) else bif a0.getD a1.toNat 0 == 224 then bif a0.getD a1.toNat 0 == 237 then bif a0.getD a1.toNat 0 == 240 then bif a0.getD a1.toNat 0 == 244 then bif decide (a0.getD a1.toNat 0<194) then oR ((0,()),()) else bif decide (244<a0.getD a1.toNat 0) then oR ((0,()),()) else bif decide (0≤i64.wrap (a1+1)) then bif !be a0 (i64.wrap (a1+1)) 144 143 then oR ((0,()),()) else bif decide (a0.getD a1.toNat 0<224) then oR ((2,()),()) else bif decide (0≤i64.wrap (a1+2)) then bif !be a0 (i64.wrap (a1+2)) 128 191 then oR ((0,()),()) else bif decide (a0.getD a1.toNat 0<240) then oR ((3,()),()) else bif decide (0≤i64.wrap (a1+3)) then bif !be a0 (i64.wrap (a1+3)) 128 191 then oR ((0,()),()) else oR ((4,()),()) else none else none else none else bif decide (a0.getD a1.toNat 0<194) then oR ((0,()),()) else bif decide (244<a0.getD a1.toNat 0) then oR ((0,()),()) else bif decide (0≤i64.wrap (a1+1)) then bif !be a0 (i64.wrap (a1+1)) 144 159 then oR ((0,()),()) else bif decide (a0.getD a1.toNat 0<224) then oR ((2,()),()) else bif decide (0≤i64.wrap (a1+2)) then bif !be a0 (i64.wrap (a1+2)) 128 191 then oR ((0,()),()) else bif decide (a0.getD a1.toNat 0<240) then oR ((3,()),()) else bif decide (0≤i64.wrap (a1+3)) then bif !be a0 (i64.wrap (a1+3)) 128 191 then oR ((0,()),()) else oR ((4,()),()) else none else none else none else bif a0.getD a1.toNat 0 == 244 then bif decide (a0.getD a1.toNat 0<194) then oR ((0,()),()) else bif decide (244<a0.getD a1.toNat 0) then oR ((0,()),()) else bif decide (0≤i64.wrap (a1+1)) then bif !be a0 (i64.wrap (a1+1)) 160 143 then oR ((0,()),()) else bif decide (a0.getD a1.toNat 0<224) then oR ((2,()),()) else bif decide (0≤i64.wrap (a1+2)) then bif !be a0 (i64.wrap (a1+2)) 128 191 then oR ((0,()),()) else bif decide (a0.getD a1.toNat 0<240) then oR ((3,()),()) else bif decide (0≤i64.wrap (a1+3)) then bif !be a0 (i64.wrap (a1+3)) 128 191 then oR ((0,()),()) else oR ((4,()),()) else none else none else none else bif decide (a0.getD a1.toNat 0<194) then oR ((0,()),()) else bif decide (244<a0.getD a1.toNat 0) then oR ((0,()),()) else bif decide (0≤i64.wrap (a1+1)) then bif !be a0 (i64.wrap (a1+1)) 160 159 then oR ((0,()),()) else bif decide (a0.getD a1.toNat 0<224) then oR ((2,()),()) else bif decide (0≤i64.wrap (a1+2)) then bif !be a0 (i64.wrap (a1+2)) 128 191 then oR ((0,()),()) else bif decide (a0.getD a1.toNat 0<240) then oR ((3,()),()) else bif decide (0≤i64.wrap (a1+3)) then bif !be a0 (i64.wrap (a1+3)) 128 191 then oR ((0,()),()) else oR ((4,()),()) else none else none else none else bif a0.getD a1.toNat 0 == 240 then bif a0.getD a1.toNat 0 == 244 then bif decide (a0.getD a1.toNat 0<194) then oR ((0,()),()) else bif decide (244<a0.getD a1.toNat 0) then oR ((0,()),()) else bif decide (0≤i64.wrap (a1+1)) then bif !be a0 (i64.wrap (a1+1)) 144 143 then oR ((0,()),()) else bif decide (a0.getD a1.toNat 0<224) then oR ((2,()),()) else bif decide (0≤i64.wrap (a1+2)) then bif !be a0 (i64.wrap (a1+2)) 128 191 then oR ((0,()),()) else bif decide (a0.getD a1.toNat 0<240) then oR ((3,()),()) else bif decide (0≤i64.wrap (a1+3)) then bif !be a0 (i64.wrap (a1+3)) 128 191 then oR ((0,()),()) else oR ((4,()),()) else none else none else none else bif decide (a0.getD a1.toNat 0<194) then oR ((0,()),()) else bif decide (244<a0.getD a1.toNat 0) then oR ((0,()),()) else bif decide (0≤i64.wrap (a1+1)) then bif !be a0 (i64.wrap (a1+1)) 144 191 then oR ((0,()),()) else bif decide (a0.getD a1.toNat 0<224) then oR ((2,()),()) else bif decide (0≤i64.wrap (a1+2)) then bif !be a0 (i64.wrap (a1+2)) 128 191 then oR ((0,()),()) else bif decide (a0.getD a1.toNat 0<240) then oR ((3,()),()) else bif decide (0≤i64.wrap (a1+3)) then bif !be a0 (i64.wrap (a1+3)) 128 191 then oR ((0,()),()) else oR ((4,()),()) else none else none else none else bif a0.getD a1.toNat 0 == 244 then bif decide (a0.getD a1.toNat 0<194) then oR ((0,()),()) else bif decide (244<a0.getD a1.toNat 0) then oR ((0,()),()) else bif decide (0≤i64.wrap (a1+1)) then bif !be a0 (i64.wrap (a1+1)) 160 143 then oR ((0,()),()) else bif decide (a0.getD a1.toNat 0<224) then oR ((2,()),()) else bif decide (0≤i64.wrap (a1+2)) then bif !be a0 (i64.wrap (a1+2)) 128 191 then oR ((0,()),()) else bif decide (a0.getD a1.toNat 0<240) then oR ((3,()),()) else bif decide (0≤i64.wrap (a1+3)) then bif !be a0 (i64.wrap (a1+3)) 128 191 then oR ((0,()),()) else oR ((4,()),()) else none else none else none else bif decide (a0.getD a1.toNat 0<194) then oR ((0,()),()) else bif decide (244<a0.getD a1.toNat 0) then oR ((0,()),()) else bif decide (0≤i64.wrap (a1+1)) then bif !be a0 (i64.wrap (a1+1)) 160 191 then oR ((0,()),()) else bif decide (a0.getD a1.toNat 0<224) then oR ((2,()),()) else bif decide (0≤i64.wrap (a1+2)) then bif !be a0 (i64.wrap (a1+2)) 128 191 then oR ((0,()),()) else bif decide (a0.getD a1.toNat 0<240) then oR ((3,()),()) else bif decide (0≤i64.wrap (a1+3)) then bif !be a0 (i64.wrap (a1+3)) 128 191 then oR ((0,()),()) else oR ((4,()),()) else none else none else none else bif a0.getD a1.toNat 0 == 237 then bif a0.getD a1.toNat 0 == 240 then bif a0.getD a1.toNat 0 == 244 then bif decide (a0.getD a1.toNat 0<194) then oR ((0,()),()) else bif decide (244<a0.getD a1.toNat 0) then oR ((0,()),()) else bif decide (0≤i64.wrap (a1+1)) then bif !be a0 (i64.wrap (a1+1)) 144 143 then oR ((0,()),()) else bif decide (a0.getD a1.toNat 0<224) then oR ((2,()),()) else bif decide (0≤i64.wrap (a1+2)) then bif !be a0 (i64.wrap (a1+2)) 128 191 then oR ((0,()),()) else bif decide (a0.getD a1.toNat 0<240) then oR ((3,()),()) else bif decide (0≤i64.wrap (a1+3)) then bif !be a0 (i64.wrap (a1+3)) 128 191 then oR ((0,()),()) else oR ((4,()),()) else none else none else none else bif decide (a0.getD a1.toNat 0<194) then oR ((0,()),()) else bif decide (244<a0.getD a1.toNat 0) then oR ((0,()),()) else bif decide (0≤i64.wrap (a1+1)) then bif !be a0 (i64.wrap (a1+1)) 144 159 then oR ((0,()),()) else bif decide (a0.getD a1.toNat 0<224) then oR ((2,()),()) else bif decide (0≤i64.wrap (a1+2)) then bif !be a0 (i64.wrap (a1+2)) 128 191 then oR ((0,()),()) else bif decide (a0.getD a1.toNat 0<240) then oR ((3,()),()) else bif decide (0≤i64.wrap (a1+3)) then bif !be a0 (i64.wrap (a1+3)) 128 191 then oR ((0,()),()) else oR ((4,()),()) else none else none else none else bif a0.getD a1.toNat 0 == 244 then bif decide (a0.getD a1.toNat 0<194) then oR ((0,()),()) else bif decide (244<a0.getD a1.toNat 0) then oR ((0,()),()) else bif decide (0≤i64.wrap (a1+1)) then bif !be a0 (i64.wrap (a1+1)) 128 143 then oR ((0,()),()) else bif decide (a0.getD a1.toNat 0<224) then oR ((2,()),()) else bif decide (0≤i64.wrap (a1+2)) then bif !be a0 (i64.wrap (a1+2)) 128 191 then oR ((0,()),()) else bif decide (a0.getD a1.toNat 0<240) then oR ((3,()),()) else bif decide (0≤i64.wrap (a1+3)) then bif !be a0 (i64.wrap (a1+3)) 128 191 then oR ((0,()),()) else oR ((4,()),()) else none else none else none else bif decide (a0.getD a1.toNat 0<194) then oR ((0,()),()) else bif decide (244<a0.getD a1.toNat 0) then oR ((0,()),()) else bif decide (0≤i64.wrap (a1+1)) then bif !be a0 (i64.wrap (a1+1)) 128 159 then oR ((0,()),()) else bif decide (a0.getD a1.toNat 0<224) then oR ((2,()),()) else bif decide (0≤i64.wrap (a1+2)) then bif !be a0 (i64.wrap (a1+2)) 128 191 then oR ((0,()),()) else bif decide (a0.getD a1.toNat 0<240) then oR ((3,()),()) else bif decide (0≤i64.wrap (a1+3)) then bif !be a0 (i64.wrap (a1+3)) 128 191 then oR ((0,()),()) else oR ((4,()),()) else none else none else none else bif a0.getD a1.toNat 0 == 240 then bif a0.getD a1.toNat 0 == 244 then bif decide (a0.getD a1.toNat 0<194) then oR ((0,()),()) else bif decide (244<a0.getD a1.toNat 0) then oR ((0,()),()) else bif decide (0≤i64.wrap (a1+1)) then bif !be a0 (i64.wrap (a1+1)) 144 143 then oR ((0,()),()) else bif decide (a0.getD a1.toNat 0<224) then oR ((2,()),()) else bif decide (0≤i64.wrap (a1+2)) then bif !be a0 (i64.wrap (a1+2)) 128 191 then oR ((0,()),()) else bif decide (a0.getD a1.toNat 0<240) then oR ((3,()),()) else bif decide (0≤i64.wrap (a1+3)) then bif !be a0 (i64.wrap (a1+3)) 128 191 then oR ((0,()),()) else oR ((4,()),()) else none else none else none else bif decide (a0.getD a1.toNat 0<194) then oR ((0,()),()) else bif decide (244<a0.getD a1.toNat 0) then oR ((0,()),()) else bif decide (0≤i64.wrap (a1+1)) then bif !be a0 (i64.wrap (a1+1)) 144 191 then oR ((0,()),()) else bif decide (a0.getD a1.toNat 0<224) then oR ((2,()),()) else bif decide (0≤i64.wrap (a1+2)) then bif !be a0 (i64.wrap (a1+2)) 128 191 then oR ((0,()),()) else bif decide (a0.getD a1.toNat 0<240) then oR ((3,()),()) else bif decide (0≤i64.wrap (a1+3)) then bif !be a0 (i64.wrap (a1+3)) 128 191 then oR ((0,()),()) else oR ((4,()),()) else none else none else none else bif a0.getD a1.toNat 0 == 244 then bif decide (a0.getD a1.toNat 0<194) then oR ((0,()),()) else bif decide (244<a0.getD a1.toNat 0) then oR ((0,()),()) else bif decide (0≤i64.wrap (a1+1)) then bif !be a0 (i64.wrap (a1+1)) 128 143 then oR ((0,()),()) else bif decide (a0.getD a1.toNat 0<224) then oR ((2,()),()) else bif decide (0≤i64.wrap (a1+2)) then bif !be a0 (i64.wrap (a1+2)) 128 191 then oR ((0,()),()) else bif decide (a0.getD a1.toNat 0<240) then oR ((3,()),()) else bif decide (0≤i64.wrap (a1+3)) then bif !be a0 (i64.wrap (a1+3)) 128 191 then oR ((0,()),()) else oR ((4,()),()) else none else none else none else bif decide (a0.getD a1.toNat 0<194) then oR ((0,()),()) else bif decide (244<a0.getD a1.toNat 0) then oR ((0,()),()) else bif decide (0≤i64.wrap (a1+1)) then bif !be a0 (i64.wrap (a1+1)) 128 191 then oR ((0,()),()) else bif decide (a0.getD a1.toNat 0<224) then oR ((2,()),()) else bif decide (0≤i64.wrap (a1+2)) then bif !be a0 (i64.wrap (a1+2)) 128 191 then oR ((0,()),()) else bif decide (a0.getD a1.toNat 0<240) then oR ((3,()),()) else bif decide (0≤i64.wrap (a1+3)) then bif !be a0 (i64.wrap (a1+3)) 128 191 then oR ((0,()),()) else oR ((4,()),()) else none else none else none else none
theorem Nc (a0:LI)(a1:Int):Io.run tt OR dr HB jl Tryz.f183 ((a0,a1,()),())=xj a0 a1:=by kernel_rfl
theorem qd {b:LI}{p lo hi:Int}(h:be b p lo hi=true):p<(b.length:Int):=by
 simp only[be,zA,zB] at h
 exact h.1
def ED (b:LI)(p c lo hi:Int):Option jl.Res:=
 bif decide (c<194) then oR ((0,()),()) else bif decide (244<c) then oR ((0,()),()) else bif decide (0≤p+1) then bif !be b (p+1) lo hi then oR ((0,()),())
  else bif decide (c<224) then oR ((2,()),()) else bif decide (0≤i64.wrap (p+2)) then bif !be b (i64.wrap (p+2)) 128 191 then oR ((0,()),())
  else bif decide (c<240) then oR ((3,()),()) else bif decide (0≤i64.wrap (p+3)) then bif !be b (i64.wrap (p+3)) 128 191 then oR ((0,()),()) else oR ((4,()),()) else none else none else none
theorem IM {b:LI}{p c lo hi:Int}(hp:0≤p)(hb:(b.length:Int)≤9223372036854775807):ED b p c lo hi=oR ((if c<194∨244<c∨be b (p+1) lo hi=false then 0 else if c<224 then 2 else if be b (p+2) 128 191=false then 0 else if c<240 then 3 else if be b (p+3) 128 191=false then 0 else 4,()),()):=by
 unfold ED
 by_cases d2:c<194
 ·simp[d2]
 by_cases d3:244<c
 ·simp[d2,d3]
 rw[af (by simpa using d2),af (by simpa using d3),aa (by simp;omega)]
 cases a1:be b (p+1) lo hi with
 |false=>simp
 |true=>
  have h1:=qd a1
  have e2:i64.wrap (p+2)=p+2:=by rw[ae] <;> omega
  rw[e2]
  by_cases d4:c<224
  ·simp[d2,d3,d4]
  rw[af (by rfl),af (by simpa using d4),aa (by simp;omega)]
  cases a2:be b (p+2) 128 191 with
  |false=>simp[d2,d3,d4]
  |true=>
   have h2:=qd a2
   have e3:i64.wrap (p+3)=p+3:=by rw[ae] <;> omega
   rw[e3]
   by_cases d5:c<240
   ·simp[d2,d3,d4,d5]
   rw[af (by rfl),af (by simpa using d5),aa (by simp;omega)]
   cases a3:be b (p+3) 128 191 <;> simp[d2,d3,d4,d5]
theorem PA:HcOk prog 183 (ai jl Ej):=by
 refine bQ (cs:=Gt) (.cons Jg .nil) (lp:=HB) (fn:=Tryz.f183) jl (.done (by kernel_rfl)) Ej ?_
 rintro ⟨⟨(b:LI),(p:Int),⟨⟩⟩,⟨⟩⟩ out hw ho
 cases ho
 refine (Nc b p).trans ?_
 have hb:b.length≤maxLen:=hw.1.1.1
 rw[aG] at hb
 unfold xj
 show _=oR ((dm b p,()),())
 unfold dm
 by_cases h1:p<0
 ·simp[h1]
 by_cases h2:(b.length:Int)≤p
 ·simp[h1,h2]
 have e1:i64.wrap (p+1)=p+1:=by rw[ae] <;> omega
 rw[e1]
 have h3:0≤p:=by omega
 have h4:p<(b.length:Int):=by omega
 have h5:(0:Int)≤p+1:=by omega
 have h6:(0:Int)≤p+2:=by omega
 have h7:(0:Int)≤p+3:=by omega
 generalize b.getD p.toNat 0=c
 rw[af (by simpa using h1),af (by simpa using h2),aa (by simp;omega),if_neg (by omega)]
 by_cases d1:c<128
 ·rw[aa (by simpa using d1),if_pos d1]
 rw[af (by simpa using d1),if_neg d1]
 have tail:∀lo hi,iW c=lo→iU c=hi→ED b p c lo hi=oR ((if c<194∨244<c∨be b (p+1) (iW c) (iU c)=false then 0 else if c<224 then 2 else if be b (p+2) 128 191=false then 0 else if c<240 then 3 else if be b (p+3) 128 191=false then 0 else 4,()),()):=by
  intro lo hi e1 e2
  rw[e1,e2]
  exact IM h3 (by omega)
 have no:∀x:Int,c≠x→(c == x)=false:=fun x h=>by simpa using h
 have ye:∀x:Int,c=x→(c == x)=true:=fun x h=>by simpa using h
 by_cases c1:c=224
 ·rw[aa (ye _ c1),af (no 237 (by omega)),af (no 240 (by omega)),af (no 244 (by omega))]
  exact tail 160 191 (by simp[iW,c1]) (by simp[iU,c1])
 rw[af (no _ c1)]
 by_cases c2:c=237
 ·rw[aa (ye _ c2),af (no 240 (by omega)),af (no 244 (by omega))]
  exact tail 128 159 (by simp[iW,c2]) (by simp[iU,c2])
 rw[af (no _ c2)]
 by_cases c3:c=240
 ·rw[aa (ye _ c3),af (no 244 (by omega))]
  exact tail 144 191 (by simp[iW,c3]) (by simp[iU,c3])
 rw[af (no _ c3)]
 by_cases c4:c=244
 ·rw[aa (ye _ c4)]
  exact tail 128 143 (by simp[iW,c4]) (by simp[iU,c4])
 rw[af (no _ c4)]
 exact tail 128 191 (by simp[iW,c1,c3]) (by simp[iU,c2,c4])
def ck (b:LI):Nat→Int→Int×Bool
 |0,p=>(p,true)
 |n+1,p=>if (b.length:Int)≤p then (p,true) else if dm b p=0 then (p,false) else ck b n (p+dm b p)
def cq (b:LI):Int×Bool:=ck b (b.length+1) 0
theorem rA {b:LI}{p:Int}(h0:0≤p)(h:p<(b.length:Int)):0≤dm b p∧p+dm b p≤b.length:=by
 unfold dm
 rw[if_neg (by omega)]
 split
 ·omega
 split
 ·omega
 rename_i h1
 have a1:be b (p+1) (iW (b.getD p.toNat 0)) (iU (b.getD p.toNat 0))=true:=by
  cases hx:be b (p+1) (iW (b.getD p.toNat 0)) (iU (b.getD p.toNat 0)) with
  |true=>rfl
  |false=>exact absurd (.inr (.inr hx)) h1
 have h2:=qd a1
 split
 ·omega
 split
 ·omega
 rename_i h3
 have h4:=qd (show be b (p+2) 128 191=true by simpa using h3)
 split
 ·omega
 split
 ·omega
 rename_i h5
 have h6:=qd (show be b (p+3) 128 191=true by simpa using h5)
 omega
abbrev mj:Io:=⟨[dL],[],[],[dI,dB],none⟩
def FZ (d:mj.In):Tr mj.Res:=.ret (.ret (((cq d.1.1).1,(cq d.1.1).2,()),()))
abbrev KZ:List (Nat×Hc):=[(183,ai jl Ej)]
def LM:Hd:=bB KZ
abbrev fF:Lo:=⟨⟨(.one (.hol (.sl 5 (Ty.int u8)))::.any::bi (.one hI::.any::cN (bv (bi [])))),[]⟩,[(.ret,⟨(bi (.one hI::.one hL::ah [])),[]⟩),(.exit 0,⟨(bv (.one hI::.any::cN (bv (bi [])))),[]⟩)]⟩
def pg (d:fF.st.den):Tr (ao fF.xs):=
 .ite (decide (d.1.2.1=(0:Int))) (.ite (cq d.1.1).2 (.ret (.pan (.ret ((),(((cq d.1.1).1,()),()))))) (.ret (.ret ((),(((cq d.1.1).1,(false,())),()))))) .no
def AI:Lp:=bP [(3,aA fF pg)]
def we {R:Type}(h1:LI)(h2:Int)(next:LI→Int→Option R)(out:ao fF.xs→Option R):Option R:=bif decide (h2<(↑h1.length:Int)) then bif dm h1 h2 == 0 then out (.ret ((),((h2,(false,())),()))) else next (h1) (i64.wrap (h2+dm h1 h2)) else out (.pan (.ret ((),((h2,()),()))))
def vh (n:Nat)(h1:LI)(h2:Int):Option (ao fF.xs):=fH tt LM dr AI 0 Tryz.f174 (bI Tryz.f174 0) n (fF.st.mk' ((h1,(h2,())),())) (bo fF.xs)
theorem NJ (n:Nat)(h1:LI)(h2:Int):vh (n+1) h1 h2=we h1 h2 (vh n) some:=by kernel_rfl
theorem L1 (b:LI)(hb:(b.length:Int)≤9223372036854775807):∀(k:Nat) (p:Int),0≤p→p≤b.length→(b.length:Int)<p+k→
  vh k b p=if (ck b k p).2=true then some (.pan (.ret ((),(((ck b k p).1,()),())))) else some (.ret ((),(((ck b k p).1,(false,())),()))):=by
 intro k
 induction k with
 |zero=>intro p h0 h1 h2;omega
 |succ k ih=>
  intro p h0 h1 h2
  rw[NJ]
  unfold we
  by_cases h3:(b.length:Int)≤p
  ·have h4:¬ p<(b.length:Int):=by omega
   have hS:ck b (k+1) p=(p,true):=by simp[ck,h3]
   simp[hS,h4]
  ·have h4:p<(b.length:Int):=by omega
   obtain ⟨h5,h6⟩:=rA h0 h4
   rw[aa (by simpa using h4)]
   by_cases h7:dm b p=0
   ·have hS:ck b (k+1) p=(p,false):=by simp[ck,h3,h7]
    simp[hS,h7]
   ·have hS:ck b (k+1) p=ck b k (p+dm b p):=by simp[ck,h3,h7]
    simp only[hS]
    rw[af (by simpa using h7),ae (by omega) (by omega),ih _ (by omega) h6 (by omega)]
def BN (a0:LI):Option mj.Res:=(pg ((a0,(0,())),())).run fun y=>match y with | .ret ((),((x8,x9,()),()))=>(oR ((x8,x9,()),())) | .pan (.ret ((),((x10,()),())))=>(oR ((x10,true,()),()))
theorem P3 (a0:LI):Io.run tt LM dr AI mj Tryz.f174 ((a0,()),())=BN a0:=by kernel_rfl
theorem CA:HcsOk prog KZ:=.cons PA .nil
theorem ME:HcOk prog 174 (ai mj FZ):=by
 refine bQ CA (lp:=AI) (fn:=Tryz.f174) mj
  (.step (h0:=aA fF pg) (by kernel_rfl) (fR CA (lp:=AI) (fn:=Tryz.f174) (.done (by kernel_rfl)) fF pg ?_) (.done (by kernel_rfl))) FZ ?_
 ·rintro ⟨⟨(b:LI),(p:Int),⟨⟩⟩,⟨⟩⟩ y hw hy
  obtain ⟨hg,hy⟩:=Tr.guard hy
  have hg:p=0:=by simpa using hg
  subst hg
  have hb:b.length≤maxLen:=hw.1.1.1
  rw[aG] at hb
  refine ⟨b.length+1,(L1 b (by omega) (b.length+1) 0 (by omega) (by omega) (by omega)).trans ?_⟩
  rw[← hy]
  simp only[Tr.val_ite,Tr.val_ret]
  rfl
 ·rintro ⟨⟨(b:LI),⟨⟩⟩,⟨⟩⟩ out hw ho
  cases ho
  refine (P3 b).trans ?_
  unfold BN pg
  show _=oR (((cq b).1,(cq b).2,()),())
  simp only[Tr.run_ite,Tr.run_ret]
  generalize cq b=r
  obtain ⟨r1,r2⟩:=r
  cases r2 <;> simp
abbrev dS:Sh:=.dat .str false false
def lI (s p:LI):Bool:=decide (s.take p.length=p)
theorem yu {s:LI}(hs:byteR s)(k:Nat):((aE s).get! k).toNat=(s.getD k 0).toNat:=by
 by_cases h:k<s.length
 ·have h1:(aE s).get! k=UInt8.ofNat (s[k]).toNat:=by
   have:k<(aE s).data.size:=by simp[aE,h]
   have e:(aE s).get! k=(aE s).data[k]:=getElem!_pos (aE s).data k this
   rw[e]
   simp[aE]
  rw[h1,aB h]
  have:=hs s[k] (List.getElem_mem h)
  rw[UInt8.toNat_ofNat',Nat.mod_eq_of_lt (by omega)]
 ·have h1:(aE s).get! k=0:=by
   have:¬ k<(aE s).data.size:=by simp[aE];omega
   have e:(aE s).get! k=default:=getElem!_neg (aE s).data k this
   rw[e]
   rfl
  rw[h1,List.getD_eq_getElem?_getD,List.getElem?_eq_none (by omega)]
  rfl
def IL (r1 r2 r3:Prop)[Decidable r1][Decidable r2][Decidable r3](x0 x1 x2 x3:Nat):Nat:=
 if x0<128 then 1
 else if x0<194∨244<x0∨¬(r1∧(if x0=240 then 144 else if x0=224 then 160 else 128)≤x1∧x1≤(if x0=244 then 143 else if x0=237 then 159 else 191)) then 0
 else if x0<224 then 2
 else if ¬(r2∧128≤x2∧x2≤191) then 0
 else if x0<240 then 3
 else if ¬(r3∧128≤x3∧x3≤191) then 0 else 4
theorem NL {b:LI}(hs:byteR b){n:Nat}(h:n<b.length):dm b n=(IL (n+1<b.length) (n+2<b.length) (n+3<b.length) (b.getD n 0).toNat (b.getD (n+1) 0).toNat (b.getD (n+2) 0).toNat (b.getD (n+3) 0).toNat:Int):=by
 have hr:∀k,0≤b.getD k 0∧b.getD k 0<256:=fun k=>by
  by_cases hk:k<b.length
  ·rw[aB hk];exact hs _ (List.getElem_mem hk)
  ·rw[List.getD_eq_getElem?_getD,List.getElem?_eq_none (by omega)];simp
 unfold dm IL be iW iU
 have e1:((n:Int)+1).toNat=n+1:=by omega
 have e2:((n:Int)+2).toNat=n+2:=by omega
 have e3:((n:Int)+3).toNat=n+3:=by omega
 rw[e1,e2,e3,zG]
 have h0:=hr n
 have h1:=hr (n+1)
 have h2:=hr (n+2)
 have h3:=hr (n+3)
 generalize b.getD n 0=y0 at *
 generalize b.getD (n+1) 0=y1 at *
 generalize b.getD (n+2) 0=y2 at *
 generalize b.getD (n+3) 0=y3 at *
 obtain ⟨x0,rfl⟩:=au h0.1
 obtain ⟨x1,rfl⟩:=au h1.1
 obtain ⟨x2,rfl⟩:=au h2.1
 obtain ⟨x3,rfl⟩:=au h3.1
 generalize b.length=L at *
 rw[if_neg (by omega)]
 simp only[Bool.and_eq_false_iff,decide_eq_false_iff_not,zG]
 by_cases a0:x0<128
 ·rw[if_pos (by omega),if_pos a0];rfl
 rw[if_neg (by omega),if_neg a0]
 have hi:(if (x0:Int)=240 then (144:Int) else if (x0:Int)=224 then 160 else 128)=((if x0=240 then 144 else if x0=224 then 160 else 128:Nat):Int):=by
  repeat' split
  all_goals omega
 have hj:(if (x0:Int)=244 then (143:Int) else if (x0:Int)=237 then 159 else 191)=((if x0=244 then 143 else if x0=237 then 159 else 191:Nat):Int):=by
  repeat' split
  all_goals omega
 rw[hi,hj]
 generalize (if x0=240 then 144 else if x0=224 then 160 else 128:Nat)=lo
 generalize (if x0=244 then 143 else if x0=237 then 159 else 191:Nat)=hi
 by_cases a1:x0<194∨244<x0∨¬(n+1<L∧lo≤x1∧x1≤hi)
 ·rw[if_pos a1,if_pos (by omega)];rfl
 rw[if_neg a1,if_neg (by omega)]
 by_cases a2:x0<224
 ·rw[if_pos a2,if_pos (by omega)];rfl
 rw[if_neg a2,if_neg (by omega)]
 by_cases a3:¬(n+2<L∧128≤x2∧x2≤191)
 ·rw[if_pos a3,if_pos (by omega)];rfl
 rw[if_neg a3,if_neg (by omega)]
 by_cases a4:x0<240
 ·rw[if_pos a4,if_pos (by omega)];rfl
 rw[if_neg a4,if_neg (by omega)]
 by_cases a5:¬(n+3<L∧128≤x3∧x3≤191)
 ·rw[if_pos a5,if_pos (by omega)];rfl
 rw[if_neg a5,if_neg (by omega)];rfl
def Ip (r1 r2 r3:Prop)[Decidable r1][Decidable r2][Decidable r3](x0 x1 x2 x3:Nat):Nat×Nat:=
 if x0<128 then (x0,1)
 else if x0 / 32=6∧(r1∧x1 / 64=2) then (if 128≤(x0 % 32)*64+x1 % 64 then ((x0 % 32)*64+x1 % 64,2) else (65533,1))
 else if (x0 / 16=14∧(r1∧x1 / 64=2))∧(r2∧x2 / 64=2) then
  (if 2048≤(x0 % 16)*4096+(x1 % 64)*64+x2 % 64∧((x0 % 16)*4096+(x1 % 64)*64+x2 % 64<55296∨57344≤(x0 % 16)*4096+(x1 % 64)*64+x2 % 64) then ((x0 % 16)*4096+(x1 % 64)*64+x2 % 64,3) else (65533,1))
 else if ((x0 / 8=30∧(r1∧x1 / 64=2))∧(r2∧x2 / 64=2))∧(r3∧x3 / 64=2) then
  (if 65536≤(x0 % 8)*262144+(x1 % 64)*4096+(x2 % 64)*64+x3 % 64∧(x0 % 8)*262144+(x1 % 64)*4096+(x2 % 64)*64+x3 % 64≤1114111 then ((x0 % 8)*262144+(x1 % 64)*4096+(x2 % 64)*64+x3 % 64,4) else (65533,1))
 else (65533,1)
theorem Og {c:Nat}(h:c<65536):Utf8.valid (c:Int)=true↔(c<55296∨57344≤c):=by
 simp only[Utf8.valid,Bool.or_eq_true,zA,zB];omega
theorem Oh {c:Nat}(h:65536≤c):Utf8.valid (c:Int)=true↔c≤1114111:=by
 simp only[Utf8.valid,Bool.or_eq_true,zA,zB];omega
theorem Ld {b:LI}(hs:byteR b)(n:Nat):Utf8.decode (aE b) n=Ip (n+1<b.length) (n+2<b.length) (n+3<b.length) (b.getD n 0).toNat (b.getD (n+1) 0).toNat (b.getD (n+2) 0).toNat (b.getD (n+3) 0).toNat:=by
 unfold Utf8.decode Ip Utf8.runeError
 simp only[yu hs,b7,Nat.add_zero]
 generalize (b.getD n 0).toNat=x0
 generalize (b.getD (n+1) 0).toNat=x1
 generalize (b.getD (n+2) 0).toNat=x2
 generalize (b.getD (n+3) 0).toNat=x3
 simp only[zA,zB,beq_iff_eq,ge_iff_le]
 congr 1
 congr 1
 congr 1
 ·congr 1
  apply propext
  constructor
  ·rintro ⟨h1,h2⟩;exact ⟨h1,(Og (by omega)).1 h2⟩
  ·rintro ⟨h1,h2⟩;exact ⟨h1,(Og (by omega)).2 h2⟩
 ·congr 1
  congr 1
  apply propext
  constructor
  ·rintro ⟨h1,h2⟩;exact ⟨h1,(Oh h1).1 h2⟩
  ·rintro ⟨h1,h2⟩;exact ⟨h1,(Oh h1).2 h2⟩
theorem SZ {x0 x1:Nat}(h0:x0<256)(h1:x1<256):(x0 / 32=6∧x1 / 64=2)∧128≤(x0 % 32)*64+x1 % 64↔194≤x0∧x0<224∧128≤x1∧x1≤191:=by omega
theorem S2 {x0 x1 x2:Nat}(h0:x0<256)(h1:x1<256)(h2:x2<256):((x0 / 16=14∧x1 / 64=2)∧x2 / 64=2)∧(2048≤(x0 % 16)*4096+(x1 % 64)*64+x2 % 64∧((x0 % 16)*4096+(x1 % 64)*64+x2 % 64<55296∨57344≤(x0 % 16)*4096+(x1 % 64)*64+x2 % 64)) ↔
  224≤x0∧x0<240∧((if x0=224 then 160 else 128)≤x1∧x1≤(if x0=237 then 159 else 191))∧128≤x2∧x2≤191:=by
 constructor
 ·rintro ⟨⟨⟨h3,h4⟩,h5⟩,h6⟩
  refine ⟨by omega,by omega,⟨?_,?_⟩,by omega,by omega⟩
  ·split <;> omega
  ·split <;> omega
 ·rintro ⟨h3,h4,⟨h5,h6⟩,h7,h8⟩
  split at h5 <;> split at h6 <;> omega
theorem S3 {x0 x1 x2 x3:Nat}(h0:x0<256)(h1:x1<256)(h2:x2<256)(h3:x3<256):(((x0 / 8=30∧x1 / 64=2)∧x2 / 64=2)∧x3 / 64=2)∧(65536≤(x0 % 8)*262144+(x1 % 64)*4096+(x2 % 64)*64+x3 % 64∧(x0 % 8)*262144+(x1 % 64)*4096+(x2 % 64)*64+x3 % 64≤1114111) ↔
  240≤x0∧x0≤244∧((if x0=240 then 144 else 128)≤x1∧x1≤(if x0=244 then 143 else 191))∧(128≤x2∧x2≤191)∧(128≤x3∧x3≤191):=by
 constructor
 ·rintro ⟨⟨⟨⟨h3,h4⟩,h5⟩,h6⟩,h7⟩
  refine ⟨by omega,by omega,⟨?_,?_⟩,⟨by omega,by omega⟩,by omega,by omega⟩
  ·split <;> omega
  ·split <;> omega
 ·rintro ⟨h3,h4,⟨h5,h6⟩,⟨h7,h8⟩,h9,h10⟩
  split at h5 <;> split at h6 <;> omega
theorem R7 (r1 r2 r3:Prop)[Decidable r1][Decidable r2][Decidable r3](x0 x1 x2 x3:Nat)(h0:x0<256)(h1:x1<256)(h2:x2<256)(h3:x3<256):
  (IL r1 r2 r3 x0 x1 x2 x3=0∧Ip r1 r2 r3 x0 x1 x2 x3=(65533,1)∧¬(r1∧r2∧x0=239∧x1=191∧x2=189)) ∨
  (0<IL r1 r2 r3 x0 x1 x2 x3∧(Ip r1 r2 r3 x0 x1 x2 x3).2=IL r1 r2 r3 x0 x1 x2 x3∧((Ip r1 r2 r3 x0 x1 x2 x3).1=65533→(r1∧r2∧x0=239∧x1=191∧x2=189))):=by
 by_cases a0:x0<128
 ·right
  unfold IL Ip
  rw[if_pos a0,if_pos a0]
  exact ⟨by omega,rfl,fun h=>by simp only at h;omega⟩
 by_cases c2:r1∧194≤x0∧x0<224∧128≤x1∧x1≤191
 ·right
  obtain ⟨⟨g1,g2⟩,g3⟩:=(SZ h0 h1).2 c2.2
  have e1:IL r1 r2 r3 x0 x1 x2 x3=2:=by
   unfold IL
   rw[if_neg a0,if_neg,if_pos (by omega)]
   rintro (h | h | h)
   ·omega
   ·omega
   ·refine h ⟨c2.1,?_,?_⟩
    ·rw[if_neg (by omega),if_neg (by omega)];omega
    ·rw[if_neg (by omega),if_neg (by omega)];omega
  have e2:Ip r1 r2 r3 x0 x1 x2 x3=((x0 % 32)*64+x1 % 64,2):=by
   unfold Ip
   rw[if_neg a0,if_pos ⟨g1,c2.1,g2⟩,if_pos g3]
  rw[e1,e2]
  exact ⟨by omega,rfl,fun h=>by simp only at h;omega⟩
 by_cases c3:r1∧r2∧(224≤x0∧x0<240∧((if x0=224 then 160 else 128)≤x1∧x1≤(if x0=237 then 159 else 191))∧128≤x2∧x2≤191)
 ·right
  obtain ⟨k1,k2,k⟩:=c3
  obtain ⟨⟨⟨g1,g2⟩,g3⟩,g4⟩:=(S2 h0 h1 h2).2 k
  have e1:IL r1 r2 r3 x0 x1 x2 x3=3:=by
   unfold IL
   rw[if_neg a0,if_neg,if_neg (by omega),if_neg (fun h=>h ⟨k2,k.2.2.2⟩),if_pos (by omega)]
   rintro (h | h | h)
   ·omega
   ·omega
   ·refine h ⟨k1,?_,?_⟩
    ·rw[if_neg (by omega)];exact k.2.2.1.1
    ·rw[if_neg (by omega)];exact k.2.2.1.2
  have e2:Ip r1 r2 r3 x0 x1 x2 x3=((x0 % 16)*4096+(x1 % 64)*64+x2 % 64,3):=by
   unfold Ip
   rw[if_neg a0,if_neg (by omega),if_pos ⟨⟨g1,k1,g2⟩,k2,g3⟩,if_pos g4]
  rw[e1,e2]
  refine ⟨by omega,rfl,fun h=>?_⟩
  simp only at h
  exact ⟨k1,k2,by omega⟩
 by_cases c4:r1∧r2∧r3∧(240≤x0∧x0≤244∧((if x0=240 then 144 else 128)≤x1∧x1≤(if x0=244 then 143 else 191))∧(128≤x2∧x2≤191)∧(128≤x3∧x3≤191))
 ·right
  obtain ⟨k1,k2,k3,k⟩:=c4
  obtain ⟨⟨⟨⟨g1,g2⟩,g3⟩,g4⟩,g5⟩:=(S3 h0 h1 h2 h3).2 k
  have e1:IL r1 r2 r3 x0 x1 x2 x3=4:=by
   unfold IL
   rw[if_neg a0,if_neg,if_neg (by omega),if_neg (fun h=>h ⟨k2,k.2.2.2.1⟩),if_neg (by omega),if_neg (fun h=>h ⟨k3,k.2.2.2.2⟩)]
   rintro (h | h | h)
   ·omega
   ·omega
   ·refine h ⟨k1,?_,?_⟩
    ·have:=k.2.2.1.1
     split at this
     ·rename_i e;rw[if_pos e];exact this
     ·rename_i e;rw[if_neg e,if_neg (by omega)];exact this
    ·have:=k.2.2.1.2
     split at this
     ·rename_i e;rw[if_pos e];exact this
     ·rename_i e;rw[if_neg e,if_neg (by omega)];exact this
  have e2:Ip r1 r2 r3 x0 x1 x2 x3=((x0 % 8)*262144+(x1 % 64)*4096+(x2 % 64)*64+x3 % 64,4):=by
   unfold Ip
   rw[if_neg a0,if_neg (by omega),if_neg (by omega),if_pos ⟨⟨⟨g1,k1,g2⟩,k2,g3⟩,k3,g4⟩,if_pos g5]
  rw[e1,e2]
  exact ⟨by omega,rfl,fun h=>by simp only at h;omega⟩
 ·left
  have e2:Ip r1 r2 r3 x0 x1 x2 x3=(65533,1):=by
   unfold Ip
   rw[if_neg a0]
   split
   ·rename_i g
    rw[if_neg fun g'=>c2 ⟨g.2.1,(SZ h0 h1).1 ⟨⟨g.1,g.2.2⟩,g'⟩⟩]
   split
   ·rename_i g
    rw[if_neg fun g'=>c3 ⟨g.1.2.1,g.2.1,(S2 h0 h1 h2).1 ⟨⟨⟨g.1.1,g.1.2.2⟩,g.2.2⟩,g'⟩⟩]
   split
   ·rename_i g
    rw[if_neg fun g'=>c4 ⟨g.1.1.2.1,g.1.2.1,g.2.1,(S3 h0 h1 h2 h3).1 ⟨⟨⟨⟨g.1.1.1,g.1.1.2.2⟩,g.1.2.2⟩,g.2.2⟩,g'⟩⟩]
   rfl
  have e3:¬(r1∧r2∧x0=239∧x1=191∧x2=189):=by
   rintro ⟨k1,k2,rfl,rfl,rfl⟩
   exact c3 ⟨k1,k2,by simp⟩
  refine ⟨?_,e2,e3⟩
  unfold IL
  rw[if_neg a0]
  generalize hlo:(if x0=240 then 144 else if x0=224 then 160 else 128:Nat)=lo
  generalize hhi:(if x0=244 then 143 else if x0=237 then 159 else 191:Nat)=hi
  by_cases g:x0<194∨244<x0∨¬(r1∧lo≤x1∧x1≤hi)
  ·rw[if_pos g]
  rw[if_neg g]
  simp only[not_or,Decidable.not_not] at g
  obtain ⟨g1,g2,g3,g4,g5⟩:=g
  by_cases g6:x0<224
  ·rw[if_neg (by omega),if_neg (by omega)] at hlo hhi
   exact absurd ⟨g3,by omega,by omega,by omega,by omega⟩ c2
  rw[if_neg g6]
  by_cases g7:¬(r2∧128≤x2∧x2≤191)
  ·rw[if_pos g7]
  rw[if_neg g7]
  simp only[Decidable.not_not] at g7
  by_cases g8:x0<240
  ·rw[if_neg (by omega)] at hlo hhi
   subst hlo hhi
   exact absurd ⟨g3,g7.1,by omega,by omega,⟨g4,g5⟩,g7.2⟩ c3
  rw[if_neg g8]
  by_cases g9:¬(r3∧128≤x3∧x3≤191)
  ·rw[if_pos g9]
  exfalso
  simp only[Decidable.not_not] at g9
  refine c4 ⟨g3,g7.1,g9.1,by omega,by omega,⟨?_,?_⟩,g7.2,g9.2⟩
  ·by_cases e:x0=240
   ·rw[if_pos e] at hlo ⊢;omega
   ·rw[if_neg e] at hlo ⊢;rw[if_neg (by omega)] at hlo;omega
  ·by_cases e:x0=244
   ·rw[if_pos e] at hhi ⊢;omega
   ·rw[if_neg e] at hhi ⊢;rw[if_neg (by omega)] at hhi;omega
theorem Ig {b:LI}{n:Nat}(hs:byteR b):lI (b.drop n) [239,191,189]=true↔(n+1<b.length∧n+2<b.length∧(b.getD n 0).toNat=239∧(b.getD (n+1) 0).toNat=191∧(b.getD (n+2) 0).toNat=189):=by
 unfold lI
 rw[zB]
 show (b.drop n).take 3=_↔_
 constructor
 ·intro h
  have hl:=congrArg List.length h
  simp only[List.length_take,List.length_drop,zN,List.length_nil] at hl
  have h3:n+2<b.length:=by omega
  rw[zE (by omega),zE (by omega),zE (by omega)] at h
  simp only[List.take_succ_cons,List.take_zero,List.cons.injEq,and_true] at h
  obtain ⟨k1,k2,k3⟩:=h
  have k3:b[n+2]=189:=k3
  rw[aB (by omega),aB (by omega),aB h3,k1,k2,k3]
  exact ⟨by omega,by omega,rfl,rfl,rfl⟩
 ·rintro ⟨h1,h2,h3,h4,h5⟩
  rw[aB (by omega)] at h3 h4 h5
  rw[zE (by omega),zE (by omega),zE (by omega)]
  simp only[List.take_succ_cons,List.take_zero,List.cons.injEq,and_true]
  refine ⟨by omega,by omega,?_⟩
  show b[n+2]=189
  omega
theorem Ju {b:LI}(hs:byteR b){n:Nat}(h:n<b.length):
  (dm b n=0∧(fe b n).1=65533∧lI (b.drop n) [239,191,189]=false) ∨
  (0<dm b n∧(fe b n).2=dm b n∧((fe b n).1=65533→lI (b.drop n) [239,191,189]=true)):=by
 rw[lB,NL hs h,Ld hs n]
 have hx:∀k,(b.getD k 0).toNat<256:=fun k=>by rw[← yu hs];exact UInt8.toNat_lt _
 have:=R7 (n+1<b.length) (n+2<b.length) (n+3<b.length) _ _ _ _ (hx n) (hx (n+1)) (hx (n+2)) (hx (n+3))
 rw[Ig hs,← Bool.not_eq_true,Ig hs]
 rcases this with ⟨h1,h2,h3⟩ | ⟨h1,h2,h3⟩
 ·left
  exact ⟨by rw[h1];rfl,by rw[h2];rfl,h3⟩
 ·right
  exact ⟨by omega,by simp only;rw[h2],fun h=>h3 (by simp only at h;omega)⟩
abbrev kF:Io:=⟨[dS,dS],[],[],[dB],none⟩
def Eb (d:kF.In):Tr kF.Res:=.ret (.ret ((lI d.1.1 d.1.2.1,()),()))
abbrev Gm:List (Nat×Hc):=[]
def ON:Hd:=bB Gm
def Hx:Lp:=bP []
def w9 (a0 a1:LI):Option kF.Res:=bif decide ((↑a1.length:Int)≤(↑a0.length:Int)) then bif decide (0≤0)&&(decide (0≤(↑a1.length:Int))&&decide ((↑a1.length:Int)≤(↑a0.length:Int))) then oR ((decide (List.drop (Int.toNat 0) (List.take (↑a1.length:Int).toNat a0)=a1),()),()) else none else oR ((false,()),())
theorem M4 (a0 a1:LI):Io.run tt ON dr Hx kF Tryz.f185 ((a0,a1,()),())=w9 a0 a1:=by kernel_rfl
theorem Pt:HcOk prog 185 (ai kF Eb):=by
 refine bQ (cs:=Gm) .nil (lp:=Hx) (fn:=Tryz.f185) kF (.done (by kernel_rfl)) Eb ?_
 rintro ⟨⟨(s:LI),(p:LI),⟨⟩⟩,⟨⟩⟩ out hw ho
 cases ho
 refine (M4 s p).trans ?_
 show _=oR ((lI s p,()),())
 unfold w9
 by_cases h:p.length≤s.length
 ·rw[aa (by simpa using h),aa (by simp;omega)]
  rfl
 ·rw[af (by simpa using h)]
  have:lI s p=false:=by
   unfold lI
   rw[decide_eq_false_iff_not]
   intro e
   have:=congrArg List.length e
   simp only[List.length_take] at this
   omega
  rw[this]
abbrev oq:Io:=⟨[dS,dS],[],[],[dB],none⟩
def Kt (d:oq.In):Tr oq.Res:=.ret (.ret ((lI d.1.1 d.1.2.1,()),()))
abbrev KV:List (Nat×Hc):=[(185,ai kF Eb)]
def QU:Hd:=bB KV
def L5:Lp:=bP []
def KL (a0 a1:LI):Option oq.Res:=oR ((lI a0 a1,()),())
theorem PY (a0 a1:LI):Io.run tt QU dr L5 oq Tryz.f182 ((a0,a1,()),())=KL a0 a1:=by kernel_rfl
theorem Rf:HcOk prog 182 (ai oq Kt):=by
 refine bQ (cs:=KV) (.cons Pt .nil) (lp:=L5) (fn:=Tryz.f182) oq (.done (by kernel_rfl)) Kt ?_
 rintro ⟨⟨(s:LI),(p:LI),⟨⟩⟩,⟨⟩⟩ out hw ho
 cases ho
 exact PY s p
theorem v9 (b:LI):∀(n:Nat) (p:Int),0≤p→p≤b.length→(b.length:Int)<p+n→(ck b n p).2=true→(ck b n p).1=b.length
 |0,p,h0,h1,h2,h=>by omega
 |n+1,p,h0,h1,h2,h=>by
  unfold ck at h ⊢
  split
  ·rename_i h3;simp only;omega
  ·rename_i h3
   rw[if_neg h3] at h
   split
   ·rename_i h4;rw[if_pos h4] at h;cases h
   ·rename_i h4
    rw[if_neg h4] at h
    have h5:=rA (b:=b) h0 (show p<(b.length:Int) by omega)
    exact v9 b n _ (by omega) (by omega) (by omega) h
theorem Ka (b:LI)(h:(cq b).2=true):(cq b).1=b.length:=v9 b (b.length+1) 0 (by omega) (by omega) (by omega) h
abbrev ot:Io:=⟨[dL],[],[],[dI,dB],none⟩
def Ku (d:ot.In):Tr ot.Res:=.ret (.ret (((cq d.1.1).1,(cq d.1.1).2,()),()))
abbrev KW:List (Nat×Hc):=[(182,ai oq Kt)]
def LJ:Hd:=bB KW
abbrev fD:Lo:=⟨⟨(.one (.hol (.sl 5 (Ty.int u8)))::.any::bi (.one (.hol .str)::.any::bv (.one (.ptr 10 0)::ah []))),[none,none,none,none,none,none,none,none,none,none,some [.itr]]⟩,[(.ret,⟨(bi (.one hI::.one hL::.any::ah (bv (bi [])))),[]⟩),(.exit 0,⟨(.one (.hol (.sl 5 (Ty.int u8)))::ah (cN (bi []))),[]⟩)]⟩
def pd (d:fD.st.den):Tr (ao fD.xs):=
 .ite (decide (d.2.1.1.2=(0:Int))&&decide (d.2.1.1.1=d.1.2.1)) (.ite (cq d.1.2.1).2 (.ret (.pan (.ret ((),((d.1.1,()),()))))) (.ret (.ret ((),(((cq d.1.2.1).1,(false,())),()))))) .no
def AG:Lp:=bP [(4,aA fD pd)]
def wd {R:Type}(h1 h2:LI)(h3:LI×Int)(next:LI→LI→LI×Int→Option R)(out:ao fD.xs→Option R):Option R:=bif decide (h3.2<(↑h3.1.length:Int)) then bif (fe h3.1 h3.2).1 == 65533 then bif decide (0≤h3.2)&&(decide (h3.2≤(↑h2.length:Int))&&decide ((↑h2.length:Int)≤(↑h2.length:Int))) then bif !lI (List.drop h3.2.toNat (List.take (↑h2.length:Int).toNat h2)) (List.map (fun (c:UInt8)=>(↑c.toNat:Int)) [UInt8.ofBitVec (BitVec.ofFin (Fin.mk (239 % 2 ^ 8) (Nat.mod_lt 239 (BitVec.ofNat._proof_1 8)))),UInt8.ofBitVec (BitVec.ofFin (Fin.mk (191 % 2 ^ 8) (Nat.mod_lt 191 (BitVec.ofNat._proof_1 8)))),UInt8.ofBitVec (BitVec.ofFin (Fin.mk (189 % 2 ^ 8) (Nat.mod_lt 189 (BitVec.ofNat._proof_1 8))))]) then out (.ret ((),((h3.2,(false,())),()))) else next (h1) (h2) ((h3.1,h3.2+(fe h3.1 h3.2).2)) else none else next (h1) (h2) ((h3.1,h3.2+(fe h3.1 h3.2).2)) else out (.pan (.ret ((),((h1,()),()))))
def mt (n:Nat)(h1 h2:LI)(h3:LI×Int):Option (ao fD.xs):=fH tt LJ dr AG 0 Tryz.f170 (bI Tryz.f170 0) n (fD.st.mk' ((h1,(h2,())),((h3,()),()))) (bo fD.xs)
theorem NI (n:Nat)(h1 h2:LI)(h3:LI×Int):mt (n+1) h1 h2 h3=wd h1 h2 h3 (mt n) some:=by kernel_rfl
theorem LZ (b s:LI)(hs:byteR s)(hb:(s.length:Int)≤9223372036854775807):∀(k:Nat) (p:Int),0≤p→p≤s.length→(s.length:Int)<p+k→
  mt k b s (s,p)=if (ck s k p).2=true then some (.pan (.ret ((),((b,()),())))) else some (.ret ((),(((ck s k p).1,(false,())),()))):=by
 intro k
 induction k with
 |zero=>intro p h0 h1 h2;omega
 |succ k ih=>
  intro p h0 h1 h2
  rw[NI]
  unfold wd
  change (bif decide (p<(s.length:Int)) then bif (fe s p).1 == 65533 then bif decide (0≤p)&&(decide (p≤(s.length:Int))&&decide ((s.length:Int)≤(s.length:Int))) then bif !lI (List.drop p.toNat (List.take (s.length:Int).toNat s)) [239,191,189] then some (.ret ((),((p,(false,())),()))) else mt k b s (s,p+(fe s p).2) else none else mt k b s (s,p+(fe s p).2) else some (.pan (.ret ((),((b,()),())))))=_
  by_cases h3:(s.length:Int)≤p
  ·have h4:¬ p<(s.length:Int):=by omega
   have hS:ck s (k+1) p=(p,true):=by simp[ck,h3]
   simp[hS,h4]
  ·have h4:p<(s.length:Int):=by omega
   obtain ⟨n,rfl⟩:=au h0
   have h5:=Ju hs (show n<s.length by omega)
   have h6:=rA h0 h4
   rw[aa (by simpa using h4),zG,zG,List.take_length]
   rcases h5 with ⟨g1,g2,g3⟩ | ⟨g1,g2,g3⟩
   ·have hS:ck s (k+1) n=(↑n,false):=by simp[ck,h3,g1]
    rw[hS,g3,aa (by simpa using g2),aa (by simp;omega)]
    rfl
   ·have hS:ck s (k+1) n=ck s k (n+dm s n):=by
     simp only[ck]
     rw[if_neg h3,if_neg (by omega)]
    rw[hS,g2]
    have hn:=ih (n+dm s n) (by omega) (by omega) (by omega)
    by_cases g4:(fe s n).1=65533
    ·rw[aa (by simpa using g4),aa (by simp;omega),g3 g4]
     exact hn
    ·rw[af (by simpa using g4)]
     exact hn
def BJ (a0:LI):Option ot.Res:=(pd ((a0,(a0,())),(((a0,0),()),()))).run fun y=>match y with | .ret ((),((x13,x14,()),()))=>(oR ((x13,x14,()),())) | .pan (.ret ((),((x15,()),())))=>(oR (((↑x15.length:Int),true,()),()))
theorem PZ (a0:LI):Io.run tt LJ dr AG ot Tryz.f170 ((a0,()),())=BJ a0:=by kernel_rfl
theorem Cy:HcsOk prog KW:=.cons Rf .nil
theorem Rg:HcOk prog 170 (ai ot Ku):=by
 refine bQ Cy (lp:=AG) (fn:=Tryz.f170) ot
  (.step (h0:=aA fD pd) (by kernel_rfl) (fR Cy (lp:=AG) (fn:=Tryz.f170) (.done (by kernel_rfl)) fD pd ?_) (.done (by kernel_rfl))) Ku ?_
 ·rintro ⟨⟨(b:LI),(s:LI),⟨⟩⟩,⟨⟨⟨(s':LI),(p:Int)⟩,⟨⟩⟩,⟨⟩⟩⟩ y hw hy
  obtain ⟨hg,hy⟩:=Tr.guard hy
  simp only[zA,zB] at hg
  have hg1:p=0:=hg.1
  have hg2:s'=s:=hg.2
  subst hg1 hg2
  have hs:byteR s'∧s'.length≤maxLen:=hw.1.2.1
  have hb:=hs.2
  rw[aG] at hb
  refine ⟨s'.length+1,(LZ b s' hs.1 (by omega) (s'.length+1) 0 (by omega) (by omega) (by omega)).trans ?_⟩
  rw[← hy]
  simp only[Tr.val_ite,Tr.val_ret]
  rfl
 ·rintro ⟨⟨(b:LI),⟨⟩⟩,⟨⟩⟩ out hw ho
  cases ho
  refine (PZ b).trans ?_
  unfold BJ pd
  show _=oR (((cq b).1,(cq b).2,()),())
  simp only[Tr.run_ite,Tr.run_ret]
  have he:(cq b).2=true→(cq b).1=b.length:=Ka b
  generalize cq b=r at *
  obtain ⟨r1,r2⟩:=r
  cases r2 with
  |true=>
   have he:r1=b.length:=he rfl
   simp[he]
  |false=>simp
abbrev RQ:Code:=bA Tryz.f47
abbrev R8:Array Oper:=fI (jb (jb (gE RQ)))
abbrev R9:Code:=Sb (gE (jb (gE RQ)))
abbrev Sa:Code:=gE (gE RQ)
abbrev eF:Io:=⟨[dL],[],[],[dO],none⟩
def pb (d:eF.In):Tr eF.Res:=.ite (decide (d.1.1.length≤4294967296)) (.ret (.ret ((d.1.1,()),()))) .no
abbrev Ow:Hd:=bB []
abbrev IN:Lp:=bP []
def SI (b:LI)(v3 v4:V):AS:=⟨[.one (.lst 5 (.int .u8) b 0),.any,.one (.lst 5 (.int .u8) [] 5),v3,v4,.any,.any,.any],[],[]⟩
def SW (ex:Ex)(A:AS):Option eF.Res:=match ex with
 |.ret=>eF.fin tt Tryz.f47 .ret A
 |_=>none
abbrev BY:Nat:=li Tryz.f47
theorem S8 (b:LI):ev tt Ow dr IN 0 BY (jb RQ) BY [] (eF.start 8 ((b,()),())) (fun ex A=>match ex with | .normal=>some A | _=>none)=some (SI b .any .any):=by kernel_rfl
theorem S9 (b:LI):ev tt Ow dr IN 0 BY R9 BY [] (SI b (.one (.lst 5 (.int .u8) b 0)) (.one (.bool true))) SW=some (.ret (([],()),())):=by kernel_rfl
theorem Ta (b:LI):ev tt Ow dr IN 0 BY Sa BY [] (SI b (.one (.lst 5 (.int .u8) b 0)) (.one (.bool false))) SW=bif decide (([]:LI).length+b.length≤4294967296) then some (.ret ((b,()),())) else none:=by kernel_rfl
theorem vq:HcOk prog 47 (ai eF pb):=by
 have htt:=eX Tryz.prog 400
 refine qY (P:=prog) htt (fn:=Tryz.f47) (by kernel_rfl) (by kernel_rfl) eF pb ?_ (by kernel_rfl)
 rintro ⟨⟨(b:LI),⟨⟩⟩,⟨⟩⟩ out hwf hout F G cst w vals R Rl hkb _ hend
 obtain ⟨hg,hout⟩:=Tr.guard hout
 have hg:b.length≤4294967296:=by simpa using hg
 cases hout
 have hc:(Tryz.f47).body=some (.seq (jb RQ) (.seq (.seq (.region 1 R8 false) (.cond (.tmp 4) R9 .skip)) Sa)):=by kernel_rfl
 have hdr:=gZ (eX Tryz.prog 400)
 have hhd:lJ prog Ow:=qU HcsOk.nil
 refine calls_of_wp (P:=prog) (fn:=Tryz.f47) (by kernel_rfl) hc ?_
 refine wp_seq (fu htt hm hhd hdr hkb (lp:=IN) _ (nk (c:=(jb RQ)) (by kernel_rfl)) (S8 b) Rl ?_)
 intro ex A1 G1 a1 w1 R1 hd1 h1
 cases ex with
 |normal=>
  simp only[zC] at h1
  subst h1
  show (Code.seq (.seq (.region 1 R8 false) (.cond (.tmp 4) R9 .skip)) Sa).wp prog _ a1 w1
  refine wp_seq (wp_seq (wp_region ?_))
  have hr:List.range R8.size=[0,1]:=by kernel_rfl
  rw[hr]
  obtain ⟨p0,f0,ho0⟩:∃pos after,R8[0]?=some { dst:=some 3,op:=.move (.tmp 0),type:=22,pos:=pos,after:=after,guard:=none }:=⟨_,_,rfl⟩
  obtain ⟨p1,f1,ho1⟩:∃pos after,R8[1]?=some { dst:=some 4,op:=.binOp .eql 22 (.tmp 3) (.const (.slice none 0 0)) 22,type:=4,pos:=pos,after:=after,guard:=none }:=⟨_,_,rfl⟩
  have hu:Program.underlying prog 22=some (.slice 5):=by kernel_rfl
  simp only[wpOps,ho0,ho1]
  rw[if_pos (by rfl)]
  refine .inl ?_
  obtain ⟨u0,hu0,hv0⟩:=m0 (P:=prog) htt R1.gh.tabs (fun x=>R1.opd x) R1.ob { dst:=some 3,op:=.move (.tmp 0),type:=22,pos:=p0,after:=f0,guard:=none } (id:=7) (chk:=true) (v:=.one (.lst 5 (.int .u8) b 0)) (by kernel_rfl) rfl
  unfold Oper.wp
  rw[hu0,Oper.upon_value]
  have R2:=R1.puts hv0 (some 3)
  have hd2:(a1.put (some 3) u0).defers=[]:=(Act.put_defers' _ _ _).trans hd1
  generalize a1.put (some 3) u0=a2 at R2 hd2 ⊢
  rw[if_pos (by rfl)]
  refine .inl ?_
  obtain ⟨Aa,cap,he,hc1,hc2,hrow,_⟩:Rc G1 w1 (.lst 5 (.int .u8) b 0) (a2.eval (.tmp 3)):=R2.opd (.tmp 3)
  have hrun:(execOp a2.eval { dst:=some 4,op:=.binOp .eql 22 (.tmp 3) (.const (.slice none 0 0)) 22,type:=4,pos:=p1,after:=f1,guard:=none }).run prog w1=.ok (.value (.bool Aa.isNone)) w1:=by
   have h1:=Go.Lib.run_eql_slice_nil (P:=prog) w1 22 5 Aa b.length cap 0 0 hu
   have h2:a2.eval (.const (.slice none 0 0))=.slice none 0 0:=rfl
   simp only[execOp,Sem.run_bind,he,h2]
   simp[eqGuard,h1]
  rw[hrun,Oper.upon_value]
  have R3:=R2.puts (v:=.one (.bool Aa.isNone)) (u:=.bool Aa.isNone) rfl (some 4)
  have hd3:(a2.put (some 4) (.bool Aa.isNone)).defers=[]:=(Act.put_defers' _ _ _).trans hd2
  generalize a2.put (some 4) (.bool Aa.isNone)=a3 at R3 hd3 ⊢
  have hb4:a3.eval (.tmp 4)=.bool Aa.isNone:=R3.opd (.tmp 4)
  refine wp_cond hb4 ?_
  cases Aa with
  |none=>
   have hb:b=[]:=Classical.byContradiction fun hne=>by
    obtain ⟨_,_,e,_⟩:=hrow hne
    cases e
   subst hb
   refine fu htt hm hhd hdr hkb (lp:=IN) (l:=BY) (x:=[]) R9 (nk (c:=R9) (by kernel_rfl)) (S9 []) R3 ?_
   intro ex A' G' a' w' R' hd' hk
   cases ex with
   |ret=>exact ⟨hd'.trans hd3,hend .ret A' G' a' w' R' hk⟩
   |normal=>cases hk
   |exit i=>cases hk
   |panic v=>cases hk
  |some ad=>
   refine wp_skip ?_
   refine fu htt hm hhd hdr hkb (lp:=IN) (l:=BY) (x:=[]) Sa (nk (c:=Sa) (by kernel_rfl)) ((Ta b).trans (aa (by simpa using hg) _ _)) R3 ?_
   intro ex A' G' a' w' R' hd' hk
   cases ex with
   |ret=>exact ⟨hd'.trans hd3,hend .ret A' G' a' w' R' hk⟩
   |normal=>cases hk
   |exit i=>cases hk
   |panic v=>cases hk
 |exit i=>cases h1
 |ret=>cases h1
 |panic v=>cases h1
def aC (v:Int):Int:=if 0≤v then 2*v else -2*v - 1
def al (u:Int):Int:=if u % 2=0 then u / 2 else -(u / 2) - 1
theorem bW {n:Int}(h0:0≤n)(h:n<18446744073709551616):IntKind.wrap .u64 n=n:=by
 apply bN
 simp[bC,IntKind.min,IntKind.max,IntKind.signed,IntKind.bits]
 omega
theorem qE {n:Int}(h0:0≤n)(h:n<256):IntKind.wrap .u8 n=n:=by
 apply bN
 simp[bC,IntKind.min,IntKind.max,IntKind.signed,IntKind.bits]
 omega
theorem Hj {n:Int}:bC .i64 n↔-9223372036854775808≤n∧n≤9223372036854775807:=by
 simp[bC,IntKind.min,IntKind.max,IntKind.signed,IntKind.bits]
theorem s8 {n:Int}:bC .u64 n↔0≤n∧n≤18446744073709551615:=by
 simp[bC,IntKind.min,IntKind.max,IntKind.signed,IntKind.bits]
theorem ER {n:Int}:bC .u8 n↔0≤n∧n≤255:=by
 simp[bC,IntKind.min,IntKind.max,IntKind.signed,IntKind.bits]
abbrev dV:Sh:=.dat (.int .u64) false false
abbrev RR:Sh:=.dat (.int .i64) false false
abbrev ox:Io:=⟨[RR],[],[],[dV],none⟩
def Kx (d:ox.In):Tr ox.Res:=.ret (.ret ((aC d.1.1,()),()))
abbrev K1:List (Nat×Hc):=[]
def QY:Hd:=bB K1
def L9:Lp:=bP []
def BP (a0:Int):Option ox.Res:=bif decide (0≤a0) then oR ((u64.wrap (u64.wrap a0*2),()),()) else oR ((u64.wrap (u64.wrap (u64.wrap (i64.wrap (0 - i64.wrap (a0+1)))*2)+1),()),())
theorem P5 (a0:Int):Io.run tt QY dr L9 ox Tryz.f156 ((a0,()),())=BP a0:=by kernel_rfl
theorem Ri:HcOk prog 156 (ai ox Kx):=by
 refine bQ (cs:=K1) HcsOk.nil (lp:=L9) (fn:=Tryz.f156) ox (.done (by kernel_rfl)) Kx ?_
 rintro ⟨⟨(v:Int),⟨⟩⟩,⟨⟩⟩ out hw ho
 cases ho
 refine (P5 v).trans ?_
 have hr:=Hj.1 (show bC .i64 v from hw.1.1)
 unfold BP
 show _=oR ((aC v,()),())
 unfold aC
 by_cases h:0≤v
 ·rw[aa (by simpa using h),if_pos h,bW (n:=v) h (by omega),bW (n:=v*2) (by omega) (by omega),Int.mul_comm]
 ·rw[af (by simpa using h),if_neg h,ae (n:=v+1) (by omega) (by omega),ae (n:=0 - (v+1)) (by omega) (by omega),bW (n:=0 - (v+1)) (by omega) (by omega),
   bW (n:=(0 - (v+1))*2) (by omega) (by omega),bW (n:=(0 - (v+1))*2+1) (by omega) (by omega),show (0 - (v+1))*2+1 = -2*v - 1 by omega]
abbrev ov:Io:=⟨[dV],[],[],[RR],none⟩
def Kw (d:ov.In):Tr ov.Res:=.ret (.ret ((al d.1.1,()),()))
abbrev K0:List (Nat×Hc):=[]
def QX:Hd:=bB K0
def L8:Lp:=bP []
def BO (a0:Int):Option ov.Res:=bif u64.wrap (a0.tmod 2) == 0 then oR ((i64.wrap (u64.wrap (a0.tdiv 2)),()),()) else oR ((i64.wrap (i64.wrap (0 - i64.wrap (u64.wrap (a0.tdiv 2))) - 1),()),())
theorem P4 (a0:Int):Io.run tt QX dr L8 ov Tryz.f145 ((a0,()),())=BO a0:=by kernel_rfl
theorem MF:HcOk prog 145 (ai ov Kw):=by
 refine bQ (cs:=K0) HcsOk.nil (lp:=L8) (fn:=Tryz.f145) ov (.done (by kernel_rfl)) Kw ?_
 rintro ⟨⟨(u:Int),⟨⟩⟩,⟨⟩⟩ out hw ho
 cases ho
 refine (P4 u).trans ?_
 have hr:=s8.1 (show bC .u64 u from hw.1.1)
 unfold BO
 show _=oR ((al u,()),())
 unfold al
 have e1:u.tmod 2=u % 2:=Int.tmod_eq_emod_of_nonneg hr.1
 have e2:u.tdiv 2=u / 2:=Int.tdiv_eq_ediv_of_nonneg hr.1
 rw[e1,e2,bW (n:=u % 2) (by omega) (by omega),bW (n:=u / 2) (by omega) (by omega),ae (n:=u / 2) (by omega) (by omega),ae (n:=0 - u / 2) (by omega) (by omega),ae (n:=0 - u / 2 - 1) (by omega) (by omega)]
 by_cases h:u % 2=0
 ·simp[h]
 ·simp[h,cond_eq_ite]
abbrev jM:Io:=⟨[RR],[],[],[dO],none⟩
def fU:Nat→Int→LI
 |0,_=>[]
 |n+1,u=>if 127<u then (u % 128+128)::fU n (u / 128) else []
def gF:Nat→Int→Int
 |0,u=>u
 |n+1,u=>if 127<u then gF n (u / 128) else u
def aF (u:Int):LI:=fU 10 u++[gF 10 u]
theorem Iu:∀(n:Nat) (u:Int),0≤u→u<128 ^ n→0≤gF n u∧gF n u≤127
 |0,u,h0,h=>by simp only[gF];simp at h;omega
 |n+1,u,h0,h=>by
  simp only[gF]
  split
  ·refine Iu n (u / 128) (by omega) ?_
   rw[Int.pow_succ] at h
   exact Int.ediv_lt_of_lt_mul (by omega) h
  ·omega
def wI (d:jM.In):Tr jM.Res:=.ret (.ret ((aF (aC d.1.1),()),()))
abbrev KY:List (Nat×Hc):=[(156,ai ox Kx)]
def LL:Hd:=bB KY
abbrev fE:Lo:=⟨⟨(.any::bi (.one (.hol (.int u64))::.one (.onl 5 (Ty.int u8) 9)::ah (bv []))),[]⟩,[(.exit 0,⟨(.any::bi (.one (.hol (.int u64))::.one (.onl 5 (Ty.int u8) 9)::ah (bv []))),[]⟩)]⟩
def pe (d:fE.st.den):Tr (ao fE.xs):=
 .ite (decide (d.1.2.1.length=0)) (.ret (.ret ((),((gF 10 d.1.1,(fU 10 d.1.1,())),())))) .no
def AH:Lp:=bP [(4,aA fE pe)]
def o4 {R:Type}(h1:Int)(h2:LI)(next:Int→LI→Option R)(out:ao fE.xs→Option R):Option R:=bif decide (127<h1) then bif decide (h2.length+[u8.wrap (u64.wrap (u64.wrap (h1.tmod 128)+128))].length≤4294967296) then next (u64.wrap (h1.tdiv 128)) (h2++[u8.wrap (u64.wrap (u64.wrap (h1.tmod 128)+128))]) else none else out (.ret ((),((h1,(h2,())),())))
def vg (n:Nat)(h1:Int)(h2:LI):Option (ao fE.xs):=fH tt LL dr AH 0 Tryz.f121 (bI Tryz.f121 0) n (fE.st.mk' ((h1,(h2,())),())) (bo fE.xs)
theorem DD (n:Nat)(h1:Int)(h2:LI):vg (n+1) h1 h2=o4 h1 h2 (vg n) some:=by kernel_rfl
theorem L0:∀(n k:Nat) (u:Int) (o:LI),0≤u→u<128 ^ n→u<18446744073709551616→n<k→o.length+n≤4294967296→
  vg k u o=some (.ret ((),((gF n u,(o++fU n u,())),()))):=by
 intro n
 induction n with
 |zero=>
  intro k u o h0 h1 h2 h3 h4
  obtain ⟨k,rfl⟩:∃m,k=m+1:=⟨k - 1,by omega⟩
  rw[DD]
  unfold o4
  have:¬ 127<u:=by simp at h1;omega
  simp[this,gF,fU]
 |succ n ih=>
  intro k u o h0 h1 h2 h3 h4
  obtain ⟨k,rfl⟩:∃m,k=m+1:=⟨k - 1,by omega⟩
  rw[DD]
  unfold o4
  by_cases h:127<u
  ·have e1:u.tmod 128=u % 128:=Int.tmod_eq_emod_of_nonneg h0
   have e2:u.tdiv 128=u / 128:=Int.tdiv_eq_ediv_of_nonneg h0
   rw[e1,e2,bW (n:=u % 128) (by omega) (by omega),bW (n:=u % 128+128) (by omega) (by omega),qE (n:=u % 128+128) (by omega) (by omega),bW (n:=u / 128) (by omega) (by omega)]
   rw[ih k (u / 128) _ (by omega) (by rw[Int.pow_succ] at h1;exact Int.ediv_lt_of_lt_mul (by omega) h1) (by omega) (by omega) (by simp;omega)]
   have h5:o.length+1≤4294967296:=by omega
   simp[h,h5,gF,fU]
  ·simp[h,gF,fU]
def BM (a0:Int):Option jM.Res:=(pe ((aC a0,([],())),())).run fun y=>match y with | .ret ((),((x7,x8,()),()))=>(bif decide (x8.length+[u8.wrap x7].length≤4294967296) then oR ((x8++[u8.wrap x7],()),()) else none)
theorem P2 (a0:Int):Io.run tt LL dr AH jM Tryz.f121 ((a0,()),())=BM a0:=by kernel_rfl
theorem Cz:HcsOk prog KY:=.cons Ri .nil
theorem AW:HcOk prog 121 (ai jM wI):=by
 refine bQ Cz (lp:=AH) (fn:=Tryz.f121) jM
  (.step (h0:=aA fE pe) (by kernel_rfl) (fR Cz (lp:=AH) (fn:=Tryz.f121) (.done (by kernel_rfl)) fE pe ?_) (.done (by kernel_rfl))) wI ?_
 ·rintro ⟨⟨(u:Int),(o:LI),⟨⟩⟩,⟨⟩⟩ y hw hy
  obtain ⟨hg,hy⟩:=Tr.guard hy
  have hg:o=[]:=List.length_eq_zero_iff.1 (by simpa using hg)
  subst hg
  have hr:=s8.1 (show bC .u64 u from hw.1.1)
  refine ⟨11,(L0 10 11 u [] hr.1 (by omega) (by omega) (by omega) (by simp)).trans ?_⟩
  rw[← hy];rfl
 ·rintro ⟨⟨(v:Int),⟨⟩⟩,⟨⟩⟩ out hw ho
  cases ho
  refine (P2 v).trans ?_
  have hr:=Hj.1 (show bC .i64 v from hw.1.1)
  have hz:0≤aC v∧aC v<18446744073709551616:=by unfold aC;split <;> omega
  obtain ⟨h1,h2⟩:=Iu 10 (aC v) hz.1 (by have:=hz.2;omega)
  have h3:∀(n:Nat) (u:Int),(fU n u).length≤n:=by
   intro n
   induction n with
   |zero=>intro u;simp[fU]
   |succ n ih=>intro u;simp only[fU];split;have:=ih (u / 128);simp;omega;simp
  have h4:=h3 10 (aC v)
  have h5:(fU 10 (aC v)).length≤4294967295:=by omega
  unfold BM pe
  simp[Tr.run_ite,Tr.run_ret,qE (n:=gF 10 (aC v)) h1 (by omega),h5,aF]
def bm (most:Nat)(top:Int):LI→Nat→Int×Int
 |[],_=>(0,1)
 |c::l,i=>if i+1=most∧top<c then (0,21) else if c<128 then (if c=0∧0<i then (0,20) else ((i:Int),0)) else bm most top l (i+1)
def ba:LI→Int
 |[]=>0
 |c::l=>c % 128+128*ba l
abbrev oA:Io:=⟨[dL,dI,dI,dU],[],[],[dI,dI],none⟩
def F2 (d:oA.In):Tr oA.Res:=
 .ite (decide (d.1.2.1<0) || decide ((d.1.1.length:Int)<d.1.2.1)) (.ret (.ret ((0,3,()),())))
  (.ite (decide (1≤d.1.2.2.1)&&(decide (d.1.2.2.1≤10)&&decide (d.1.2.2.2.1<128)))
   (.ite (decide ((bm d.1.2.2.1.toNat d.1.2.2.2.1 (d.1.1.drop d.1.2.1.toNat) 0).2=0))
    (.ret (.ret ((d.1.2.1+(bm d.1.2.2.1.toNat d.1.2.2.2.1 (d.1.1.drop d.1.2.1.toNat) 0).1,0,()),())))
    (.ret (.ret ((0,(bm d.1.2.2.1.toNat d.1.2.2.2.1 (d.1.1.drop d.1.2.1.toNat) 0).2,()),())))) .no)
abbrev EJ:List (Nat×Hc):=[]
def LP:Hd:=bB EJ
abbrev fG:Lo:=⟨⟨(.one (.hol (.sl 5 (Ty.int u8)))::.one hI::.one hI::.one (.hol (.int u8))::bv (bi (.one hI::ah (ah (cN (bv (bi []))))))),[]⟩,[(.ret,⟨(cN (.one hI::.one hI::.any::ah (ah (cN (bv (bi [])))))),[]⟩),(.exit 0,⟨(.any::ah (ah (ah (cN [])))),[]⟩)]⟩
def pi (d:fG.st.den):Tr (ao fG.xs):=
 .ite (decide (0≤d.1.2.1)&&(decide (d.1.2.1≤(d.1.1.length:Int))&&(decide (1≤d.1.2.2.1)&&(decide (d.1.2.2.1≤10)&&(decide (d.1.2.2.2.1<128)&&decide (d.1.2.2.2.2.1=0))))))
   (.ite (decide ((bm d.1.2.2.1.toNat d.1.2.2.2.1 (d.1.1.drop d.1.2.1.toNat) 0).2=0))
    (.ret (.ret ((),((d.1.2.1+(bm d.1.2.2.1.toNat d.1.2.2.2.1 (d.1.1.drop d.1.2.1.toNat) 0).1,(0,())),()))))
    (.ret (.ret ((),((0,((bm d.1.2.2.1.toNat d.1.2.2.2.1 (d.1.1.drop d.1.2.1.toNat) 0).2,())),()))))) .no
def AJ:Lp:=bP [(5,aA fG pi)]
def wg {R:Type}(h4:LI)(h5 h6 h7 h8:Int)(next:LI→Int→Int→Int→Int→Option R)(out:ao fG.xs→Option R):Option R:=bif decide (h8<h6) then bif decide (i64.wrap ((↑h4.length:Int) - h5)≤h8) then out (.ret ((),((0,(1,())),()))) else bif decide (0≤i64.wrap (h5+h8))&&decide (i64.wrap (h5+h8)<(↑h4.length:Int)) then bif h8 == i64.wrap (h6 - 1) then bif decide (h7<h4.getD (i64.wrap (h5+h8)).toNat 0) then out (.ret ((),((0,(21,())),()))) else bif decide (h4.getD (i64.wrap (h5+h8)).toNat 0<128) then bif h4.getD (i64.wrap (h5+h8)).toNat 0 == 0 then bif decide (0<h8) then out (.ret ((),((0,(20,())),()))) else out (.ret ((),((i64.wrap (h5+h8),(0,())),()))) else out (.ret ((),((i64.wrap (h5+h8),(0,())),()))) else next (h4) (h5) (h6) (h7) (i64.wrap (h8+1)) else bif decide (h4.getD (i64.wrap (h5+h8)).toNat 0<128) then bif h4.getD (i64.wrap (h5+h8)).toNat 0 == 0 then bif decide (0<h8) then out (.ret ((),((0,(20,())),()))) else out (.ret ((),((i64.wrap (h5+h8),(0,())),()))) else out (.ret ((),((i64.wrap (h5+h8),(0,())),()))) else next (h4) (h5) (h6) (h7) (i64.wrap (h8+1)) else none else out (.pan (.ret ((),((),()))))
def pK (n:Nat)(h4:LI)(h5 h6 h7 h8:Int):Option (ao fG.xs):=fH tt LP dr AJ 0 Tryz.f144 (bI Tryz.f144 0) n (fG.st.mk' ((h4,(h5,(h6,(h7,(h8,()))))),())) (bo fG.xs)
theorem NK (n:Nat)(h4:LI)(h5 h6 h7 h8:Int):pK (n+1) h4 h5 h6 h7 h8=wg h4 h5 h6 h7 h8 (pK n) some:=by kernel_rfl
theorem L2 (b:LI)(at_ most:Nat)(top:Int)(hb:b.length≤maxLen)(ha:at_≤b.length)(hm:most≤10)(ht:top<128):∀(k i:Nat),i<most→most<i+k→
  pK k b at_ most top i=some (.ret ((),((if (bm most top (b.drop (at_+i)) i).2=0 then at_+(bm most top (b.drop (at_+i)) i).1 else 0,((bm most top (b.drop (at_+i)) i).2,())),()))):=by
 intro k
 rw[aG] at hb
 induction k with
 |zero=>intro i h1 h2;omega
 |succ k ih=>
  intro i h1 h2
  rw[NK]
  unfold wg
  have e1:i64.wrap ((b.length:Int) - at_)=(b.length:Int) - at_:=ae (by omega) (by omega)
  have e3:i64.wrap ((most:Int) - 1)=(most:Int) - 1:=ae (by omega) (by omega)
  have e4:i64.wrap ((i:Int)+1)=((i+1:Nat):Int):=by rw[ae] <;> omega
  rw[aa (by simpa using h1),e1,e3,e4]
  by_cases hl:(b.length:Int) - at_≤i
  ·rw[aa (by simpa using hl),zI (by omega)]
   simp[bm]
  ·have hlt:at_+i<b.length:=by omega
   have e2:i64.wrap ((at_:Int)+i)=((at_+i:Nat):Int):=by rw[ae] <;> omega
   rw[af (by simpa using hl),e2,zE hlt]
   simp only[zG,aB hlt]
   rw[aa (by simp;omega)]
   generalize b[at_+i]=c
   have hnext:i+1<most→pK k b at_ most top ((i+1:Nat):Int)=_:=fun h=>ih (i+1) h (by omega)
   have e5:at_+i+1=at_+(i+1):=by omega
   rw[← e5] at hnext
   simp only[bm]
   by_cases h3:i+1=most
   ·have h3':((i:Int) == (most:Int) - 1)=true:=by simp;omega
    rw[aa h3']
    by_cases h4:top<c
    ·simp[h3,h4]
    ·have h5:c<128:=by omega
     by_cases h6:c=0
     ·subst h6
      by_cases h7:0<i <;> simp[h3,h4,h7,cond_eq_ite]
     ·simp[h3,h4,h5,h6,cond_eq_ite]
   ·have h3':((i:Int) == (most:Int) - 1)=false:=by simp;omega
    rw[af h3']
    by_cases h5:c<128
    ·by_cases h6:c=0 <;> by_cases h7:0<i <;> simp[h3,h5,h6,h7,cond_eq_ite]
    ·rw[hnext (by omega)]
     simp[h3,h5,cond_eq_ite]
def BR (a0:LI)(a1 a2 a3:Int):Option oA.Res:=bif decide (a1<0) then oR ((0,3,()),()) else bif decide ((↑a0.length:Int)<a1) then oR ((0,3,()),()) else (pi ((a0,(a1,(a2,(a3,(0,()))))),())).run fun y=>match y with | .ret ((),((x35,x36,()),()))=>(oR ((x35,x36,()),())) | .pan (.ret ((),((),())))=>(oR ((0,21,()),()))
theorem P8 (a0:LI)(a1 a2 a3:Int):Io.run tt LP dr AJ oA Tryz.f144 ((a0,a1,a2,a3,()),())=BR a0 a1 a2 a3:=by kernel_rfl
theorem MH:HcOk prog 144 (ai oA F2):=by
 refine bQ (cs:=EJ) .nil (lp:=AJ) (fn:=Tryz.f144) oA
  (.step (h0:=aA fG pi) (by kernel_rfl) (fR (cs:=EJ) .nil (lp:=AJ) (fn:=Tryz.f144) (.done (by kernel_rfl)) fG pi ?_) (.done (by kernel_rfl))) F2 ?_
 ·rintro ⟨⟨(b:LI),(p:Int),(m:Int),(t:Int),(i:Int),⟨⟩⟩,⟨⟩⟩ y hw hy
  obtain ⟨hg,hy⟩:=Tr.guard hy
  simp only[zA,zB] at hg
  obtain ⟨h1,h2,h3,h4,h5,rfl⟩:=hg
  have h1:(0:Int)≤p:=h1
  have h2:p≤(b.length:Int):=h2
  have h3:(1:Int)≤m:=h3
  have h4:m≤(10:Int):=h4
  have h5:t<(128:Int):=h5
  obtain ⟨p,rfl⟩:=au h1
  obtain ⟨m,rfl⟩:=au (show 0≤m by omega)
  refine ⟨m+1,(L2 b p m t hw.1.1.1 (by omega) (by omega) h5 _ 0 (by omega) (by omega)).trans ?_⟩
  rw[← hy]
  simp only[Tr.val_ite,Tr.val_ret,zG,Nat.add_zero,zB]
  by_cases he:(bm m t (b.drop p) 0).2=0 <;> simp[he]
 ·rintro ⟨⟨(b:LI),(p:Int),(m:Int),(t:Int),⟨⟩⟩,⟨⟩⟩ out hw ho
  refine (P8 b p m t).trans ?_
  rw[← ho]
  unfold BR F2 pi
  simp only[Tr.val_ite,Tr.val_ret,Tr.val_no,Tr.run_ite,Tr.run_ret,Tr.run_no,zA,Bool.or_eq_true,zB,cond_eq_ite]
  by_cases h1:p<0
  ·simp[h1]
  ·by_cases h2:(b.length:Int)<p
   ·simp[h1,h2]
   ·have h3:0≤p:=by omega
    have h4:p≤(b.length:Int):=by omega
    simp only[h1,h2,h3,h4,if_false,if_true,or_self,true_and,and_true]
theorem qD (n:Int):IntKind.wrap .u64 n=n % 18446744073709551616:=by simp[IntKind.wrap,IntKind.signed,IntKind.bits]
theorem oZ (c:Int):∀l:LI,ba (l++[c])=ba l+128 ^ l.length*(c % 128)
 |[]=>by simp[ba]
 |x::l=>by
  simp only[List.cons_append,ba,oZ c l,zN,Int.pow_succ]
  rw[Int.mul_add,Int.mul_comm (128 ^ l.length) 128,Int.mul_assoc]
  omega
theorem Fu (b:LI)(p m:Nat)(h:p+m<b.length):(b.take (p+(m+1))).drop p=(b.take (p+m)).drop p++[b[p+m]]:=by
 rw[← Nat.add_assoc,List.take_succ_eq_append_getElem h,List.drop_append_of_le_length (by simp;omega)]
abbrev SK:Sh:=.dat (.int .i32) false false
abbrev iM:Io:=⟨[dL,dI,dI],[],[],[dV],none⟩
def zh (d:iM.In):Tr iM.Res:=
 .ite (decide ((0:Int)≤d.1.2.1)&&(decide ((d.1.2.1:Int) - 1≤d.1.2.2.1)&&decide ((d.1.2.2.1:Int)<(d.1.1.length:Int))))
  (.ret (.ret ((ba ((d.1.1.take (d.1.2.2.1+1).toNat).drop d.1.2.1.toNat) % 18446744073709551616,()),()))) .no
abbrev uL:List (Nat×Hc):=[]
def CJ:Hd:=bB uL
abbrev di:Lo:=⟨⟨(.one (.hol (.sl 5 (Ty.int u8)))::.one hI::.any::bv (.one (.hol (.int u64))::.one hI::ah [])),[]⟩,[(.exit 0,⟨(.any::bv (bi (.one (.hol (.int u64))::.any::ah []))),[]⟩)]⟩
def j7 (d:di.st.den):Tr (ao di.xs):=
 .ite (decide ((0:Int)≤d.1.2.1)&&(decide ((d.1.2.1:Int) - 1≤d.1.2.2.2.1)&&(decide ((d.1.2.2.2.1:Int)<(d.1.1.length:Int))&&decide (d.1.2.2.1=(0:Int)))))
  (.ret (.ret ((),((ba ((d.1.1.take (d.1.2.2.2.1+1).toNat).drop d.1.2.1.toNat) % 18446744073709551616,()),())))) .no
def pT:Lp:=bP [(4,aA di j7)]
def lD {R:Type}(h3:LI)(h4 h5 h6:Int)(next:LI→Int→Int→Int→Option R)(out:ao di.xs→Option R):Option R:=bif decide (h4≤h6) then bif decide (0≤h6)&&decide (h6<(↑h3.length:Int)) then next (h3) (h4) (u64.wrap (u64.wrap (h5*128)+u64.wrap (u8.wrap (Int.tmod (h3.getD h6.toNat 0) 128)))) (i64.wrap (h6 - 1)) else none else out (.ret ((),((h5,()),())))
def oN (n:Nat)(h3:LI)(h4 h5 h6:Int):Option (ao di.xs):=fH tt CJ dr pT 0 Tryz.f146 (bI Tryz.f146 0) n (di.st.mk' ((h3,(h4,(h5,(h6,())))),())) (bo di.xs)
theorem vQ (n:Nat)(h3:LI)(h4 h5 h6:Int):oN (n+1) h3 h4 h5 h6=lD h3 h4 h5 h6 (oN n) some:=by kernel_rfl
theorem E0 (b:LI)(p:Nat)(hb:b.length≤maxLen)(hc:∀c∈b,0≤c∧c≤255):∀(m k:Nat) (u:Int),p+m≤b.length→m<k→
  oN k b p (u % 18446744073709551616) ((p:Int)+m - 1)=some (.ret ((),(((u*128 ^ m+ba ((b.take (p+m)).drop p)) % 18446744073709551616,()),()))):=by
 rw[aG] at hb
 intro m
 induction m with
 |zero=>
  intro k u h1 h2
  obtain ⟨k,rfl⟩:∃m,k=m+1:=⟨k - 1,by omega⟩
  rw[vQ]
  unfold lD
  rw[af (by simp;omega),zI (by simp;omega)]
  simp[ba]
 |succ m ih=>
  intro k u h1 h2
  obtain ⟨k,rfl⟩:∃m,k=m+1:=⟨k - 1,by omega⟩
  rw[vQ]
  unfold lD
  have hlt:p+m<b.length:=by omega
  have e0:(p:Int)+((m+1:Nat):Int) - 1=((p+m:Nat):Int):=by omega
  have hbc:=hc b[p+m] (List.getElem_mem hlt)
  rw[e0,aa (by simp;omega),aa (by simp;omega)]
  simp only[zG,aB hlt]
  have e1:Int.tmod b[p+m] 128=b[p+m] % 128:=Int.tmod_eq_emod_of_nonneg hbc.1
  have e2:i64.wrap (((p+m:Nat):Int) - 1)=(p:Int)+m - 1:=by rw[ae] <;> omega
  rw[e1,e2,qE (n:=b[p+m] % 128) (by omega) (by omega),bW (n:=b[p+m] % 128) (by omega) (by omega),qD,qD]
  have e3:(u % 18446744073709551616*128 % 18446744073709551616+b[p+m] % 128) % 18446744073709551616=(u*128+b[p+m] % 128) % 18446744073709551616:=by omega
  rw[e3,ih k (u*128+b[p+m] % 128) (by omega) (by omega),Fu b p m hlt,oZ]
  have e4:((b.take (p+m)).drop p).length=m:=by simp;omega
  rw[e4,Int.pow_succ,Int.add_mul,Int.mul_assoc,Int.mul_comm 128 (128 ^ m),Int.mul_comm (b[p+m] % 128) (128 ^ m),Int.add_assoc,Int.add_comm (128 ^ m*(b[p+m] % 128))]
def uA (a0:LI)(a1 a2:Int):Option iM.Res:=(j7 ((a0,(a1,(0,(a2,())))),())).run fun y=>match y with | .ret ((),((x12,()),()))=>(oR ((x12,()),()))
theorem JM (a0:LI)(a1 a2:Int):Io.run tt CJ dr pT iM Tryz.f146 ((a0,a1,a2,()),())=uA a0 a1 a2:=by kernel_rfl
theorem Dl:HcOk prog 146 (ai iM zh):=by
 refine bQ (cs:=uL) .nil (lp:=pT) (fn:=Tryz.f146) iM
  (.step (h0:=aA di j7) (by kernel_rfl) (fR (cs:=uL) .nil (lp:=pT) (fn:=Tryz.f146) (.done (by kernel_rfl)) di j7 ?_) (.done (by kernel_rfl))) zh ?_
 ·rintro ⟨⟨(b:LI),(p:Int),(u:Int),(i:Int),⟨⟩⟩,⟨⟩⟩ y hw hy
  obtain ⟨hg,hy⟩:=Tr.guard hy
  simp only[zA,zB] at hg
  obtain ⟨h1,h2,h3,rfl⟩:=hg
  have h1:(0:Int)≤p:=h1
  have h2:p - 1≤i:=h2
  have h3:i<(b.length:Int):=h3
  obtain ⟨p,rfl⟩:=au h1
  obtain ⟨m,rfl⟩:∃m:Nat,i=p+m - 1:=⟨(i+1 - p).toNat,by omega⟩
  have hc:∀c∈b,0≤c∧c≤255:=fun c hc=>ER.1 (hw.1.1.2 c hc)
  refine ⟨m+1,(E0 b p hw.1.1.1 hc m (m+1) 0 (by omega) (by omega)).trans ?_⟩
  rw[← hy]
  have e:((p:Int)+m - 1+1).toNat=p+m:=by omega
  simp only[Tr.val_ret,e,zG,Int.zero_mul,Int.zero_add]
 ·rintro ⟨⟨(b:LI),(p:Int),(i:Int),⟨⟩⟩,⟨⟩⟩ out hw ho
  obtain ⟨hg,ho⟩:=Tr.guard ho
  cases ho
  refine (JM b p i).trans ?_
  simp only[zA,zB] at hg
  unfold uA j7
  simp only[Tr.run_ite,Tr.run_ret,zA,zB]
  rw[if_pos ⟨hg.1,hg.2.1,hg.2.2,trivial⟩]
def ab (most:Nat)(top:Int)(b:LI)(p:Int):Int×Int×Int:=
 if p<0∨(b.length:Int)<p then (0,0,3)
 else if (bm most top (b.drop p.toNat) 0).2=0 then
  (ba ((b.drop p.toNat).take ((bm most top (b.drop p.toNat) 0).1+1).toNat) % 18446744073709551616,p+(bm most top (b.drop p.toNat) 0).1+1,0)
 else (0,0,(bm most top (b.drop p.toNat) 0).2)
theorem qg (m:Nat)(t:Int):∀(l:LI) (i:Nat),(bm m t l i).2=0→(i:Int)≤(bm m t l i).1∧(bm m t l i).1<i+l.length
 |[],i,h=>by simp[bm] at h
 |c::l,i,h=>by
  simp only[bm] at h ⊢
  split at h
  ·cases h
  ·rename_i h1
   rw[if_neg h1]
   split at h
   ·rename_i h2
    rw[if_pos h2]
    split at h
    ·cases h
    ·rename_i h3
     rw[if_neg h3]
     simp only[zN]
     omega
   ·rename_i h2
    rw[if_neg h2]
    have:=qg m t l (i+1) h
    simp only[zN]
    omega
abbrev iJ:Io:=⟨[dL,dI],[],[],[RR,dI,dI],none⟩
def FY (d:iJ.In):Tr iJ.Res:=
 .ite (decide ((ab 10 1 d.1.1 d.1.2.1).2.2=0)) (.ret (.ret ((al (ab 10 1 d.1.1 d.1.2.1).1,(ab 10 1 d.1.1 d.1.2.1).2.1,0,()),())))
  (.ret (.ret ((0,0,(ab 10 1 d.1.1 d.1.2.1).2.2,()),())))
abbrev EI:List (Nat×Hc):=[(144,ai oA F2),(146,ai iM zh),(145,ai ov Kw)]
def QW:Hd:=bB EI
def L7:Lp:=bP []
def BL (a0:LI)(a1:Int):Option iJ.Res:=bif decide (a1<0) || decide ((↑a0.length:Int)<a1) then oR ((0,0,3,()),()) else bif decide ((bm (Int.toNat 10) 1 (List.drop a1.toNat a0) 0).2=0) then bif decide (0≤a1)&&(decide (a1 - 1≤a1+(bm (Int.toNat 10) 1 (List.drop a1.toNat a0) 0).1)&&decide (a1+(bm (Int.toNat 10) 1 (List.drop a1.toNat a0) 0).1<(↑a0.length:Int))) then oR ((al (ba (List.drop a1.toNat (List.take (Int.toNat (a1+(bm (Int.toNat 10) 1 (List.drop a1.toNat a0) 0).1+1)) a0)) % 18446744073709551616),i64.wrap (a1+(bm (Int.toNat 10) 1 (List.drop a1.toNat a0) 0).1+1),0,()),()) else none else bif (bm (Int.toNat 10) 1 (List.drop a1.toNat a0) 0).2 != 0 then oR ((0,0,(bm (Int.toNat 10) 1 (List.drop a1.toNat a0) 0).2,()),()) else bif decide (0≤a1)&&(decide (a1 - 1≤0)&&decide (0<(↑a0.length:Int))) then oR ((al (ba (List.drop a1.toNat (List.take (Int.toNat (0+1)) a0)) % 18446744073709551616),i64.wrap (0+1),0,()),()) else none
theorem P1 (a0:LI)(a1:Int):Io.run tt QW dr L7 iJ Tryz.f113 ((a0,a1,()),())=BL a0 a1:=by kernel_rfl
theorem Rh:HcOk prog 113 (ai iJ FY):=by
 refine bQ (cs:=EI) (.cons MH (.cons Dl (.cons MF .nil))) (lp:=L7) (fn:=Tryz.f113) iJ (.done (by kernel_rfl)) FY ?_
 rintro ⟨⟨(b:LI),(p:Int),⟨⟩⟩,⟨⟩⟩ out hw ho
 refine (P1 b p).trans ?_
 rw[← ho]
 have hb:b.length≤maxLen:=hw.1.1.1
 rw[aG] at hb
 unfold BL FY
 simp only[Tr.val_ite,Tr.val_ret,ab,zB,show Int.toNat 10=10 from rfl]
 by_cases h1:p<0∨(b.length:Int)<p
 ·rw[aa (by simpa using h1)]
  simp only[if_pos h1]
  rfl
 ·rw[af (by simpa using h1)]
  simp only[if_neg h1]
  by_cases h2:(bm 10 1 (b.drop p.toNat) 0).2=0
  ·have h3:=qg 10 1 (b.drop p.toNat) 0 h2
   rw[aa (by simpa using h2)]
   simp only[if_pos h2,if_true]
   simp only[List.length_drop] at h3
   generalize (bm 10 1 (b.drop p.toNat) 0).1=k at h3 ⊢
   have h4:0≤p:=by omega
   rw[aa (by simp;omega),ae (n:=p+k+1) (by omega) (by omega),List.drop_take,show (p+k+1).toNat - p.toNat=(k+1).toNat by omega]
  ·rw[af (by simpa using h2),aa (by simpa using h2)]
   simp only[if_neg h2]
abbrev cQ:Io:=⟨[dL,dI],[],[],[SK,dI,dI],none⟩
def sU (d:cQ.In):Tr cQ.Res:=
 .ite (decide ((ab 5 15 d.1.1 d.1.2.1).2.2=0)) (.ret (.ret ((IntKind.wrap .i32 (al (ab 5 15 d.1.1 d.1.2.1).1),(ab 5 15 d.1.1 d.1.2.1).2.1,0,()),())))
  (.ret (.ret ((0,0,(ab 5 15 d.1.1 d.1.2.1).2.2,()),())))
abbrev Cg:List (Nat×Hc):=EI
def LK:Hd:=bB Cg
def Db:Lp:=bP []
def ux (a0:LI)(a1:Int):Option cQ.Res:=bif decide (a1<0) || decide ((↑a0.length:Int)<a1) then oR ((0,0,3,()),()) else bif decide ((bm (Int.toNat 5) 15 (List.drop a1.toNat a0) 0).2=0) then bif decide (0≤a1)&&(decide (a1 - 1≤a1+(bm (Int.toNat 5) 15 (List.drop a1.toNat a0) 0).1)&&decide (a1+(bm (Int.toNat 5) 15 (List.drop a1.toNat a0) 0).1<(↑a0.length:Int))) then oR ((i32.wrap (al (ba (List.drop a1.toNat (List.take (Int.toNat (a1+(bm (Int.toNat 5) 15 (List.drop a1.toNat a0) 0).1+1)) a0)) % 18446744073709551616)),i64.wrap (a1+(bm (Int.toNat 5) 15 (List.drop a1.toNat a0) 0).1+1),0,()),()) else none else bif (bm (Int.toNat 5) 15 (List.drop a1.toNat a0) 0).2 != 0 then oR ((0,0,(bm (Int.toNat 5) 15 (List.drop a1.toNat a0) 0).2,()),()) else bif decide (0≤a1)&&(decide (a1 - 1≤0)&&decide (0<(↑a0.length:Int))) then oR ((i32.wrap (al (ba (List.drop a1.toNat (List.take (Int.toNat (0+1)) a0)) % 18446744073709551616)),i64.wrap (0+1),0,()),()) else none
theorem JI (a0:LI)(a1:Int):Io.run tt LK dr Db cQ Tryz.f150 ((a0,a1,()),())=ux a0 a1:=by kernel_rfl
theorem MD:HcOk prog 150 (ai cQ sU):=by
 refine bQ (cs:=Cg) (.cons MH (.cons Dl (.cons MF .nil))) (lp:=Db) (fn:=Tryz.f150) cQ (.done (by kernel_rfl)) sU ?_
 rintro ⟨⟨(b:LI),(p:Int),⟨⟩⟩,⟨⟩⟩ out hw ho
 refine (JI b p).trans ?_
 rw[← ho]
 have hb:b.length≤maxLen:=hw.1.1.1
 rw[aG] at hb
 unfold ux sU
 simp only[Tr.val_ite,Tr.val_ret,ab,zB,show Int.toNat 5=5 from rfl]
 by_cases h1:p<0∨(b.length:Int)<p
 ·rw[aa (by simpa using h1)]
  simp only[if_pos h1]
  rfl
 ·rw[af (by simpa using h1)]
  simp only[if_neg h1]
  by_cases h2:(bm 5 15 (b.drop p.toNat) 0).2=0
  ·have h3:=qg 5 15 (b.drop p.toNat) 0 h2
   rw[aa (by simpa using h2)]
   simp only[if_pos h2,if_true]
   simp only[List.length_drop] at h3
   generalize (bm 5 15 (b.drop p.toNat) 0).1=k at h3 ⊢
   have h4:0≤p:=by omega
   rw[aa (by simp;omega),ae (n:=p+k+1) (by omega) (by omega),List.drop_take,show (p+k+1).toNat - p.toNat=(k+1).toNat by omega]
  ·rw[af (by simpa using h2),aa (by simpa using h2)]
   simp only[if_neg h2]
end
end Go.Proofs.YthpcdhgpplmneaaGreatDoor.Sym
