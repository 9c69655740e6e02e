/- Regions that may be carried out in several orders: one canonical order tells of all. -/
import Derived.OrdersHeld
import Derived.Recover
import Derived.Test.YthpcdhgpplmneaaGreatDoorProg
import Derived.Lib.SliceRun
import Derived.Test.YthpcdhgpplmneaaGreatDoorQ2

set_option linter.unusedVariables false
set_option linter.unusedSimpArgs false
namespace Go.Proofs.YthpcdhgpplmneaaGreatDoor.Sym
open Go
section
variable {P:Program} {ops:Array Oper} {Q:Exit→Act→World→Prop} {md:Region.Mode} {T:List Nat} {S0:World→Prop}
def Ns (T:List Nat)(S0:World→Prop)(listed:Array Bool)(w:World):Prop:=(∀j∈T,listed.getD j false=false)→S0 w
def wpAnyL (P:Program)(md:Region.Mode)(ops:Array Oper)(Q:Exit→Act→World→Prop)(T:List Nat)(S0:World→Prop):Nat→Array Bool→Act→World→Prop
 |0,listed,a,w=>Region.ready md ops listed=[]∧Q .normal a w
 |n+1,listed,a,w=>(Region.ready md ops listed=[]→Q .normal a w)∧
  ∀i∈Region.ready md ops listed,wpOp P ops Q i (fun a' w'=>Ns T S0 (listed.setIfInBounds i true) w'∧wpAnyL P md ops Q T S0 n (listed.setIfInBounds i true) a' w') a w
theorem wpAnyL.any:∀(n:Nat) {listed:Array Bool} {a:Act} {w:World},wpAnyL P md ops Q T S0 n listed a w→wpAny P md ops Q n listed a w
 |0,_,_,_,h=>h
 |n+1,_,_,_,h=>⟨h.1,fun i hi=>wpOp_mono (fun _ _ h'=>wpAnyL.any n h'.2) (h.2 i hi)⟩
theorem wpAnyL.weaken {S1:World→Prop}(hS:∀w,S0 w→S1 w):∀(n:Nat) {listed:Array Bool} {a:Act} {w:World},wpAnyL P md ops Q T S0 n listed a w→wpAnyL P md ops Q T S1 n listed a w
 |0,_,_,_,h=>h
 |n+1,_,_,_,h=>⟨h.1,fun i hi=>wpOp_mono (fun _ _ h'=>⟨fun ht=>hS _ (h'.1 ht),wpAnyL.weaken hS n h'.2⟩) (h.2 i hi)⟩
theorem wpAnyL.first {i:Nat}{oi:Oper}{v:Value}(hi:ops[i]?=some oi)(hsel:∀(j:Nat) (o:Oper) cs b,ops[j]?=some o→o.op≠.select cs b)
  (hQ:∀c a w,Q (.panic c) (a.put oi.dst v) w→Q (.panic c) a w) {Z:List Nat} (hTZ:∀j∈T,j∈Z) (hZ:∀j∈Z,j≠i∧∀oj,ops[j]?=some oj→∃e∈oj.after,Region.binds md e=true∧(e.on=i∨e.on∈Z)):
  ∀(n:Nat) (listed:Array Bool) (a:Act) (w:World),
   (∀j oj,ops[j]?=some oj→j≠i→listed.getD j true=false→(∀e∈oj.after,Region.binds md e=true→e.on≠i)→oi.apart ops oj=true)→
   i∈Region.ready md ops listed→YieldsIf P ops S0 oi v a→S0 w→(∀j∈Z,listed.getD j false=false)→
   wpAnyL P md ops Q T S0 n (listed.setIfInBounds i true) (a.put oi.dst v) w→wpAnyL P md ops Q T S0 (n+1) listed a w:=by
 intro n
 induction n with
 |zero=>
  intro listed a w _ hr hy hS hno h
  refine ⟨fun e=>(by rw[e] at hr;cases hr),fun j hj=>?_⟩
  by_cases hji:j=i
  ·subst hji;exact hy.wpOp hi hS ⟨fun _=>hS,h⟩
  ·have:=ready_mono hj hji
   rw[h.1] at this
   cases this
 |succ n ih=>
  intro listed a w hfree hr hy hS hno h
  refine ⟨fun e=>(by rw[e] at hr;cases hr),fun j hj=>?_⟩
  by_cases hji:j=i
  ·subst hji;exact hy.wpOp hi hS ⟨fun _=>hS,h⟩
  ·have h1:=h.2 j (ready_mono hj hji)
   obtain ⟨hjun,oj,hoj,hall⟩:=mem_ready.1 hj
   have hnot:∀e∈oj.after,Region.binds md e=true→e.on≠i:=fun e he hb heq=>by
    have h2:=hall e he hb
    have h0:=(mem_ready.1 hr).1
    rw[heq] at h2
    rcases Nat.lt_or_ge i listed.size with h' | h'
    ·simp[h'] at h0 h2;rw[h0] at h2;cases h2
    ·simp[Array.getElem?_eq_none h'] at h2
   have hjZ:j ∉ Z:=fun hin=>by
    obtain ⟨e,he,hb,heq⟩:=(hZ j hin).2 oj hoj
    rcases heq with heq | heq
    ·exact hnot e he hb heq
    ·have h2:=hall e he hb
     have h0:=hno e.on heq
     rw[Array.getD_eq_getD_getElem?] at h0
     rcases Nat.lt_or_ge e.on listed.size with h' | h'
     ·simp[h'] at h0 h2;rw[h0] at h2;cases h2
     ·simp[Array.getElem?_eq_none h'] at h2
   have h2:=wpOp_putIf hoj (hfree j oj hoj hji hjun hnot) (fun cs b=>hsel i oi cs b hi) (fun cs b=>hsel j oj cs b hoj) hQ hy h1
   have hfree':∀k ok,ops[k]?=some ok→k≠i→(listed.setIfInBounds j true).getD k true=false→
     (∀e∈ok.after,Region.binds md e=true→e.on≠i)→oi.apart ops ok=true:=fun k ok hk hki hun hno=>by
    refine hfree k ok hk hki ?_ hno
    by_cases hjk:j=k
    ·subst hjk;exact hjun
    ·rw[getD_set_ne true hjk] at hun;exact hun
   have hno':∀k∈Z,(listed.setIfInBounds j true).getD k false=false:=fun k hk=>by
    rw[getD_set_ne false (fun e=>hjZ (by rw[e];exact hk))];exact hno k hk
   refine wpOp_mono (fun a' w' h3=>?_) h2
   have hs:S0 w':=h3.2.1 fun k hk=>by
    rw[getD_set_ne false (fun e=>hjZ (by rw[e];exact hTZ k hk)),getD_set_ne false (Ne.symm (hZ k (hTZ k hk)).1)];exact hno k (hTZ k hk)
   refine ⟨fun _=>hs,ih (listed.setIfInBounds j true) a' w' hfree' (ready_mono hr (Ne.symm hji)) h3.1 hs hno' ?_⟩
   rw[Array.setIfInBounds_comm _ _ hji]
   exact h3.2.2
theorem Oper.wp_monoQ {o:Oper}{a:Act}{w:World}{K:Act→World→Prop}{Q':Exit→Act→World→Prop}(h:∀e a w,Q e a w→Q' e a w)(hh:o.wp P a w K Q):o.wp P a w K Q':=by
 unfold Oper.wp at *
 generalize (execOp a.eval o).run P w=r at *
 cases r with
 |ok n w'=>
  cases n <;> simp only[Oper.upon] at hh ⊢ <;>
   first
    |exact hh
    |exact h _ _ _ hh
    |exact Calls.mono hh (fun e w'' he=>by cases e <;> first | exact he | (obtain ⟨a0,w0,h0⟩:=he;exact ⟨a0,w0,h _ _ _ h0⟩) | exact h _ _ _ he)
    |exact Rows.mono hh (fun _ _ he=>he)
 |halt x w'=>cases x <;> simp only[Oper.upon] at hh ⊢ <;> first | exact hh | exact h _ _ _ hh
theorem Fb {i:Nat}{K:Act→World→Prop}{Q':Exit→Act→World→Prop}(h:∀e a w,Q e a w→Q' e a w){a:Act}{w:World}(hh:wpOp P ops Q i K a w):wpOp P ops Q' i K a w:=by
 unfold wpOp at *
 split
 ·rename_i ho
  simpa only [ho] using hh
 ·rename_i o ho
  simp only[ho] at hh
  split
  ·rename_i hw
   simp only[hw,if_true] at hh
   rcases hh with hh | ⟨h1,a0,w0,h2⟩
   ·exact .inl (Oper.wp_monoQ h hh)
   ·exact .inr ⟨h1,a0,w0,h _ _ _ h2⟩
  ·rename_i hw
   simpa [hw] using hh
theorem sg {Q':Exit→Act→World→Prop}(h:∀e a w,Q e a w→Q' e a w):∀(n:Nat) {listed:Array Bool} {a:Act} {w:World},wpAny P md ops Q n listed a w→wpAny P md ops Q' n listed a w
 |0,_,_,_,hh=>⟨hh.1,h _ _ _ hh.2⟩
 |n+1,_,_,_,hh=>⟨fun e=>h _ _ _ (hh.1 e),fun i hi=>Fb h (wpOp_mono (fun _ _ h'=>sg h n h') (hh.2 i hi))⟩
def QQ (ops:Array Oper)(a a':Act):Prop:=
 a'.defers=a.defers∧a'.tmps.size=a.tmps.size∧∀t,(∀(j:Nat) (oj:Oper),ops[j]?=some oj→oj.dst≠some t)→a'.tmps[t]?=a.tmps[t]?
def Qh (ops:Array Oper)(Q:Exit→Act→World→Prop):Exit→Act→World→Prop
 |.panic c,a,w=>∀a',QQ ops a a'→Q (.panic c) a' w
 |e,a,w=>Q e a w
theorem Qh.of {e:Exit}{a:Act}{w:World}(h:Qh ops Q e a w):Q e a w:=by
 cases e <;> first | exact h | exact h a ⟨rfl,rfl,fun _ _=>rfl⟩
theorem Qh.put {i:Nat}{oi:Oper}(hi:ops[i]?=some oi)(v:Value)(c:List PanicEntry)(a:Act)(w:World)(h:Qh ops Q (.panic c) (a.put oi.dst v) w):Qh ops Q (.panic c) a w:=by
 intro a' ⟨h1,h2,h3⟩
 refine h a' ⟨h1.trans (Act.put_defers' _ _ _).symm,?_,fun t ht=>?_⟩
 ·rw[h2];cases oi.dst <;> simp[Act.put]
 ·rw[h3 t ht]
  cases hd:oi.dst with
  |none=>rfl
  |some d=>
   have:d≠t:=by rintro rfl;exact ht i oi hi hd
   simp[Act.put,Array.getElem?_setIfInBounds_ne this]
end
theorem BT {ops:Array Oper}{j t:Nat}{oj:Oper}(hj:ops[j]?=some oj)(hd:oj.dst=some t):(gB ops).testBit t=true:=by
 unfold gB
 have hm:oj∈ops.toList:=List.mem_of_getElem? (by simpa using hj)
 generalize ops.toList=l at hm
 have mono:∀(l:List Oper) (m:Nat),m.testBit t=true→(l.foldl (fun m o=>match o.dst with | some d=>m ||| 2 ^ d | none=>m) m).testBit t=true:=by
  intro l
  induction l with
  |nil=>intro m h;exact h
  |cons o l ih=>
   intro m h
   rw[List.foldl_cons]
   refine ih _ ?_
   split
   ·rw[Nat.testBit_or,h];rfl
   ·exact h
 generalize 0=m
 induction l generalizing m with
 |nil=>cases hm
 |cons o l ih=>
  rw[List.foldl_cons]
  rcases List.mem_cons.1 hm with rfl | hm
  ·refine mono l _ ?_
   rw[hd]
   simp only
   rw[Nat.testBit_or,Nat.testBit_two_pow_self,Bool.or_true]
  ·exact ih hm _
theorem rJ {G:Gh}{w:World}(m:Nat):∀(i:Nat) {vs:List V} {us us':List Value},All2 (Rv G w) vs us→us'.length=us.length→(∀t,m.testBit (i+t)=false→us'[t]?=us[t]?)→All2 (Rv G w) (rI m i vs) us'
 |_,[],[],[],_,_,_=>trivial
 |i,v::vs,u::us,u'::us',h,hl,ht=>by
  refine ⟨?_,rJ m (i+1) h.2 (by simpa using hl) fun t h'=>?_⟩
  ·cases hb:m.testBit i with
   |true=>trivial
   |false=>
    have:=ht 0 (by simpa using hb)
    simp only[List.getElem?_cons_zero,zC] at this
    rw[this];exact h.1
  ·have:=ht (t+1) (by rw[← h'];congr 1;omega)
   simpa using this
 |_,[],_::_,_,h,_,_=>h.elim
 |_,_::_,[],_,h,_,_=>h.elim
 |_,[],[],_::_,_,hl,_=>by simp at hl
 |_,_::_,_::_,[],_,hl,_=>by simp at hl
theorem Rel.mask {F:Fra}{G:Gh}{A:AS}{a a':Act}{cst:List (Array Value)}{w:World}(R:Rel F G A a.tmps cst w){ops:Array Oper}(hn:QQ ops a a'):
  Rel F G { A with tm:=rI (gB ops) 0 A.tm } a'.tmps cst w:=
 ⟨rJ _ 0 R.tm (by simpa using hn.2.1) fun t ht=>by
  have:=hn.2.2 t fun j oj hj hd=>by rw[Nat.zero_add,BT hj hd] at ht;cases ht
  simpa using this,R.stk,R.ob,R.gh⟩
def sF (ops:Array Oper)(i:Nat)(Z:List Nat)(j:Nat):List Nat:=match ops[j]? with
 |some o=>bif o.after.any fun e=>Region.binds .any e&&(e.on == i || Z.any (· == e.on)) then j::Z else Z
 |none=>Z
def qv (ops:Array Oper)(i:Nat):List Nat:=(List.range ops.size).foldl (sF ops i) []
def AT (ops:Array Oper)(j i:Nat):Bool:=(qv ops i).any (· == j)
def sZ (ops:Array Oper)(T:List Nat)(listed:Array Bool)(i:Nat):Bool:=
 Region.free .any ops listed i&&((Region.ready .any ops listed).contains i&&((T.all fun j=>AT ops j i)&&(qv ops i).all fun j=>!(j == i)&&!listed.getD j false))
theorem rA (ops:Array Oper)(i:Nat):∀j∈qv ops i,∀oj,ops[j]?=some oj→∃e∈oj.after,Region.binds .any e=true∧(e.on=i∨e.on∈qv ops i):=by
 have key:∀(l Z:List Nat),(∀j∈Z,∀oj,ops[j]?=some oj→∃e∈oj.after,Region.binds .any e=true∧(e.on=i∨e.on∈Z))→
   ∀j∈l.foldl (sF ops i) Z,∀oj,ops[j]?=some oj→∃e∈oj.after,Region.binds .any e=true∧(e.on=i∨e.on∈l.foldl (sF ops i) Z):=by
  intro l
  induction l with
  |nil=>intro Z h;exact h
  |cons k l ih=>
   intro Z h
   rw[List.foldl_cons]
   refine ih _ fun j hj oj hoj=>?_
   unfold sF at hj ⊢
   cases hk:ops[k]? with
   |none=>rw[hk] at hj;exact h j hj oj hoj
   |some o=>
    rw[hk] at hj
    simp only at hj ⊢
    cases hc:o.after.any fun e=>Region.binds .any e&&(e.on == i || Z.any (· == e.on)) with
    |false=>rw[hc] at hj;exact h j hj oj hoj
    |true=>
     rw[hc] at hj
     simp only[cond_true] at hj ⊢
     rcases List.mem_cons.1 hj with rfl | hj
     ·rw[hk] at hoj;cases hoj
      obtain ⟨e,he,hb⟩:=Array.any_eq_true'.1 hc
      simp only[zA,Bool.or_eq_true,beq_iff_eq,List.any_eq_true,exists_eq_right] at hb
      exact ⟨e,he,hb.1,hb.2.imp id fun h=>List.mem_cons_of_mem _ h⟩
     ·obtain ⟨e,he,hb,h2⟩:=h j hj oj hoj
      exact ⟨e,he,hb,h2.imp id fun h=>List.mem_cons_of_mem _ h⟩
 exact key _ [] fun j hj=>by cases hj
def AH (ops:Array Oper)(listed:Array Bool)(i:Nat):Bool:=match Region.ready .any ops listed with
 |[j]=>j == i
 |_=>false
def AA (tt:TT)(ops:Array Oper)(i:Nat):Bool:=match ops[i]? with
 |some o=>!uy tt o.op
 |none=>false
def fK:List (Nat×Nat)→List Nat
 |[]=>[]
 |(i,m)::is=>bif Nat.beq m 4 then i::fK is else fK is
def oX (l:Array Bool):List Nat→Array Bool
 |[]=>l
 |j::js=>oX (l.setIfInBounds j true) js
def mJ (ops:Array Oper)(j:Nat):Bool:=match ops[j]? with
 |some o=>(match o.op with | .alloc _=>true | _=>false)&&(o.after.isEmpty&&(o.guard.isNone&&(match o.dst with
  |some d=>(List.range ops.size).all fun k=>k == j || (match ops[k]? with | some o'=>!(o'.dst == some d) | none=>true)
  |none=>false)))
 |none=>false
def jH (ops:Array Oper)(l0:Array Bool)(pf:List Nat):Bool:=pf.all fun j=>mJ ops j&&!l0.getD j true
def PG (ops:Array Oper)(l0:Array Bool)(pf:List Nat)(i:Nat):Bool:=(Region.ready .any ops l0).contains i&&(Region.ready .any ops (oX l0 pf)).all (· == i)
def Ik:Op→Bool
 |.pick ..=>true
 |_=>false
def Az (ops:Array Oper)(i:Nat):Bool:=match ops[i]? with
 |some o=>Ik o.op
 |none=>false
def nJ (tt:TT)(ops:Array Oper)(T:List Nat):Bool→Array Bool→List (Nat×Nat)→Bool
 |_,listed,[]=>(Region.ready .any ops listed).isEmpty
 |ph,listed,(i,m)::is=>match m with
  |0=>sZ ops T listed i&&AA tt ops i&&(!(fK is).contains i&&jH ops listed (fK is))&&nJ tt ops T ph (listed.setIfInBounds i true) is
  |1=>sZ ops T listed i&&ph&&(!(fK is).contains i&&jH ops listed (fK is))&&nJ tt ops T ph (listed.setIfInBounds i true) is
  |2=>AH ops listed i&&T.all (fun j=>!(j == i))&&(fK is).isEmpty&&nJ tt ops T (ph&&Az ops i) (listed.setIfInBounds i true) is
  |n+3=>bif Nat.beq n 1 then (!(fK is).contains i&&jH ops listed (i::fK is))&&(Region.ready .any ops (oX listed (fK is))).all (· == i)&&nJ tt ops T false (listed.setIfInBounds i true) is
   else bif Nat.beq n 3 then PG ops listed (fK is) i&&T.all (fun j=>!(j == i))&&(!(fK is).contains i&&jH ops listed (fK is))&&nJ tt ops T false (listed.setIfInBounds i true) is
   else AH ops listed i&&(T.any (· == i)&&decide (i<listed.size))&&(fK is).isEmpty&&nJ tt ops T false (listed.setIfInBounds i true) is
section
variable {P:Program} {tt:TT} {ops:Array Oper} {T:List Nat}
theorem Qh.post {R:Type}{F:Fra}{G':Gh}{A':AS}{a':Act}{cst:List (Array Value)}{w':World}{r:R}{K:Ex→AS→Option R}{Q:Exit→Act→World→Prop}{dfs:List Deferred}(hK:tC F cst dfs r K Q)
  (R':Rel F G' A' a'.tmps cst w') (hd:a'.defers=dfs) {v:V} (hk:K (.panic v) { A' with tm:=rI (gB ops) 0 A'.tm }=some r) (u:Value) (hu:Rv G' w' v u):
  Qh ops Q (.panic [{ v:=u,recovered:=false }]) a' w':=by
 intro a'' hn
 exact hK (.panic v) _ G' a'' w' (R'.mask hn) (hn.1.trans hd) hk u hu
structure Hold (G0:Gh) (w0:World) (hid:List Nat) (G:Gh) (w:World):Prop where
 sub:∀b o,G0.S b o→G.S b o
 mu:∀key∈hid,∀b,G0.mu key=some b→G.mu key=some b
 agr:Agr (·∈hid) G0 w0 w
theorem Hold.step {G0 G G':Gh}{w0 w w':World}{hid:List Nat}(h:Hold G0 w0 hid G w)(u:UntH G hid w G' w'):Hold G0 w0 hid G' w' where
 sub:=fun b o hs=>(u.1 b o (h.sub b o hs)).1
 mu:=fun key hk b hb=>(u.2 key hk b (h.mu key hk b hb)).1
 agr:=⟨fun b o hs=>(u.1 b o (h.sub b o hs)).2.trans (h.agr.1 b o hs),fun key b hk hb=>(u.2 key hk b (h.mu key hk b hb)).2.trans (h.agr.2 key b hk hb)⟩
theorem wd:∀(X:List Nat) (l:Array Bool) (k:Nat),k ∉ X→(oX l X)[k]?=l[k]?
 |[],_,_,_=>rfl
 |j::js,l,k,h=>by
  rw[oX,wd js _ k (fun e=>h (List.mem_cons_of_mem _ e)),Array.getElem?_setIfInBounds_ne]
  exact fun e=>h (e▸List.mem_cons_self)
theorem nF:∀(X:List Nat) (l:Array Bool) (k:Nat),l.getD k false=true→(oX l X).getD k false=true
 |[],_,_,h=>h
 |j::js,l,k,h=>nF js _ k (getD_set_true h)
theorem we:∀(X:List Nat) (l:Array Bool) (k:Nat),k∈X→k<l.size→(oX l X).getD k false=true
 |j::js,l,k,h,hk=>by
  rw[oX]
  rcases List.mem_cons.1 h with rfl | h
  ·exact nF js _ _ (by simp[hk])
  ·exact we js _ k h (by simpa using hk)
theorem Ay:∀is:List (Nat×Nat),(fK is).length≤is.length
 |[]=>Nat.le_refl _
 |(i,m)::is=>by
  rw[fK]
  cases Nat.beq m 4 with
  |true=>have:=Ay is;simp only[cond_true,zN];omega
  |false=>have:=Ay is;simp only[cond_false,zN];omega
theorem kh:∀(is:List (Nat×Nat)) {j d:Nat} {o:Oper},j∈fK is→ops[j]?=some o→o.dst=some d→d∈ui ops is
 |[],_,_,_,hj,_,_=>by simp[fK] at hj
 |(i,m)::is,j,d,o,hj,ho,hd=>by
  rw[fK] at hj
  rw[ui]
  cases hm:Nat.beq m 4 with
  |true=>
   rw[hm] at hj
   simp only[cond_true] at hj ⊢
   rcases List.mem_cons.1 hj with rfl | hj
   ·rw[ho,Option.bind_some,hd];simp
   ·have:=kh is hj ho hd
    split
    ·exact List.mem_cons_of_mem _ this
    ·exact this
  |false=>rw[hm] at hj;exact kh is hj ho hd
theorem oY {tt:TT}{kb:Nat}:∀(is:List (Nat×Nat)),DW tt ops is=true→∀{j:Nat},j∈fK is→∀o t d,ops[j]?=some o→o.op=.alloc t→o.dst=some d→∀z,∃A',Nq tt kb z o.dst o.op=some (true,A')
 |[],_,j,hj=>by simp[fK] at hj
 |(i,m)::is,h,j,hj=>by
  intro o t d ho hop hd z
  rw[fK] at hj
  rw[DW] at h
  simp only[zA] at h
  cases hm:Nat.beq m 4 with
  |true=>
   rw[hm] at hj h
   simp only[cond_true] at hj h
   rcases List.mem_cons.1 hj with rfl | hj
   ·have h1:=h.1
    rw[ho] at h1
    simp only[hop] at h1
    rw[hop,hd]
    simp only[Nq]
    rw[h1]
    exact ⟨_,rfl⟩
   ·exact oY is h.2 hj o t d ho hop hd z
  |false=>rw[hm] at hj;exact oY is h.2 hj o t d ho hop hd z
theorem gC {j:Nat}(h:mJ ops j=true):∃o t d,ops[j]?=some o∧o.op=.alloc t∧o.after = #[]∧o.guard=none∧o.dst=some d∧∀k o',k≠j→ops[k]?=some o'→o'.dst≠some d:=by
 unfold mJ at h
 split at h
 ·rename_i o ho
  simp only[zA] at h
  obtain ⟨h1,h2,h3,h4⟩:=h
  split at h1
  ·rename_i t ht
   split at h4
   ·rename_i d hd
    refine ⟨o,t,d,ho,ht,by simpa using h2,by simpa using h3,hd,fun k o' hk hk'=>?_⟩
    simp only[zJ,List.mem_range,Bool.or_eq_true,beq_iff_eq] at h4
    have:=(h4 k (Array.getElem?_eq_some_iff.1 hk').1).resolve_left hk
    rw[hk'] at this
    simpa using this
   ·cases h4
  ·cases h1
 ·cases h
theorem bW {l0:Array Bool}{pf:List Nat}(h:jH ops l0 pf=true):∀j∈pf,mJ ops j=true∧l0.getD j true=false:=by
 intro j hj
 have:=List.all_eq_true.1 h j hj
 simpa using this
theorem V.map_noKey {v:V}{k:Nat}(h:v.hasKey k=false):v.map (C.noKey k)=v:=by
 have hl:∀cs:List C,cs.any (·.hasKey k)=false→cs.map (C.noKey k)=cs:=fun cs h=>by
  conv=>rhs;rw[← List.map_id cs]
  refine List.map_congr_left fun c hc=>?_
  have:=List.any_eq_false.1 h c hc
  simp[C.noKey,this]
 cases v with
 |one c=>simp only[V.map];simp only[V.hasKey] at h;simp[C.noKey,h]
 |agg cs=>simp only[V.map];rw[hl cs h]
 |tup ps=>
  simp only[V.map]
  congr 1
  conv=>rhs;rw[← List.map_id ps]
  refine List.map_congr_left fun p hp=>?_
  have:=List.any_eq_false.1 h p hp
  rw[hl p.2 (by simpa using this)];rfl
 |any=>rfl
theorem AS.map_noKey {A:AS}{k:Nat}(h:A.uses k=false):A.map (C.noKey k)=A:=by
 unfold AS.uses at h
 simp only[Bool.or_eq_false_iff] at h
 obtain ⟨⟨h1,h2⟩,h3⟩:=h
 obtain ⟨tm,stk,ob⟩:=A
 have ht:∀vs:List V,(∀v∈vs,v.map (C.noKey k)=v)→vs.map (V.map (C.noKey k))=vs:=fun vs h=>by
  conv=>rhs;rw[← List.map_id vs]
  exact List.map_congr_left h
 simp only[AS.map]
 congr 1
 ·exact ht tm fun v hv=>V.map_noKey (by have:=List.any_eq_false.1 h1 v hv;simpa using this)
 ·conv=>rhs;rw[← List.map_id stk]
  refine List.map_congr_left fun vs hvs=>?_
  have:=List.any_eq_false.1 h2 vs hvs
  exact ht vs fun v hv=>V.map_noKey (by
   have h':vs.any (·.hasKey k)=false:=by simpa using this
   have:=List.any_eq_false.1 h' v hv;simpa using this)
 ·conv=>rhs;rw[← List.map_id ob]
  refine List.map_congr_left fun o ho=>?_
  have:=List.any_eq_false.1 h3 o ho
  cases o with
  |none=>rfl
  |some cs=>
   have h':cs.any (·.hasKey k)=false:=by simpa using this
   simp only[Option.map_some,id]
   congr 1
   conv=>rhs;rw[← List.map_id cs]
   refine List.map_congr_left fun c hc=>?_
   have:=List.any_eq_false.1 h' c hc
   simp[C.noKey,this]
theorem Rc.noKey' {G:Gh}{w:World}{c:C}{v:Value}(k:Nat)(h:Rc G w c v):Rc G w (c.noKey k) v:=by
 unfold C.noKey
 split
 ·exact h.cell
 ·exact h
theorem Rel.forgetO {F:Fra}{G:Gh}{A:AS}{ts:Array Value}{cst:List (Array Value)}{w:World}(R:Rel F G A ts cst w)(k:Nat):Rel F G (A.forgetO k) ts cst w:=by
 have R':=R.map (f:=C.noKey k) (fun c v h=>h.noKey' k) (j3 k) (fun _ _ h=>⟨h,rfl⟩) R.gh
 refine ⟨R'.tm,R'.stk,fun j cs hj=>?_,R.gh⟩
 simp only[AS.forgetO,List.getElem?_set] at hj
 split at hj
 ·split at hj <;> cases hj
 ·exact R'.ob j cs hj
theorem Rel.anyT {F:Fra}{G:Gh}{A:AS}{ts:Array Value}{cst:List (Array Value)}{w:World}(R:Rel F G A ts cst w)(d:Nat):Rel F G (A.put (some d) .any) ts cst w:=
 ⟨R.tm.set_left d fun _ _=>trivial,R.stk,R.ob,R.gh⟩
theorem Rel.clean {F:Fra}{G:Gh}{ts:Array Value}{cst:List (Array Value)}{w:World}{kb:Nat}:∀(ds:List Nat) {A:AS},Rel F G A ts cst w→Rel F G (jz kb ds A) ts cst w
 |[],_,R=>R
 |d::ds,_,R=>Rel.clean ds ((R.forgetO (kb+d)).anyT d)
theorem All2.set_right {α β:Type}{R:α→β→Prop}:∀{xs:List α} {ys:List β} (n:Nat) {b:β},All2 R xs ys→(∀a,xs[n]?=some a→R a b)→All2 R xs (ys.set n b)
 |[],[],_,_,_,_=>by simp[All2]
 |_::_,_::_,0,_,h,h'=>⟨h' _ rfl,h.2⟩
 |_::_,_::_,n+1,_,h,h'=>⟨h.1,All2.set_right n h.2 fun b hb=>h' b (by simpa using hb)⟩
 |[],_::_,_,_,h,_=>h.elim
 |_::_,[],_,_,h,_=>h.elim
theorem Rel.newFl {F:Fra}{G:Gh}{A:AS}{ts:Array Value}{cst:List (Array Value)}{w w':World}{kb d:Nat}(R:Rel F G A ts cst w)(g:Grew w w')(hk0:F.mu0 (kb+d)=none)(hc:kJ kb A d=true)(u:Value):
  Rel F (G.newOb (kb+d) w.heap.size) A (ts.setIfInBounds d u) cst w':=by
 unfold kJ at hc
 simp only[zA,Bool.not_eq_true'] at hc
 obtain ⟨h1,h2,h3⟩:=hc
 have e:=AS.map_noKey h1
 have go:=Goes.newOb R.gh g (kb+d)
 have hf:∀c v,Rc G w c v→Rc (G.newOb (kb+d) w.heap.size) w' (c.noKey (kb+d)) v:=fun c v h=>h.noKey go
 have ht:All2 (Rv (G.newOb (kb+d) w.heap.size) w') (A.map (C.noKey (kb+d))).tm ts.toList:=R.tm.map_left _ fun a b h=>Rv.map hf h
 have hs:All2 (fun vs (t:Array Value)=>All2 (Rv (G.newOb (kb+d) w.heap.size) w') vs t.toList) (A.map (C.noKey (kb+d))).stk cst:=R.stk.map_left _ fun a b h=>h.map_left _ fun a b h=>Rv.map hf h
 rw[e] at ht hs
 refine ⟨?_,hs,fun k cs hk=>?_,R.gh.newOb g (kb+d) hk0⟩
 ·rw[Array.toList_setIfInBounds]
  refine ht.set_right d fun v hv=>?_
  rw[hv] at h2
  cases v <;> first | trivial | cases h2
 ·have hne:k≠kb+d:=by rintro rfl;rw[hk] at h3;cases h3
  have hk':(A.map (C.noKey (kb+d))).ob[k]?=some (some cs):=by rw[e];exact hk
  obtain ⟨cs0,h0,rfl⟩:=AS.map_ob hk'
  obtain ⟨b,o',hm,hh',hr'⟩:=R.ob k cs0 h0
  exact ⟨b,o',by simp[Gh.newOb,hne,hm],(g.old b (R.gh.mu k b hm).2.2).trans hh',hr'.map hf (j3 _)⟩
theorem ve (htt:cJ P tt){o:Oper}{t d kb:Nat}{A A':AS}{chk:Bool}(ho:o.op=.alloc t)(hd:o.dst=some d)(h:Nq tt kb A o.dst o.op=some (chk,A'))(a:Act)(w:World):
  ∃cur:Array Value,(execOp a.eval o).run P w=.ok (.value (.pointer (some ⟨w.heap.size,0,none⟩))) (w.alloc (.cells cur t))∧cur.toList=(tt.at t).zero∧(tt.at t).zero.all Value.oneCell'=true∧
   A'=(A.newOb (kb+d) (iT tt (cn (kb+d) 0) t)).put (some d) (.one (.ptr (kb+d) 0)):=by
 rw[ho,hd] at h
 simp only[Nq] at h
 cases hz:(v8 tt t).isSome&&(tt.at t).zero.all Value.oneCell' with
 |false=>rw[hz] at h;cases h
 |true=>
  rw[hz] at h
  simp only[cond_true,zC,zD] at h
  obtain ⟨_,rfl⟩:=h
  simp only[zA] at hz
  obtain ⟨n,hn⟩:=Option.isSome_iff_exists.1 hz.1
  obtain ⟨hT,_⟩:=iS htt hn
  obtain ⟨z,hzr,hzc,_⟩:=hT.zero w
  refine ⟨z.cells,?_,hzc,hz.2,rfl⟩
  obtain ⟨dst,op,type,pos,after,guard⟩:=o
  simp only at ho hd
  subst ho
  simp[execOp,Instr.alloc,hzr,newVar,iJ]
def FlDone (tt:TT)(ops:Array Oper)(kb j:Nat)(G:Gh)(a:Act)(w:World):Prop:=
 ∃(o:Oper) (t d b:Nat) (cur:Array Value),ops[j]?=some o∧o.op=.alloc t∧o.dst=some d∧G.mu (kb+d)=some b∧(∀u,a.tmps[d]?=some u→u=.pointer (some ⟨b,0,none⟩))∧
  w.heap[b]?=some (.cells cur t (0,0))∧cur.toList=(tt.at t).zero
theorem Act.put_get {a:Act}{dst:Option Tmp}{d:Nat}(h:dst≠some d)(u:Value):(a.put dst u).tmps[d]?=a.tmps[d]?:=by
 cases dst with
 |none=>rfl
 |some d'=>
  have:d'≠d:=fun e=>h (by rw[e])
  simp[Act.put,Array.getElem?_setIfInBounds_ne this]
theorem FlDone.put {kb i j:Nat}{oi:Oper}{G:Gh}{a:Act}{w:World}(h:FlDone tt ops kb j G a w)(hf:mJ ops j=true)(hi:ops[i]?=some oi)(hne:i≠j)(u:Value):FlDone tt ops kb j G (a.put oi.dst u) w:=by
 obtain ⟨o,t,d,b,cur,ho,h1,h2,h3,h4,h5,h6⟩:=h
 refine ⟨o,t,d,b,cur,ho,h1,h2,h3,fun v hv=>h4 v ?_,h5,h6⟩
 obtain ⟨o',t',d',ho',_,_,_,hd',hall⟩:=gC hf
 rw[ho] at ho';cases ho'
 rw[h2] at hd';cases hd'
 rw[Act.put_get (hall i oi hne hi)] at hv
 exact hv
theorem FlDone.unt {kb j:Nat}{ks:List Nat}{G G':Gh}{a:Act}{w w':World}(h:FlDone tt ops kb j G a w)(hk:∀o d,ops[j]?=some o→o.dst=some d→kb+d∈ks)(hu:UntH G ks w G' w'):FlDone tt ops kb j G' a w':=by
 obtain ⟨o,t,d,b,cur,ho,h1,h2,h3,h4,h5,h6⟩:=h
 obtain ⟨e1,e2⟩:=hu.2 _ (hk o d ho h2) b h3
 exact ⟨o,t,d,b,cur,ho,h1,h2,e1,h4,e2.trans h5,h6⟩
theorem Rel.found {F:Fra}{G:Gh}{A:AS}{a:Act}{cst:List (Array Value)}{w:World}{kb d t b:Nat}{cur:Array Value}(R:Rel F G A a.tmps cst w)(h3:G.mu (kb+d)=some b)(h4:∀u,a.tmps[d]?=some u→u=.pointer (some ⟨b,0,none⟩))
  (h5:w.heap[b]?=some (.cells cur t (0,0))) (h6:cur.toList=(tt.at t).zero) (hz:(tt.at t).zero.all Value.oneCell'=true):
  Rel F G ((A.newOb (kb+d) (iT tt (cn (kb+d) 0) t)).put (some d) (.one (.ptr (kb+d) 0))) a.tmps cst w:=by
 have R':=R.map (f:=C.noKey (kb+d)) (fun c v h=>h.noKey' (kb+d)) (j3 _) (fun _ _ h=>⟨h,rfl⟩) R.gh
 refine ⟨?_,R'.stk,?_,R.gh⟩
 ·refine R'.tm.set_left d fun u hu=>?_
  rw[Array.getElem?_toList] at hu
  exact ⟨b,h3,h4 u hu⟩
 ·intro k cs hk
  rcases lc _ (kb+d) k _ cs hk with ⟨rfl,rfl⟩ | ⟨hne,hk'⟩
  ·exact ⟨b,_,h3,h5,.inl ⟨cur,t,rfl,by rw[h6];exact fI _ _ hz⟩⟩
  ·exact R'.ob k cs hk'
structure FlSt (P:Program) (tt:TT) (ops:Array Oper) (T:List Nat) (kb:Nat) (F:Fra) (cst:List (Array Value)) (dfs:List Deferred) (A:AS) (hid:List Nat) (G0:Gh) (w0:World) (l0:Array Bool) (pf:List Nat) (L:Nat)
  (ud:List Nat) (n:Nat) (listed:Array Bool) (G:Gh) (a:Act) (w:World):Prop where
 size:listed.size=l0.size
 get:∀k,k ∉ pf→listed[k]?=l0[k]?
 nodup:ud.Nodup
 und:∀j∈ud,j∈pf∧listed[j]?=l0[j]?
 done:∀j∈pf,j ∉ ud→listed.getD j false=true∧FlDone tt ops kb j G a w
 cnt:n+pf.length=L+ud.length
 rel:Rel F G A a.tmps cst w
 hold:(∀j∈T,listed.getD j false=false)→Hold G0 w0 hid G w
 dfs:a.defers=dfs
theorem bV {l l':Array Bool}{k:Nat}(h:l[k]?=l'[k]?)(d:Bool):l.getD k d=l'.getD k d:=by
 rw[Array.getD_eq_getD_getElem?,Array.getD_eq_getD_getElem?,h]
theorem FlSt.fl (htt:cJ P tt){kb:Nat}{F:Fra}(hkb:∀d,F.mu0 (kb+d)=none){cst:List (Array Value)}{dfs:List Deferred}{A:AS}{hid:List Nat}{G0:Gh}{w0:World}{l0:Array Bool}{pf:List Nat}{L:Nat}
  {ud:List Nat} {n:Nat} {listed:Array Bool} {G:Gh} {a:Act} {w:World} (S:FlSt P tt ops T kb F cst dfs A hid G0 w0 l0 pf L ud (n+1) listed G a w) (hp:jH ops l0 pf=true)
  (hcl:∀j∈pf,∀o d,ops[j]?=some o→o.dst=some d→kJ kb A d=true) (hal:∀j∈pf,∀o t d,ops[j]?=some o→o.op=.alloc t→o.dst=some d→∀z,∃A',Nq tt kb z o.dst o.op=some (true,A'))
  (hhid:∀j∈pf,∀o d,ops[j]?=some o→o.dst=some d→kb+d ∉ hid)
  {Q:Exit→Act→World→Prop} {k:Nat} (hk:k∈ud):wpOp P ops Q k (fun a' w'=>∃G',FlSt P tt ops T kb F cst dfs A hid G0 w0 l0 pf L (ud.erase k) n (listed.setIfInBounds k true) G' a' w') a w:=by
 obtain ⟨hkp,hkl⟩:=S.und k hk
 obtain ⟨hf,hu0⟩:=bW hp k hkp
 obtain ⟨o,t,d,ho,hop,haf,hgd,hd,hall⟩:=gC hf
 obtain ⟨A',hz⟩:=hal k hkp o t d ho hop hd A
 obtain ⟨cur,hrun,hcur,hzz,_⟩:=ve htt hop hd hz a w
 have hlt:k<l0.size:=by
  rcases Nat.lt_or_ge k l0.size with h | h
  ·exact h
  ·rw[Array.getD_eq_getD_getElem?,Array.getElem?_eq_none h] at hu0;cases hu0
 unfold wpOp
 rw[ho]
 simp only
 rw[if_pos (by simp[Region.wanted,hgd])]
 refine .inl ?_
 unfold Oper.wp
 rw[hrun]
 simp only[Oper.upon]
 have hg:=Grew.alloc w (.cells cur t)
 have go:=Goes.newOb S.rel.gh hg (kb+d)
 have hh:(w.alloc (.cells cur t)).heap[w.heap.size]?=some (.cells cur t (0,0)):=heap_alloc_new w _
 refine ⟨G.newOb (kb+d) w.heap.size,⟨by simp[S.size],fun j hj=>?_,S.nodup.erase _,fun j hj=>?_,fun j hj hju=>?_,?_,?_,fun hT=>?_,(Act.put_defers' _ _ _).trans S.dfs⟩⟩
 ·rw[Array.getElem?_setIfInBounds_ne (by rintro rfl;exact hj hkp)];exact S.get j hj
 ·have hjk:j≠k:=by rintro rfl;exact absurd hj (by rw[S.nodup.mem_erase_iff];simp)
  obtain ⟨h1,h2⟩:=S.und j (List.mem_of_mem_erase hj)
  exact ⟨h1,by rw[Array.getElem?_setIfInBounds_ne (Ne.symm hjk)];exact h2⟩
 ·by_cases hjk:j=k
  ·subst hjk
   refine ⟨by simp[S.size,hlt],o,t,d,w.heap.size,cur,ho,hop,hd,by simp[Gh.newOb],fun u hu=>?_,hh,hcur⟩
   rw[hd] at hu
   simp only[Act.put,Array.getElem?_setIfInBounds_self] at hu
   split at hu
   ·cases hu;rfl
   ·cases hu
  ·have hju':j ∉ ud:=fun h=>hju (by rw[S.nodup.mem_erase_iff];exact ⟨hjk,h⟩)
   obtain ⟨h1,h2⟩:=S.done j hj hju'
   refine ⟨getD_set_true h1,?_⟩
   have h3:=h2.put (bW hp j hj).1 ho (Ne.symm hjk) (.pointer (some ⟨w.heap.size,0,none⟩))
   obtain ⟨o',t',d',b',cur',ho',g1,g2,g3,g4,g5,g6⟩:=h3
   have hdd:d'≠d:=by rintro rfl;exact hall j o' hjk ho' g2
   exact ⟨o',t',d',b',cur',ho',g1,g2,by simp[Gh.newOb,hdd,g3],g4,(hg.old b' (S.rel.gh.mu _ b' g3).2.2).trans g5,g6⟩
 ·have h1:=S.cnt
  have h2:(ud.erase k).length+1=ud.length:=by
   have:=List.length_erase_of_mem hk
   have:=List.length_pos_of_mem hk
   omega
  omega
 ·have:=S.rel.newFl hg (hkb d) (hcl k hkp o d ho hd) (.pointer (some ⟨w.heap.size,0,none⟩))
  rw[hd]
  exact this
 ·have h0:=S.hold fun j hj=>by
   cases hh:listed.getD j false with
   |false=>rfl
   |true=>have:=hT j hj;rw[getD_set_true hh] at this;cases this
  refine h0.step ⟨go.kept,fun key hkey b hb=>?_⟩
  have:key≠kb+d:=by rintro rfl;exact hhid k hkp o d ho hd hkey
  exact ⟨by simp[Gh.newOb,this,hb],hg.old b (S.rel.gh.mu key b hb).2.2⟩
theorem L3 {l0 listed:Array Bool}{pf:List Nat}(hp:jH ops l0 pf=true)(hg:∀k,k ∉ pf→listed[k]?=l0[k]?){i:Nat}(hip:i ∉ pf)(hr:i∈Region.ready .any ops l0):i∈Region.ready .any ops listed:=by
 rw[mem_ready] at hr ⊢
 obtain ⟨h1,o',h2,h3⟩:=hr
 refine ⟨by rw[bV (hg i hip)];exact h1,o',h2,fun e he hb=>?_⟩
 have h4:=h3 e he hb
 by_cases hep:e.on∈pf
 ·have:=(bW hp _ hep).2
  rw[Array.getD_eq_getD_getElem?] at this h4
  cases hx:l0[e.on]? with
  |none=>rw[hx] at this;cases this
  |some x=>rw[hx] at this h4;simp at this h4;rw[this] at h4;cases h4
 ·rw[bV (hg _ hep)];exact h4
theorem Ax {l0:Array Bool}{pf:List Nat}(hp:jH ops l0 pf=true){j:Nat}(hj:j∈pf):j<l0.size:=by
 have:=(bW hp j hj).2
 rcases Nat.lt_or_ge j l0.size with h | h
 ·exact h
 ·rw[Array.getD_eq_getD_getElem?,Array.getElem?_eq_none h] at this;cases this
theorem CV {l0 listed:Array Bool}{X:List Nat}{k:Nat}(hX:∀j∈X,j<l0.size)(hl:∀j,listed.getD j false=true→j∈X∨l0.getD j false=true)(hkX:k ∉ X)(hk:listed[k]?=l0[k]?)(hr:k∈Region.ready .any ops listed):
  k∈Region.ready .any ops (oX l0 X):=by
 rw[mem_ready] at hr ⊢
 obtain ⟨h1,o',h2,h3⟩:=hr
 refine ⟨?_,o',h2,fun e he hb=>?_⟩
 ·rw[bV ((wd X l0 k hkX).trans hk.symm)];exact h1
 ·rcases hl _ (h3 e he hb) with h | h
  ·exact we X l0 _ h (hX _ h)
  ·exact nF X l0 _ h
theorem xQ {listed:Array Bool}{k:Nat}(h:listed.getD k false=true):k ∉ Region.ready .any ops listed:=by
 intro hr
 have h0:=(mem_ready.1 hr).1
 rw[Array.getD_eq_getD_getElem?] at h h0
 cases hx:listed[k]? with
 |none=>rw[hx] at h0;cases h0
 |some x=>rw[hx] at h h0;simp at h h0;rw[h] at h0;cases h0
theorem FlSt.next {kb:Nat}{F:Fra}{cst:List (Array Value)}{dfs:List Deferred}{A A':AS}{hid hid':List Nat}{G0:Gh}{w0:World}{l0:Array Bool}{pf:List Nat}{L:Nat}
  {ud:List Nat} {n:Nat} {listed:Array Bool} {G G':Gh} {a:Act} {w w':World} (S:FlSt P tt ops T kb F cst dfs A hid G0 w0 l0 pf (L+1) ud (n+1) listed G a w) {i:Nat} {o:Oper} (ho:ops[i]?=some o) (hip:i ∉ pf)
  (hpe:jH ops l0 pf=true) {u:Value} {ks:List Nat} (hk:∀j∈pf,∀o d,ops[j]?=some o→o.dst=some d→kb+d∈ks) (hu:UntH G ks w G' w') (hR:Rel F G' A' (a.put o.dst u).tmps cst w')
  (hold:(∀j∈T,listed.getD j false=false)→Hold G0 w0 hid' G' w'):
  FlSt P tt ops T kb F cst dfs A' hid' G0 w0 (l0.setIfInBounds i true) pf L ud n (listed.setIfInBounds i true) G' (a.put o.dst u) w':=by
 refine ⟨by simp[S.size],fun k hk=>?_,S.nodup,fun j hj=>?_,fun j hj hju=>?_,?_,hR,fun hT'=>?_,(Act.put_defers' _ _ _).trans S.dfs⟩
 ·by_cases hki:k=i
  ·rw[hki,Array.getElem?_setIfInBounds_self,Array.getElem?_setIfInBounds_self,S.size]
  ·rw[Array.getElem?_setIfInBounds_ne (Ne.symm hki),Array.getElem?_setIfInBounds_ne (Ne.symm hki)];exact S.get k hk
 ·obtain ⟨h1,h2⟩:=S.und j hj
  have hji:i≠j:=by rintro rfl;exact hip h1
  exact ⟨h1,by rw[Array.getElem?_setIfInBounds_ne hji,Array.getElem?_setIfInBounds_ne hji];exact h2⟩
 ·obtain ⟨h1,h2⟩:=S.done j hj hju
  exact ⟨getD_set_true h1,(h2.unt (hk j hj) hu).put (bW hpe j hj).1 ho (by rintro rfl;exact hip hj) u⟩
 ·have:=S.cnt;omega
 ·exact hold fun j hj=>by
   cases hh:listed.getD j false with
   |false=>rfl
   |true=>have:=hT' j hj;rw[getD_set_true hh] at this;cases this
theorem BV (htt:cJ P tt){hd:Hd}(hh:lK P hd){R:Type}{F:Fra}{G:Gh}{A:AS}{a:Act}{cst:List (Array Value)}{w:World}(Rl:Rel F G A a.tmps cst w){kb:Nat}(hkb:∀d,F.mu0 (kb+d)=none)(hid:List Nat)(o:Oper){K:Ex→AS→Option R}{r:R}
  (h:zd tt hd kb hid o A K=some r) {N:Act→World→Prop} {Q:Exit→Act→World→Prop} (hK:Pw F cst a.defers r K (fun G' a' w'=>UntH G hid w G' w'∧(Ik o.op=true→G'=G∧w'=w)) N Q):o.wp P a w N Q:=by
 cases hp:Ik o.op with
 |false=>
  refine ie htt hh Rl hkb hid o h fun ex A' G' a' w' hR hd hk=>?_
  have:=hK ex A' G' a' w' hR hd hk
  cases ex with
  |normal=>exact fun hu=>this ⟨hu.1,fun e=>by rw[hp] at e;cases e⟩
  |exit id=>exact this
  |ret=>exact this
  |panic v=>exact this
 |true=>
  unfold zd at h
  simp only[AS.putK_eq,AS.force_eq] at h
  unfold Oper.wp
  split at h
  ·rename_i c x y hop
   have hc:=Rl.opd c
   split at h
   ·rename_i b e1
    rw[e1] at hc
    have hc':a.eval c=.bool b:=hc
    have hrun:(execOp a.eval o).run P w=.ok (.value (if b then a.eval x else a.eval y)) w:=by
     simp only[execOp,hop,Sem.run_bind,hc',asBool,Sem.run_pure,Result.andThen_ok]
    rw[hrun]
    simp only[Oper.upon]
    cases b with
    |true=>exact hK .normal _ _ _ _ (Rl.puts (Rl.opd x) o.dst) (Act.put_defers' _ _ _) h ⟨.refl _ _ _,fun _=>⟨rfl,rfl⟩⟩
    |false=>exact hK .normal _ _ _ _ (Rl.puts (Rl.opd y) o.dst) (Act.put_defers' _ _ _) h ⟨.refl _ _ _,fun _=>⟨rfl,rfl⟩⟩
   ·cases h
  all_goals
   exfalso
   unfold Ik at hp
   split at hp
   ·simp_all
   ·cases hp
theorem fe (htt:cJ P tt){hd:Hd}(hh:lK P hd)(hs:Region.noSelect ops=true){R:Type}{F:Fra}{cst:List (Array Value)}{kb:Nat}(hkb:∀d,F.mu0 (kb+d)=none){r:R}{Q:Exit→Act→World→Prop}{G0:Gh}{w0:World}:
  ∀(is:List (Nat×Nat)) {ph:Bool} {l0 listed:Array Bool} {ud:List Nat} {n:Nat} {hid:List Nat} {G:Gh} {A:AS} {a:Act} {w:World} {K:Ex→AS→Option R} {dfs:List Deferred},
  nJ tt ops T ph l0 is=true→vN tt hd kb ops is hid A K=some r→tC F cst dfs r K Q→
  FlSt P tt ops T kb F cst dfs A hid G0 w0 l0 (fK is) is.length ud n listed G a w→(ph=true→G=G0∧w=w0)→
  wpAnyL P .any ops (Qh ops Q) T (Agr (·∈hid) G0 w0) n listed a w
 |[],ph,l0,listed,ud,n,hid,G,A,a,w,K,dfs,hc,h,hK,S,hph=>by
  simp only[nJ,List.isEmpty_iff] at hc
  have hud:ud=[]:=by
   cases ud with
   |nil=>rfl
   |cons x xs=>exact absurd (S.und x (by simp)).1 (by simp[fK])
  have hn:n=0:=by have:=S.cnt;subst hud;simp[fK] at this;exact this
  have hl:listed=l0:=Array.ext_getElem? fun k=>S.get k (by simp[fK])
  subst hn hl
  exact ⟨hc,hK .normal A G a w S.rel S.dfs h⟩
 |(i,m)::is,ph,l0,listed,ud,n,hid,G,A,a,w,K,dfs,hc,h,hK,S,hph=>by
  obtain rfl:=S.dfs
  simp only[vN] at h
  cases ho:ops[i]? with
  |none=>rw[ho] at h;cases h
  |some o=>
   rw[ho] at h
   simp only at h
   have hpl:=Ay is
   have quiet:∀(hid':List Nat),fK ((i,m)::is)=fK is→sZ ops T l0 i=true→(!(fK is).contains i&&jH ops l0 (fK is))=true→(∀w',Agr (·∈hid') G0 w0 w'→Agr (·∈hid) G0 w0 w')→((∀j∈T,listed.getD j false=false)→Hold G0 w0 hid' G w)→
     ∀v,YieldsIf P ops (Agr (·∈hid') G0 w0) o v a→∀A',Rel F G A' (a.put o.dst v).tmps cst w→
     (∀n',FlSt P tt ops T kb F cst (a.put o.dst v).defers A' hid' G0 w0 (l0.setIfInBounds i true) (fK is) is.length ud n' (listed.setIfInBounds i true) G (a.put o.dst v) w→wpAnyL P .any ops (Qh ops Q) T (Agr (·∈hid') G0 w0) n' (listed.setIfInBounds i true) (a.put o.dst v) w)→
     wpAnyL P .any ops (Qh ops Q) T (Agr (·∈hid) G0 w0) n listed a w:=by
    intro hid' hpf hq hpe hm hA v hy A' hR hrest
    rw[hpf] at S
    simp only[zA,Bool.not_eq_true',List.contains_eq_mem,decide_eq_false_iff_not] at hpe
    obtain ⟨hip,hpe⟩:=hpe
    simp only[sZ,zA,zJ,Bool.not_eq_true',beq_eq_false_iff_ne,AT,List.any_eq_true,beq_iff_eq,exists_eq_right] at hq
    obtain ⟨hf,hr,hT,hZ⟩:=hq
    have hnZ:∀j∈qv ops i,j ∉ fK is:=fun j hj hjp=>by
     obtain ⟨o',t,d,ho',_,haf,_⟩:=gC (bW hpe j hjp).1
     obtain ⟨e,he,_⟩:=rA ops i j hj o' ho'
     rw[haf] at he;simp at he
    have hZl:∀j∈qv ops i,listed.getD j false=false:=fun j hj=>by rw[bV (S.get j (hnZ j hj))];exact (hZ j hj).2
    have hir:i∈Region.ready .any ops listed:=by
     have hr':i∈Region.ready .any ops l0:=by simpa using hr
     rw[mem_ready] at hr' ⊢
     obtain ⟨h1,o',h2,h3⟩:=hr'
     refine ⟨by rw[bV (S.get i hip)];exact h1,o',h2,fun e he hb=>?_⟩
     have h4:=h3 e he hb
     by_cases hep:e.on∈fK is
     ·have:=(bW hpe _ hep).2
      rw[Array.getD_eq_getD_getElem?] at this h4
      cases hx:l0[e.on]? with
      |none=>rw[hx] at this;cases this
      |some x=>rw[hx] at this h4;simp at this h4;rw[this] at h4;cases h4
     ·rw[bV (S.get _ hep)];exact h4
    obtain ⟨n',rfl⟩:∃n',n=n'+1:=⟨n - 1,by have:=S.cnt;simp only[zN] at this;omega⟩
    refine (wpAnyL.first ho (Region.noSelect_spec hs) (fun c a w=>Qh.put ho v c a w) hT (fun j hj=>⟨(hZ j hj).1,rA ops i j hj⟩) n' listed a w (fun j oj hoj hji hjl hjd=>?_) hir hy
     (hA fun j hj=>hZl j (hT j hj)).agr hZl (hrest n' ⟨by simp[S.size],fun k hk=>?_,S.nodup,fun j hj=>?_,fun j hj hju=>?_,?_,hR,fun hT'=>?_,rfl⟩)).weaken hm
    ·refine Region.free_spec ho hf j oj hoj hji ?_ hjd
     by_cases hjp:j∈fK is
     ·exact (bW hpe j hjp).2
     ·rw[← bV (S.get j hjp)];exact hjl
    ·by_cases hki:k=i
     ·rw[hki,Array.getElem?_setIfInBounds_self,Array.getElem?_setIfInBounds_self,S.size]
     ·rw[Array.getElem?_setIfInBounds_ne (Ne.symm hki),Array.getElem?_setIfInBounds_ne (Ne.symm hki)];exact S.get k hk
    ·obtain ⟨h1,h2⟩:=S.und j hj
     have hji:i≠j:=by rintro rfl;exact hip h1
     exact ⟨h1,by rw[Array.getElem?_setIfInBounds_ne hji,Array.getElem?_setIfInBounds_ne hji];exact h2⟩
    ·obtain ⟨h1,h2⟩:=S.done j hj hju
     exact ⟨getD_set_true h1,h2.put (bW hpe j hj).1 ho (by rintro rfl;exact hip hj) v⟩
    ·have h1:=S.cnt;have h2:((i,m)::is).length=is.length+1:=zN;omega
    ·exact hA fun j hj=>by
      cases hh:listed.getD j false with
      |false=>rfl
      |true=>have:=hT' j hj;rw[getD_set_true hh] at this;cases this
   have hset:∀j∈T,j≠i→(listed.setIfInBounds i true).getD j false=listed.getD j false:=fun j _ hne=>getD_set_ne false (Ne.symm hne)
   have sole:∀(ph':Bool) (hid':List Nat),fK is=[]→fK ((i,m)::is)=fK is→AH ops l0 i=true→(∀(a':Act) (w':World) (G':Gh) (A':AS),Rel F G' A' a'.tmps cst w'→a'.defers=a.defers→UntH G hid' w G' w'→(Ik o.op=true→G'=G∧w'=w)→vN tt hd kb ops is hid A' K=some r→
      (Ns T (Agr (·∈hid) G0 w0) (listed.setIfInBounds i true) w'∧(Hold G0 w0 hid G' w'∨¬ ∀j∈T,(listed.setIfInBounds i true).getD j false=false))∧(ph'=true→G'=G0∧w'=w0))→
     nJ tt ops T ph' (l0.setIfInBounds i true) is=true→
     gD ops o A (fun A=>zd tt hd kb hid' o A fun ex A'=>match ex with
      |.normal=>vN tt hd kb ops is hid A' K
      |.panic v=>K (.panic v) { A' with tm:=rI (gB ops) 0 A'.tm }
      |ex=>K ex A') (fun A=>vN tt hd kb ops is hid A K)=some r→
     wpAnyL P .any ops (Qh ops Q) T (Agr (·∈hid) G0 w0) n listed a w:=by
    intro ph' hid' hpe hpf hs1 hho hc hgd
    rw[hpf,hpe] at S
    have hud:ud=[]:=by
     cases ud with
     |nil=>rfl
     |cons x xs=>exact absurd (S.und x (by simp)).1 (by simp)
    have hn:n=is.length+1:=by have:=S.cnt;subst hud;simp at this;exact this
    have hl:listed=l0:=Array.ext_getElem? fun k=>S.get k (by simp)
    subst hn hl hud
    have hr:Region.ready .any ops listed=[i]:=by
     unfold AH at hs1
     split at hs1
     ·rename_i j e
      rw[e,beq_iff_eq.1 hs1]
     ·cases hs1
    have hrest:∀(a':Act) (w':World) (G':Gh) (A':AS),Rel F G' A' a'.tmps cst w'→a'.defers=a.defers→UntH G hid' w G' w'→(Ik o.op=true→G'=G∧w'=w)→vN tt hd kb ops is hid A' K=some r→
      Ns T (Agr (·∈hid) G0 w0) (listed.setIfInBounds i true) w'∧wpAnyL P .any ops (Qh ops Q) T (Agr (·∈hid) G0 w0) is.length (listed.setIfInBounds i true) a' w':=by
     intro a' w' G' A' hR hd' hu hpk hk
     obtain ⟨⟨h1,h2⟩,h3⟩:=hho a' w' G' A' hR hd' hu hpk hk
     refine ⟨h1,fe htt hh hs hkb is hc hk hK ⟨rfl,fun _ _=>rfl,S.nodup,fun j hj=>(by cases hj),fun j hj=>(by rw[hpe] at hj;cases hj),(by rw[hpe]),hR,fun hT=>h2.resolve_right fun h=>h hT,hd'⟩ h3⟩
    refine ⟨fun e=>(by rw[e] at hr;cases hr),fun j hj=>?_⟩
    rw[hr,List.mem_singleton] at hj
    subst hj
    unfold wpOp
    rw[ho]
    simp only
    rcases cK S.rel hgd with ⟨hw,A1,R1,h1⟩ | ⟨hw,A1,R1,h1⟩
    ·rw[if_pos hw]
     refine .inl (BV htt hh R1 hkb hid' o h1 ?_)
     intro ex A' G' a' w' R' hd' hk
     cases ex with
     |normal=>exact fun hu=>hrest a' w' G' A' R' hd' hu.1 hu.2 hk
     |exit id=>exact hK _ A' G' a' w' R' hd' hk
     |ret=>exact hK _ A' G' a' w' R' hd' hk
     |panic v=>exact fun u hu=>Qh.post hK R' hd' hk u hu
    ·rw[if_neg (by simp[hw])]
     exact hrest _ w G A1 R1 (Act.put_defers' _ _ _) (.refl _ _ _) (fun _=>⟨rfl,rfl⟩) h1
   match m,hc,h with
   |0,hc,h=>
    simp only[nJ,zA] at hc
    obtain ⟨⟨⟨hq,hrd⟩,hpe⟩,hc⟩:=hc
    have hrd':uy tt o.op=false:=by simpa [AA,ho] using hrd
    rcases cK S.rel h with ⟨hw,A1,R1,h1⟩ | ⟨hw,A1,R1,h1⟩
    ·split at h1
     ·rename_i chk v hv
      cases chk with
      |false=>cases h1
      |true=>
       simp only[cond_true,AS.putK_eq] at h1
       obtain ⟨u,hu,hr⟩:=ze (H:=fun _=>True) htt R1.gh.tabs (fun x=>R1.opd x) R1.ob o hv rfl fun _ _ _ _ _ _=>trivial
       refine quiet hid rfl hq (by simpa using hpe) (fun _ h=>h) S.hold u (.inl ⟨hw,fun w' _=>hu w' fun e=>by rw[hrd'] at e;cases e⟩) _ (R1.puts hr o.dst) fun n' S'=>?_
       exact fe htt hh hs hkb is hc h1 (by rw[Act.put_defers'];exact hK) S' hph
     ·cases h1
    ·refine quiet hid rfl hq (by simpa using hpe) (fun _ h=>h) S.hold undef (.inr ⟨hw,rfl⟩) _ R1 fun n' S'=>?_
     exact fe htt hh hs hkb is hc h1 (by rw[Act.put_defers'];exact hK) S' hph
   |1,hc,h=>
    simp only[nJ,zA] at hc
    obtain ⟨⟨⟨hq,rfl⟩,hpe⟩,hc⟩:=hc
    obtain ⟨rfl,rfl⟩:=hph rfl
    rcases cK S.rel h with ⟨hw,A1,R1,h1⟩ | ⟨hw,A1,R1,h1⟩
    ·split at h1
     ·rename_i chk v hv
      cases chk with
      |false=>cases h1
      |true=>
       simp only[cond_true,AS.putK_eq] at h1
       obtain ⟨u,hu,hr⟩:=ze (H:=(·∈sK A1 o.op++hid)) htt R1.gh.tabs (fun x=>R1.opd x) R1.ob o hv rfl fun t x k j e1 e2=>by
        rw[e1];simp only[sK,e2];simp
       refine quiet (sK A1 o.op++hid) rfl hq (by simpa using hpe) (fun w' h=>⟨h.1,fun key b hk hb=>h.2 key b (List.mem_append_right _ hk) hb⟩) (fun _=>⟨fun _ _ h=>h,fun _ _ _ h=>h,Agr.refl _ _ _⟩) u (.inl ⟨hw,fun w' h'=>hu w' fun _=>h'⟩) _ (R1.puts hr o.dst) fun n' S'=>?_
       exact fe htt hh hs hkb is hc h1 (by rw[Act.put_defers'];exact hK) S' fun _=>⟨rfl,rfl⟩
     ·cases h1
    ·refine quiet hid rfl hq (by simpa using hpe) (fun _ h=>h) S.hold undef (.inr ⟨hw,rfl⟩) _ R1 fun n' S'=>?_
     exact fe htt hh hs hkb is hc h1 (by rw[Act.put_defers'];exact hK) S' fun _=>⟨rfl,rfl⟩
   |2,hc,h=>
    simp only[nJ,zA,zJ,Bool.not_eq_true',beq_eq_false_iff_ne,List.isEmpty_iff] at hc
    obtain ⟨⟨⟨hso,hiT⟩,hpe⟩,hc⟩:=hc
    refine sole (ph&&Az ops i) hid hpe rfl hso (fun a' w' G' A' R' hd' hu hpk hk=>⟨?_,fun e=>?_⟩) hc h
    rotate_left
    ·rw[zA] at e
     obtain ⟨rfl,rfl⟩:=hpk (by simpa [Az,ho] using e.2)
     exact hph e.1
    have hold:(∀j∈T,(listed.setIfInBounds i true).getD j false=false)→Hold G0 w0 hid G' w':=fun hT=>(S.hold fun j hj=>by rw[← hset j hj (hiT j hj)];exact hT j hj).step hu
    exact ⟨fun hT=>(hold hT).agr,(Classical.em _).imp hold id⟩
   |n0+3,hc,h=>
    simp only[nJ] at hc
    rename_i hx0
    clear hx0
    simp only[AS.force_eq] at h
    cases h4:Nat.beq n0 1 with
    |true=>
     obtain rfl:n0=1:=Nat.eq_of_beq_eq_true h4
     rw[h4] at hc h
     simp only[cond_true,zA,Bool.not_eq_true',List.contains_eq_mem,decide_eq_false_iff_not] at hc
     obtain ⟨⟨⟨hip,hpe⟩,hso⟩,hc⟩:=hc
     have hpf:fK ((i,1+3)::is)=i::fK is:=rfl
     simp only[cond_true] at h
     cases hcl:(DW tt ops ((i,4)::is)&&(ui ops ((i,4)::is)).all (kJ kb (jz kb (ui ops ((i,4)::is)) A)))&&!(hid.any fun k=>(ui ops ((i,4)::is)).any fun d=>k == kb+d) with
     |false=>rw[hcl] at h;cases h
     |true=>
      rw[hcl] at h
      simp only[cond_true] at h
      have S1:FlSt P tt ops T kb F cst a.defers (jz kb (ui ops ((i,4)::is)) A) hid G0 w0 l0 (fK ((i,1+3)::is)) ((i,1+3)::is).length ud n listed G a w:={ S with rel:=S.rel.clean _ }
      generalize jz kb (ui ops ((i,4)::is)) A=A1 at h hcl S1
      clear S
      simp only[zA,Bool.not_eq_true',zJ,List.any_eq_false,List.any_eq_true,beq_iff_eq,not_exists,not_and] at hcl
      cases hA:Nq tt kb A1 o.dst o.op with
      |none=>rw[hA] at h;cases h
      |some p=>
       obtain ⟨chk,A'⟩:=p
       rw[hA] at h
       cases chk with
       |false=>cases h
       |true=>
        simp only[cond_true] at h
        have hpall:=bW hpe
        have key:∀(N:Nat) (ud:List Nat) (n:Nat) (listed:Array Bool) (G:Gh) (a':Act) (w:World),ud.length=N→
          FlSt P tt ops T kb F cst a.defers A1 hid G0 w0 l0 (i::fK is) (is.length+1) ud n listed G a' w→wpAnyL P .any ops (Qh ops Q) T (Agr (·∈hid) G0 w0) n listed a' w:=by
         intro N
         induction N using Nat.strongRecOn with
         |ind N ih=>
         intro ud n listed G a' w hN S
         by_cases hiu:i∈ud
         ·have hlen:=List.length_pos_of_mem hiu
          obtain ⟨n',rfl⟩:∃n',n=n'+1:=⟨n - 1,by have:=S.cnt;simp only[zN] at this;omega⟩
          have hir:i∈Region.ready .any ops listed:=by
           obtain ⟨o',t,d,ho',_,haf,_⟩:=gC (hpall i (by simp)).1
           rw[mem_ready]
           refine ⟨by rw[bV (S.und i hiu).2];exact (hpall i (by simp)).2,o',ho',fun e he=>by rw[haf] at he;simp at he⟩
          refine ⟨fun e=>(by rw[e] at hir;cases hir),fun k hk=>?_⟩
          by_cases hku:k∈ud
          ·refine wpOp_mono (fun a'' w'' ⟨G',S'⟩=>⟨fun hT=>(S'.hold hT).agr,ih _ ?_ _ _ _ _ _ _ rfl S'⟩) (S.fl htt hkb hpe (fun j hj o' d ho' hd'=>hcl.1.2 d (kh ((i,4)::is) hj ho' hd')) (fun j hj=>oY ((i,4)::is) hcl.1.1 hj) (fun j hj o' d ho' hd' hin=>hcl.2 _ hin d (kh ((i,4)::is) hj ho' hd') rfl) hku)
           rw[List.length_erase_of_mem hku];have:=List.length_pos_of_mem hku;omega
          ·exfalso
           have hkp:k ∉ i::fK is:=fun h=>xQ (S.done k h hku).1 hk
           have:=CV (X:=fK is) (l0:=l0) (fun j hj=>Ax hpe (List.mem_cons_of_mem _ hj)) (fun j hj=>?_) (fun h=>hkp (List.mem_cons_of_mem _ h)) (S.get k hkp) hk
           ·have:=List.all_eq_true.1 hso k this
            exact hkp (by rw[beq_iff_eq.1 this];simp)
           ·by_cases hjp:j∈i::fK is
            ·rcases List.mem_cons.1 hjp with rfl | h
             ·rw[bV (S.und j hiu).2] at hj;exact .inr hj
             ·exact .inl h
            ·rw[bV (S.get j hjp)] at hj;exact .inr hj
         ·obtain ⟨hli,o',t,d,b,cur,ho',hop,hd',hmu,htm,hhp,hcz⟩:=S.done i (by simp) hiu
          rw[ho] at ho';cases ho'
          obtain ⟨_,_,_,hzz,eA⟩:=ve htt hop hd' hA a' w
          subst eA
          refine fe htt hh hs hkb is hc h hK ⟨by simp[S.size],fun k hk=>?_,S.nodup,fun j hj=>?_,fun j hj hju=>S.done j (by simp[hj]) hju,?_,S.rel.found hmu htm hhp hcz hzz,S.hold,S.dfs⟩ fun e=>by cases e
          ·by_cases hki:k=i
           ·have hlt:=Ax hpe (j:=i) (by simp)
            rw[hki,Array.getElem?_setIfInBounds_self,if_pos hlt]
            rw[Array.getD_eq_getD_getElem?] at hli
            cases hx:listed[i]? with
            |none=>rw[hx] at hli;cases hli
            |some x=>rw[hx] at hli;simp at hli;rw[hli]
           ·rw[Array.getElem?_setIfInBounds_ne (Ne.symm hki)]
            exact S.get k (by simp[hki,hk])
          ·obtain ⟨h1,h2⟩:=S.und j hj
           have hji:j≠i:=by rintro rfl;exact hiu hj
           refine ⟨(List.mem_cons.1 h1).resolve_left hji,?_⟩
           rw[Array.getElem?_setIfInBounds_ne (Ne.symm hji)];exact h2
          ·have:=S.cnt;simp only[zN] at this;omega
        exact key _ ud n listed G a w rfl S1
    |false=>
     rw[h4] at hc h
     simp only[cond_false] at hc h
     cases h6:Nat.beq n0 3 with
     |true=>
      obtain rfl:n0=3:=Nat.eq_of_beq_eq_true h6
      rw[h6] at hc h
      simp only[cond_true,zA,Bool.not_eq_true',List.contains_eq_mem,decide_eq_false_iff_not,zJ,beq_eq_false_iff_ne] at hc
      obtain ⟨⟨⟨hso,hiT⟩,hip,hpe⟩,hc⟩:=hc
      have hpf:fK ((i,3+3)::is)=fK is:=rfl
      simp only[cond_true] at h
      cases hcl:(DW tt ops is&&(ui ops is).all (kJ kb (jz kb (ui ops is) A)))&&!(hid.any fun k=>(ui ops is).any fun d=>k == kb+d) with
      |false=>rw[hcl] at h;cases h
      |true=>
       rw[hcl] at h
       simp only[cond_true] at h
       have S1:FlSt P tt ops T kb F cst a.defers (jz kb (ui ops is) A) hid G0 w0 l0 (fK ((i,3+3)::is)) ((i,3+3)::is).length ud n listed G a w:={ S with rel:=S.rel.clean _ }
       generalize jz kb (ui ops is) A=A1 at h hcl S1
       clear S
       simp only[zA,Bool.not_eq_true',zJ,List.any_eq_false,List.any_eq_true,beq_iff_eq,not_exists,not_and] at hcl
       have hpall:=bW hpe
       simp only[PG,zA,List.contains_eq_mem,zB,zJ,beq_iff_eq] at hso
       have key:∀(N:Nat) (ud:List Nat) (n:Nat) (listed:Array Bool) (G:Gh) (a':Act) (w:World),ud.length=N→
         FlSt P tt ops T kb F cst a.defers A1 hid G0 w0 l0 (fK is) (is.length+1) ud n listed G a' w→wpAnyL P .any ops (Qh ops Q) T (Agr (·∈hid) G0 w0) n listed a' w:=by
        intro N
        induction N using Nat.strongRecOn with
        |ind N ih=>
        intro ud n listed G a' w hN S
        obtain ⟨n',rfl⟩:∃n',n=n'+1:=⟨n - 1,by have:=S.cnt;omega⟩
        have hir:i∈Region.ready .any ops listed:=L3 hpe S.get hip hso.1
        refine ⟨fun e=>(by rw[e] at hir;cases hir),fun k hk=>?_⟩
        by_cases hku:k∈ud
        ·refine wpOp_mono (fun a'' w'' ⟨G',S'⟩=>⟨fun hT=>(S'.hold hT).agr,ih _ ?_ _ _ _ _ _ _ rfl S'⟩) (S.fl htt hkb hpe (fun j hj o' d ho' hd'=>hcl.1.2 d (kh is hj ho' hd')) (fun j hj=>oY is hcl.1.1 hj) (fun j hj o' d ho' hd' hin=>hcl.2 _ hin d (kh is hj ho' hd') rfl) hku)
         rw[List.length_erase_of_mem hku];have:=List.length_pos_of_mem hku;omega
        ·have hkp:k ∉ fK is:=fun h=>xQ (S.done k h hku).1 hk
         have hki:=CV (X:=fK is) (l0:=l0) (fun j hj=>Ax hpe hj) (fun j hj=>by
          by_cases hjp:j∈fK is
          ·exact .inl hjp
          ·rw[bV (S.get j hjp)] at hj;exact .inr hj) hkp (S.get k hkp) hk
         obtain rfl:=hso.2 k hki
         have hset':∀j∈T,j≠k→(listed.setIfInBounds k true).getD j false=listed.getD j false:=fun j _ hne=>getD_set_ne false (Ne.symm hne)
         have hrest:∀(u:Value) (w':World) (G':Gh) (A':AS),Rel F G' A' (a'.put o.dst u).tmps cst w'→UntH G ((ui ops is).map (kb + ·)++hid) w G' w'→vN tt hd kb ops is hid A' K=some r→
           Ns T (Agr (·∈hid) G0 w0) (listed.setIfInBounds k true) w'∧wpAnyL P .any ops (Qh ops Q) T (Agr (·∈hid) G0 w0) n' (listed.setIfInBounds k true) (a'.put o.dst u) w':=by
          intro u w' G' A' hR hu hk'
          have hold:(∀j∈T,listed.getD j false=false)→Hold G0 w0 hid G' w':=fun hT=>(S.hold hT).step ⟨hu.1,fun key hkey=>hu.2 key (List.mem_append_right _ hkey)⟩
          refine ⟨fun hT=>(hold fun j hj=>by rw[← hset' j hj (hiT j hj)];exact hT j hj).agr,?_⟩
          refine fe htt hh hs hkb is hc hk' hK (S.next ho hip hpe (fun j hj o' d ho' hd'=>List.mem_append_left _ (List.mem_map_of_mem (kh is hj ho' hd'))) hu hR hold) fun e=>by cases e
         unfold wpOp
         rw[ho]
         simp only
         rcases cK S.rel h with ⟨hw,A2,R2,h2⟩ | ⟨hw,A2,R2,h2⟩
         ·rw[if_pos hw]
          refine .inl (ie htt hh R2 hkb _ o h2 ?_)
          intro ex A' G' a'' w' R' hd' hk'
          cases ex with
          |normal=>
           rintro ⟨hu,u,rfl⟩
           exact hrest u w' G' A' R' hu hk'
          |exit id=>exact hK _ A' G' a'' w' R' (hd'.trans S.dfs) hk'
          |ret=>exact hK _ A' G' a'' w' R' (hd'.trans S.dfs) hk'
          |panic v=>exact fun u hu=>Qh.post hK R' (hd'.trans S.dfs) hk' u hu
         ·rw[if_neg (by simp[hw])]
          exact hrest undef w G A2 R2 (.refl _ _ _) h2
       exact key _ ud n listed G a w rfl S1
     |false=>
      rw[h6] at hc h
      simp only[cond_false,zA,List.any_eq_true,beq_iff_eq,exists_eq_right,zB,List.isEmpty_iff] at hc h
      obtain ⟨⟨⟨hso,hiT,hil⟩,hpe⟩,hc⟩:=hc
      have hpf:fK ((i,n0+3)::is)=fK is:=by
       have:Nat.beq (n0+3) 4=Nat.beq n0 1:=rfl
       rw[fK,this,h4];rfl
      have hlsz:i<listed.size:=by rw[S.size];exact hil
      have hno:¬ ∀j∈T,(listed.setIfInBounds i true).getD j false=false:=fun hT=>by
       have:=hT i hiT
       simp[hlsz] at this
      exact sole false [] hpe hpf hso (fun a' w' G' A' R' hd' hu _ hk=>⟨⟨fun hT=>absurd hT hno,.inr hno⟩,fun e=>by cases e⟩) hc h
def HE (tt:TT):Op→Bool
 |.move _ | .nilCheck _ | .binOp .. | .unOp .. | .fieldAddr .. | .field .. | .indexAddr .. | .index .. | .slice .. | .load .. | .extract .. | .build .. | .makeInterface .. | .makeFunc ..=>true
 |.convert _ d _=>match (tt.at d).d with | .sl _=>false | _=>true
 |.call c=>match c.callee with | .builtin .len=>true | .builtin .min=>true | .builtin .max=>true | _=>false
 |_=>false
def zf (tt:TT)(ops:Array Oper)(t0:Nat):Nat→Bool→Array Bool→List (Nat×Nat)
 |0,_,_=>[]
 |n+1,ph,listed=>
  let rd:=Region.ready .any ops listed
  match rd.find? fun i=>Nat.blt i t0&&(match ops[i]? with | some o=>HE tt o.op&&(ph || !uy tt o.op) | none=>false) with
  |some i=>(i,bif AA tt ops i then 0 else 1)::zf tt ops t0 n ph (listed.setIfInBounds i true)
  |none=>match rd with
   |i::_=>(i,bif Nat.blt i t0 then 2 else 3)::zf tt ops t0 n (ph&&Az ops i) (listed.setIfInBounds i true)
   |[]=>[]
def sH (tt:TT)(ops:Array Oper)(t0:Nat)(fl:List Nat):Nat→Bool→Array Bool→List (Nat×Nat)
 |0,_,_=>[]
 |n+1,ph,listed=>
  let rd:=(Region.ready .any ops listed).filter fun i=>!fl.contains i
  match rd.find? fun i=>Nat.blt i t0&&(match ops[i]? with | some o=>HE tt o.op&&(ph || !uy tt o.op) | none=>false) with
  |some i=>(i,bif AA tt ops i then 0 else 1)::sH tt ops t0 fl n ph (listed.setIfInBounds i true)
  |none=>match rd with
   |i::_=>(i,bif Nat.blt i t0 then (bif fl.all fun j=>listed.getD j false then 2 else 6) else 3)::sH tt ops t0 fl n false (listed.setIfInBounds i true)
   |[]=>match fl.find? fun j=>!listed.getD j true with
    |some j=>(j,4)::sH tt ops t0 fl n false (listed.setIfInBounds j true)
    |none=>[]
def PJ (ops:Array Oper):Nat→Nat
 |0=>0
 |t+1=>bif (List.range t).all fun i=>AT ops t i then PJ ops t else t+1
def sY (tt:TT)(ops:Array Oper)(t0:Nat)(is:List (Nat×Nat)):Option (List (Nat×Nat)):=
 bif Region.noSelect ops&&(is.length == ops.size&&(bv (fK is)&&nJ tt ops ((List.range (ops.size - t0)).map (t0 + ·)) true (Array.replicate ops.size false) is)) then some is else none
def Au (tt:TT)(t0:Nat):Dr:=fun ops=>
 match sY tt ops t0 (zf tt ops t0 ops.size true (Array.replicate ops.size false)) with
 |some is=>some is
 |none=>sY tt ops t0 (sH tt ops t0 ((List.range ops.size).filter (mJ ops)) ops.size true (Array.replicate ops.size false))
def oz (tt:TT):Dr:=fun ops=>Au tt (PJ ops ops.size) ops
theorem pE:∀l:List Nat,bv l=true→l.Nodup
 |[],_=>List.nodup_nil
 |x::xs,h=>by
  simp only[bv,zA,Bool.not_eq_true',List.any_eq_false,beq_iff_eq] at h
  exact List.nodup_cons.2 ⟨fun hx=>h.1 x hx rfl,pE xs h.2⟩
theorem uO (htt:cJ P tt){hd:Hd}(hh:lK P hd){R:Type}{F:Fra}{cst:List (Array Value)}{kb:Nat}{ops:Array Oper}{is' is:List (Nat×Nat)}{r:R}{Q:Exit→Act→World→Prop}{G:Gh}{A:AS}{a:Act}{w:World}{K:Ex→AS→Option R}
  (hkb:∀d,F.mu0 (kb+d)=none) {t0:Nat} (ho:sY tt ops t0 is'=some is) (h:vN tt hd kb ops is [] A K=some r) (Rl:Rel F G A a.tmps cst w) (hK:tC F cst a.defers r K Q):
  wpAny P .any ops Q ops.size (Array.replicate ops.size false) a { w with drawn:=w.drawn+1 }:=by
 unfold sY at ho
 cases hc:Region.noSelect ops&&(is'.length == ops.size&&(bv (fK is')&&nJ tt ops ((List.range (ops.size - t0)).map (t0 + ·)) true (Array.replicate ops.size false) is')) with
 |false=>rw[hc] at ho;cases ho
 |true=>
  rw[hc] at ho
  simp only[cond_true,zC] at ho
  subst ho
  simp only[zA,beq_iff_eq] at hc
  obtain ⟨hs,hl,hnd,hc⟩:=hc
  have Rl':Rel F G A a.tmps cst { w with drawn:=w.drawn+1 }:=Rl.drew
  have:=fe (T:=(List.range (ops.size - t0)).map (t0 + ·)) (G0:=G) (w0:={ w with drawn:=w.drawn+1 }) (ud:=fK is') (n:=is'.length) (listed:=Array.replicate ops.size false) htt hh hs hkb is' hc h hK
   ⟨rfl,fun _ _=>rfl,pE _ hnd,fun j hj=>⟨hj,rfl⟩,fun j hj h=>absurd hj h,rfl,Rl',fun _=>⟨fun _ _ h=>h,fun _ _ _ h=>h,Agr.refl _ _ _⟩,rfl⟩ fun _=>⟨rfl,rfl⟩
  rw[hl] at this
  exact sg (fun e a w=>Qh.of) _ (wpAnyL.any _ this)
theorem Eq (htt:cJ P tt){hd:Hd}(hh:lK P hd){R:Type}{F:Fra}{cst:List (Array Value)}{kb:Nat}{ops:Array Oper}{is:List (Nat×Nat)}{r:R}{Q:Exit→Act→World→Prop}{G:Gh}{A:AS}{a:Act}{w:World}{K:Ex→AS→Option R}
  (hkb:∀d,F.mu0 (kb+d)=none) {t0:Nat} (ho:Au tt t0 ops=some is) (h:vN tt hd kb ops is [] A K=some r) (Rl:Rel F G A a.tmps cst w) (hK:tC F cst a.defers r K Q):
  wpAny P .any ops Q ops.size (Array.replicate ops.size false) a { w with drawn:=w.drawn+1 }:=by
 unfold Au at ho
 split at ho
 ·rename_i is1 h1
  cases ho
  exact uO htt hh hkb h1 h Rl hK
 ·exact uO htt hh hkb ho h Rl hK
theorem j4 (htt:cJ P tt):ll P tt (oz tt):=by
 intro hd hh R F cst kb ops is r Q G A a w K hkb ho h Rl hK
 exact Eq htt hh hkb ho h Rl hK
end
end Go.Proofs.YthpcdhgpplmneaaGreatDoor.Sym
namespace Go.Proofs.YthpcdhgpplmneaaGreatDoor.Sym
open Go
def Qy (f:Nat→Option Ty):List Field→Option Ty
 |[]=>some .unit
 |x::xs=>match f x.type with
  |some a=>match Qy f xs with
   |some b=>some (.prod a b)
   |none=>none
  |none=>none
def Qq (P:Program)(t:Nat)(fs:List Field):Option Nat:=match fs.getLast? with
 |some x=>match P.underlying x.type with
  |some (.slice e)=>bif Nat.beq e t then some e else none
  |_=>none
 |none=>none
def Pn (P:Program):Nat→Nat→Option Ty
 |0,_=>none
 |n+1,t=>match P.underlying t with
  |some .bool=>some .bool
  |some (.int k)=>some (.int k)
  |some .string=>some .str
  |some (.slice e)=>match Pn P n e with
   |some t=>some (.sl e t)
   |none=>none
  |some (.struct fs)=>match Qq P t fs.toList with
   |some e=>match Qy (Pn P n) fs.toList.dropLast with
    |some a=>some (.tree a e)
    |none=>none
   |none=>Qy (Pn P n) fs.toList
  |_=>none
def KA (P:Program)(t:Nat):Bool:=!P.stoodInHeld t&&(!P.eqGuardType P.depth t&&match P.underlying t with
 |some (.struct F)=>F.toList.all fun f=>f.name != "_"
 |_=>true)
theorem KB {P:Program}{t:Nat}(h:KA P t=true):P.stoodInHeld t=false∧P.eqGuardType P.depth t=false∧∀F,P.underlying t=some (.struct F)→∀f∈F.toList,f.name≠"_":=by
 unfold KA at h
 simp only[zA,Bool.not_eq_true'] at h
 refine ⟨h.1,h.2.1,fun F hF f hf=>?_⟩
 have h2:=h.2.2
 rw[hF] at h2
 simp only[zJ,bne_iff_ne] at h2
 exact h2 f hf
def Qw (P:Program)(t:Nat):TI:=match P.info? t with
 |some i=>match P.underlying t with
  |some d=>match i.zero with
   |some z=>bif vE z == Eh (nK d) then ⟨nK d,Pn P 12 t,i.size,i.bytes,z.cells.toList,KA P t⟩ else .none
   |none=>.none
  |none=>.none
 |none=>.none
def ni (P:Program)(n:Nat):TT:=(List.range n).map (Qw P)
theorem gL (P:Program)(n:Nat):cJ P (ni P n):=by
 intro t ht
 have e:(ni P n).at t=if t<n then Qw P t else .none:=by
  unfold ni TT.at
  rw[List.getD_eq_getElem?_getD,List.getElem?_map]
  by_cases h:t<n
  ·rw[List.getElem?_range h,if_pos h];rfl
  ·rw[List.getElem?_eq_none (by simp;omega),if_neg h];rfl
 rw[e] at ht ⊢
 by_cases h:t<n
 ·rw[if_pos h] at ht ⊢
  unfold Qw at ht ⊢
  split
  ·rename_i i hi
   rw[hi] at ht
   simp only at ht
   split
   ·rename_i d hd
    rw[hd] at ht
    simp only at ht
    split
    ·rename_i z hz
     rw[hz] at ht
     simp only at ht
     cases hb:vE z == Eh (nK d) with
     |false=>rw[hb] at ht;exact absurd rfl ht
     |true=>exact ⟨⟨d,hd,rfl⟩,⟨i,z,hi,rfl,rfl,hz,rfl,by simpa using hb⟩,fun h=>KB h⟩
    ·rename_i hz;rw[hz] at ht;exact absurd rfl ht
   ·rename_i hd;rw[hd] at ht;exact absurd rfl ht
  ·rename_i hi;rw[hi] at ht;exact absurd rfl ht
 ·rw[if_neg h] at ht;exact absurd rfl ht
abbrev Hc:=(R:Type)→List V→Nat→AS→(Oc→AS→Option R)→Option R
def ND:List (Nat×Hc)→Nat→Option Hc
 |[],_=>none
 |(g,h)::l,f=>bif Nat.beq g f then some h else ND l f
def bG (l:List (Nat×Hc)):Hd:=fun R f args id A K=>match ND l f with
 |some h=>h R args id A K
 |none=>none
def HcsOk (P:Program):List (Nat×Hc)→Prop
 |[]=>True
 |p::l=>HcOk P p.1 p.2∧HcsOk P l
theorem HcsOk.nil {P:Program}:HcsOk P []:=trivial
theorem HcsOk.cons {P:Program}{f:Nat}{h:Hc}{l:List (Nat×Hc)}(a:HcOk P f h)(b:HcsOk P l):HcsOk P ((f,h)::l):=⟨a,b⟩
theorem Gi {P:Program}:∀{l:List (Nat×Hc)} {f:Nat} {h:Hc},HcsOk P l→ND l f=some h→HcOk P f h
 |[],_,_,_,e=>by cases e
 |(g,h')::l,f,h,hl,e=>by
  simp only[ND] at e
  cases hb:Nat.beq g f with
  |true=>
   rw[hb] at e
   simp only[cond_true,zC] at e
   subst e
   have:=Nat.eq_of_beq_eq_true hb
   subst this
   exact hl.1
  |false=>
   rw[hb] at e
   exact Gi hl.2 e
theorem uq {P:Program}{l:List (Nat×Hc)}(hl:HcsOk P l):lK P (bG l):=by
 intro R f args id A K r F G ts cst w vals hid h Rl hv
 unfold bG at h
 split at h
 ·rename_i hc e
  exact Gi hl e R args id A K r F G ts cst w vals hid h Rl hv
 ·cases h
inductive SC where
 |hol (t:Ty)
 |onl (e:Nat) (t:Ty) (own:Nat)
 |exl (e:Nat) (t:Ty) (i j:Nat)
 |ext (e:Nat) (t:Ty) (i j:Nat)
 |ptr (key off:Nat)
 |fnp (f:Nat) (q:Bool) (ks:List Nat)
 |nils | nilp | top | itr
@[reducible] def SC.den:SC→Type
 |.hol t=>t.den
 |.onl _ t _=>List t.den
 |.exl _ t _ _=>List t.den
 |.ext _ t _ _=>Nat×List t.den
 |.itr=>LI×Int
 |_=>Unit
@[reducible] def SCs.den:List SC→Type
 |[]=>Unit
 |.hol t::ss=>t.den×SCs.den ss
 |.onl _ t _::ss=>List t.den×SCs.den ss
 |.exl _ t _ _::ss=>List t.den×SCs.den ss
 |.ext _ t _ _::ss=>(Nat×List t.den)×SCs.den ss
 |.ptr _ _::ss=>SCs.den ss
 |.fnp _ _ _::ss=>SCs.den ss
 |.nils::ss=>SCs.den ss
 |.nilp::ss=>SCs.den ss
 |.top::ss=>SCs.den ss
 |.itr::ss=>(LI×Int)×SCs.den ss
def Nx:List Cp→Option (List Nat)
 |[]=>some []
 |.ptr k o::cs=>bif Nat.beq o 0 then (match Nx cs with | some ks=>some (k::ks) | none=>none) else none
 |_=>none
def SC.dec:(s:SC)→C→Option s.den
 |.hol t,c=>dC t c
 |.onl e t own,.lst e' t' xs own'=>if h:e=e'∧t'=t∧own=own' then some (h.2.1▸xs) else none
 |.exl e t i j,.ex e' t' lo xs i' j'=>bif !(Nat.beq j 0)&&(Nat.beq i i'&&(Nat.beq j j' || Nat.beq i' j')) then (bif Nat.beq lo 0 then (if h:e=e'∧t'=t then some (h.2▸xs) else none) else none) else none
 |.ext e t i j,.ex e' t' lo xs i' j'=>bif !(Nat.beq j 0)&&(Nat.beq i i'&&(Nat.beq j j' || Nat.beq i' j')) then (if h:e=e'∧t'=t then some (lo,h.2▸xs) else none) else none
 |.ptr k o,.ptr k' o'=>bif Nat.beq k k'&&Nat.beq o o' then some () else none
 |.fnp f q ks,.fn f' q' cs=>match Nx cs with | some ks'=>(if f=f'∧q=q'∧ks=ks' then some () else none) | none=>none
 |.nils,.nils=>some ()
 |.nilp,.nilp=>some ()
 |.top,_=>some ()
 |_,_=>none
def SC.mk:(s:SC)→s.den→C
 |.hol (.int k),x=>.int k x
 |.hol .bool,x=>.bool x
 |.hol .str,x=>.str x
 |.hol (.sl e t),x=>.lst e t x 0
 |.hol _,_=>.top
 |.onl e t own,x=>.lst e t x own
 |.exl e t i j,x=>.ex e t 0 x i j
 |.ext e t i j,x=>.ex e t x.1 x.2 i j
 |.ptr k o,_=>.ptr k o
 |.fnp f q ks,_=>.fn f q (ks.map (.ptr · 0))
 |.nils,_=>.nils
 |.nilp,_=>.nilp
 |.top,_=>.top
 |.itr,x=>.itr x
def SCs.dec:(ss:List SC)→List C→Option (SCs.den ss)
 |[],[]=>some ()
 |.hol t::ss,c::cs=>match SC.dec (.hol t) c with | some x=>(match SCs.dec ss cs with | some xs=>some (x,xs) | none=>none) | none=>none
 |.onl e t own::ss,c::cs=>match SC.dec (.onl e t own) c with | some x=>(match SCs.dec ss cs with | some xs=>some (x,xs) | none=>none) | none=>none
 |.exl e t i j::ss,c::cs=>match SC.dec (.exl e t i j) c with | some x=>(match SCs.dec ss cs with | some xs=>some (x,xs) | none=>none) | none=>none
 |.ext e t i j::ss,c::cs=>match SC.dec (.ext e t i j) c with | some x=>(match SCs.dec ss cs with | some xs=>some (x,xs) | none=>none) | none=>none
 |.ptr k o::ss,c::cs=>match SC.dec (.ptr k o) c with | some _=>SCs.dec ss cs | none=>none
 |.fnp f q ks::ss,c::cs=>match SC.dec (.fnp f q ks) c with | some _=>SCs.dec ss cs | none=>none
 |.nils::ss,c::cs=>match SC.dec .nils c with | some _=>SCs.dec ss cs | none=>none
 |.nilp::ss,c::cs=>match SC.dec .nilp c with | some _=>SCs.dec ss cs | none=>none
 |.top::ss,_::cs=>SCs.dec ss cs
 |_,_=>none
def SCs.mk:(ss:List SC)→SCs.den ss→List C
 |[],_=>[]
 |.hol t::ss,x=>SC.mk (.hol t) x.1::SCs.mk ss x.2
 |.onl e t own::ss,x=>SC.mk (.onl e t own) x.1::SCs.mk ss x.2
 |.exl e t i j::ss,x=>SC.mk (.exl e t i j) x.1::SCs.mk ss x.2
 |.ext e t i j::ss,x=>SC.mk (.ext e t i j) x.1::SCs.mk ss x.2
 |.ptr k o::ss,x=>.ptr k o::SCs.mk ss x
 |.fnp f q ks::ss,x=>.fn f q (ks.map (.ptr · 0))::SCs.mk ss x
 |.nils::ss,x=>.nils::SCs.mk ss x
 |.nilp::ss,x=>.nilp::SCs.mk ss x
 |.top::ss,x=>.top::SCs.mk ss x
 |.itr::ss,x=>.itr x.1::SCs.mk ss x.2
def SC.wf:(s:SC)→s.den→Prop
 |.hol t,x=>t.wf x
 |.onl _ t _,xs=>xs.length≤maxLen∧∀x∈xs,t.wf x
 |.exl _ t _ _,xs=>xs.length≤maxLen∧∀x∈xs,t.wf x
 |.ext _ t _ _,xs=>xs.1+xs.2.length≤maxLen∧∀x∈xs.2,t.wf x
 |_,_=>True
def SCs.wf:(ss:List SC)→SCs.den ss→Prop
 |[],_=>True
 |.hol t::ss,x=>t.wf x.1∧SCs.wf ss x.2
 |.onl _ t _::ss,x=>(x.1.length≤maxLen∧∀y∈x.1,t.wf y)∧SCs.wf ss x.2
 |.exl _ t _ _::ss,x=>(x.1.length≤maxLen∧∀y∈x.1,t.wf y)∧SCs.wf ss x.2
 |.ext _ t _ _::ss,x=>(x.1.1+x.1.2.length≤maxLen∧∀y∈x.1.2,t.wf y)∧SCs.wf ss x.2
 |.ptr _ _::ss,x=>SCs.wf ss x
 |.fnp _ _ _::ss,x=>SCs.wf ss x
 |.nils::ss,x=>SCs.wf ss x
 |.nilp::ss,x=>SCs.wf ss x
 |.top::ss,x=>SCs.wf ss x
 |.itr::ss,x=>(byteR x.1.1∧x.1.1.length≤maxLen∧0≤x.1.2)∧SCs.wf ss x.2
section
variable {G:Gh} {w:World}
theorem H3 {t:Ty}{c:C}{x:t.den}{v:Value}(h:dC t c=some x)(hv:Rc G w c v):Rc G w (SC.mk (.hol t) x) v:=by
 have hcell:=hv.cell
 have hr:=cU (G:=G) (w:=w) t c x v h hv
 have hs:=cr (G:=G) (w:=w) t x [v] hr
 cases t <;> first | exact hs.1 | exact hcell
theorem RH {e:Nat}{t:Ty}{lo:Nat}{xs:List t.den}{i j i' j':Nat}{v:Value}(hb:(!(Nat.beq j 0)&&(Nat.beq i i'&&(Nat.beq j j' || Nat.beq i' j')))=true)(hv:Rc G w (.ex e t lo xs i' j') v):Rc G w (.ex e t lo xs i j) v:=by
 simp only[zA,Bool.not_eq_true',Bool.or_eq_true] at hb
 obtain ⟨h0,h1,h2⟩:=hb
 have h1:=Nat.eq_of_beq_eq_true h1
 subst h1
 have hj:j≠0:=by rintro rfl;cases h0
 rcases hv with hv | ⟨b,cap,e0,⟨n1,n2,ho⟩,hx⟩
 ·exact .inl hv
 ·refine .inr ⟨b,cap,e0,⟨n1,hj,?_⟩,hx⟩
  rcases h2 with h2 | h2
  ·rw[Nat.eq_of_beq_eq_true h2];exact ho
  ·have h2:=Nat.eq_of_beq_eq_true h2
   subst h2
   rcases ho with ho | ho <;> exact .inl ho
theorem Q1 {e:Nat}{t:Ty}{lo:Nat}{xs:List t.den}{i j:Nat}{v:Value}(hv:Rc G w (.ex e t lo xs i j) v):lo+xs.length≤maxLen∧∀x∈xs,t.wf x:=by
 rcases hv with ⟨rfl,rfl,_⟩ | ⟨b,cap,e0,_,cur,el,_,_,h2,h3,h4⟩
 ·exact ⟨Nat.zero_le _,fun x hx=>by simp at hx⟩
 ·refine ⟨Nat.le_trans h2 h3,fun x hx=>?_⟩
  obtain ⟨k,hk⟩:=List.getElem?_of_mem hx
  obtain ⟨c,hc,_⟩:=h4 k x hk
  exact Rt.wf _ x c hc
theorem Ft:∀{cs:List Cp} {ks:List Nat},Nx cs=some ks→cs=ks.map (Cp.ptr · 0)
 |[],_,h=>by cases h;rfl
 |.dat _ _::_,_,h=>by cases h
 |.ptr k o::cs,_,h=>by
  simp only[Nx] at h
  cases ho:Nat.beq o 0 with
  |false=>rw[ho] at h;cases h
  |true=>
   rw[ho] at h
   simp only[cond_true] at h
   split at h
   ·rename_i ks hk
    cases h
    rw[Nat.eq_of_beq_eq_true ho,Ft hk];rfl
   ·cases h
theorem SC.dec_sound:∀{s:SC} {c:C} {x:s.den} {v:Value},s.dec c=some x→Rc G w c v→Rc G w (s.mk x) v∧s.wf x:=by
 intro s c x v h hv
 cases s with
 |hol t=>exact ⟨H3 h hv,Rt.wf (w:=w) t x [v] (cU t c x v h hv)⟩
 |onl e t own=>
  cases c <;> simp only[SC.dec] at h <;> try cases h
  rename_i e' t' xs own'
  split at h
  ·rename_i hh
   obtain ⟨rfl,rfl,rfl⟩:=hh
   cases h
   refine ⟨hv,?_⟩
   obtain ⟨A,cap,_,h1,h2,hrow,_⟩:=hv
   refine ⟨Nat.le_trans h1 h2,fun y hy=>?_⟩
   obtain ⟨i,hi⟩:=List.getElem?_of_mem hy
   obtain ⟨b,o,c,_,hc,_⟩:=hrow.cellAt hi
   exact Rt.wf _ y c hc
  ·cases h
 |exl e t i j=>
  cases c <;> simp only[SC.dec] at h <;> try cases h
  rename_i e' t' lo xs i' j'
  cases hb : !(Nat.beq j 0)&&(Nat.beq i i'&&(Nat.beq j j' || Nat.beq i' j')) with
  |false=>rw[hb] at h;cases h
  |true=>
   rw[hb] at h
   simp only[cond_true] at h
   cases hl:Nat.beq lo 0 with
   |false=>rw[hl] at h;cases h
   |true=>
    rw[hl] at h
    simp only[cond_true] at h
    have hl:=Nat.eq_of_beq_eq_true hl
    subst hl
    split at h
    ·rename_i hh
     obtain ⟨rfl,rfl⟩:=hh
     cases h
     exact ⟨RH hb hv,by have:=Q1 hv;rwa [Nat.zero_add] at this⟩
    ·cases h
 |ext e t i j=>
  cases c <;> simp only[SC.dec] at h <;> try cases h
  rename_i e' t' lo xs i' j'
  cases hb : !(Nat.beq j 0)&&(Nat.beq i i'&&(Nat.beq j j' || Nat.beq i' j')) with
  |false=>rw[hb] at h;cases h
  |true=>
   rw[hb] at h
   simp only[cond_true] at h
   split at h
   ·rename_i hh
    obtain ⟨rfl,rfl⟩:=hh
    cases h
    exact ⟨RH hb hv,Q1 hv⟩
   ·cases h
 |ptr k o=>
  cases c <;> simp only[SC.dec] at h <;> try cases h
  rename_i k' o'
  cases hb:Nat.beq k k'&&Nat.beq o o' with
  |false=>rw[hb] at h;cases h
  |true=>
   simp only[zA] at hb
   have e1:=Nat.eq_of_beq_eq_true hb.1
   have e2:=Nat.eq_of_beq_eq_true hb.2
   subst e1;subst e2
   exact ⟨hv,trivial⟩
 |fnp f q ks=>
  cases c <;> simp only[SC.dec] at h <;> try cases h
  rename_i f' q' cs
  split at h
  ·rename_i ks' hk
   split at h
   ·rename_i hh
    obtain ⟨rfl,rfl,rfl⟩:=hh
    rw[Ft hk] at hv
    exact ⟨hv,trivial⟩
   ·cases h
  ·cases h
 |nils=>cases c <;> simp only[SC.dec] at h <;> first | exact ⟨hv,trivial⟩ | cases h
 |nilp=>cases c <;> simp only[SC.dec] at h <;> first | exact ⟨hv,trivial⟩ | cases h
 |top=>exact ⟨hv.cell,trivial⟩
 |itr=>cases c <;> simp[SC.dec] at h
theorem SCs.dec_sound:∀{ss:List SC} {cs:List C} {x:SCs.den ss} {vs:List Value},SCs.dec ss cs=some x→All2 (Rc G w) cs vs→All2 (Rc G w) (SCs.mk ss x) vs∧SCs.wf ss x
 |[],[],_,vs,_,hv=>⟨hv,trivial⟩
 |[],_::_,_,_,h,_=>by simp[SCs.dec] at h
 |s::ss,[],_,_,h,_=>by cases s <;> simp[SCs.dec] at h
 |s::ss,c::cs,x,[],h,hv=>hv.elim
 |s::ss,c::cs,x,v::vs,h,hv=>by
  cases s <;> simp only[SCs.dec] at h
  case hol t=>
   split at h
   ·rename_i y hy
    split at h
    ·rename_i ys hys
     cases h
     obtain ⟨h1,h2⟩:=SC.dec_sound hy hv.1
     obtain ⟨h3,h4⟩:=SCs.dec_sound hys hv.2
     exact ⟨⟨h1,h3⟩,h2,h4⟩
    ·cases h
   ·cases h
  case onl e t own=>
   split at h
   ·rename_i y hy
    split at h
    ·rename_i ys hys
     cases h
     obtain ⟨h1,h2⟩:=SC.dec_sound hy hv.1
     obtain ⟨h3,h4⟩:=SCs.dec_sound hys hv.2
     exact ⟨⟨h1,h3⟩,h2,h4⟩
    ·cases h
   ·cases h
  case exl e t i j=>
   split at h
   ·rename_i y hy
    split at h
    ·rename_i ys hys
     cases h
     obtain ⟨h1,h2⟩:=SC.dec_sound hy hv.1
     obtain ⟨h3,h4⟩:=SCs.dec_sound hys hv.2
     exact ⟨⟨h1,h3⟩,h2,h4⟩
    ·cases h
   ·cases h
  case ext e t i j=>
   split at h
   ·rename_i y hy
    split at h
    ·rename_i ys hys
     cases h
     obtain ⟨h1,h2⟩:=SC.dec_sound hy hv.1
     obtain ⟨h3,h4⟩:=SCs.dec_sound hys hv.2
     exact ⟨⟨h1,h3⟩,h2,h4⟩
    ·cases h
   ·cases h
  case top=>
   obtain ⟨h3,h4⟩:=SCs.dec_sound h hv.2
   exact ⟨⟨hv.1.cell,h3⟩,h4⟩
  case itr=>cases h
  all_goals
   split at h
   ·rename_i y hy
    obtain ⟨h1,_⟩:=SC.dec_sound hy hv.1
    obtain ⟨h3,h4⟩:=SCs.dec_sound h hv.2
    exact ⟨⟨h1,h3⟩,h4⟩
   ·cases h
end
inductive SV where
 |one (s:SC) | agg (ss:List SC) | any
def SV.cs:SV→List SC
 |.one s=>[s]
 |.agg ss=>ss
 |.any=>[]
abbrev bk (l:List SV):List SV:=.any::.any::l
abbrev bz (l:List SV):List SV:=.any::.any::.any::.any::l
abbrev dm (l:List SV):List SV:=bz (bz l)
abbrev ai (l:List SV):List SV:=dm (dm l)
@[reducible] def lk:List SV→Type
 |[]=>Unit
 |.any::vs=>lk vs
 |.one (.ptr _ _)::vs=>lk vs
 |.one (.fnp _ _ _)::vs=>lk vs
 |.one .nils::vs=>lk vs
 |.one .nilp::vs=>lk vs
 |.one .top::vs=>lk vs
 |.one .itr::vs=>lk vs
 |.one (.hol t)::vs=>t.den×lk vs
 |.one (.onl _ t _)::vs=>List t.den×lk vs
 |.one (.exl _ t _ _)::vs=>List t.den×lk vs
 |.one (.ext _ t _ _)::vs=>(Nat×List t.den)×lk vs
 |.agg ss::vs=>SCs.den ss×lk vs
def jA:(vs:List SV)→List V→Option (lk vs)
 |[],[]=>some ()
 |.any::vs,_::us=>jA vs us
 |.one (.ptr k o)::vs,.one c::us=>match SC.dec (.ptr k o) c with | some _=>jA vs us | none=>none
 |.one (.fnp f q ks)::vs,.one c::us=>match SC.dec (.fnp f q ks) c with | some _=>jA vs us | none=>none
 |.one .nils::vs,.one c::us=>match SC.dec .nils c with | some _=>jA vs us | none=>none
 |.one .nilp::vs,.one c::us=>match SC.dec .nilp c with | some _=>jA vs us | none=>none
 |.one .top::vs,.one _::us=>jA vs us
 |.one (.hol t)::vs,.one c::us=>match SC.dec (.hol t) c with | some x=>(match jA vs us with | some xs=>some (x,xs) | none=>none) | none=>none
 |.one (.onl e t own)::vs,.one c::us=>match SC.dec (.onl e t own) c with | some x=>(match jA vs us with | some xs=>some (x,xs) | none=>none) | none=>none
 |.one (.exl e t i j)::vs,.one c::us=>match SC.dec (.exl e t i j) c with | some x=>(match jA vs us with | some xs=>some (x,xs) | none=>none) | none=>none
 |.one (.ext e t i j)::vs,.one c::us=>match SC.dec (.ext e t i j) c with | some x=>(match jA vs us with | some xs=>some (x,xs) | none=>none) | none=>none
 |.agg ss::vs,.agg cs::us=>match SCs.dec ss cs with | some x=>(match jA vs us with | some xs=>some (x,xs) | none=>none) | none=>none
 |_,_=>none
def Hg:(vs:List SV)→lk vs→List V
 |[],_=>[]
 |.any::vs,x=>.any::Hg vs x
 |.one (.ptr k o)::vs,x=>.one (.ptr k o)::Hg vs x
 |.one (.fnp f q ks)::vs,x=>.one (.fn f q (ks.map (.ptr · 0)))::Hg vs x
 |.one .nils::vs,x=>.one .nils::Hg vs x
 |.one .nilp::vs,x=>.one .nilp::Hg vs x
 |.one .top::vs,x=>.one .top::Hg vs x
 |.one .itr::vs,x=>.any::Hg vs x
 |.one (.hol t)::vs,x=>.one (SC.mk (.hol t) x.1)::Hg vs x.2
 |.one (.onl e t own)::vs,x=>.one (SC.mk (.onl e t own) x.1)::Hg vs x.2
 |.one (.exl e t i j)::vs,x=>.one (SC.mk (.exl e t i j) x.1)::Hg vs x.2
 |.one (.ext e t i j)::vs,x=>.one (SC.mk (.ext e t i j) x.1)::Hg vs x.2
 |.agg ss::vs,x=>.agg (SCs.mk ss x.1)::Hg vs x.2
def HT:(vs:List SV)→lk vs→Prop
 |[],_=>True
 |.any::vs,x=>HT vs x
 |.one (.ptr _ _)::vs,x=>HT vs x
 |.one (.fnp _ _ _)::vs,x=>HT vs x
 |.one .nils::vs,x=>HT vs x
 |.one .nilp::vs,x=>HT vs x
 |.one .top::vs,x=>HT vs x
 |.one .itr::vs,x=>HT vs x
 |.one (.hol t)::vs,x=>t.wf x.1∧HT vs x.2
 |.one (.onl _ t _)::vs,x=>(x.1.length≤maxLen∧∀y∈x.1,t.wf y)∧HT vs x.2
 |.one (.exl _ t _ _)::vs,x=>(x.1.length≤maxLen∧∀y∈x.1,t.wf y)∧HT vs x.2
 |.one (.ext _ t _ _)::vs,x=>(x.1.1+x.1.2.length≤maxLen∧∀y∈x.1.2,t.wf y)∧HT vs x.2
 |.agg ss::vs,x=>SCs.wf ss x.1∧HT vs x.2
theorem cX {G:Gh}{w:World}:∀{vs:List SV} {us:List V} {x:lk vs} {zs:List Value},jA vs us=some x→All2 (Rv G w) us zs→All2 (Rv G w) (Hg vs x) zs∧HT vs x
 |[],[],_,zs,_,hv=>⟨hv,trivial⟩
 |[],_::_,_,_,h,_=>by simp[jA] at h
 |v::vs,[],_,_,h,_=>by
  cases v with
  |one s=>cases s <;> simp[jA] at h
  |agg ss=>simp[jA] at h
  |any=>simp[jA] at h
 |v::vs,u::us,x,[],h,hv=>hv.elim
 |v::vs,u::us,x,z::zs,h,hv=>by
  cases v with
  |any=>
   simp only[jA] at h
   obtain ⟨h3,h4⟩:=cX h hv.2
   exact ⟨⟨trivial,h3⟩,h4⟩
  |agg ss=>
   cases u <;> simp only[jA] at h <;> try cases h
   rename_i cs
   split at h
   ·rename_i y hy
    split at h
    ·rename_i ys hys
     cases h
     obtain ⟨us',rfl,hu⟩:=hv.1
     obtain ⟨h1,h2⟩:=SCs.dec_sound hy hu
     obtain ⟨h3,h4⟩:=cX hys hv.2
     exact ⟨⟨⟨us',rfl,h1⟩,h3⟩,h2,h4⟩
    ·cases h
   ·cases h
  |one s=>
   cases u with
   |one c=>
    cases s <;> simp only[jA] at h
    case hol t=>
     split at h
     ·rename_i y hy
      split at h
      ·rename_i ys hys
       cases h
       obtain ⟨h1,h2⟩:=SC.dec_sound hy hv.1
       obtain ⟨h3,h4⟩:=cX hys hv.2
       exact ⟨⟨h1,h3⟩,h2,h4⟩
      ·cases h
     ·cases h
    case onl e t own=>
     split at h
     ·rename_i y hy
      split at h
      ·rename_i ys hys
       cases h
       obtain ⟨h1,h2⟩:=SC.dec_sound hy hv.1
       obtain ⟨h3,h4⟩:=cX hys hv.2
       exact ⟨⟨h1,h3⟩,h2,h4⟩
      ·cases h
     ·cases h
    case exl e t i j=>
     split at h
     ·rename_i y hy
      split at h
      ·rename_i ys hys
       cases h
       obtain ⟨h1,h2⟩:=SC.dec_sound hy hv.1
       obtain ⟨h3,h4⟩:=cX hys hv.2
       exact ⟨⟨h1,h3⟩,h2,h4⟩
      ·cases h
     ·cases h
    case ext e t i j=>
     split at h
     ·rename_i y hy
      split at h
      ·rename_i ys hys
       cases h
       obtain ⟨h1,h2⟩:=SC.dec_sound hy hv.1
       obtain ⟨h3,h4⟩:=cX hys hv.2
       exact ⟨⟨h1,h3⟩,h2,h4⟩
      ·cases h
     ·cases h
    case top=>
     obtain ⟨h3,h4⟩:=cX h hv.2
     exact ⟨⟨Rc.cell hv.1,h3⟩,h4⟩
    case itr=>cases h
    all_goals
     split at h
     ·rename_i y hy
      obtain ⟨h1,_⟩:=SC.dec_sound hy hv.1
      obtain ⟨h3,h4⟩:=cX h hv.2
      exact ⟨⟨h1,h3⟩,h4⟩
     ·cases h
   |_=>cases s <;> simp[jA] at h
@[reducible] def Dx:List (Option (List SC))→Type
 |[]=>Unit
 |none::os=>Dx os
 |some ss::os=>SCs.den ss×Dx os
def PP:(ss:List SC)→List C→Option (SCs.den ss)
 |[.itr],[.itr x]=>some (x,())
 |_,_=>none
def vO:(os:List (Option (List SC)))→List (Option (List C))→Option (Dx os)
 |[],_=>some ()
 |none::os,_::bs=>vO os bs
 |none::os,[]=>vO os []
 |some ss::os,some cs::bs=>match (bif cs.any C.isItr then PP ss cs else SCs.dec ss cs) with | some x=>(match vO os bs with | some xs=>some (x,xs) | none=>none) | none=>none
 |_,_=>none
def Ly:(os:List (Option (List SC)))→Dx os→List (Option (List C))
 |[],_=>[]
 |none::os,x=>none::Ly os x
 |some ss::os,x=>some (SCs.mk ss x.1)::Ly os x.2
def Ro:(os:List (Option (List SC)))→Dx os→Prop
 |[],_=>True
 |none::os,x=>Ro os x
 |some ss::os,x=>SCs.wf ss x.1∧Ro os x.2
theorem zb {G:Gh}{w:World}{ss:List SC}{cs:List C}{y:SCs.den ss}(h:(bif cs.any C.isItr then PP ss cs else SCs.dec ss cs)=some y)(ho:∃o:Obj,ObjOk G w cs o):
  SCs.wf ss y∧∀o,ObjOk G w cs o→ObjOk G w (SCs.mk ss y) o:=by
 obtain ⟨o,ho⟩:=ho
 cases hn:cs.any C.isItr with
 |false=>
  rw[hn] at h
  obtain ⟨cur,el,_,hr⟩:=ho.cells hn
  refine ⟨(SCs.dec_sound h hr).2,fun o' ho'=>?_⟩
  obtain ⟨cur',el',e',hr'⟩:=ho'.cells hn
  exact .inl ⟨cur',el',e',(SCs.dec_sound h hr').1⟩
 |true=>
  rw[hn] at h
  simp only[cond_true] at h
  unfold PP at h
  split at h
  ·rename_i x
   cases h
   refine ⟨?_,fun o' ho'=>ho'⟩
   rcases ho with ⟨cur,el,_,hr⟩ | ⟨s,n,e2,rfl,hbr,hlen⟩
   ·match hcl:cur.toList,hr with
    |[],hr=>exact hr.elim
    |_::_,hr=>exact hr.1.elim
   ·simp only[List.cons.injEq,C.itr.injEq,and_true] at e2
    subst e2
    exact ⟨⟨hbr,hlen,Int.natCast_nonneg n⟩,trivial⟩
  ·cases h
theorem kd {G:Gh}{w:World}:∀{os:List (Option (List SC))} {bs:List (Option (List C))} {x:Dx os},vO os bs=some x→
  (∀(k:Nat) (cs:List C),bs[k]?=some (some cs)→∃o:Obj,ObjOk G w cs o)→
  Ro os x∧∀(k:Nat) (cs:List C),(Ly os x)[k]?=some (some cs)→∃cs0:List C,bs[k]?=some (some cs0)∧∀o,ObjOk G w cs0 o→ObjOk G w cs o
 |[],_,_,_,_=>⟨trivial,fun k cs h=>by simp[Ly] at h⟩
 |none::os,[],x,h,hb=>by
  simp only[vO] at h
  obtain ⟨h1,h2⟩:=kd h hb
  refine ⟨h1,fun k cs hk=>?_⟩
  cases k with
  |zero=>simp[Ly] at hk
  |succ k=>obtain ⟨cs0,h3,_⟩:=h2 k cs (by simpa [Ly] using hk);simp at h3
 |none::os,b::bs,x,h,hb=>by
  simp only[vO] at h
  obtain ⟨h1,h2⟩:=kd h fun k cs hk=>hb (k+1) cs (by simpa using hk)
  refine ⟨h1,fun k cs hk=>?_⟩
  cases k with
  |zero=>simp[Ly] at hk
  |succ k=>obtain ⟨cs0,h3,h4⟩:=h2 k cs (by simpa [Ly] using hk);exact ⟨cs0,by simpa using h3,h4⟩
 |some ss::os,[],x,h,hb=>by simp[vO] at h
 |some ss::os,none::bs,x,h,hb=>by simp[vO] at h
 |some ss::os,some cs::bs,x,h,hb=>by
  simp only[vO] at h
  split at h
  ·rename_i y hy
   split at h
   ·rename_i ys hys
    cases h
    obtain ⟨h1,h2⟩:=kd hys fun k cs hk=>hb (k+1) cs (by simpa using hk)
    obtain ⟨h6,h7⟩:=zb hy (hb 0 cs rfl)
    refine ⟨⟨h6,h1⟩,fun k cs' hk=>?_⟩
    cases k with
    |zero=>
     simp only[Ly,List.getElem?_cons_zero,zC] at hk
     subst hk
     exact ⟨cs,rfl,h7⟩
    |succ k=>obtain ⟨cs0,h3,h4⟩:=h2 k cs' (by simpa [Ly] using hk);exact ⟨cs0,by simpa using h3,h4⟩
   ·cases h
  ·cases h
structure Ls where
 tm:List SV
 ob:List (Option (List SC))
abbrev Ls.den (s:Ls):Type:=lk s.tm×Dx s.ob
def Ls.mk' (s:Ls)(x:s.den):AS:=⟨Hg s.tm x.1,[],Ly s.ob x.2⟩
def Ls.dec (s:Ls)(A:AS):Option s.den:=match A with
 |⟨tm,[],ob⟩=>match jA s.tm tm with
  |some x=>match vO s.ob ob with
   |some y=>some (x,y)
   |none=>none
  |none=>none
 |_=>none
def Ls.wf (s:Ls)(x:s.den):Prop:=HT s.tm x.1∧Ro s.ob x.2
theorem Ls.dec_sound {s:Ls}{A:AS}{x:s.den}(h:s.dec A=some x){F:Fra}{G:Gh}{ts:Array Value}{cst:List (Array Value)}{w:World}(R:Rel F G A ts cst w):Rel F G (s.mk' x) ts cst w∧s.wf x:=by
 obtain ⟨tm,stk,ob⟩:=A
 unfold Ls.dec at h
 split at h
 ·rename_i tm' ob' e
  cases e
  split at h
  ·rename_i y hy
   split at h
   ·rename_i z hz
    cases h
    obtain ⟨h1,h2⟩:=cX hy R.tm
    obtain ⟨h3,h4⟩:=kd (G:=G) (w:=w) hz fun k cs hk=>let ⟨b,o,_,_,hr⟩:=R.ob k cs hk;⟨_,hr⟩
    refine ⟨⟨h1,R.stk,fun k cs hk=>?_,R.gh⟩,h2,h3⟩
    obtain ⟨cs0,h5,h6⟩:=h4 k cs hk
    obtain ⟨b,o,hm,hh,hr⟩:=R.ob k cs0 h5
    exact ⟨b,o,hm,hh,h6 _ hr⟩
   ·cases h
  ·cases h
 ·cases h
inductive Lx where
 |exit (id:Nat) | ret | normal | panic (T:Nat) (t:Ty)
@[reducible] def Lx.den:Lx→Type
 |.panic _ t=>t.den
 |_=>Unit
def Lx.ex:(e:Lx)→e.den→Ex
 |.exit id,_=>.exit id
 |.ret,_=>.ret
 |.normal,_=>.normal
 |.panic T t,x=>.panic (.one (.ifc T t x))
def Lx.dec:(e:Lx)→Ex→Option e.den
 |.exit id,.exit id'=>bif Nat.beq id id' then some () else none
 |.ret,.ret=>some ()
 |.panic T t,.panic (.one (.ifc T' t' x))=>if h:T=T'∧t'=t then some (h.2▸x) else none
 |_,_=>none
@[reducible] def ap:List (Lx×Ls)→Type
 |[]=>Empty
 |x::xs=>Out (x.1.den×x.2.den) (ap xs)
def bt:(xs:List (Lx×Ls))→Ex→AS→Option (ap xs)
 |[],_,_=>none
 |x::xs,e,A=>match x.1.dec e with
  |some p=>match x.2.dec A with
   |some d=>some (.ret (p,d))
   |none=>match bt xs e A with
    |some y=>some (.pan y)
    |none=>none
  |none=>match bt xs e A with
   |some y=>some (.pan y)
   |none=>none
def Q4 {R:Type}:(xs:List (Lx×Ls))→ap xs→(Ex→AS→Option R)→Option R
 |[],x,_=>nomatch x
 |x::_,.ret d,K=>K (x.1.ex d.1) (x.2.mk' d.2)
 |_::xs,.pan y,K=>Q4 xs y K
structure Lo where
 st:Ls
 xs:List (Lx×Ls)
def aD (lo:Lo)(Fn:lo.st.den→Tr (ap lo.xs)):Lh:=fun R A K=>match lo.st.dec A with
 |some x=>(Fn x).run fun y=>Q4 lo.xs y K
 |none=>none
theorem uf {R:Type}{F:Fra}{G:Gh}{A:AS}{a:Act}{cst:List (Array Value)}{w:World}(Rl:Rel F G A a.tmps cst w){K:Ex→AS→Option R}{r:R}{Q:Exit→Act→World→Prop}{dfs:List Deferred}(hd:a.defers=dfs)(hK:tC F cst dfs r K Q):
  ∀{xs:List (Lx×Ls)} {e:Ex} {y:ap xs},bt xs e A=some y→Q4 xs y K=some r→
   match e with
   |.normal=>Q .normal a w
   |.exit id=>Q (.exit id) a w
   |.ret=>Q .ret a w
   |.panic v=>∀u,Rv G w v u→Q (.panic [{ v:=u,recovered:=false }]) a w
 |[],e,y,h,_=>by simp[bt] at h
 |(l,s)::xs,e,y,h,hm=>by
  simp only[bt] at h
  have rest:∀{y':ap xs},bt xs e A=some y'→Q4 xs y' K=some r→_:=fun h1 h2=>uf Rl hd hK h1 h2
  split at h
  ·rename_i p hp
   split at h
   ·rename_i d hdd
    cases h
    simp only[Q4] at hm
    have R':=(Ls.dec_sound hdd Rl).1
    cases l with
    |normal=>cases e <;> simp[Lx.dec] at hp
    |ret=>
     cases e <;> simp only[Lx.dec] at hp <;> try cases hp
     exact hK .ret _ G a w R' hd hm
    |exit id=>
     cases e <;> simp only[Lx.dec] at hp <;> try cases hp
     rename_i id'
     cases hb:Nat.beq id id' with
     |false=>rw[hb] at hp;cases hp
     |true=>
      have:=Nat.eq_of_beq_eq_true hb
      subst this
      exact hK (.exit id) _ G a w R' hd hm
    |panic T t=>
     cases e with
     |panic v=>
      cases v with
      |one c=>
       cases c <;> simp only[Lx.dec] at hp <;> try cases hp
       rename_i T' t' x
       split at hp
       ·rename_i hh
        obtain ⟨rfl,rfl⟩:=hh
        cases hp
        exact hK (.panic _) _ G a w R' hd hm
       ·cases hp
      |_=>simp[Lx.dec] at hp
     |_=>simp[Lx.dec] at hp
   ·split at h
    ·rename_i y' hy'
     cases h
     exact rest hy' hm
    ·cases h
  ·split at h
   ·rename_i y' hy'
    cases h
    exact rest hy' hm
   ·cases h
theorem K5 {P:Program}{tt:TT}(htt:cJ P tt)(hm:P.follows .mixedOrders=true){hd:Hd}(hh:lK P hd){okDraw:Dr}(hdr:ll P tt okDraw){lp:Lp}{kb lr:Nat}{m:Nat}{b:Code}{x:List (Nat×Nat)}
  (hlp:∀e∈bB lr b m x,∀h,lp (cY e.2.1)=some h→tB P kb e.2.1 h) (lo:Lo) (Fn:lo.st.den→Tr (ap lo.xs))
  (hF:∀d y,lo.st.wf d→(Fn d).val=some y→∃n,uE m kb (fun A K=>ev tt hd okDraw lp kb lr b m x A K) n (lo.st.mk' d) (bt lo.xs)=some y):tB P kb b (aD lo Fn):=by
 intro R F cst r Q G A a w K hkb h Rl hK
 unfold aD at h
 split at h
 ·rename_i d hdec
  obtain ⟨y,hy,h⟩:=Tr.run_val h
  obtain ⟨R1,hwf⟩:=Ls.dec_sound hdec Rl
  obtain ⟨n,hn⟩:=hF d y hwf hy
  refine Cg htt hm hh hdr hkb hlp hn R1 ?_
  intro ex A' G' a' w' R' hd' hk
  have:=uf R' hd' hK hk h
  cases ex <;> exact this
 ·cases h
abbrev Le:=Nat×Code×List (Nat×Nat)
def Ei:Le:=(0,.skip,[])
def bU (fn:Func):Code:=match fn.body with
 |some c=>c
 |none=>.skip
def Jz (fn:Func):List Le:=bB (mb fn) (bU fn) (mb fn) []
def Qu (fn:Func)(e:Le):List Le:=bB (mb fn) e.2.1 e.1 e.2.2
def bP (fn:Func)(j:Nat):Le:=(Jz fn).getD j Ei
def E7 (fn:Func)(e:Le)(j:Nat):Le:=(Qu fn e).getD j Ei
def bM:List (Nat×Lh)→Lp
 |[],_=>none
 |(g,h)::l,f=>bif Nat.beq g f then some h else bM l f
def fJ (tt:TT)(hd:Hd)(dr:Dr)(lp:Lp)(kb:Nat)(fn:Func)(e:Le){R:Type}(n:Nat)(A:AS)(K:Ex→AS→Option R):Option R:=
 uE e.1 kb (fun A K=>ev tt hd dr lp kb (mb fn) e.2.1 e.1 e.2.2 A K) n A K
def LpsOk (P:Program)(kb:Nat)(lp:Lp)(es:List Le)(i:Nat):Prop:=∀j,i≤j→j<es.length→∀h,lp (cY (es.getD j Ei).2.1)=some h→tB P kb (es.getD j Ei).2.1 h
theorem LpsOk.done {P:Program}{kb:Nat}{lp:Lp}{es:List Le}{i:Nat}(h:Nat.ble es.length i=true):LpsOk P kb lp es i:=fun j h1 h2=>by
 have:=Nat.le_of_ble_eq_true h
 omega
theorem LpsOk.step {P:Program}{kb:Nat}{lp:Lp}{es:List Le}{i:Nat}{h0:Lh}(e:lp (cY (es.getD i Ei).2.1)=some h0)(h:tB P kb (es.getD i Ei).2.1 h0)(r:LpsOk P kb lp es (i+1)):LpsOk P kb lp es i:=fun j h1 h2 g hg=>by
 by_cases hj:j=i
 ·subst hj
  rw[e] at hg
  cases hg
  exact h
 ·exact r j (by omega) h2 g hg
theorem LpsOk.all {P:Program}{kb:Nat}{lp:Lp}{es:List Le}(h:LpsOk P kb lp es 0):∀e∈es,∀g,lp (cY e.2.1)=some g→tB P kb e.2.1 g:=by
 intro e he g hg
 obtain ⟨j,hj⟩:=List.getElem?_of_mem he
 have hlt:=(List.getElem?_eq_some_iff.1 hj).1
 have e0:es.getD j Ei=e:=by rw[List.getD_eq_getElem?_getD,hj];rfl
 have:=h j (Nat.zero_le _) hlt g
 rw[e0] at this
 exact this hg
theorem Ej {P:Program}{n:Nat}(hm:P.follows .mixedOrders=true){cs:List (Nat×Hc)}(hcs:HcsOk P cs){lp:Lp}{kb:Nat}{fn:Func}{e:Le}(hsub:LpsOk P kb lp (Qu fn e) 0)(lo:Lo)(Fn:lo.st.den→Tr (ap lo.xs))
  (hF:∀d y,lo.st.wf d→(Fn d).val=some y→∃k,fJ (ni P n) (bG cs) (oz (ni P n)) lp kb fn e k (lo.st.mk' d) (bt lo.xs)=some y):tB P kb e.2.1 (aD lo Fn):=
 K5 (gL P n) hm (uq hcs) (j4 (gL P n)) hsub.all lo Fn hF
theorem KD {P:Program}{n:Nat}(hm:P.follows .mixedOrders=true){cs:List (Nat×Hc)}(hcs:HcsOk P cs){lp:Lp}{f:Nat}{fn:Func}(hf:P.funcs[f]?=some fn)(hname:(fn.name == "runtime.NumGoroutine")=false) (hbody:fn.body.isNone=false)
  (io:Io) (hlp:LpsOk P io.obs.length lp (Jz fn) 0) (Fn:io.In→Tr io.Res) (hF:∀d out,io.wf d→(Fn d).val=some out→io.run (ni P n) (bG cs) (oz (ni P n)) lp fn d=some out):HcOk P f (ah io Fn):=by
 refine Ce (gL P n) hm (uq hcs) (j4 (gL P n)) hf hname io lp (fun c hc=>?_) Fn (fun d out=>hF d out) hbody
 have:bU fn=c:=by unfold bU;rw[hc]
 have h:=hlp.all
 unfold Jz at h
 rw[this] at h
 exact h
noncomputable def Aj (tt:TT):Dr:=fun ops=>bif Nat.beq ops.size 0 then none else oz tt ops
theorem It {P:Program}{tt:TT}(htt:cJ P tt):ll P tt (Aj tt):=by
 intro hd hh R F cst kb ops is r Q G A a w K hkb ho
 unfold Aj at ho
 cases hz:Nat.beq ops.size 0 with
 |true=>rw[hz] at ho;cases ho
 |false=>rw[hz] at ho;exact j4 htt hd hh R F cst kb ops is r Q G A a w K hkb ho
theorem Ic {P:Program}{n:Nat}(hm:P.follows .mixedOrders=true){cs:List (Nat×Hc)}(hcs:HcsOk P cs){lp:Lp}{f:Nat}{fn:Func}(hf:P.funcs[f]?=some fn)(hname:(fn.name == "runtime.NumGoroutine")=false) (hbody:fn.body.isNone=false)
  (io:Io) (hlp:LpsOk P io.obs.length lp (Jz fn) 0) (Fn:io.In→Tr io.Res) (hF:∀d out,io.wf d→(Fn d).val=some out→io.run (ni P n) (bG cs) (Aj (ni P n)) lp fn d=some out):HcOk P f (ah io Fn):=by
 refine Ce (gL P n) hm (uq hcs) (It (gL P n)) hf hname io lp (fun c hc=>?_) Fn (fun d out=>hF d out) hbody
 have:bU fn=c:=by unfold bU;rw[hc]
 have h:=hlp.all
 unfold Jz at h
 rw[this] at h
 exact h
end Go.Proofs.YthpcdhgpplmneaaGreatDoor.Sym
namespace Go.Proofs.YthpcdhgpplmneaaGreatDoor.Sym
open Go
def lj:Code→Code
 |.seq a _=>a
 |c=>c
def iU:Code→Code
 |.seq _ b=>b
 |c=>c
def QW:Code→Code
 |.cond _ t _=>t
 |c=>c
def jI:Code→Array Oper
 |.region _ ops _=>ops
 |_=>#[]
theorem m6 {Pr:(Nat×Code×List (Nat×Nat))→Prop}{lr l:Nat}{c:Code}{x:List (Nat×Nat)}(h:bB lr c l x=[]):∀e∈bB lr c l x,Pr e:=by
 intro e he
 rw[h] at he
 cases he
noncomputable section
def Q7 (tt:TT)(io:Io)(fn:Func)(A:AS):Option io.Res:=match A with
 |⟨_,tm::stk,ob⟩=>kf tt io fn ⟨tm,stk,ob⟩
 |_=>none
def J8 (tt:TT)(hd:Hd)(okDraw:Dr)(kbG:Nat)(io:Io)(fn gfn:Func)(gops:Array Oper)(grest:Code)(ls:List Nat)(caps:List Cp)(rv:V)(A:AS):Option io.Res:=
 lN tt hd kbG gops ls ((⟨caps.map Cp.toV++List.replicate (gfn.ntmps - caps.length) .any,A.tm::A.stk,A.ob⟩:AS).put ((gops[0]?).bind (·.dst)) rv) fun ex A=>match ex with
  |.normal=>ev tt hd okDraw (fun _=>none) kbG 0 grest 0 [] A fun ex A=>match ex with
   |.exit _=>none
   |.panic _=>none
   |_=>Q7 tt io fn A
  |_=>none
def Rz (tt:TT)(hd:Hd)(okDraw:Dr)(kbG:Nat)(io:Io)(fn gfn:Func)(gops:Array Oper)(grest:Code)(ls:List Nat)(caps:List Cp)(ex:Ex)(A:AS):Option io.Res:=
 match ex with
 |.exit _=>none
 |.panic v=>J8 tt hd okDraw kbG io fn gfn gops grest ls caps v A
 |_=>J8 tt hd okDraw kbG io fn gfn gops grest ls caps (.one .nilif) A
def Py (k:Nat)(caps:List Cp):Bool:=caps.all fun c=>match c with
 |.ptr key _=>Nat.blt key k
 |.dat _ _=>false
def Io.runD (tt:TT)(hd:Hd)(okDraw:Dr)(lp:Lp)(kb2 kbG:Nat)(io:Io)(fn:Func)(g:Nat)(gfn:Func)(t:Nat)(d:io.In):Option io.Res:=
 ev tt hd okDraw lp io.obs.length (mb fn) (lj (bU fn)) (mb fn) [] (io.start fn.ntmps d) fun ex A=>match ex with
  |.normal=>lN tt hd io.obs.length (jI (lj (iU (bU fn)))) [0] A fun ex A=>match ex with
   |.normal=>match A.get t with
    |.one (.fn g' false caps)=>bif g' == g&&Py kb2 caps then
      ev tt hd okDraw lp kb2 (mb fn) (iU (iU (bU fn))) (mb fn) [] A
       (Rz tt hd okDraw kbG io fn gfn (jI (lj (bU gfn))) (iU (bU gfn)) ((List.range (jI (lj (bU gfn))).size).drop 1) caps) else none
    |_=>none
   |_=>none
  |_=>none
section
variable {P:Program} {tt:TT}
theorem qx (htt:cJ P tt){hd:Hd}(hh:lK P hd){R:Type}{F:Fra}{cst:List (Array Value)}{kb:Nat}(hkb:∀d,F.mu0 (kb+d)=none){ops:Array Oper}{r:R}{Q:Exit→Act→World→Prop}(l2:List Nat):∀(l:List Nat) {G:Gh} {A:AS} {a:Act} {w:World} {K:Ex→AS→Option R},
  lN tt hd kb ops l A K=some r→Rel F G A a.tmps cst w→
  (∀ex A' G' a' w',Rel F G' A' a'.tmps cst w'→a'.defers=a.defers→K ex A'=some r→match ex with
   |.normal=>wpOps P ops Q l2 a' w'
   |.exit id=>Q (.exit id) a' w'
   |.ret=>Q .ret a' w'
   |.panic v=>∀u,Rv G' w' v u→Q (.panic [{ v:=u,recovered:=false }]) a' w')→wpOps P ops Q (l++l2) a w
 |[],G,A,a,w,K,h,Rl,hK=>hK .normal A G a w Rl rfl h
 |i::is,G,A,a,w,K,h,Rl,hK=>by
  simp only[lN] at h
  simp only[List.cons_append,wpOps]
  split at h
  ·cases h
  ·rename_i o ho
   rw[ho]
   simp only
   rcases cK Rl h with ⟨hw,A1,R1,h1⟩ | ⟨hw,A1,R1,h1⟩
   ·rw[if_pos hw]
    refine .inl (ie htt hh R1 hkb [] o h1 ?_)
    intro ex A' G' a' w' R' hd' hk
    cases ex with
    |normal=>exact fun _=>qx htt hh hkb l2 is hk R' (by rw[hd'];exact hK)
    |exit id=>exact hK _ A' G' a' w' R' hd' hk
    |ret=>exact hK _ A' G' a' w' R' hd' hk
    |panic v=>exact hK _ A' G' a' w' R' hd' hk
   ·rw[if_neg (by simp[hw])]
    exact qx htt hh hkb l2 is h1 R1 (by rw[Act.put_defers'];exact hK)
theorem ke (htt:cJ P tt){hd:Hd}(hh:lK P hd){R:Type}{F:Fra}{cst:List (Array Value)}{kb:Nat}(hkb:∀d,F.mu0 (kb+d)=none){ops:Array Oper}{r:R}{Q:Exit→Act→List Frame→World→Prop}{cs:List Frame}:∀(l:List Nat) {G:Gh} {A:AS} {a:Act} {w:World} {K:Ex→AS→Option R},
  lN tt hd kb ops l A K=some r→Rel F G A a.tmps cst w→tC F cst a.defers r K (fun e a w=>Q e a cs w)→wpOpsS P ops Q l a cs w
 |[],G,A,a,w,K,h,Rl,hK=>hK .normal A G a w Rl rfl h
 |i::is,G,A,a,w,K,h,Rl,hK=>by
  simp only[lN] at h
  simp only[wpOpsS]
  split at h
  ·cases h
  ·rename_i o ho
   rw[ho]
   simp only
   rcases cK Rl h with ⟨hw,A1,R1,h1⟩ | ⟨hw,A1,R1,h1⟩
   ·rw[if_pos hw]
    have hop:o.wp P a w (fun a' w'=>wpOpsS P ops Q is a' cs w') (fun e a' w'=>Q e a' cs w'):=by
     refine ie htt hh R1 hkb [] o h1 ?_
     intro ex A' G' a' w' R' hd' hk
     cases ex with
     |normal=>exact fun _=>ke htt hh hkb is hk R' (by rw[hd'];exact hK)
     |exit id=>exact hK _ A' G' a' w' R' hd' hk
     |ret=>exact hK _ A' G' a' w' R' hd' hk
     |panic v=>exact hK _ A' G' a' w' R' hd' hk
    unfold Oper.wp at hop
    split
    ·rename_i w' e
     rw[e] at hop
     exact hop.elim
    ·exact hop
   ·rw[if_neg (by simp[hw])]
    exact ke htt hh hkb is h1 R1 (by rw[Act.put_defers'];exact hK)
theorem H7 (htt:cJ P tt)(hm:P.follows .mixedOrders=true){hd:Hd}(hh:lK P hd){okDraw:Dr}(hdr:ll P tt okDraw){kbG:Nat}{io:Io}{fn gfn:Func}{g:Nat}{i2:Nat}{gops:Array Oper}{grest:Code}{ls:List Nat}{caps:List Cp}
  (hg:P.funcs[g]?=some gfn) (hgb:gfn.body=some (.seq (.region i2 gops false) grest)) (hls:List.range gops.size=0::ls) {oo:Oper} (hoo:gops[0]?=some oo)
  (hop:oo.op=.call { callee:=.builtin .recover,args:=#[],argTypes:=#[] }) (hgd:oo.guard=none) (hres:gfn.results = #[]) (hl2:bB 0 grest 0 []=[])
  {F:Fra} {G:Gh} {A:AS} {ts:Array Value} {cst:List (Array Value)} {w:World} (hkb:∀d,F.mu0 (kbG+d)=none) {rv:V} {out:io.Res}
  (h:J8 tt hd okDraw kbG io fn gfn gops grest ls caps rv A=some out) (Rl:Rel F G A ts cst w) {vs:Array Value} (hvs:All2 (Rcp G w) caps vs.toList) {u:FrameMode}
  (hu:(u=.returning∧rv=.one .nilif)∨∃uv,u=.panicking [{ v:=uv,recovered:=false }]∧Rv G w rv uv):
  CallsD P g vs u w fun e u' w'=>e=.returned (.tuple #[])∧settle u'=.returning∧∃G' A',Rel F G' A' ts cst w'∧kf tt io fn A'=some out:=by
 refine callsD_of_wpS hg hgb ?_
 intro c₀ cs hmode
 refine wpS_seq (wpS_region ?_)
 rw[hls]
 simp only[wpOpsS,hoo]
 rw[if_pos (by simp[Region.wanted,hgd])]
 generalize hA0:({ tmps:=vs++Array.replicate (gfn.ntmps - vs.size) undef,defers:=[] }:Act)=a0
 have hrun:(execOp a0.eval oo).run P w=.ok .recover w:=by
  simp[execOp,hop,resolve,invoke,builtin]
 rw[hrun]
 simp only
 have R0:Rel F G ⟨caps.map Cp.toV++List.replicate (gfn.ntmps - caps.length) .any,A.tm::A.stk,A.ob⟩ a0.tmps (ts::cst) w:=by
  refine ⟨?_,⟨Rl.tm,Rl.stk⟩,Rl.ob,Rl.gh⟩
  rw[← hA0]
  have hl:=hvs.length
  simp only[Array.toList_append,Array.toList_replicate]
  refine All2.append (hvs.map_left _ fun c v hc=>Cp.toV_sound hc) ?_
  rw[hl,Array.length_toList]
  generalize gfn.ntmps - vs.size=n
  induction n with
  |zero=>exact trivial
  |succ n ih=>exact ⟨trivial,ih⟩
 have hd0:a0.defers=[]:=by rw[← hA0]
 obtain ⟨uv,c₁,hrec,huv,hset⟩:∃uv u',(recoverD (c₀::cs)=some (uv,{ c₀ with mode:=u' }::cs)∨(recoverD (c₀::cs)=none∧uv=.nilIface∧{ c₀ with mode:=u' }::cs=c₀::cs))∧Rv G w rv uv∧settle u'=.returning:=by
  rcases hu with ⟨rfl,rfl⟩ | ⟨uv,rfl,huv⟩
  ·refine ⟨.nilIface,.returning,.inr ⟨by simp[recoverD,hmode],rfl,?_⟩,rfl,rfl⟩
   rw[← hmode]
  ·exact ⟨uv,.panicking [{ v:=uv,recovered:=true }],.inl (by simp[recoverD,hmode]),huv,rfl⟩
 suffices hgoal:wpOpsS P gops (Exit.thenS (grest.wpS P (bodyPostS P gfn c₀ cs fun e u' w'=>e=.returned (.tuple #[])∧settle u'=.returning∧∃G' A',Rel F G' A' ts cst w'∧kf tt io fn A'=some out)) (bodyPostS P gfn c₀ cs fun e u' w'=>e=.returned (.tuple #[])∧settle u'=.returning∧∃G' A',Rel F G' A' ts cst w'∧kf tt io fn A'=some out)) ls (a0.put oo.dst uv) ({ c₀ with mode:=c₁ }::cs) w by
  rcases hrec with hrec | ⟨hrec,e1,e2⟩
  ·rw[hrec];exact hgoal
  ·rw[hrec];rw[e1,e2] at hgoal;exact hgoal
 unfold J8 at h
 rw[hoo] at h
 have R1:=R0.puts huv oo.dst
 refine ke htt hh hkb ls h R1 ?_
 intro ex A2 G2 a2 w2 R2 hd2 h2
 cases ex with
 |normal=>
  refine wpS_of_wp (gn htt hm hh hdr hkb (lp:=fun _=>none) grest (m6 hl2) h2 R2 ?_)
  intro ex A3 G3 a3 w3 R3 hd3 h3
  have fin:∀(hk:Q7 tt io fn A3=some out),
    bodyPostS P gfn c₀ cs (fun e u' w'=>e=.returned (.tuple #[])∧settle u'=.returning∧∃G' A',Rel F G' A' ts cst w'∧kf tt io fn A'=some out) .ret a3 ({ c₀ with mode:=c₁ }::cs) w3:=by
   intro hk
   obtain ⟨tm3,stk3,ob3⟩:=A3
   cases stk3 with
   |nil=>cases hk
   |cons tm stk=>
    refine ⟨hd3.trans (hd2.trans ((Act.put_defers' _ _ _).trans hd0)),c₁,rfl,.tuple #[],by simp[results,hres],rfl,hset,G3,⟨tm,stk,ob3⟩,⟨R3.stk.1,R3.stk.2,R3.ob,R3.gh⟩,hk⟩
  cases ex with
  |normal=>exact fin h3
  |ret=>exact fin h3
  |exit i=>cases h3
  |panic v=>cases h3
 |exit i=>cases h2
 |ret=>cases h2
 |panic v=>cases h2
theorem GhOk.withMu {F:Fra}{G:Gh}{w:World}(h:GhOk F G w)(m:Nat→Option Nat)(hm:∀key b,m key=some b→G.mu key=some b):GhOk { F with mu0:=m } G w:=
 ⟨h.mu,h.muI,h.ow,h.owI,h.sB,⟨h.fr.os,h.fr.tape,h.fr.output,h.fr.size,h.fr.block⟩,h.sub,h.sup,h.keep,hm,h.tab⟩
theorem GhOk.back {F:Fra}{G:Gh}{w:World}{m:Nat→Option Nat}(h:GhOk { F with mu0:=m } G w)(hm:∀key b,F.mu0 key=some b→G.mu key=some b):GhOk F G w:=
 ⟨h.mu,h.muI,h.ow,h.owI,h.sB,⟨h.fr.os,h.fr.tape,h.fr.output,h.fr.size,h.fr.block⟩,h.sub,h.sup,h.keep,hm,h.tab⟩
theorem BR (htt:cJ P tt)(hm:P.follows .mixedOrders=true){hd:Hd}(hh:lK P hd){okDraw:Dr}(hdr:ll P tt okDraw){f:Nat}{fn:Func}(hf:P.funcs[f]?=some fn)(hname:(fn.name == "runtime.NumGoroutine")=false)
  (io:Io) {kb2 kbG:Nat} (hkb2:io.obs.length≤kb2) (hkbG:kb2≤kbG) {i1:Nat} {ops1:Array Oper} (hb:fn.body=some (.seq (lj (bU fn)) (.seq (.region i1 ops1 false) (iU (iU (bU fn)))))) (he1:jI (lj (iU (bU fn)))=ops1) (hs1:List.range ops1.size=[0]++[1])
  {o1:Oper} {t:Nat} {aT:Array TypeId} (ho1:ops1[1]?=some o1) (hop1:o1.op=.defer { callee:=.value (.tmp t),args:=#[],argTypes:=aT }) (hg1:o1.guard=none) (hd1:o1.dst=none)
  {lp:Lp} (hl0:bB (mb fn) (lj (bU fn)) (mb fn) []=[]) (hlp:∀e∈bB (mb fn) (iU (iU (bU fn))) (mb fn) [],∀h,lp (cY e.2.1)=some h→tB P kb2 e.2.1 h)
  {g:Nat} {gfn:Func} {i2:Nat} {gops:Array Oper} {grest:Code} (hg:P.funcs[g]?=some gfn) (hgn:(gfn.name == "runtime.NumGoroutine")=false) (hgb:gfn.body=some (.seq (.region i2 gops false) grest)) (hge:jI (lj (bU gfn))=gops) (hgr:iU (bU gfn)=grest)
  (hls:List.range gops.size=0::(List.range gops.size).drop 1) {oo:Oper} (hoo:gops[0]?=some oo)
  (hop:oo.op=.call { callee:=.builtin .recover,args:=#[],argTypes:=#[] }) (hgd:oo.guard=none) (hres:gfn.results = #[]) (hl2:bB 0 grest 0 []=[])
  (Fn:io.In→Tr io.Res) (hF:∀d out,io.wf d→(Fn d).val=some out→io.runD tt hd okDraw lp kb2 kbG fn g gfn t d=some out):HcOk P f (ah io Fn):=by
 refine qG htt hf hname io Fn (fun d out hwf hout F G cst w vals R Rl hkb _ hend=>?_) (by rw[hb];rfl)
 have hrun:=hF d out hwf hout
 unfold Io.runD at hrun
 rw[he1,hge,hgr] at hrun
 have hfn:FnOk P g:=⟨gfn,hg,hgn,by rw[hgb];rfl⟩
 refine calls_of_wp_defers hf hb ?_
 refine wp_seq (gn htt hm hh hdr hkb _ (m6 hl0) hrun Rl ?_)
 intro ex A1 G1 a1 w1 R1 hdf1 h1
 cases ex with
 |exit i=>cases h1
 |ret=>cases h1
 |panic v=>cases h1
 |normal=>
 show (Code.seq (.region i1 ops1 false) (iU (iU (bU fn)))).wp P _ a1 w1
 refine wp_seq (wp_region ?_)
 rw[hs1]
 refine qx htt hh hkb [1] [0] h1 R1 ?_
 intro ex A2 G2 a2 w2 R2 hdf2 h2
 cases ex with
 |exit i=>cases h2
 |ret=>cases h2
 |panic v=>cases h2
 |normal=>
 simp only at h2
 split at h2
 rotate_left
 ·cases h2
 rename_i g' caps eg
 cases hgg:g' == g&&Py kb2 caps with
 |false=>rw[hgg] at h2;cases h2
 |true=>
 rw[hgg] at h2
 simp only[cond_true] at h2
 simp only[zA,beq_iff_eq] at hgg
 obtain ⟨hgg,hcb⟩:=hgg
 subst hgg
 have hv:=R2.opd (.tmp t)
 rw[show opd A2 (.tmp t)=A2.get t from rfl,eg] at hv
 obtain ⟨vs,ev,hvs⟩:=hv
 simp only[pg,cond_false] at ev
 simp only[wpOps,ho1]
 rw[if_pos (by simp[Region.wanted,hg1])]
 refine .inl ?_
 have hrun1:(execOp a2.eval o1).run P w2=.ok (.defer { target:=.fn (.func g') vs,args:=#[] }) w2:=by
  simp[execOp,hop1,resolve,ev,Deferred.ofValue]
 unfold Oper.wp
 rw[hrun1]
 simp only[Oper.upon,hd1]
 have hinv:(invoke (.fn (.func g') vs) #[]).run P=fun w=>.ok (.enter g' vs) w:=by
  funext w
  simp[invoke,hfn.run]
 show (iU (iU (bU fn))).wp P (bodyPostD P fn R) ({ a2 with defers:=_::a2.defers }:Act) w2
 have hdf:a2.defers=[]:=hdf2.trans hdf1
 rw[hdf]
 let m:Nat→Option Nat:=fun key=>if key<kb2 then G2.mu key else none
 have hm0:∀key b,F.mu0 key=some b→m key=some b:=fun key b hb=>by
  have hlt:key<kb2:=by
   rcases Nat.lt_or_ge key io.obs.length with h | h
   ·omega
   ·have:=hkb (key - io.obs.length)
    rw[show io.obs.length+(key - io.obs.length)=key by omega,hb] at this
    cases this
  show (if key<kb2 then G2.mu key else none)=some b
  rw[if_pos hlt]
  exact R2.gh.fix_ key b hb
 have hmk:∀kb,kb2≤kb→∀d,({ F with mu0:=m }:Fra).mu0 (kb+d)=none:=fun kb hkb d=>by
  show (if kb+d<kb2 then G2.mu (kb+d) else none)=none
  rw[if_neg (by omega)]
 have R2':Rel { F with mu0:=m } G2 A2 a2.tmps cst w2:=⟨R2.tm,R2.stk,R2.ob,R2.gh.withMu m fun key b hb=>by
  have hb:(if key<kb2 then G2.mu key else none)=some b:=hb
  split at hb
  ·exact hb
  ·cases hb⟩
 refine gn htt hm hh hdr (hmk kb2 (Nat.le_refl _)) (lp:=lp) _ hlp h2 (a:={ a2 with defers:=[{ target:=.fn (.func g') vs,args:=#[] }] }) R2' ?_
 intro ex A3 G3 a3 w3 R3 hdf3 h3
 have hvs3:All2 (Rcp G3 w3) caps vs.toList:=hvs.mono fun c hc v hv=>by
  have hcc:=List.all_eq_true.1 hcb c hc
  cases c with
  |ptr key off=>
   obtain ⟨b,hb,e⟩:=hv
   have hlt:key<kb2:=by simpa using hcc
   exact ⟨b,R3.gh.fix_ key b (by show (if key<kb2 then G2.mu key else none)=some b;rw[if_pos hlt];exact hb),e⟩
  |dat t x=>cases hcc
 have leave:∀(rv:V) (u:FrameMode),u≠.run→((u=.returning∧rv=.one .nilif)∨∃uv,u=.panicking [{ v:=uv,recovered:=false }]∧Rv G3 w3 rv uv)→
   J8 tt hd okDraw kbG io fn gfn gops grest ((List.range gops.size).drop 1) caps rv A3=some out→Leaves P fn a3.tmps R a3.defers u w3:=by
  intro rv u hne hu h
  rw[hdf3]
  refine leaves_cons hne (by rw[hinv]) ?_
  refine (H7 htt hm hh hdr hg hgb hls hoo hop hgd hres hl2 (hmk kbG hkbG) h R3 hvs3 hu).mono ?_
  rintro e u' w' ⟨rfl,hset,G',A',R',hfin⟩
  simp only
  rw[hset]
  exact hend .ret A' G' { tmps:=a3.tmps,defers:=[] } w' ⟨R'.tm,R'.stk,R'.ob,R'.gh.back fun key b hb=>R'.gh.fix_ key b (hm0 key b hb)⟩ hfin
 cases ex with
 |exit i=>cases h3
 |normal=>exact leave _ _ (by simp) (.inl ⟨rfl,rfl⟩) h3
 |ret=>exact leave _ _ (by simp) (.inl ⟨rfl,rfl⟩) h3
 |panic v=>exact fun uv huv=>leave _ _ (by simp) (.inr ⟨uv,rfl,huv⟩) h3
end
end
end Go.Proofs.YthpcdhgpplmneaaGreatDoor.Sym
namespace Go.Proofs.YthpcdhgpplmneaaGreatDoor.Sym
open Go
open Go.IntKind (i8 i16 i32 i64 u8 u16 u32 u64)
noncomputable section
abbrev tt:TT:=ni Tryz.prog 400
def dr:Dr:=oz (ni Tryz.prog 400)
def RP:Dr:=Aj (ni Tryz.prog 400)
theorem hm:Tryz.prog.follows .mixedOrders=true:=by kernel_rfl
abbrev prog:Program:=Tryz.prog
abbrev bs:Ty:=.sl 5 (.int .u8)
abbrev dL:Sh:=.dat bs false false
abbrev dO:Sh:=.dat bs false true
abbrev dI:Sh:=.dat (.int .i64) false false
abbrev dB:Sh:=.dat .bool false false
abbrev dU:Sh:=.dat (.int .u8) false false
theorem bK {k:IntKind}{n:Int}(h:bH k n):k.wrap n=n:=by
 unfold bH at h
 cases k <;> simp[IntKind.wrap,IntKind.min,IntKind.max,IntKind.signed,IntKind.bits] at * <;> (try split) <;> omega
theorem ae {n:Int}(h0 : -9223372036854775808≤n)(h:n≤9223372036854775807):IntKind.wrap .i64 n=n:=by
 apply bK
 simp[bH,IntKind.min,IntKind.max,IntKind.signed,IntKind.bits]
 omega
theorem ba:maxLen=9223372036854775807:=rfl
theorem b7 {i n:Nat}(h:i<n)(hn:n≤maxLen):IntKind.wrap .i64 ((i:Int)+1)=((i+1:Nat):Int):=by
 rw[ae] <;> rw[ba] at hn <;> omega
theorem aa {α:Type}{c:Bool}(h:c=true)(a b:α):(bif c then a else b)=a:=by rw[h];rfl
theorem af {α:Type}{c:Bool}(h:c=false)(a b:α):(bif c then a else b)=b:=by rw[h];rfl
theorem aA {α:Type}{xs:List α}{i:Nat}{d:α}(h:i<xs.length):xs.getD i d=xs[i]:=by simp[List.getD,h]
theorem Tr.val_ret {α:Type}(a:α):(Tr.ret a).val=some a:=rfl
theorem Tr.val_no {α:Type}:(Tr.no:Tr α).val=none:=rfl
theorem Tr.val_ite {α:Type}(c:Bool)(t e:Tr α):(Tr.ite c t e).val=if c=true then t.val else e.val:=by cases c <;> rfl
theorem Tr.run_ret {α R:Type}(a:α)(K:α→Option R):(Tr.ret a).run K=K a:=rfl
theorem Tr.run_no {α R:Type}(K:α→Option R):(Tr.no:Tr α).run K=none:=rfl
theorem Tr.run_ite {α R:Type}(c:Bool)(t e:Tr α)(K:α→Option R):(Tr.ite c t e).run K=if c=true then t.run K else e.run K:=by cases c <;> rfl
theorem Tr.guard {α:Type}{c:Bool}{t:Tr α}{y:α}(h:(Tr.ite c t .no).val=some y):c=true∧t.val=some y:=by
 cases c with
 |true=>exact ⟨rfl,h⟩
 |false=>cases h
theorem au {i:Int}(h:0≤i):∃n:Nat,i=n:=⟨i.toNat,by omega⟩
theorem bQ {f:Nat}{cs:List (Nat×Hc)}(hcs:HcsOk prog cs){lp:Lp}{fn:Func}(io:Io)(hlp:LpsOk prog io.obs.length lp (Jz fn) 0)(Fn:io.In→Tr io.Res)(hF:∀d out,io.wf d→(Fn d).val=some out→io.run (ni prog 400) (bG cs) (oz (ni prog 400)) lp fn d=some out)(hf:prog.funcs[f]?=some fn:=by kernel_rfl)(hname:(fn.name=="runtime.NumGoroutine")=false:=by kernel_rfl) (hbody:fn.body.isNone=false:=by kernel_rfl):HcOk prog f (ah io Fn):=KD (n:=400) hm hcs hf hname hbody io hlp Fn hF
theorem f9 {cs:List (Nat×Hc)}(hcs:HcsOk prog cs){lp:Lp}{kb:Nat}{fn:Func}{e:Le}(hsub:LpsOk prog kb lp (Qu fn e) 0)(lo:Lo)(Fn:lo.st.den→Tr (ap lo.xs))(hF:∀d y,lo.st.wf d→(Fn d).val=some y→∃k,fJ (ni prog 400) (bG cs) (oz (ni prog 400)) lp kb fn e k (lo.st.mk' d) (bt lo.xs)=some y):tB prog kb e.2.1 (aD lo Fn):=Ej (n:=400) hm hcs hsub lo Fn hF
theorem bT {α:Type}{c:Bool}{a b r:α}(h:c=true)(k:a=r):(bif c then a else b)=r:=by rw[h];exact k
theorem bF {α:Type}{c:Bool}{a b r:α}(h:c=false)(k:b=r):(bif c then a else b)=r:=by rw[h];exact k
abbrev oR {α β:Type}(a:α):Option (Out α β):=some (.ret a)
abbrev hI:SC:=.hol (.int .i64)
abbrev hJ:SC:=.hol (.int .i32)
abbrev hK:SC:=.hol (.int .i16)
abbrev hL:SC:=.hol .bool
abbrev RQ:Int:=pS (cp 131072 0) 1048576
abbrev jD:Io:=⟨[dL,dL],[],[],[dB],none⟩
def v9 (d:jD.In):Tr jD.Res:=.ret (.ret ((decide (d.1.1=d.1.2.1),()),()))
abbrev D5:List (Nat×Hc):=[]
def KH:Hd:=bG D5
abbrev fu:Lo:=⟨⟨(.one (.hol (.sl 5 (Ty.int u8)))::.one (.hol (.sl 5 (Ty.int u8)))::.any::bk (.one hI::ai (bz []))),[]⟩,[(.ret,⟨(bz (.one hL::.any::ai (bz []))),[]⟩),(.exit 0,⟨(ai (dm (bk []))),[]⟩)]⟩
def mG (d:fu.st.den):Tr (ap fu.xs):=
 .ite (decide (0≤d.1.2.2.1)&&decide (d.1.1.length=d.1.2.1.length)) (.ite (decide (d.1.1.drop d.1.2.2.1.toNat=d.1.2.1.drop d.1.2.2.1.toNat)) (.ret (.pan (.ret ((),((),()))))) (.ret (.ret ((),((false,()),()))))) .no
def zU:Lp:=bM [(5,aD fu mG)]
def oF {R:Type}(h2 h3:LI)(h4:Int)(next:LI→LI→Int→Option R)(out:ap fu.xs→Option R):Option R:=bif decide (h4<(↑h2.length:Int)) then bif decide (0≤h4)&&decide (h4<(↑h2.length:Int)) then bif decide (0≤h4)&&decide (h4<(↑h3.length:Int)) then bif h2.getD h4.toNat 0 != h3.getD h4.toNat 0 then out (.ret ((),((false,()),()))) else next (h2) (h3) (i64.wrap (h4+1)) else none else none else out (.pan (.ret ((),((),()))))
def pn (n:Nat)(h2 h3:LI)(h4:Int):Option (ap fu.xs):=fJ tt KH dr zU 0 Tryz.f22 (bP Tryz.f22 0) n (fu.st.mk' ((h2,(h3,(h4,()))),())) (bt fu.xs)
theorem C0 (n:Nat)(h2 h3:LI)(h4:Int):pn (n+1) h2 h3 h4=oF h2 h3 h4 (pn n) some:=by kernel_rfl
theorem K6 (xs ys:LI)(hl:xs.length=ys.length)(hb:xs.length≤maxLen):∀(k i:Nat),i≤xs.length→xs.length<i+k→
  pn k xs ys (i:Int)=if xs.drop i=ys.drop i then some (.pan (.ret ((),((),())))) else some (.ret ((),((false,()),()))):=by
 intro k
 induction k with
 |zero=>intro i h h';omega
 |succ k ih=>
  intro i hi h
  rw[C0]
  unfold oF
  by_cases h1:i<xs.length
  ·have h2:i<ys.length:=by omega
   rw[b7 h1 hb,ih (i+1) h1 (by omega)]
   have e:(xs.drop i=ys.drop i)↔(xs[i]=ys[i]∧xs.drop (i+1)=ys.drop (i+1)):=by rw[zE h1,zE h2,List.cons.injEq]
   simp only[zG,aA h1,aA h2]
   by_cases he:xs[i]=ys[i] <;> simp[h1,h2,he,e,cond_eq_ite]
  ·rw[zI (by omega),zI (by omega)]
   simp[h1]
def A6 (a0 a1:LI):Option jD.Res:=bif (↑a0.length:Int) != (↑a1.length:Int) then oR ((false,()),()) else (mG ((a0,(a1,(0,()))),())).run fun y=>match y with | .ret ((),((x9,()),()))=>(oR ((x9,()),())) | .pan (.ret ((),((),())))=>(oR ((true,()),()))
theorem OR (a0 a1:LI):Io.run tt KH dr zU jD Tryz.f22 ((a0,a1,()),())=A6 a0 a1:=by kernel_rfl
theorem An:HcOk prog 22 (ah jD v9):=by
 refine bQ (cs:=D5) HcsOk.nil (lp:=zU) (fn:=Tryz.f22) jD
  (.step (h0:=aD fu mG) (by kernel_rfl) (f9 (cs:=D5) HcsOk.nil (lp:=zU) (fn:=Tryz.f22) (.done (by kernel_rfl)) fu mG ?_) (.done (by kernel_rfl))) v9 ?_
 ·rintro ⟨⟨xs,ys,i,⟨⟩⟩,⟨⟩⟩ y hw hy
  obtain ⟨hg,hy⟩:=Tr.guard hy
  simp only[zA,zB] at hg
  obtain ⟨n,rfl⟩:=au hg.1
  by_cases hn:n≤xs.length
  ·refine ⟨xs.length+1,(K6 xs ys hg.2 hw.1.1.1 _ n hn (by omega)).trans ?_⟩
   rw[← hy]
   simp only[Tr.val_ite,zB,zG,Tr.val_ret]
  ·refine ⟨1,?_⟩
   show pn (0+1) xs ys n=_
   rw[C0,← hy]
   unfold oF
   have h1:¬ n<xs.length:=by omega
   simp[Tr.val_ite,Tr.val_ret,h1,zI (show xs.length≤n by omega),zI (show ys.length≤n by omega)]
 ·rintro ⟨⟨xs,ys,⟨⟩⟩,⟨⟩⟩ out hw ho
  refine (OR xs ys).trans ?_
  cases ho
  unfold A6
  by_cases hl:xs.length=ys.length
  ·by_cases he:xs=ys
   ·subst he;simp[mG,Tr.run]
   ·simp[mG,Tr.run,hl,he]
  ·have:xs≠ys:=fun e=>hl (by rw[e])
   have h2:(xs.length:Int)≠ys.length:=by omega
   simp[this,h2,cond_eq_ite]
theorem rh {R:Type}(it:Nat→LI→LI→Int→Option R)(out:LI→Option R)
  (h:∀n b o i,it (n+1) b o i=bif decide (i<(b.length:Int)) then bif decide (0≤i)&&decide (i<(b.length:Int)) then bif decide (o.length+[b.getD i.toNat 0].length≤4294967296) then it n b (o++[b.getD i.toNat 0]) (i64.wrap (i+1)) else none else none else out o)
  (b:LI) (hb:b.length≤maxLen):∀(k:Nat) (o:LI) (i:Nat),i≤b.length→b.length<i+k→o.length+(b.length - i)≤4294967296→it k b o i=out (o++b.drop i):=by
 intro k
 induction k with
 |zero=>intro o i h1 h2;omega
 |succ k ih=>
  intro o i h1 h2 h3
  rw[h]
  by_cases hi:i<b.length
  ·rw[b7 hi hb,ih _ (i+1) hi (by omega) (by simp;omega),zE hi]
   simp only[zG,aA hi]
   have h4:o.length+1≤4294967296:=by omega
   simp[hi,h4]
  ·rw[zI (by omega)]
   simp[hi]
abbrev ii:Io:=⟨[dL],[],[],[dO],none⟩
def td (d:ii.In):Tr ii.Res:=.ite (decide (d.1.1.length≤4294967296)) (.ret (.ret ((d.1.1,()),()))) .no
abbrev D4:List (Nat×Hc):=[]
def KF:Hd:=bG D4
abbrev ft:Lo:=⟨⟨(.one (.hol (.sl 5 (Ty.int u8)))::bk (.one (.onl 5 (Ty.int u8) 7)::.one hI::.any::dm (bz (bk [])))),[]⟩,[(.exit 0,⟨(.any::bk (.one (.onl 5 (Ty.int u8) 7)::ai [])),[]⟩)]⟩
def oI (d:ft.st.den):Tr (ap ft.xs):=
 .ite (decide (d.1.2.2.1=0)&&decide (d.1.2.1.length+d.1.1.length≤4294967296)) (.ret (.ret ((),((d.1.2.1++d.1.1,()),())))) .no
def zT:Lp:=bM [(4,aD ft oI)]
def E6 {R:Type}(h1 h2:LI)(h3:Int)(next:LI→LI→Int→Option R)(out:ap ft.xs→Option R):Option R:=bif decide (h3<(↑h1.length:Int)) then bif decide (0≤h3)&&decide (h3<(↑h1.length:Int)) then bif decide (h2.length+[h1.getD h3.toNat 0].length≤4294967296) then next (h1) (h2++[h1.getD h3.toNat 0]) (i64.wrap (h3+1)) else none else none else out (.ret ((),((h2,()),())))
def uz (n:Nat)(h1 h2:LI)(h3:Int):Option (ap ft.xs):=fJ tt KF dr zT 0 Tryz.f21 (bP Tryz.f21 0) n (ft.st.mk' ((h1,(h2,(h3,()))),())) (bt ft.xs)
theorem MS (n:Nat)(h1 h2:LI)(h3:Int):uz (n+1) h1 h2 h3=E6 h1 h2 h3 (uz n) some:=by kernel_rfl
def A5 (a0:LI):Option ii.Res:=(oI ((a0,([],(0,()))),())).run fun y=>match y with | .ret ((),((x8,()),()))=>(oR ((x8,()),()))
theorem OQ (a0:LI):Io.run tt KF dr zT ii Tryz.f21 ((a0,()),())=A5 a0:=by kernel_rfl
theorem uK:HcOk prog 21 (ah ii td):=by
 refine bQ (cs:=D4) HcsOk.nil (lp:=zT) (fn:=Tryz.f21) ii
  (.step (h0:=aD ft oI) (by kernel_rfl) (f9 (cs:=D4) HcsOk.nil (lp:=zT) (fn:=Tryz.f21) (.done (by kernel_rfl)) ft oI ?_) (.done (by kernel_rfl))) td ?_
 ·rintro ⟨⟨b,o,i,⟨⟩⟩,⟨⟩⟩ y hw hy
  obtain ⟨hg,hy⟩:=Tr.guard hy
  simp only[zA,zB] at hg
  obtain ⟨rfl,hl⟩:=hg
  refine ⟨b.length+1,(rh (fun k b o i=>uz k b o i) (fun o=>some (.ret ((),((o,()),())))) (fun n b o i=>MS n b o i) b hw.1.1.1 _ o 0 (by omega) (by omega) (by omega)).trans ?_⟩
  rw[← hy];rfl
 ·rintro ⟨⟨b,⟨⟩⟩,⟨⟩⟩ out hw ho
  obtain ⟨hg,ho⟩:=Tr.guard ho
  cases ho
  refine (OQ b).trans ?_
  simp only[zB] at hg
  unfold A5 oI
  simp[Tr.run_ite,Tr.run_ret,hg]
abbrev lf:Io:=⟨[dL,dL],[],[],[dO],none⟩
def AY (d:lf.In):Tr lf.Res:=.ite (decide (d.1.1.length+d.1.2.1.length≤4294967296)) (.ret (.ret ((d.1.1++d.1.2.1,()),()))) .no
abbrev Pz:List (Nat×Hc):=[(21,ah ii td)]
def PD:Hd:=bG Pz
abbrev gK:Lo:=⟨⟨(.any::.one (.hol (.sl 5 (Ty.int u8)))::.any::bk (.one (.onl 5 (Ty.int u8) 11)::.one hI::ai [])),[]⟩,[(.exit 0,⟨(.any::bz (.one (.onl 5 (Ty.int u8) 11)::.any::ai [])),[]⟩)]⟩
def tc (d:gK.st.den):Tr (ap gK.xs):=
 .ite (decide (d.1.2.2.1=0)&&decide (d.1.2.1.length+d.1.1.length≤4294967296)) (.ret (.ret ((),((d.1.2.1++d.1.1,()),())))) .no
def GC:Lp:=bM [(4,aD gK tc)]
def Jw {R:Type}(h2 h3:LI)(h4:Int)(next:LI→LI→Int→Option R)(out:ap gK.xs→Option R):Option R:=bif decide (h4<(↑h2.length:Int)) then bif decide (0≤h4)&&decide (h4<(↑h2.length:Int)) then bif decide (h3.length+[h2.getD h4.toNat 0].length≤4294967296) then next (h2) (h3++[h2.getD h4.toNat 0]) (i64.wrap (h4+1)) else none else none else out (.ret ((),((h3,()),())))
def zo (n:Nat)(h2 h3:LI)(h4:Int):Option (ap gK.xs):=fJ tt PD dr GC 0 Tryz.f24 (bP Tryz.f24 0) n (gK.st.mk' ((h2,(h3,(h4,()))),())) (bt gK.xs)
theorem Pi (n:Nat)(h2 h3:LI)(h4:Int):zo (n+1) h2 h3 h4=Jw h2 h3 h4 (zo n) some:=by kernel_rfl
def Fs (a0 a1:LI):Option lf.Res:=bif decide (a0.length≤4294967296) then (tc ((a1,(a0,(0,()))),())).run fun y=>match y with | .ret ((),((x9,()),()))=>(oR ((x9,()),())) else none
theorem Qp (a0 a1:LI):Io.run tt PD dr GC lf Tryz.f24 ((a0,a1,()),())=Fs a0 a1:=by kernel_rfl
theorem Gj:HcsOk prog Pz:=.cons uK .nil
theorem xR:HcOk prog 24 (ah lf AY):=by
 refine bQ Gj (lp:=GC) (fn:=Tryz.f24) lf
  (.step (h0:=aD gK tc) (by kernel_rfl) (f9 Gj (lp:=GC) (fn:=Tryz.f24) (.done (by kernel_rfl)) gK tc ?_) (.done (by kernel_rfl))) AY ?_
 ·rintro ⟨⟨b,o,i,⟨⟩⟩,⟨⟩⟩ y hw hy
  obtain ⟨hg,hy⟩:=Tr.guard hy
  simp only[zA,zB] at hg
  obtain ⟨rfl,hl⟩:=hg
  refine ⟨b.length+1,(rh (fun k b o i=>zo k b o i) (fun o=>some (.ret ((),((o,()),())))) (fun n b o i=>Pi n b o i) b hw.1.1.1 _ o 0 (by omega) (by omega) (by omega)).trans ?_⟩
  rw[← hy];rfl
 ·rintro ⟨⟨a,b,⟨⟩⟩,⟨⟩⟩ out hw ho
  obtain ⟨hg,ho⟩:=Tr.guard ho
  cases ho
  refine (Qp a b).trans ?_
  simp only[zB] at hg
  have hg:a.length+b.length≤4294967296:=hg
  have h1:a.length≤4294967296:=by omega
  unfold Fs tc
  simp[Tr.run_ite,Tr.run_ret,hg,h1]
abbrev gF:Io:=⟨[dL,dI,dI],[],[],[dO],none⟩
def te (d:gF.In):Tr gF.Res:=.ite (decide (d.1.1.length≤4294967296)) (.ret (.ret ((((d.1.1.take d.1.2.2.1.toNat).drop d.1.2.1.toNat),()),()))) .no
abbrev y6:List (Nat×Hc):=[]
def Gk:Hd:=bG y6
abbrev dJ:Lo:=⟨⟨(.one (.hol (.sl 5 (Ty.int u8)))::.any::.one hI::bz (.one (.onl 5 (Ty.int u8) 15)::.one hI::.any::ai (bz (bk [])))),[]⟩,[(.exit 0,⟨(.any::bz (bk (.one (.onl 5 (Ty.int u8) 15)::ai (dm [])))),[]⟩)]⟩
def jK (d:dJ.st.den):Tr (ap dJ.xs):=
 .ite (decide (0≤d.1.2.2.2.1)&&decide (d.1.2.2.1.length+d.1.1.length≤4294967296)) (.ret (.ret ((),((d.1.2.2.1++(d.1.1.take d.1.2.1.toNat).drop d.1.2.2.2.1.toNat,()),())))) .no
def sL:Lp:=bM [(6,aD dJ jK)]
def rP {R:Type}(h3:LI)(h4:Int)(h5:LI)(h6:Int)(next:LI→Int→LI→Int→Option R)(out:ap dJ.xs→Option R):Option R:=bif decide (h6<(↑h3.length:Int)) then bif decide (h6<h4) then bif decide (0≤h6)&&decide (h6<(↑h3.length:Int)) then bif decide (h5.length+[h3.getD h6.toNat 0].length≤4294967296) then next (h3) (h4) (h5++[h3.getD h6.toNat 0]) (i64.wrap (h6+1)) else none else none else out (.ret ((),((h5,()),()))) else out (.ret ((),((h5,()),())))
def qH (n:Nat)(h3:LI)(h4:Int)(h5:LI)(h6:Int):Option (ap dJ.xs):=fJ tt Gk dr sL 0 Tryz.f23 (bP Tryz.f23 0) n (dJ.st.mk' ((h3,(h4,(h5,(h6,())))),())) (bt dJ.xs)
theorem I7 (n:Nat)(h3:LI)(h4:Int)(h5:LI)(h6:Int):qH (n+1) h3 h4 h5 h6=rP h3 h4 h5 h6 (qH n) some:=by kernel_rfl
theorem Ip (b:LI)(hi:Int)(hb:b.length≤maxLen):∀(k:Nat) (o:LI) (i:Nat),b.length<i+k→o.length+(b.length - i)≤4294967296→0<k→
  qH k b hi o i=some (.ret ((),((o++(b.take hi.toNat).drop i,()),()))):=by
 intro k
 induction k with
 |zero=>intro o i _ _ h;omega
 |succ k ih=>
  intro o i h1 h2 _
  rw[I7]
  unfold rP
  by_cases hl:i<b.length
  ·by_cases hh:(i:Int)<hi
   ·rw[b7 hl hb,ih _ (i+1) (by omega) (by simp;omega) (by omega)]
    have hlt:i<(b.take hi.toNat).length:=by simp;omega
    rw[zE hlt]
    simp only[zG,aA hl,List.getElem_take]
    have h4:o.length+1≤4294967296:=by omega
    simp[hl,hh,h4]
   ·rw[zI (by simp;omega)]
    simp[hl,hh]
  ·rw[zI (by simp;omega)]
   simp[hl]
def wj (a0:LI)(a1 a2:Int):Option gF.Res:=bif decide (a1<0) then (jK ((a0,(a2,([],(0,())))),())).run fun y=>match y with | .ret ((),((x13,()),()))=>(oR ((x13,()),())) else (jK ((a0,(a2,([],(a1,())))),())).run fun y=>match y with | .ret ((),((x18,()),()))=>(oR ((x18,()),()))
theorem L4 (a0:LI)(a1 a2:Int):Io.run tt Gk dr sL gF Tryz.f23 ((a0,a1,a2,()),())=wj a0 a1 a2:=by kernel_rfl
theorem Am:HcOk prog 23 (ah gF te):=by
 refine bQ (cs:=y6) HcsOk.nil (lp:=sL) (fn:=Tryz.f23) gF
  (.step (h0:=aD dJ jK) (by kernel_rfl) (f9 (cs:=y6) HcsOk.nil (lp:=sL) (fn:=Tryz.f23) (.done (by kernel_rfl)) dJ jK ?_) (.done (by kernel_rfl))) te ?_
 ·rintro ⟨⟨b,hi,o,i,⟨⟩⟩,⟨⟩⟩ y hw hy
  obtain ⟨hg,hy⟩:=Tr.guard hy
  simp only[zA,zB] at hg
  obtain ⟨n,rfl⟩:=au hg.1
  refine ⟨b.length+1,(Ip b hi hw.1.1.1 _ o n (by omega) (by have:=hg.2;omega) (by omega)).trans ?_⟩
  rw[← hy];rfl
 ·rintro ⟨⟨(b:LI),(lo:Int),(hi:Int),⟨⟩⟩,⟨⟩⟩ out hw ho
  obtain ⟨hg,ho⟩:=Tr.guard ho
  cases ho
  refine (L4 b lo hi).trans ?_
  simp only[zB] at hg
  have hg:b.length≤4294967296:=hg
  unfold wj jK
  by_cases h0:lo<0
  ·have:lo.toNat=0:=by omega
   simp[Tr.run_ite,Tr.run_ret,hg,h0,this]
  ·have h1:0≤lo:=by omega
   simp[Tr.run_ite,Tr.run_ret,hg,h0,h1]
abbrev lS:Io:=⟨[dL],[],[],[dO],none⟩
def eM:LI:=(List.range 96).map fun i=>((i*7+13:Nat):Int) % 256
def Ff (d:lS.In):Tr lS.Res:=.ite (decide (d.1.1.length≤4294967000)) (.ret (.ret ((d.1.1++eM,()),()))) .no
abbrev Ka:List (Nat×Hc):=[(21,ah ii td)]
def KI:Hd:=bG Ka
abbrev fv:Lo:=⟨⟨(.any::bk (.one (.onl 5 (Ty.int u8) 7)::.one hI::dm (bz (bk [])))),[]⟩,[(.exit 0,⟨(.any::bk (.one (.onl 5 (Ty.int u8) 7)::.any::dm (bz (bk [])))),[]⟩)]⟩
def oJ (d:fv.st.den):Tr (ap fv.xs):=
 .ite (decide (d.1.2.1=0)&&decide (d.1.1.length≤4294967000)) (.ret (.ret ((),((d.1.1++eM,()),())))) .no
def zV:Lp:=bM [(4,aD fv oJ)]
def vy {R:Type}(h1:LI)(h2:Int)(next:LI→Int→Option R)(out:ap fv.xs→Option R):Option R:=bif decide (h2<96) then bif decide (h1.length+[u8.wrap (i64.wrap (i64.wrap (h2*7)+13))].length≤4294967296) then next (h1++[u8.wrap (i64.wrap (i64.wrap (h2*7)+13))]) (i64.wrap (h2+1)) else none else out (.ret ((),((h1,()),())))
def uA (n:Nat)(h1:LI)(h2:Int):Option (ap fv.xs):=fJ tt KI dr zV 0 Tryz.f13 (bP Tryz.f13 0) n (fv.st.mk' ((h1,(h2,())),())) (bt fv.xs)
theorem MT (n:Nat)(h1:LI)(h2:Int):uA (n+1) h1 h2=vy h1 h2 (uA n) some:=by kernel_rfl
theorem K7:∀(k:Nat) (o:LI) (i:Nat),96<i+k→i≤96→o.length+(96 - i)≤4294967296→
  uA k o i=some (.ret ((),((o++eM.drop i,()),()))):=by
 intro k
 induction k with
 |zero=>intro o i _ _ h;omega
 |succ k ih=>
  intro o i h1 h2 h3
  rw[MT]
  unfold vy
  by_cases hl:i<96
  ·have hlen:eM.length=96:=by simp[eM]
   rw[b7 hl (by rw[ba];omega),ih _ (i+1) (by omega) (by omega) (by simp;omega)]
   rw[zE (show i<eM.length by omega)]
   have e1:i64.wrap ((i:Int)*7)=(i:Int)*7:=by rw[ae] <;> omega
   have e2:i64.wrap ((i:Int)*7+13)=(i:Int)*7+13:=by rw[ae] <;> omega
   have e3:u8.wrap ((i:Int)*7+13)=eM[i]'(by omega):=by
    simp[IntKind.wrap,IntKind.signed,IntKind.bits,eM]
   rw[e1,e2,e3]
   have h4:o.length+1≤4294967296:=by omega
   have h5:(i:Int)<96:=by omega
   simp[h5,h4]
  ·have hlen:eM.length=96:=by simp[eM]
   rw[zI (by omega)]
   have h5:¬(i:Int)<96:=by omega
   simp[h5]
def A7 (a0:LI):Option lS.Res:=bif decide (a0.length≤4294967296) then (oJ ((a0,(0,())),())).run fun y=>match y with | .ret ((),((x6,()),()))=>(oR ((x6,()),())) else none
theorem OS (a0:LI):Io.run tt KI dr zV lS Tryz.f13 ((a0,()),())=A7 a0:=by kernel_rfl
theorem BX:HcsOk prog Ka:=.cons uK .nil
theorem okWide:HcOk prog 13 (ah lS Ff):=by
 refine bQ BX (lp:=zV) (fn:=Tryz.f13) lS
  (.step (h0:=aD fv oJ) (by kernel_rfl) (f9 BX (lp:=zV) (fn:=Tryz.f13) (.done (by kernel_rfl)) fv oJ ?_) (.done (by kernel_rfl))) Ff ?_
 ·rintro ⟨⟨o,i,⟨⟩⟩,⟨⟩⟩ y hw hy
  obtain ⟨hg,hy⟩:=Tr.guard hy
  simp only[zA,zB] at hg
  obtain ⟨rfl,hl⟩:=hg
  refine ⟨97,(K7 _ o 0 (by omega) (by omega) (by omega)).trans ?_⟩
  rw[← hy];rfl
 ·rintro ⟨⟨b,⟨⟩⟩,⟨⟩⟩ out hw ho
  obtain ⟨hg,ho⟩:=Tr.guard ho
  cases ho
  refine (OS b).trans ?_
  simp only[zB] at hg
  have hg:b.length≤4294967000:=hg
  have h1:b.length≤4294967296:=by omega
  unfold A7 oJ
  simp[Tr.run_ite,Tr.run_ret,hg,h1]
abbrev ij:Io:=⟨[dL,dL],[],[],[dB],none⟩
def yk (d:ij.In):Tr ij.Res:=.ite (decide (d.1.2.1.length≤4294967000)) (.ret (.ret ((decide (d.1.1=d.1.2.1++eM),()),()))) .no
abbrev Bu:List (Nat×Hc):=[(13,ah lS Ff),(22,ah jD v9)]
def KG:Hd:=bG Bu
def Cx:Lp:=bM []
def tE (a0 a1:LI):Option ij.Res:=bif decide (a1.length≤4294967000) then oR ((decide (a0=a1++eM),()),()) else none
theorem II (a0 a1:LI):Io.run tt KG dr Cx ij Tryz.f16 ((a0,a1,()),())=tE a0 a1:=by kernel_rfl
theorem LB:HcOk prog 16 (ah ij yk):=by
 refine bQ (cs:=Bu) (.cons okWide (.cons An .nil)) (lp:=Cx) (fn:=Tryz.f16) ij (.done (by kernel_rfl)) yk ?_
 rintro ⟨⟨a,b,⟨⟩⟩,⟨⟩⟩ out hw ho
 obtain ⟨hg,ho⟩:=Tr.guard ho
 cases ho
 refine (II a b).trans ?_
 unfold tE
 simp only[zB] at hg
 have hg:b.length≤4294967000:=hg
 simp[hg]
end
end Go.Proofs.YthpcdhgpplmneaaGreatDoor.Sym
namespace Go.Proofs.YthpcdhgpplmneaaGreatDoor.Sym
open Go
noncomputable section
def bg (b:LI)(p lo hi:Int):Bool:=decide (p<(b.length:Int))&&(decide (lo≤b.getD p.toNat 0)&&decide (b.getD p.toNat 0≤hi))
abbrev fZ:Io:=⟨[dL,dI,dU,dU],[],[],[dB],none⟩
def tq (d:fZ.In):Tr fZ.Res:=.ite (decide ((0:Int)≤d.1.2.1)) (.ret (.ret ((bg d.1.1 d.1.2.1 d.1.2.2.1 d.1.2.2.2.1,()),()))) .no
abbrev xi:List (Nat×Hc):=[]
def Ig:Hd:=bG xi
def xJ:Lp:=bM []
def rq (a0:LI)(a1 a2 a3:Int):Option fZ.Res:=bif decide (a1<(↑a0.length:Int)) then bif decide (0≤a1)&&decide (a1<(↑a0.length:Int)) then bif decide (a2≤a0.getD a1.toNat 0) then bif decide (0≤a1)&&decide (a1<(↑a0.length:Int)) then oR ((decide (a0.getD a1.toNat 0≤a3),()),()) else none else oR ((false,()),()) else none else oR ((false,()),())
theorem EC (a0:LI)(a1 a2 a3:Int):Io.run tt Ig dr xJ fZ Tryz.f186 ((a0,a1,a2,a3,()),())=rq a0 a1 a2 a3:=by kernel_rfl
theorem IA:HcOk prog 186 (ah fZ tq):=by
 refine bQ (cs:=xi) HcsOk.nil (lp:=xJ) (fn:=Tryz.f186) fZ (.done (by kernel_rfl)) tq ?_
 rintro ⟨⟨(b:LI),(p:Int),(lo:Int),(hi:Int),⟨⟩⟩,⟨⟩⟩ out hw ho
 obtain ⟨hg,ho⟩:=Tr.guard ho
 cases ho
 refine (EC b p lo hi).trans ?_
 have hg:(0:Int)≤p:=by simpa using hg
 unfold rq
 show _=oR ((bg b p lo hi,()),())
 unfold bg
 generalize b.getD p.toNat 0=c
 by_cases h1:p<(b.length:Int)
 ·by_cases h2:lo≤c
  ·simp[hg,h1,h2]
  ·simp[hg,h1,h2]
 ·simp[h1]
end
end Go.Proofs.YthpcdhgpplmneaaGreatDoor.Sym
namespace Go.Proofs.YthpcdhgpplmneaaGreatDoor.Sym
open Go
open Go.IntKind (i8 i16 i32 i64 u8 u16 u32 u64)
noncomputable section
def iO (c:Int):Int:=if c=240 then 144 else if c=224 then 160 else 128
def iM (c:Int):Int:=if c=244 then 143 else if c=237 then 159 else 191
def dn (b:LI)(p:Int):Int:=
 if p<0∨(b.length:Int)≤p then 0
 else if b.getD p.toNat 0<128 then 1
 else if b.getD p.toNat 0<194∨244<b.getD p.toNat 0∨bg b (p+1) (iO (b.getD p.toNat 0)) (iM (b.getD p.toNat 0))=false then 0
 else if b.getD p.toNat 0<224 then 2
 else if bg b (p+2) 128 191=false then 0
 else if b.getD p.toNat 0<240 then 3
 else if bg b (p+3) 128 191=false then 0
 else 4
abbrev jf:Io:=⟨[dL,dI],[],[],[dI],none⟩
def DL (d:jf.In):Tr jf.Res:=.ret (.ret ((dn d.1.1 d.1.2.1,()),()))
abbrev FN:List (Nat×Hc):=[(186,ah fZ tq)]
def NR:Hd:=bG FN
def GQ:Lp:=bM []
def wH (a0:LI)(a1:Int):Option jf.Res:=bif decide (a1<0) then oR ((0,()),()) else bif decide ((↑a0.length:Int)≤a1) then oR ((0,()),()) else bif decide (0≤a1)&&decide (a1<(↑a0.length:Int)) then bif decide (a0.getD a1.toNat 0<128) then oR ((1,()),()) else bif a0.getD a1.toNat 0 == 224 then bif a0.getD a1.toNat 0 == 237 then bif a0.getD a1.toNat 0 == 240 then bif a0.getD a1.toNat 0 == 244 then bif decide (a0.getD a1.toNat 0<194) then oR ((0,()),()) else bif decide (244<a0.getD a1.toNat 0) then oR ((0,()),()) else bif decide (0≤i64.wrap (a1+1)) then bif !bg a0 (i64.wrap (a1+1)) 144 143 then oR ((0,()),()) else bif decide (a0.getD a1.toNat 0<224) then oR ((2,()),()) else bif decide (0≤i64.wrap (a1+2)) then bif !bg a0 (i64.wrap (a1+2)) 128 191 then oR ((0,()),()) else bif decide (a0.getD a1.toNat 0<240) then oR ((3,()),()) else bif decide (0≤i64.wrap (a1+3)) then bif !bg a0 (i64.wrap (a1+3)) 128 191 then oR ((0,()),()) else oR ((4,()),()) else none else none else none else bif decide (a0.getD a1.toNat 0<194) then oR ((0,()),()) else bif decide (244<a0.getD a1.toNat 0) then oR ((0,()),()) else bif decide (0≤i64.wrap (a1+1)) then bif !bg a0 (i64.wrap (a1+1)) 144 159 then oR ((0,()),()) else bif decide (a0.getD a1.toNat 0<224) then oR ((2,()),()) else bif decide (0≤i64.wrap (a1+2)) then bif !bg a0 (i64.wrap (a1+2)) 128 191 then oR ((0,()),()) else bif decide (a0.getD a1.toNat 0<240) then oR ((3,()),()) else bif decide (0≤i64.wrap (a1+3)) then bif !bg a0 (i64.wrap (a1+3)) 128 191 then oR ((0,()),()) else oR ((4,()),()) else none else none else none else bif a0.getD a1.toNat 0 == 244 then bif decide (a0.getD a1.toNat 0<194) then oR ((0,()),()) else bif decide (244<a0.getD a1.toNat 0) then oR ((0,()),()) else bif decide (0≤i64.wrap (a1+1)) then bif !bg a0 (i64.wrap (a1+1)) 160 143 then oR ((0,()),()) else bif decide (a0.getD a1.toNat 0<224) then oR ((2,()),()) else bif decide (0≤i64.wrap (a1+2)) then bif !bg a0 (i64.wrap (a1+2)) 128 191 then oR ((0,()),()) else bif decide (a0.getD a1.toNat 0<240) then oR ((3,()),()) else bif decide (0≤i64.wrap (a1+3)) then bif !bg a0 (i64.wrap (a1+3)) 128 191 then oR ((0,()),()) else oR ((4,()),()) else none else none else none else bif decide (a0.getD a1.toNat 0<194) then oR ((0,()),()) else bif decide (244<a0.getD a1.toNat 0) then oR ((0,()),()) else bif decide (0≤i64.wrap (a1+1)) then bif !bg a0 (i64.wrap (a1+1)) 160 159 then oR ((0,()),()) else bif decide (a0.getD a1.toNat 0<224) then oR ((2,()),()) else bif decide (0≤i64.wrap (a1+2)) then bif !bg a0 (i64.wrap (a1+2)) 128 191 then oR ((0,()),()) else bif decide (a0.getD a1.toNat 0<240) then oR ((3,()),()) else bif decide (0≤i64.wrap (a1+3)) then bif !bg a0 (i64.wrap (a1+3)) 128 191 then oR ((0,()),()) else oR ((4,()),()) else none else none else none else bif a0.getD a1.toNat 0 == 240 then bif a0.getD a1.toNat 0 == 244 then bif decide (a0.getD a1.toNat 0<194) then oR ((0,()),()) else bif decide (244<a0.getD a1.toNat 0) then oR ((0,()),()) else bif decide (0≤i64.wrap (a1+1)) then bif !bg a0 (i64.wrap (a1+1)) 144 143 then oR ((0,()),()) else bif decide (a0.getD a1.toNat 0<224) then oR ((2,()),()) else bif decide (0≤i64.wrap (a1+2)) then bif !bg a0 (i64.wrap (a1+2)) 128 191 then oR ((0,()),()) else bif decide (a0.getD a1.toNat 0<240) then oR ((3,()),()) else bif decide (0≤i64.wrap (a1+3)) then bif !bg a0 (i64.wrap (a1+3)) 128 191 then oR ((0,()),()) else oR ((4,()),()) else none else none else none else bif decide (a0.getD a1.toNat 0<194) then oR ((0,()),()) else bif decide (244<a0.getD a1.toNat 0) then oR ((0,()),()) else bif decide (0≤i64.wrap (a1+1)) then bif !bg a0 (i64.wrap (a1+1)) 144 191 then oR ((0,()),()) else bif decide (a0.getD a1.toNat 0<224) then oR ((2,()),()) else bif decide (0≤i64.wrap (a1+2)) then bif !bg a0 (i64.wrap (a1+2)) 128 191 then oR ((0,()),()) else bif decide (a0.getD a1.toNat 0<240) then oR ((3,()),()) else bif decide (0≤i64.wrap (a1+3)) then bif !bg a0 (i64.wrap (a1+3)) 128 191 then oR ((0,()),()) else oR ((4,()),()) else none else none else none else bif a0.getD a1.toNat 0 == 244 then bif decide (a0.getD a1.toNat 0<194) then oR ((0,()),()) else bif decide (244<a0.getD a1.toNat 0) then oR ((0,()),()) else bif decide (0≤i64.wrap (a1+1)) then bif !bg a0 (i64.wrap (a1+1)) 160 143 then oR ((0,()),()) else bif decide (a0.getD a1.toNat 0<224) then oR ((2,()),()) else bif decide (0≤i64.wrap (a1+2)) then bif !bg a0 (i64.wrap (a1+2)) 128 191 then oR ((0,()),()) else bif decide (a0.getD a1.toNat 0<240) then oR ((3,()),()) else bif decide (0≤i64.wrap (a1+3)) then bif !bg a0 (i64.wrap (a1+3)) 128 191 then oR ((0,()),()) else oR ((4,()),()) else none else none else none else bif decide (a0.getD a1.toNat 0<194) then oR ((0,()),()) else bif decide (244<a0.getD a1.toNat 0) then oR ((0,()),()) else bif decide (0≤i64.wrap (a1+1)) then bif !bg a0 (i64.wrap (a1+1)) 160 191 then oR ((0,()),()) else bif decide (a0.getD a1.toNat 0<224) then oR ((2,()),()) else bif decide (0≤i64.wrap (a1+2)) then bif !bg a0 (i64.wrap (a1+2)) 128 191 then oR ((0,()),()) else bif decide (a0.getD a1.toNat 0<240) then oR ((3,()),()) else bif decide (0≤i64.wrap (a1+3)) then bif !bg a0 (i64.wrap (a1+3)) 128 191 then oR ((0,()),()) else oR ((4,()),()) else none else none else none else bif a0.getD a1.toNat 0 == 237 then bif a0.getD a1.toNat 0 == 240 then bif a0.getD a1.toNat 0 == 244 then bif decide (a0.getD a1.toNat 0<194) then oR ((0,()),()) else bif decide (244<a0.getD a1.toNat 0) then oR ((0,()),()) else bif decide (0≤i64.wrap (a1+1)) then bif !bg a0 (i64.wrap (a1+1)) 144 143 then oR ((0,()),()) else bif decide (a0.getD a1.toNat 0<224) then oR ((2,()),()) else bif decide (0≤i64.wrap (a1+2)) then bif !bg a0 (i64.wrap (a1+2)) 128 191 then oR ((0,()),()) else bif decide (a0.getD a1.toNat 0<240) then oR ((3,()),()) else bif decide (0≤i64.wrap (a1+3)) then bif !bg a0 (i64.wrap (a1+3)) 128 191 then oR ((0,()),()) else oR ((4,()),()) else none else none else none else bif decide (a0.getD a1.toNat 0<194) then oR ((0,()),()) else bif decide (244<a0.getD a1.toNat 0) then oR ((0,()),()) else bif decide (0≤i64.wrap (a1+1)) then bif !bg a0 (i64.wrap (a1+1)) 144 159 then oR ((0,()),()) else bif decide (a0.getD a1.toNat 0<224) then oR ((2,()),()) else bif decide (0≤i64.wrap (a1+2)) then bif !bg a0 (i64.wrap (a1+2)) 128 191 then oR ((0,()),()) else bif decide (a0.getD a1.toNat 0<240) then oR ((3,()),()) else bif decide (0≤i64.wrap (a1+3)) then bif !bg a0 (i64.wrap (a1+3)) 128 191 then oR ((0,()),()) else oR ((4,()),()) else none else none else none else bif a0.getD a1.toNat 0 == 244 then bif decide (a0.getD a1.toNat 0<194) then oR ((0,()),()) else bif decide (244<a0.getD a1.toNat 0) then oR ((0,()),()) else bif decide (0≤i64.wrap (a1+1)) then bif !bg a0 (i64.wrap (a1+1)) 128 143 then oR ((0,()),()) else bif decide (a0.getD a1.toNat 0<224) then oR ((2,()),()) else bif decide (0≤i64.wrap (a1+2)) then bif !bg a0 (i64.wrap (a1+2)) 128 191 then oR ((0,()),()) else bif decide (a0.getD a1.toNat 0<240) then oR ((3,()),()) else bif decide (0≤i64.wrap (a1+3)) then bif !bg a0 (i64.wrap (a1+3)) 128 191 then oR ((0,()),()) else oR ((4,()),()) else none else none else none else bif decide (a0.getD a1.toNat 0<194) then oR ((0,()),()) else bif decide (244<a0.getD a1.toNat 0) then oR ((0,()),()) else bif decide (0≤i64.wrap (a1+1)) then bif !bg a0 (i64.wrap (a1+1)) 128 159 then oR ((0,()),()) else bif decide (a0.getD a1.toNat 0<224) then oR ((2,()),()) else bif decide (0≤i64.wrap (a1+2)) then bif !bg a0 (i64.wrap (a1+2)) 128 191 then oR ((0,()),()) else bif decide (a0.getD a1.toNat 0<240) then oR ((3,()),()) else bif decide (0≤i64.wrap (a1+3)) then bif !bg a0 (i64.wrap (a1+3)) 128 191 then oR ((0,()),()) else oR ((4,()),()) else none else none else none else bif a0.getD a1.toNat 0 == 240 then bif a0.getD a1.toNat 0 == 244 then bif decide (a0.getD a1.toNat 0<194) then oR ((0,()),()) else bif decide (244<a0.getD a1.toNat 0) then oR ((0,()),()) else bif decide (0≤i64.wrap (a1+1)) then bif !bg a0 (i64.wrap (a1+1)) 144 143 then oR ((0,()),()) else bif decide (a0.getD a1.toNat 0<224) then oR ((2,()),()) else bif decide (0≤i64.wrap (a1+2)) then bif !bg a0 (i64.wrap (a1+2)) 128 191 then oR ((0,()),()) else bif decide (a0.getD a1.toNat 0<240) then oR ((3,()),()) else bif decide (0≤i64.wrap (a1+3)) then bif !bg a0 (i64.wrap (a1+3)) 128 191 then oR ((0,()),()) else oR ((4,()),()) else none else none else none else bif decide (a0.getD a1.toNat 0<194) then oR ((0,()),()) else bif decide (244<a0.getD a1.toNat 0) then oR ((0,()),()) else bif decide (0≤i64.wrap (a1+1)) then bif !bg a0 (i64.wrap (a1+1)) 144 191 then oR ((0,()),()) else bif decide (a0.getD a1.toNat 0<224) then oR ((2,()),()) else bif decide (0≤i64.wrap (a1+2)) then bif !bg a0 (i64.wrap (a1+2)) 128 191 then oR ((0,()),()) else bif decide (a0.getD a1.toNat 0<240) then oR ((3,()),()) else bif decide (0≤i64.wrap (a1+3)) then bif !bg a0 (i64.wrap (a1+3)) 128 191 then oR ((0,()),()) else oR ((4,()),()) else none else none else none else bif a0.getD a1.toNat 0 == 244 then bif decide (a0.getD a1.toNat 0<194) then oR ((0,()),()) else bif decide (244<a0.getD a1.toNat 0) then oR ((0,()),()) else bif decide (0≤i64.wrap (a1+1)) then bif !bg a0 (i64.wrap (a1+1)) 128 143 then oR ((0,()),()) else bif decide (a0.getD a1.toNat 0<224) then oR ((2,()),()) else bif decide (0≤i64.wrap (a1+2)) then bif !bg a0 (i64.wrap (a1+2)) 128 191 then oR ((0,()),()) else bif decide (a0.getD a1.toNat 0<240) then oR ((3,()),()) else bif decide (0≤i64.wrap (a1+3)) then bif !bg a0 (i64.wrap (a1+3)) 128 191 then oR ((0,()),()) else oR ((4,()),()) else none else none else none else bif decide (a0.getD a1.toNat 0<194) then oR ((0,()),()) else bif decide (244<a0.getD a1.toNat 0) then oR ((0,()),()) else bif decide (0≤i64.wrap (a1+1)) then bif !bg a0 (i64.wrap (a1+1)) 128 191 then oR ((0,()),()) else bif decide (a0.getD a1.toNat 0<224) then oR ((2,()),()) else bif decide (0≤i64.wrap (a1+2)) then bif !bg a0 (i64.wrap (a1+2)) 128 191 then oR ((0,()),()) else bif decide (a0.getD a1.toNat 0<240) then oR ((3,()),()) else bif decide (0≤i64.wrap (a1+3)) then bif !bg a0 (i64.wrap (a1+3)) 128 191 then oR ((0,()),()) else oR ((4,()),()) else none else none else none else none
theorem Mr (a0:LI)(a1:Int):Io.run tt NR dr GQ jf Tryz.f183 ((a0,a1,()),())=wH a0 a1:=by kernel_rfl
theorem pR {b:LI}{p lo hi:Int}(h:bg b p lo hi=true):p<(b.length:Int):=by
 simp only[bg,zA,zB] at h
 exact h.1
def D3 (b:LI)(p c lo hi:Int):Option jf.Res:=
 bif decide (c<194) then oR ((0,()),()) else bif decide (244<c) then oR ((0,()),()) else bif decide (0≤p+1) then bif !bg b (p+1) lo hi then oR ((0,()),())
  else bif decide (c<224) then oR ((2,()),()) else bif decide (0≤i64.wrap (p+2)) then bif !bg b (i64.wrap (p+2)) 128 191 then oR ((0,()),())
  else bif decide (c<240) then oR ((3,()),()) else bif decide (0≤i64.wrap (p+3)) then bif !bg b (i64.wrap (p+3)) 128 191 then oR ((0,()),()) else oR ((4,()),()) else none else none else none
theorem H5 {b:LI}{p c lo hi:Int}(hp:0≤p)(hb:(b.length:Int)≤9223372036854775807):D3 b p c lo hi=oR ((if c<194∨244<c∨bg b (p+1) lo hi=false then 0 else if c<224 then 2 else if bg b (p+2) 128 191=false then 0 else if c<240 then 3 else if bg b (p+3) 128 191=false then 0 else 4,()),()):=by
 unfold D3
 by_cases d2:c<194
 ·simp[d2]
 by_cases d3:244<c
 ·simp[d2,d3]
 rw[af (by simpa using d2),af (by simpa using d3),aa (by simp;omega)]
 cases a1:bg b (p+1) lo hi with
 |false=>simp
 |true=>
  have h1:=pR a1
  have e2:i64.wrap (p+2)=p+2:=by rw[ae] <;> omega
  rw[e2]
  by_cases d4:c<224
  ·simp[d2,d3,d4]
  rw[af (by rfl),af (by simpa using d4),aa (by simp;omega)]
  cases a2:bg b (p+2) 128 191 with
  |false=>simp[d2,d3,d4]
  |true=>
   have h2:=pR a2
   have e3:i64.wrap (p+3)=p+3:=by rw[ae] <;> omega
   rw[e3]
   by_cases d5:c<240
   ·simp[d2,d3,d4,d5]
   rw[af (by rfl),af (by simpa using d5),aa (by simp;omega)]
   cases a3:bg b (p+3) 128 191 <;> simp[d2,d3,d4,d5]
theorem OB:HcOk prog 183 (ah jf DL):=by
 refine bQ (cs:=FN) (.cons IA .nil) (lp:=GQ) (fn:=Tryz.f183) jf (.done (by kernel_rfl)) DL ?_
 rintro ⟨⟨(b:LI),(p:Int),⟨⟩⟩,⟨⟩⟩ out hw ho
 cases ho
 refine (Mr b p).trans ?_
 have hb:b.length≤maxLen:=hw.1.1.1
 rw[ba] at hb
 unfold wH
 show _=oR ((dn b p,()),())
 unfold dn
 by_cases h1:p<0
 ·simp[h1]
 by_cases h2:(b.length:Int)≤p
 ·simp[h1,h2]
 have e1:i64.wrap (p+1)=p+1:=by rw[ae] <;> omega
 rw[e1]
 have h3:0≤p:=by omega
 have h4:p<(b.length:Int):=by omega
 have h5:(0:Int)≤p+1:=by omega
 have h6:(0:Int)≤p+2:=by omega
 have h7:(0:Int)≤p+3:=by omega
 generalize b.getD p.toNat 0=c
 rw[af (by simpa using h1),af (by simpa using h2),aa (by simp;omega),if_neg (by omega)]
 by_cases d1:c<128
 ·rw[aa (by simpa using d1),if_pos d1]
 rw[af (by simpa using d1),if_neg d1]
 have tail:∀lo hi,iO c=lo→iM c=hi→D3 b p c lo hi=oR ((if c<194∨244<c∨bg b (p+1) (iO c) (iM c)=false then 0 else if c<224 then 2 else if bg b (p+2) 128 191=false then 0 else if c<240 then 3 else if bg b (p+3) 128 191=false then 0 else 4,()),()):=by
  intro lo hi e1 e2
  rw[e1,e2]
  exact H5 h3 (by omega)
 have no:∀x:Int,c≠x→(c == x)=false:=fun x h=>by simpa using h
 have ye:∀x:Int,c=x→(c == x)=true:=fun x h=>by simpa using h
 by_cases c1:c=224
 ·rw[aa (ye _ c1),af (no 237 (by omega)),af (no 240 (by omega)),af (no 244 (by omega))]
  exact tail 160 191 (by simp[iO,c1]) (by simp[iM,c1])
 rw[af (no _ c1)]
 by_cases c2:c=237
 ·rw[aa (ye _ c2),af (no 240 (by omega)),af (no 244 (by omega))]
  exact tail 128 159 (by simp[iO,c2]) (by simp[iM,c2])
 rw[af (no _ c2)]
 by_cases c3:c=240
 ·rw[aa (ye _ c3),af (no 244 (by omega))]
  exact tail 144 191 (by simp[iO,c3]) (by simp[iM,c3])
 rw[af (no _ c3)]
 by_cases c4:c=244
 ·rw[aa (ye _ c4)]
  exact tail 128 143 (by simp[iO,c4]) (by simp[iM,c4])
 rw[af (no _ c4)]
 exact tail 128 191 (by simp[iO,c1,c3]) (by simp[iM,c2,c4])
def cl (b:LI):Nat→Int→Int×Bool
 |0,p=>(p,true)
 |n+1,p=>if (b.length:Int)≤p then (p,true) else if dn b p=0 then (p,false) else cl b n (p+dn b p)
def cv (b:LI):Int×Bool:=cl b (b.length+1) 0
theorem q7 {b:LI}{p:Int}(h0:0≤p)(h:p<(b.length:Int)):0≤dn b p∧p+dn b p≤b.length:=by
 unfold dn
 rw[if_neg (by omega)]
 split
 ·omega
 split
 ·omega
 rename_i h1
 have a1:bg b (p+1) (iO (b.getD p.toNat 0)) (iM (b.getD p.toNat 0))=true:=by
  cases hx:bg b (p+1) (iO (b.getD p.toNat 0)) (iM (b.getD p.toNat 0)) with
  |true=>rfl
  |false=>exact absurd (.inr (.inr hx)) h1
 have h2:=pR a1
 split
 ·omega
 split
 ·omega
 rename_i h3
 have h4:=pR (show bg b (p+2) 128 191=true by simpa using h3)
 split
 ·omega
 split
 ·omega
 rename_i h5
 have h6:=pR (show bg b (p+3) 128 191=true by simpa using h5)
 omega
abbrev lV:Io:=⟨[dL],[],[],[dI,dB],none⟩
def Fj (d:lV.In):Tr lV.Res:=.ret (.ret (((cv d.1.1).1,(cv d.1.1).2,()),()))
abbrev Kh:List (Nat×Hc):=[(183,ah jf DL)]
def KW:Hd:=bG Kh
abbrev fA:Lo:=⟨⟨(.one (.hol (.sl 5 (Ty.int u8)))::.any::bk (.one hI::.any::dm (bz (bk [])))),[]⟩,[(.ret,⟨(bk (.one hI::.one hL::ai [])),[]⟩),(.exit 0,⟨(bz (.one hI::.any::dm (bz (bk [])))),[]⟩)]⟩
def oQ (d:fA.st.den):Tr (ap fA.xs):=
 .ite (decide (d.1.2.1=(0:Int))) (.ite (cv d.1.1).2 (.ret (.pan (.ret ((),(((cv d.1.1).1,()),()))))) (.ret (.ret ((),(((cv d.1.1).1,(false,())),()))))) .no
def Ac:Lp:=bM [(3,aD fA oQ)]
def vB {R:Type}(h1:LI)(h2:Int)(next:LI→Int→Option R)(out:ap fA.xs→Option R):Option R:=bif decide (h2<(↑h1.length:Int)) then bif dn h1 h2 == 0 then out (.ret ((),((h2,(false,())),()))) else next (h1) (i64.wrap (h2+dn h1 h2)) else out (.pan (.ret ((),((h2,()),()))))
def uD (n:Nat)(h1:LI)(h2:Int):Option (ap fA.xs):=fJ tt KW dr Ac 0 Tryz.f174 (bP Tryz.f174 0) n (fA.st.mk' ((h1,(h2,())),())) (bt fA.xs)
theorem MW (n:Nat)(h1:LI)(h2:Int):uD (n+1) h1 h2=vB h1 h2 (uD n) some:=by kernel_rfl
theorem Lb (b:LI)(hb:(b.length:Int)≤9223372036854775807):∀(k:Nat) (p:Int),0≤p→p≤b.length→(b.length:Int)<p+k→
  uD k b p=if (cl b k p).2=true then some (.pan (.ret ((),(((cl b k p).1,()),())))) else some (.ret ((),(((cl b k p).1,(false,())),()))):=by
 intro k
 induction k with
 |zero=>intro p h0 h1 h2;omega
 |succ k ih=>
  intro p h0 h1 h2
  rw[MW]
  unfold vB
  by_cases h3:(b.length:Int)≤p
  ·have h4:¬ p<(b.length:Int):=by omega
   have hS:cl b (k+1) p=(p,true):=by simp[cl,h3]
   simp[hS,h4]
  ·have h4:p<(b.length:Int):=by omega
   obtain ⟨h5,h6⟩:=q7 h0 h4
   rw[aa (by simpa using h4)]
   by_cases h7:dn b p=0
   ·have hS:cl b (k+1) p=(p,false):=by simp[cl,h3,h7]
    simp[hS,h7]
   ·have hS:cl b (k+1) p=cl b k (p+dn b p):=by simp[cl,h3,h7]
    simp only[hS]
    rw[af (by simpa using h7),ae (by omega) (by omega),ih _ (by omega) h6 (by omega)]
def Bg (a0:LI):Option lV.Res:=(oQ ((a0,(0,())),())).run fun y=>match y with | .ret ((),((x8,x9,()),()))=>(oR ((x8,x9,()),())) | .pan (.ret ((),((x10,()),())))=>(oR ((x10,true,()),()))
theorem O4 (a0:LI):Io.run tt KW dr Ac lV Tryz.f174 ((a0,()),())=Bg a0:=by kernel_rfl
theorem B3:HcsOk prog Kh:=.cons OB .nil
theorem LU:HcOk prog 174 (ah lV Fj):=by
 refine bQ B3 (lp:=Ac) (fn:=Tryz.f174) lV
  (.step (h0:=aD fA oQ) (by kernel_rfl) (f9 B3 (lp:=Ac) (fn:=Tryz.f174) (.done (by kernel_rfl)) fA oQ ?_) (.done (by kernel_rfl))) Fj ?_
 ·rintro ⟨⟨(b:LI),(p:Int),⟨⟩⟩,⟨⟩⟩ y hw hy
  obtain ⟨hg,hy⟩:=Tr.guard hy
  have hg:p=0:=by simpa using hg
  subst hg
  have hb:b.length≤maxLen:=hw.1.1.1
  rw[ba] at hb
  refine ⟨b.length+1,(Lb b (by omega) (b.length+1) 0 (by omega) (by omega) (by omega)).trans ?_⟩
  rw[← hy]
  simp only[Tr.val_ite,Tr.val_ret]
  rfl
 ·rintro ⟨⟨(b:LI),⟨⟩⟩,⟨⟩⟩ out hw ho
  cases ho
  refine (O4 b).trans ?_
  unfold Bg oQ
  show _=oR (((cv b).1,(cv b).2,()),())
  simp only[Tr.run_ite,Tr.run_ret]
  generalize cv b=r
  obtain ⟨r1,r2⟩:=r
  cases r2 <;> simp
abbrev dS:Sh:=.dat .str false false
def lh (s p:LI):Bool:=decide (s.take p.length=p)
theorem xP {s:LI}(hs:byteR s)(k:Nat):((aF s).get! k).toNat=(s.getD k 0).toNat:=by
 by_cases h:k<s.length
 ·have h1:(aF s).get! k=UInt8.ofNat (s[k]).toNat:=by
   have:k<(aF s).data.size:=by simp[aF,h]
   have e:(aF s).get! k=(aF s).data[k]:=getElem!_pos (aF s).data k this
   rw[e]
   simp[aF]
  rw[h1,aA h]
  have:=hs s[k] (List.getElem_mem h)
  rw[UInt8.toNat_ofNat',Nat.mod_eq_of_lt (by omega)]
 ·have h1:(aF s).get! k=0:=by
   have:¬ k<(aF s).data.size:=by simp[aF];omega
   have e:(aF s).get! k=default:=getElem!_neg (aF s).data k this
   rw[e]
   rfl
  rw[h1,List.getD_eq_getElem?_getD,List.getElem?_eq_none (by omega)]
  rfl
def H4 (r1 r2 r3:Prop)[Decidable r1][Decidable r2][Decidable r3](x0 x1 x2 x3:Nat):Nat:=
 if x0<128 then 1
 else if x0<194∨244<x0∨¬(r1∧(if x0=240 then 144 else if x0=224 then 160 else 128)≤x1∧x1≤(if x0=244 then 143 else if x0=237 then 159 else 191)) then 0
 else if x0<224 then 2
 else if ¬(r2∧128≤x2∧x2≤191) then 0
 else if x0<240 then 3
 else if ¬(r3∧128≤x3∧x3≤191) then 0 else 4
theorem MY {b:LI}(hs:byteR b){n:Nat}(h:n<b.length):dn b n=(H4 (n+1<b.length) (n+2<b.length) (n+3<b.length) (b.getD n 0).toNat (b.getD (n+1) 0).toNat (b.getD (n+2) 0).toNat (b.getD (n+3) 0).toNat:Int):=by
 have hr:∀k,0≤b.getD k 0∧b.getD k 0<256:=fun k=>by
  by_cases hk:k<b.length
  ·rw[aA hk];exact hs _ (List.getElem_mem hk)
  ·rw[List.getD_eq_getElem?_getD,List.getElem?_eq_none (by omega)];simp
 unfold dn H4 bg iO iM
 have e1:((n:Int)+1).toNat=n+1:=by omega
 have e2:((n:Int)+2).toNat=n+2:=by omega
 have e3:((n:Int)+3).toNat=n+3:=by omega
 rw[e1,e2,e3,zG]
 have h0:=hr n
 have h1:=hr (n+1)
 have h2:=hr (n+2)
 have h3:=hr (n+3)
 generalize b.getD n 0=y0 at *
 generalize b.getD (n+1) 0=y1 at *
 generalize b.getD (n+2) 0=y2 at *
 generalize b.getD (n+3) 0=y3 at *
 obtain ⟨x0,rfl⟩:=au h0.1
 obtain ⟨x1,rfl⟩:=au h1.1
 obtain ⟨x2,rfl⟩:=au h2.1
 obtain ⟨x3,rfl⟩:=au h3.1
 generalize b.length=L at *
 rw[if_neg (by omega)]
 simp only[Bool.and_eq_false_iff,decide_eq_false_iff_not,zG]
 by_cases a0:x0<128
 ·rw[if_pos (by omega),if_pos a0];rfl
 rw[if_neg (by omega),if_neg a0]
 have hi:(if (x0:Int)=240 then (144:Int) else if (x0:Int)=224 then 160 else 128)=((if x0=240 then 144 else if x0=224 then 160 else 128:Nat):Int):=by
  repeat' split
  all_goals omega
 have hj:(if (x0:Int)=244 then (143:Int) else if (x0:Int)=237 then 159 else 191)=((if x0=244 then 143 else if x0=237 then 159 else 191:Nat):Int):=by
  repeat' split
  all_goals omega
 rw[hi,hj]
 generalize (if x0=240 then 144 else if x0=224 then 160 else 128:Nat)=lo
 generalize (if x0=244 then 143 else if x0=237 then 159 else 191:Nat)=hi
 by_cases a1:x0<194∨244<x0∨¬(n+1<L∧lo≤x1∧x1≤hi)
 ·rw[if_pos a1,if_pos (by omega)];rfl
 rw[if_neg a1,if_neg (by omega)]
 by_cases a2:x0<224
 ·rw[if_pos a2,if_pos (by omega)];rfl
 rw[if_neg a2,if_neg (by omega)]
 by_cases a3:¬(n+2<L∧128≤x2∧x2≤191)
 ·rw[if_pos a3,if_pos (by omega)];rfl
 rw[if_neg a3,if_neg (by omega)]
 by_cases a4:x0<240
 ·rw[if_pos a4,if_pos (by omega)];rfl
 rw[if_neg a4,if_neg (by omega)]
 by_cases a5:¬(n+3<L∧128≤x3∧x3≤191)
 ·rw[if_pos a5,if_pos (by omega)];rfl
 rw[if_neg a5,if_neg (by omega)];rfl
def HG (r1 r2 r3:Prop)[Decidable r1][Decidable r2][Decidable r3](x0 x1 x2 x3:Nat):Nat×Nat:=
 if x0<128 then (x0,1)
 else if x0 / 32=6∧(r1∧x1 / 64=2) then (if 128≤(x0 % 32)*64+x1 % 64 then ((x0 % 32)*64+x1 % 64,2) else (65533,1))
 else if (x0 / 16=14∧(r1∧x1 / 64=2))∧(r2∧x2 / 64=2) then
  (if 2048≤(x0 % 16)*4096+(x1 % 64)*64+x2 % 64∧((x0 % 16)*4096+(x1 % 64)*64+x2 % 64<55296∨57344≤(x0 % 16)*4096+(x1 % 64)*64+x2 % 64) then ((x0 % 16)*4096+(x1 % 64)*64+x2 % 64,3) else (65533,1))
 else if ((x0 / 8=30∧(r1∧x1 / 64=2))∧(r2∧x2 / 64=2))∧(r3∧x3 / 64=2) then
  (if 65536≤(x0 % 8)*262144+(x1 % 64)*4096+(x2 % 64)*64+x3 % 64∧(x0 % 8)*262144+(x1 % 64)*4096+(x2 % 64)*64+x3 % 64≤1114111 then ((x0 % 8)*262144+(x1 % 64)*4096+(x2 % 64)*64+x3 % 64,4) else (65533,1))
 else (65533,1)
theorem Nl {c:Nat}(h:c<65536):Utf8.valid (c:Int)=true↔(c<55296∨57344≤c):=by
 simp only[Utf8.valid,Bool.or_eq_true,zA,zB];omega
theorem Nm {c:Nat}(h:65536≤c):Utf8.valid (c:Int)=true↔c≤1114111:=by
 simp only[Utf8.valid,Bool.or_eq_true,zA,zB];omega
theorem Kw {b:LI}(hs:byteR b)(n:Nat):Utf8.decode (aF b) n=HG (n+1<b.length) (n+2<b.length) (n+3<b.length) (b.getD n 0).toNat (b.getD (n+1) 0).toNat (b.getD (n+2) 0).toNat (b.getD (n+3) 0).toNat:=by
 unfold Utf8.decode HG Utf8.runeError
 simp only[xP hs,b8,Nat.add_zero]
 generalize (b.getD n 0).toNat=x0
 generalize (b.getD (n+1) 0).toNat=x1
 generalize (b.getD (n+2) 0).toNat=x2
 generalize (b.getD (n+3) 0).toNat=x3
 simp only[zA,zB,beq_iff_eq,ge_iff_le]
 congr 1
 congr 1
 congr 1
 ·congr 1
  apply propext
  constructor
  ·rintro ⟨h1,h2⟩;exact ⟨h1,(Nl (by omega)).1 h2⟩
  ·rintro ⟨h1,h2⟩;exact ⟨h1,(Nl (by omega)).2 h2⟩
 ·congr 1
  congr 1
  apply propext
  constructor
  ·rintro ⟨h1,h2⟩;exact ⟨h1,(Nm h1).1 h2⟩
  ·rintro ⟨h1,h2⟩;exact ⟨h1,(Nm h1).2 h2⟩
theorem RJ {x0 x1:Nat}(h0:x0<256)(h1:x1<256):(x0 / 32=6∧x1 / 64=2)∧128≤(x0 % 32)*64+x1 % 64↔194≤x0∧x0<224∧128≤x1∧x1≤191:=by omega
theorem RK {x0 x1 x2:Nat}(h0:x0<256)(h1:x1<256)(h2:x2<256):((x0 / 16=14∧x1 / 64=2)∧x2 / 64=2)∧(2048≤(x0 % 16)*4096+(x1 % 64)*64+x2 % 64∧((x0 % 16)*4096+(x1 % 64)*64+x2 % 64<55296∨57344≤(x0 % 16)*4096+(x1 % 64)*64+x2 % 64)) ↔
  224≤x0∧x0<240∧((if x0=224 then 160 else 128)≤x1∧x1≤(if x0=237 then 159 else 191))∧128≤x2∧x2≤191:=by
 constructor
 ·rintro ⟨⟨⟨h3,h4⟩,h5⟩,h6⟩
  refine ⟨by omega,by omega,⟨?_,?_⟩,by omega,by omega⟩
  ·split <;> omega
  ·split <;> omega
 ·rintro ⟨h3,h4,⟨h5,h6⟩,h7,h8⟩
  split at h5 <;> split at h6 <;> omega
theorem RL {x0 x1 x2 x3:Nat}(h0:x0<256)(h1:x1<256)(h2:x2<256)(h3:x3<256):(((x0 / 8=30∧x1 / 64=2)∧x2 / 64=2)∧x3 / 64=2)∧(65536≤(x0 % 8)*262144+(x1 % 64)*4096+(x2 % 64)*64+x3 % 64∧(x0 % 8)*262144+(x1 % 64)*4096+(x2 % 64)*64+x3 % 64≤1114111) ↔
  240≤x0∧x0≤244∧((if x0=240 then 144 else 128)≤x1∧x1≤(if x0=244 then 143 else 191))∧(128≤x2∧x2≤191)∧(128≤x3∧x3≤191):=by
 constructor
 ·rintro ⟨⟨⟨⟨h3,h4⟩,h5⟩,h6⟩,h7⟩
  refine ⟨by omega,by omega,⟨?_,?_⟩,⟨by omega,by omega⟩,by omega,by omega⟩
  ·split <;> omega
  ·split <;> omega
 ·rintro ⟨h3,h4,⟨h5,h6⟩,⟨h7,h8⟩,h9,h10⟩
  split at h5 <;> split at h6 <;> omega
theorem QS (r1 r2 r3:Prop)[Decidable r1][Decidable r2][Decidable r3](x0 x1 x2 x3:Nat)(h0:x0<256)(h1:x1<256)(h2:x2<256)(h3:x3<256):
  (H4 r1 r2 r3 x0 x1 x2 x3=0∧HG r1 r2 r3 x0 x1 x2 x3=(65533,1)∧¬(r1∧r2∧x0=239∧x1=191∧x2=189)) ∨
  (0<H4 r1 r2 r3 x0 x1 x2 x3∧(HG r1 r2 r3 x0 x1 x2 x3).2=H4 r1 r2 r3 x0 x1 x2 x3∧((HG r1 r2 r3 x0 x1 x2 x3).1=65533→(r1∧r2∧x0=239∧x1=191∧x2=189))):=by
 by_cases a0:x0<128
 ·right
  unfold H4 HG
  rw[if_pos a0,if_pos a0]
  exact ⟨by omega,rfl,fun h=>by simp only at h;omega⟩
 by_cases c2:r1∧194≤x0∧x0<224∧128≤x1∧x1≤191
 ·right
  obtain ⟨⟨g1,g2⟩,g3⟩:=(RJ h0 h1).2 c2.2
  have e1:H4 r1 r2 r3 x0 x1 x2 x3=2:=by
   unfold H4
   rw[if_neg a0,if_neg,if_pos (by omega)]
   rintro (h | h | h)
   ·omega
   ·omega
   ·refine h ⟨c2.1,?_,?_⟩
    ·rw[if_neg (by omega),if_neg (by omega)];omega
    ·rw[if_neg (by omega),if_neg (by omega)];omega
  have e2:HG r1 r2 r3 x0 x1 x2 x3=((x0 % 32)*64+x1 % 64,2):=by
   unfold HG
   rw[if_neg a0,if_pos ⟨g1,c2.1,g2⟩,if_pos g3]
  rw[e1,e2]
  exact ⟨by omega,rfl,fun h=>by simp only at h;omega⟩
 by_cases c3:r1∧r2∧(224≤x0∧x0<240∧((if x0=224 then 160 else 128)≤x1∧x1≤(if x0=237 then 159 else 191))∧128≤x2∧x2≤191)
 ·right
  obtain ⟨k1,k2,k⟩:=c3
  obtain ⟨⟨⟨g1,g2⟩,g3⟩,g4⟩:=(RK h0 h1 h2).2 k
  have e1:H4 r1 r2 r3 x0 x1 x2 x3=3:=by
   unfold H4
   rw[if_neg a0,if_neg,if_neg (by omega),if_neg (fun h=>h ⟨k2,k.2.2.2⟩),if_pos (by omega)]
   rintro (h | h | h)
   ·omega
   ·omega
   ·refine h ⟨k1,?_,?_⟩
    ·rw[if_neg (by omega)];exact k.2.2.1.1
    ·rw[if_neg (by omega)];exact k.2.2.1.2
  have e2:HG r1 r2 r3 x0 x1 x2 x3=((x0 % 16)*4096+(x1 % 64)*64+x2 % 64,3):=by
   unfold HG
   rw[if_neg a0,if_neg (by omega),if_pos ⟨⟨g1,k1,g2⟩,k2,g3⟩,if_pos g4]
  rw[e1,e2]
  refine ⟨by omega,rfl,fun h=>?_⟩
  simp only at h
  exact ⟨k1,k2,by omega⟩
 by_cases c4:r1∧r2∧r3∧(240≤x0∧x0≤244∧((if x0=240 then 144 else 128)≤x1∧x1≤(if x0=244 then 143 else 191))∧(128≤x2∧x2≤191)∧(128≤x3∧x3≤191))
 ·right
  obtain ⟨k1,k2,k3,k⟩:=c4
  obtain ⟨⟨⟨⟨g1,g2⟩,g3⟩,g4⟩,g5⟩:=(RL h0 h1 h2 h3).2 k
  have e1:H4 r1 r2 r3 x0 x1 x2 x3=4:=by
   unfold H4
   rw[if_neg a0,if_neg,if_neg (by omega),if_neg (fun h=>h ⟨k2,k.2.2.2.1⟩),if_neg (by omega),if_neg (fun h=>h ⟨k3,k.2.2.2.2⟩)]
   rintro (h | h | h)
   ·omega
   ·omega
   ·refine h ⟨k1,?_,?_⟩
    ·have:=k.2.2.1.1
     split at this
     ·rename_i e;rw[if_pos e];exact this
     ·rename_i e;rw[if_neg e,if_neg (by omega)];exact this
    ·have:=k.2.2.1.2
     split at this
     ·rename_i e;rw[if_pos e];exact this
     ·rename_i e;rw[if_neg e,if_neg (by omega)];exact this
  have e2:HG r1 r2 r3 x0 x1 x2 x3=((x0 % 8)*262144+(x1 % 64)*4096+(x2 % 64)*64+x3 % 64,4):=by
   unfold HG
   rw[if_neg a0,if_neg (by omega),if_neg (by omega),if_pos ⟨⟨⟨g1,k1,g2⟩,k2,g3⟩,k3,g4⟩,if_pos g5]
  rw[e1,e2]
  exact ⟨by omega,rfl,fun h=>by simp only at h;omega⟩
 ·left
  have e2:HG r1 r2 r3 x0 x1 x2 x3=(65533,1):=by
   unfold HG
   rw[if_neg a0]
   split
   ·rename_i g
    rw[if_neg fun g'=>c2 ⟨g.2.1,(RJ h0 h1).1 ⟨⟨g.1,g.2.2⟩,g'⟩⟩]
   split
   ·rename_i g
    rw[if_neg fun g'=>c3 ⟨g.1.2.1,g.2.1,(RK h0 h1 h2).1 ⟨⟨⟨g.1.1,g.1.2.2⟩,g.2.2⟩,g'⟩⟩]
   split
   ·rename_i g
    rw[if_neg fun g'=>c4 ⟨g.1.1.2.1,g.1.2.1,g.2.1,(RL h0 h1 h2 h3).1 ⟨⟨⟨⟨g.1.1.1,g.1.1.2.2⟩,g.1.2.2⟩,g.2.2⟩,g'⟩⟩]
   rfl
  have e3:¬(r1∧r2∧x0=239∧x1=191∧x2=189):=by
   rintro ⟨k1,k2,rfl,rfl,rfl⟩
   exact c3 ⟨k1,k2,by simp⟩
  refine ⟨?_,e2,e3⟩
  unfold H4
  rw[if_neg a0]
  generalize hlo:(if x0=240 then 144 else if x0=224 then 160 else 128:Nat)=lo
  generalize hhi:(if x0=244 then 143 else if x0=237 then 159 else 191:Nat)=hi
  by_cases g:x0<194∨244<x0∨¬(r1∧lo≤x1∧x1≤hi)
  ·rw[if_pos g]
  rw[if_neg g]
  simp only[not_or,Decidable.not_not] at g
  obtain ⟨g1,g2,g3,g4,g5⟩:=g
  by_cases g6:x0<224
  ·rw[if_neg (by omega),if_neg (by omega)] at hlo hhi
   exact absurd ⟨g3,by omega,by omega,by omega,by omega⟩ c2
  rw[if_neg g6]
  by_cases g7:¬(r2∧128≤x2∧x2≤191)
  ·rw[if_pos g7]
  rw[if_neg g7]
  simp only[Decidable.not_not] at g7
  by_cases g8:x0<240
  ·rw[if_neg (by omega)] at hlo hhi
   subst hlo hhi
   exact absurd ⟨g3,g7.1,by omega,by omega,⟨g4,g5⟩,g7.2⟩ c3
  rw[if_neg g8]
  by_cases g9:¬(r3∧128≤x3∧x3≤191)
  ·rw[if_pos g9]
  exfalso
  simp only[Decidable.not_not] at g9
  refine c4 ⟨g3,g7.1,g9.1,by omega,by omega,⟨?_,?_⟩,g7.2,g9.2⟩
  ·by_cases e:x0=240
   ·rw[if_pos e] at hlo ⊢;omega
   ·rw[if_neg e] at hlo ⊢;rw[if_neg (by omega)] at hlo;omega
  ·by_cases e:x0=244
   ·rw[if_pos e] at hhi ⊢;omega
   ·rw[if_neg e] at hhi ⊢;rw[if_neg (by omega)] at hhi;omega
theorem HC {b:LI}{n:Nat}(hs:byteR b):lh (b.drop n) [239,191,189]=true↔(n+1<b.length∧n+2<b.length∧(b.getD n 0).toNat=239∧(b.getD (n+1) 0).toNat=191∧(b.getD (n+2) 0).toNat=189):=by
 unfold lh
 rw[zB]
 show (b.drop n).take 3=_↔_
 constructor
 ·intro h
  have hl:=congrArg List.length h
  simp only[List.length_take,List.length_drop,zN,List.length_nil] at hl
  have h3:n+2<b.length:=by omega
  rw[zE (by omega),zE (by omega),zE (by omega)] at h
  simp only[List.take_succ_cons,List.take_zero,List.cons.injEq,and_true] at h
  obtain ⟨k1,k2,k3⟩:=h
  have k3:b[n+2]=189:=k3
  rw[aA (by omega),aA (by omega),aA h3,k1,k2,k3]
  exact ⟨by omega,by omega,rfl,rfl,rfl⟩
 ·rintro ⟨h1,h2,h3,h4,h5⟩
  rw[aA (by omega)] at h3 h4 h5
  rw[zE (by omega),zE (by omega),zE (by omega)]
  simp only[List.take_succ_cons,List.take_zero,List.cons.injEq,and_true]
  refine ⟨by omega,by omega,?_⟩
  show b[n+2]=189
  omega
theorem IM {b:LI}(hs:byteR b){n:Nat}(h:n<b.length):
  (dn b n=0∧(eZ b n).1=65533∧lh (b.drop n) [239,191,189]=false) ∨
  (0<dn b n∧(eZ b n).2=dn b n∧((eZ b n).1=65533→lh (b.drop n) [239,191,189]=true)):=by
 rw[la,MY hs h,Kw hs n]
 have hx:∀k,(b.getD k 0).toNat<256:=fun k=>by rw[← xP hs];exact UInt8.toNat_lt _
 have:=QS (n+1<b.length) (n+2<b.length) (n+3<b.length) _ _ _ _ (hx n) (hx (n+1)) (hx (n+2)) (hx (n+3))
 rw[HC hs,← Bool.not_eq_true,HC hs]
 rcases this with ⟨h1,h2,h3⟩ | ⟨h1,h2,h3⟩
 ·left
  exact ⟨by rw[h1];rfl,by rw[h2];rfl,h3⟩
 ·right
  exact ⟨by omega,by simp only;rw[h2],fun h=>h3 (by simp only at h;omega)⟩
abbrev kp:Io:=⟨[dS,dS],[],[],[dB],none⟩
def DE (d:kp.In):Tr kp.Res:=.ret (.ret ((lh d.1.1 d.1.2.1,()),()))
abbrev FH:List (Nat×Hc):=[]
def NN:Hd:=bG FH
def GM:Lp:=bM []
def wz (a0 a1:LI):Option kp.Res:=bif decide ((↑a1.length:Int)≤(↑a0.length:Int)) then bif decide (0≤0)&&(decide (0≤(↑a1.length:Int))&&decide ((↑a1.length:Int)≤(↑a0.length:Int))) then oR ((decide (List.drop (Int.toNat 0) (List.take (↑a1.length:Int).toNat a0)=a1),()),()) else none else oR ((false,()),())
theorem Mj (a0 a1:LI):Io.run tt NN dr GM kp Tryz.f185 ((a0,a1,()),())=wz a0 a1:=by kernel_rfl
theorem Ov:HcOk prog 185 (ah kp DE):=by
 refine bQ (cs:=FH) .nil (lp:=GM) (fn:=Tryz.f185) kp (.done (by kernel_rfl)) DE ?_
 rintro ⟨⟨(s:LI),(p:LI),⟨⟩⟩,⟨⟩⟩ out hw ho
 cases ho
 refine (Mj s p).trans ?_
 show _=oR ((lh s p,()),())
 unfold wz
 by_cases h:p.length≤s.length
 ·rw[aa (by simpa using h),aa (by simp;omega)]
  rfl
 ·rw[af (by simpa using h)]
  have:lh s p=false:=by
   unfold lh
   rw[decide_eq_false_iff_not]
   intro e
   have:=congrArg List.length e
   simp only[List.length_take] at this
   omega
  rw[this]
abbrev nT:Io:=⟨[dS,dS],[],[],[dB],none⟩
def JK (d:nT.In):Tr nT.Res:=.ret (.ret ((lh d.1.1 d.1.2.1,()),()))
abbrev Kd:List (Nat×Hc):=[(185,ah kp DE)]
def PT:Hd:=bG Kd
def Lg:Lp:=bM []
def J3 (a0 a1:LI):Option nT.Res:=oR ((lh a0 a1,()),())
theorem OZ (a0 a1:LI):Io.run tt PT dr Lg nT Tryz.f182 ((a0,a1,()),())=J3 a0 a1:=by kernel_rfl
theorem Qc:HcOk prog 182 (ah nT JK):=by
 refine bQ (cs:=Kd) (.cons Ov .nil) (lp:=Lg) (fn:=Tryz.f182) nT (.done (by kernel_rfl)) JK ?_
 rintro ⟨⟨(s:LI),(p:LI),⟨⟩⟩,⟨⟩⟩ out hw ho
 cases ho
 exact OZ s p
theorem vw (b:LI):∀(n:Nat) (p:Int),0≤p→p≤b.length→(b.length:Int)<p+n→(cl b n p).2=true→(cl b n p).1=b.length
 |0,p,h0,h1,h2,h=>by omega
 |n+1,p,h0,h1,h2,h=>by
  unfold cl at h ⊢
  split
  ·rename_i h3;simp only;omega
  ·rename_i h3
   rw[if_neg h3] at h
   split
   ·rename_i h4;rw[if_pos h4] at h;cases h
   ·rename_i h4
    rw[if_neg h4] at h
    have h5:=q7 (b:=b) h0 (show p<(b.length:Int) by omega)
    exact vw b n _ (by omega) (by omega) (by omega) h
theorem Js (b:LI)(h:(cv b).2=true):(cv b).1=b.length:=vw b (b.length+1) 0 (by omega) (by omega) (by omega) h
abbrev nU:Io:=⟨[dL],[],[],[dI,dB],none⟩
def JL (d:nU.In):Tr nU.Res:=.ret (.ret (((cv d.1.1).1,(cv d.1.1).2,()),()))
abbrev Ke:List (Nat×Hc):=[(182,ah nT JK)]
def KT:Hd:=bG Ke
abbrev fx:Lo:=⟨⟨(.one (.hol (.sl 5 (Ty.int u8)))::.any::bk (.one (.hol .str)::.any::bz (.one (.ptr 10 0)::ai []))),[none,none,none,none,none,none,none,none,none,none,some [.itr]]⟩,[(.ret,⟨(bk (.one hI::.one hL::.any::ai (bz (bk [])))),[]⟩),(.exit 0,⟨(.one (.hol (.sl 5 (Ty.int u8)))::ai (dm (bk []))),[]⟩)]⟩
def oO (d:fx.st.den):Tr (ap fx.xs):=
 .ite (decide (d.2.1.1.2=(0:Int))&&decide (d.2.1.1.1=d.1.2.1)) (.ite (cv d.1.2.1).2 (.ret (.pan (.ret ((),((d.1.1,()),()))))) (.ret (.ret ((),(((cv d.1.2.1).1,(false,())),()))))) .no
def zZ:Lp:=bM [(4,aD fx oO)]
def vA {R:Type}(h1 h2:LI)(h3:LI×Int)(next:LI→LI→LI×Int→Option R)(out:ap fx.xs→Option R):Option R:=bif decide (h3.2<(↑h3.1.length:Int)) then bif (eZ h3.1 h3.2).1 == 65533 then bif decide (0≤h3.2)&&(decide (h3.2≤(↑h2.length:Int))&&decide ((↑h2.length:Int)≤(↑h2.length:Int))) then bif !lh (List.drop h3.2.toNat (List.take (↑h2.length:Int).toNat h2)) (List.map (fun (c:UInt8)=>(↑c.toNat:Int)) [UInt8.ofBitVec (BitVec.ofFin (Fin.mk (239 % 2 ^ 8) (Nat.mod_lt 239 (BitVec.ofNat._proof_1 8)))),UInt8.ofBitVec (BitVec.ofFin (Fin.mk (191 % 2 ^ 8) (Nat.mod_lt 191 (BitVec.ofNat._proof_1 8)))),UInt8.ofBitVec (BitVec.ofFin (Fin.mk (189 % 2 ^ 8) (Nat.mod_lt 189 (BitVec.ofNat._proof_1 8))))]) then out (.ret ((),((h3.2,(false,())),()))) else next (h1) (h2) ((h3.1,h3.2+(eZ h3.1 h3.2).2)) else none else next (h1) (h2) ((h3.1,h3.2+(eZ h3.1 h3.2).2)) else out (.pan (.ret ((),((h1,()),()))))
def l8 (n:Nat)(h1 h2:LI)(h3:LI×Int):Option (ap fx.xs):=fJ tt KT dr zZ 0 Tryz.f170 (bP Tryz.f170 0) n (fx.st.mk' ((h1,(h2,())),((h3,()),()))) (bt fx.xs)
theorem MV (n:Nat)(h1 h2:LI)(h3:LI×Int):l8 (n+1) h1 h2 h3=vA h1 h2 h3 (l8 n) some:=by kernel_rfl
theorem K9 (b s:LI)(hs:byteR s)(hb:(s.length:Int)≤9223372036854775807):∀(k:Nat) (p:Int),0≤p→p≤s.length→(s.length:Int)<p+k→
  l8 k b s (s,p)=if (cl s k p).2=true then some (.pan (.ret ((),((b,()),())))) else some (.ret ((),(((cl s k p).1,(false,())),()))):=by
 intro k
 induction k with
 |zero=>intro p h0 h1 h2;omega
 |succ k ih=>
  intro p h0 h1 h2
  rw[MV]
  unfold vA
  change (bif decide (p<(s.length:Int)) then bif (eZ s p).1 == 65533 then bif decide (0≤p)&&(decide (p≤(s.length:Int))&&decide ((s.length:Int)≤(s.length:Int))) then bif !lh (List.drop p.toNat (List.take (s.length:Int).toNat s)) [239,191,189] then some (.ret ((),((p,(false,())),()))) else l8 k b s (s,p+(eZ s p).2) else none else l8 k b s (s,p+(eZ s p).2) else some (.pan (.ret ((),((b,()),())))))=_
  by_cases h3:(s.length:Int)≤p
  ·have h4:¬ p<(s.length:Int):=by omega
   have hS:cl s (k+1) p=(p,true):=by simp[cl,h3]
   simp[hS,h4]
  ·have h4:p<(s.length:Int):=by omega
   obtain ⟨n,rfl⟩:=au h0
   have h5:=IM hs (show n<s.length by omega)
   have h6:=q7 h0 h4
   rw[aa (by simpa using h4),zG,zG,List.take_length]
   rcases h5 with ⟨g1,g2,g3⟩ | ⟨g1,g2,g3⟩
   ·have hS:cl s (k+1) n=(↑n,false):=by simp[cl,h3,g1]
    rw[hS,g3,aa (by simpa using g2),aa (by simp;omega)]
    rfl
   ·have hS:cl s (k+1) n=cl s k (n+dn s n):=by
     simp only[cl]
     rw[if_neg h3,if_neg (by omega)]
    rw[hS,g2]
    have hn:=ih (n+dn s n) (by omega) (by omega) (by omega)
    by_cases g4:(eZ s n).1=65533
    ·rw[aa (by simpa using g4),aa (by simp;omega),g3 g4]
     exact hn
    ·rw[af (by simpa using g4)]
     exact hn
def Bc (a0:LI):Option nU.Res:=(oO ((a0,(a0,())),(((a0,0),()),()))).run fun y=>match y with | .ret ((),((x13,x14,()),()))=>(oR ((x13,x14,()),())) | .pan (.ret ((),((x15,()),())))=>(oR (((↑x15.length:Int),true,()),()))
theorem O0 (a0:LI):Io.run tt KT dr zZ nU Tryz.f170 ((a0,()),())=Bc a0:=by kernel_rfl
theorem BZ:HcsOk prog Ke:=.cons Qc .nil
theorem Qd:HcOk prog 170 (ah nU JL):=by
 refine bQ BZ (lp:=zZ) (fn:=Tryz.f170) nU
  (.step (h0:=aD fx oO) (by kernel_rfl) (f9 BZ (lp:=zZ) (fn:=Tryz.f170) (.done (by kernel_rfl)) fx oO ?_) (.done (by kernel_rfl))) JL ?_
 ·rintro ⟨⟨(b:LI),(s:LI),⟨⟩⟩,⟨⟨⟨(s':LI),(p:Int)⟩,⟨⟩⟩,⟨⟩⟩⟩ y hw hy
  obtain ⟨hg,hy⟩:=Tr.guard hy
  simp only[zA,zB] at hg
  have hg1:p=0:=hg.1
  have hg2:s'=s:=hg.2
  subst hg1 hg2
  have hs:byteR s'∧s'.length≤maxLen:=hw.1.2.1
  have hb:=hs.2
  rw[ba] at hb
  refine ⟨s'.length+1,(K9 b s' hs.1 (by omega) (s'.length+1) 0 (by omega) (by omega) (by omega)).trans ?_⟩
  rw[← hy]
  simp only[Tr.val_ite,Tr.val_ret]
  rfl
 ·rintro ⟨⟨(b:LI),⟨⟩⟩,⟨⟩⟩ out hw ho
  cases ho
  refine (O0 b).trans ?_
  unfold Bc oO
  show _=oR (((cv b).1,(cv b).2,()),())
  simp only[Tr.run_ite,Tr.run_ret]
  have he:(cv b).2=true→(cv b).1=b.length:=Js b
  generalize cv b=r at *
  obtain ⟨r1,r2⟩:=r
  cases r2 with
  |true=>
   have he:r1=b.length:=he rfl
   simp[he]
  |false=>simp
abbrev QK:Code:=bU Tryz.f47
abbrev QT:Array Oper:=jI (lj (lj (iU QK)))
abbrev QU:Code:=QW (iU (lj (iU QK)))
abbrev QV:Code:=iU (iU QK)
abbrev eG:Io:=⟨[dL],[],[],[dO],none⟩
def oN (d:eG.In):Tr eG.Res:=.ite (decide (d.1.1.length≤4294967296)) (.ret (.ret ((d.1.1,()),()))) .no
abbrev Ny:Hd:=bG []
abbrev H6:Lp:=bM []
def Rr (b:LI)(v3 v4:V):AS:=⟨[.one (.lst 5 (.int .u8) b 0),.any,.one (.lst 5 (.int .u8) [] 5),v3,v4,.any,.any,.any],[],[]⟩
def RG (ex:Ex)(A:AS):Option eG.Res:=match ex with
 |.ret=>eG.fin tt Tryz.f47 .ret A
 |_=>none
abbrev Bs:Nat:=mb Tryz.f47
theorem RM (b:LI):ev tt Ny dr H6 0 Bs (lj QK) Bs [] (eG.start 8 ((b,()),())) (fun ex A=>match ex with | .normal=>some A | _=>none)=some (Rr b .any .any):=by kernel_rfl
theorem RN (b:LI):ev tt Ny dr H6 0 Bs QU Bs [] (Rr b (.one (.lst 5 (.int .u8) b 0)) (.one (.bool true))) RG=some (.ret (([],()),())):=by kernel_rfl
theorem RO (b:LI):ev tt Ny dr H6 0 Bs QV Bs [] (Rr b (.one (.lst 5 (.int .u8) b 0)) (.one (.bool false))) RG=bif decide (([]:LI).length+b.length≤4294967296) then some (.ret ((b,()),())) else none:=by kernel_rfl
theorem uM:HcOk prog 47 (ah eG oN):=by
 have htt:=gL Tryz.prog 400
 refine qG (P:=prog) htt (fn:=Tryz.f47) (by kernel_rfl) (by kernel_rfl) eG oN ?_ (by kernel_rfl)
 rintro ⟨⟨(b:LI),⟨⟩⟩,⟨⟩⟩ out hwf hout F G cst w vals R Rl hkb _ hend
 obtain ⟨hg,hout⟩:=Tr.guard hout
 have hg:b.length≤4294967296:=by simpa using hg
 cases hout
 have hc:(Tryz.f47).body=some (.seq (lj QK) (.seq (.seq (.region 1 QT false) (.cond (.tmp 4) QU .skip)) QV)):=by kernel_rfl
 have hdr:=j4 (gL Tryz.prog 400)
 have hhd:lK prog Ny:=uq HcsOk.nil
 refine calls_of_wp (P:=prog) (fn:=Tryz.f47) (by kernel_rfl) hc ?_
 refine wp_seq (gn htt hm hhd hdr hkb (lp:=H6) _ (m6 (c:=(lj QK)) (by kernel_rfl)) (RM b) Rl ?_)
 intro ex A1 G1 a1 w1 R1 hd1 h1
 cases ex with
 |normal=>
  simp only[zC] at h1
  subst h1
  show (Code.seq (.seq (.region 1 QT false) (.cond (.tmp 4) QU .skip)) QV).wp prog _ a1 w1
  refine wp_seq (wp_seq (wp_region ?_))
  have hr:List.range QT.size=[0,1]:=by kernel_rfl
  rw[hr]
  obtain ⟨p0,f0,ho0⟩:∃pos after,QT[0]?=some { dst:=some 3,op:=.move (.tmp 0),type:=22,pos:=pos,after:=after,guard:=none }:=⟨_,_,rfl⟩
  obtain ⟨p1,f1,ho1⟩:∃pos after,QT[1]?=some { dst:=some 4,op:=.binOp .eql 22 (.tmp 3) (.const (.slice none 0 0)) 22,type:=4,pos:=pos,after:=after,guard:=none }:=⟨_,_,rfl⟩
  have hu:Program.underlying prog 22=some (.slice 5):=by kernel_rfl
  simp only[wpOps,ho0,ho1]
  rw[if_pos (by rfl)]
  refine .inl ?_
  obtain ⟨u0,hu0,hv0⟩:=qy (P:=prog) htt R1.gh.tabs (fun x=>R1.opd x) R1.ob { dst:=some 3,op:=.move (.tmp 0),type:=22,pos:=p0,after:=f0,guard:=none } (id:=7) (chk:=true) (v:=.one (.lst 5 (.int .u8) b 0)) (by kernel_rfl) rfl
  unfold Oper.wp
  rw[hu0,Oper.upon_value]
  have R2:=R1.puts hv0 (some 3)
  have hd2:(a1.put (some 3) u0).defers=[]:=(Act.put_defers' _ _ _).trans hd1
  generalize a1.put (some 3) u0=a2 at R2 hd2 ⊢
  rw[if_pos (by rfl)]
  refine .inl ?_
  obtain ⟨Aa,cap,he,hc1,hc2,hrow,_⟩:Rc G1 w1 (.lst 5 (.int .u8) b 0) (a2.eval (.tmp 3)):=R2.opd (.tmp 3)
  have hrun:(execOp a2.eval { dst:=some 4,op:=.binOp .eql 22 (.tmp 3) (.const (.slice none 0 0)) 22,type:=4,pos:=p1,after:=f1,guard:=none }).run prog w1=.ok (.value (.bool Aa.isNone)) w1:=by
   have h1:=Go.Lib.run_eql_slice_nil (P:=prog) w1 22 5 Aa b.length cap 0 0 hu
   have h2:a2.eval (.const (.slice none 0 0))=.slice none 0 0:=rfl
   simp only[execOp,Sem.run_bind,he,h2]
   simp[eqGuard,h1]
  rw[hrun,Oper.upon_value]
  have R3:=R2.puts (v:=.one (.bool Aa.isNone)) (u:=.bool Aa.isNone) rfl (some 4)
  have hd3:(a2.put (some 4) (.bool Aa.isNone)).defers=[]:=(Act.put_defers' _ _ _).trans hd2
  generalize a2.put (some 4) (.bool Aa.isNone)=a3 at R3 hd3 ⊢
  have hb4:a3.eval (.tmp 4)=.bool Aa.isNone:=R3.opd (.tmp 4)
  refine wp_cond hb4 ?_
  cases Aa with
  |none=>
   have hb:b=[]:=Classical.byContradiction fun hne=>by
    obtain ⟨_,_,e,_⟩:=hrow hne
    cases e
   subst hb
   refine gn htt hm hhd hdr hkb (lp:=H6) (l:=Bs) (x:=[]) QU (m6 (c:=QU) (by kernel_rfl)) (RN []) R3 ?_
   intro ex A' G' a' w' R' hd' hk
   cases ex with
   |ret=>exact ⟨hd'.trans hd3,hend .ret A' G' a' w' R' hk⟩
   |normal=>cases hk
   |exit i=>cases hk
   |panic v=>cases hk
  |some ad=>
   refine wp_skip ?_
   refine gn htt hm hhd hdr hkb (lp:=H6) (l:=Bs) (x:=[]) QV (m6 (c:=QV) (by kernel_rfl)) ((RO b).trans (aa (by simpa using hg) _ _)) R3 ?_
   intro ex A' G' a' w' R' hd' hk
   cases ex with
   |ret=>exact ⟨hd'.trans hd3,hend .ret A' G' a' w' R' hk⟩
   |normal=>cases hk
   |exit i=>cases hk
   |panic v=>cases hk
 |exit i=>cases h1
 |ret=>cases h1
 |panic v=>cases h1
def aC (v:Int):Int:=if 0≤v then 2*v else -2*v - 1
def al (u:Int):Int:=if u % 2=0 then u / 2 else -(u / 2) - 1
theorem bY {n:Int}(h0:0≤n)(h:n<18446744073709551616):IntKind.wrap .u64 n=n:=by
 apply bK
 simp[bH,IntKind.min,IntKind.max,IntKind.signed,IntKind.bits]
 omega
theorem ql {n:Int}(h0:0≤n)(h:n<256):IntKind.wrap .u8 n=n:=by
 apply bK
 simp[bH,IntKind.min,IntKind.max,IntKind.signed,IntKind.bits]
 omega
theorem Gz {n:Int}:bH .i64 n↔-9223372036854775808≤n∧n≤9223372036854775807:=by
 simp[bH,IntKind.min,IntKind.max,IntKind.signed,IntKind.bits]
theorem sI {n:Int}:bH .u64 n↔0≤n∧n≤18446744073709551615:=by
 simp[bH,IntKind.min,IntKind.max,IntKind.signed,IntKind.bits]
theorem Ef {n:Int}:bH .u8 n↔0≤n∧n≤255:=by
 simp[bH,IntKind.min,IntKind.max,IntKind.signed,IntKind.bits]
abbrev dV:Sh:=.dat (.int .u64) false false
abbrev QL:Sh:=.dat (.int .i64) false false
abbrev nX:Io:=⟨[QL],[],[],[dV],none⟩
def JO (d:nX.In):Tr nX.Res:=.ret (.ret ((aC d.1.1,()),()))
abbrev Kj:List (Nat×Hc):=[]
def PX:Hd:=bG Kj
def Ll:Lp:=bM []
def Bi (a0:Int):Option nX.Res:=bif decide (0≤a0) then oR ((u64.wrap (u64.wrap a0*2),()),()) else oR ((u64.wrap (u64.wrap (u64.wrap (i64.wrap (0 - i64.wrap (a0+1)))*2)+1),()),())
theorem O6 (a0:Int):Io.run tt PX dr Ll nX Tryz.f156 ((a0,()),())=Bi a0:=by kernel_rfl
theorem Qf:HcOk prog 156 (ah nX JO):=by
 refine bQ (cs:=Kj) HcsOk.nil (lp:=Ll) (fn:=Tryz.f156) nX (.done (by kernel_rfl)) JO ?_
 rintro ⟨⟨(v:Int),⟨⟩⟩,⟨⟩⟩ out hw ho
 cases ho
 refine (O6 v).trans ?_
 have hr:=Gz.1 (show bH .i64 v from hw.1.1)
 unfold Bi
 show _=oR ((aC v,()),())
 unfold aC
 by_cases h:0≤v
 ·rw[aa (by simpa using h),if_pos h,bY (n:=v) h (by omega),bY (n:=v*2) (by omega) (by omega),Int.mul_comm]
 ·rw[af (by simpa using h),if_neg h,ae (n:=v+1) (by omega) (by omega),ae (n:=0 - (v+1)) (by omega) (by omega),bY (n:=0 - (v+1)) (by omega) (by omega),
   bY (n:=(0 - (v+1))*2) (by omega) (by omega),bY (n:=(0 - (v+1))*2+1) (by omega) (by omega),show (0 - (v+1))*2+1 = -2*v - 1 by omega]
abbrev nW:Io:=⟨[dV],[],[],[QL],none⟩
def JN (d:nW.In):Tr nW.Res:=.ret (.ret ((al d.1.1,()),()))
abbrev Ki:List (Nat×Hc):=[]
def PW:Hd:=bG Ki
def Lk:Lp:=bM []
def Bh (a0:Int):Option nW.Res:=bif u64.wrap (a0.tmod 2) == 0 then oR ((i64.wrap (u64.wrap (a0.tdiv 2)),()),()) else oR ((i64.wrap (i64.wrap (0 - i64.wrap (u64.wrap (a0.tdiv 2))) - 1),()),())
theorem O5 (a0:Int):Io.run tt PW dr Lk nW Tryz.f145 ((a0,()),())=Bh a0:=by kernel_rfl
theorem LV:HcOk prog 145 (ah nW JN):=by
 refine bQ (cs:=Ki) HcsOk.nil (lp:=Lk) (fn:=Tryz.f145) nW (.done (by kernel_rfl)) JN ?_
 rintro ⟨⟨(u:Int),⟨⟩⟩,⟨⟩⟩ out hw ho
 cases ho
 refine (O5 u).trans ?_
 have hr:=sI.1 (show bH .u64 u from hw.1.1)
 unfold Bh
 show _=oR ((al u,()),())
 unfold al
 have e1:u.tmod 2=u % 2:=Int.tmod_eq_emod_of_nonneg hr.1
 have e2:u.tdiv 2=u / 2:=Int.tdiv_eq_ediv_of_nonneg hr.1
 rw[e1,e2,bY (n:=u % 2) (by omega) (by omega),bY (n:=u / 2) (by omega) (by omega),ae (n:=u / 2) (by omega) (by omega),ae (n:=0 - u / 2) (by omega) (by omega),ae (n:=0 - u / 2 - 1) (by omega) (by omega)]
 by_cases h:u % 2=0
 ·simp[h]
 ·simp[h,cond_eq_ite]
abbrev jE:Io:=⟨[QL],[],[],[dO],none⟩
def fL:Nat→Int→LI
 |0,_=>[]
 |n+1,u=>if 127<u then (u % 128+128)::fL n (u / 128) else []
def gy:Nat→Int→Int
 |0,u=>u
 |n+1,u=>if 127<u then gy n (u / 128) else u
def aH (u:Int):LI:=fL 10 u++[gy 10 u]
theorem HN:∀(n:Nat) (u:Int),0≤u→u<128 ^ n→0≤gy n u∧gy n u≤127
 |0,u,h0,h=>by simp only[gy];simp at h;omega
 |n+1,u,h0,h=>by
  simp only[gy]
  split
  ·refine HN n (u / 128) (by omega) ?_
   rw[Int.pow_succ] at h
   exact Int.ediv_lt_of_lt_mul (by omega) h
  ·omega
def wb (d:jE.In):Tr jE.Res:=.ret (.ret ((aH (aC d.1.1),()),()))
abbrev Kg:List (Nat×Hc):=[(156,ah nX JO)]
def KV:Hd:=bG Kg
abbrev fz:Lo:=⟨⟨(.any::bk (.one (.hol (.int u64))::.one (.onl 5 (Ty.int u8) 9)::ai (bz []))),[]⟩,[(.exit 0,⟨(.any::bk (.one (.hol (.int u64))::.one (.onl 5 (Ty.int u8) 9)::ai (bz []))),[]⟩)]⟩
def oP (d:fz.st.den):Tr (ap fz.xs):=
 .ite (decide (d.1.2.1.length=0)) (.ret (.ret ((),((gy 10 d.1.1,(fL 10 d.1.1,())),())))) .no
def Ab:Lp:=bM [(4,aD fz oP)]
def oG {R:Type}(h1:Int)(h2:LI)(next:Int→LI→Option R)(out:ap fz.xs→Option R):Option R:=bif decide (127<h1) then bif decide (h2.length+[u8.wrap (u64.wrap (u64.wrap (h1.tmod 128)+128))].length≤4294967296) then next (u64.wrap (h1.tdiv 128)) (h2++[u8.wrap (u64.wrap (u64.wrap (h1.tmod 128)+128))]) else none else out (.ret ((),((h1,(h2,())),())))
def uC (n:Nat)(h1:Int)(h2:LI):Option (ap fz.xs):=fJ tt KV dr Ab 0 Tryz.f121 (bP Tryz.f121 0) n (fz.st.mk' ((h1,(h2,())),())) (bt fz.xs)
theorem C6 (n:Nat)(h1:Int)(h2:LI):uC (n+1) h1 h2=oG h1 h2 (uC n) some:=by kernel_rfl
theorem La:∀(n k:Nat) (u:Int) (o:LI),0≤u→u<128 ^ n→u<18446744073709551616→n<k→o.length+n≤4294967296→
  uC k u o=some (.ret ((),((gy n u,(o++fL n u,())),()))):=by
 intro n
 induction n with
 |zero=>
  intro k u o h0 h1 h2 h3 h4
  obtain ⟨k,rfl⟩:∃m,k=m+1:=⟨k - 1,by omega⟩
  rw[C6]
  unfold oG
  have:¬ 127<u:=by simp at h1;omega
  simp[this,gy,fL]
 |succ n ih=>
  intro k u o h0 h1 h2 h3 h4
  obtain ⟨k,rfl⟩:∃m,k=m+1:=⟨k - 1,by omega⟩
  rw[C6]
  unfold oG
  by_cases h:127<u
  ·have e1:u.tmod 128=u % 128:=Int.tmod_eq_emod_of_nonneg h0
   have e2:u.tdiv 128=u / 128:=Int.tdiv_eq_ediv_of_nonneg h0
   rw[e1,e2,bY (n:=u % 128) (by omega) (by omega),bY (n:=u % 128+128) (by omega) (by omega),ql (n:=u % 128+128) (by omega) (by omega),bY (n:=u / 128) (by omega) (by omega)]
   rw[ih k (u / 128) _ (by omega) (by rw[Int.pow_succ] at h1;exact Int.ediv_lt_of_lt_mul (by omega) h1) (by omega) (by omega) (by simp;omega)]
   have h5:o.length+1≤4294967296:=by omega
   simp[h,h5,gy,fL]
  ·simp[h,gy,fL]
def Bf (a0:Int):Option jE.Res:=(oP ((aC a0,([],())),())).run fun y=>match y with | .ret ((),((x7,x8,()),()))=>(bif decide (x8.length+[u8.wrap x7].length≤4294967296) then oR ((x8++[u8.wrap x7],()),()) else none)
theorem O3 (a0:Int):Io.run tt KV dr Ab jE Tryz.f121 ((a0,()),())=Bf a0:=by kernel_rfl
theorem B0:HcsOk prog Kg:=.cons Qf .nil
theorem Ar:HcOk prog 121 (ah jE wb):=by
 refine bQ B0 (lp:=Ab) (fn:=Tryz.f121) jE
  (.step (h0:=aD fz oP) (by kernel_rfl) (f9 B0 (lp:=Ab) (fn:=Tryz.f121) (.done (by kernel_rfl)) fz oP ?_) (.done (by kernel_rfl))) wb ?_
 ·rintro ⟨⟨(u:Int),(o:LI),⟨⟩⟩,⟨⟩⟩ y hw hy
  obtain ⟨hg,hy⟩:=Tr.guard hy
  have hg:o=[]:=List.length_eq_zero_iff.1 (by simpa using hg)
  subst hg
  have hr:=sI.1 (show bH .u64 u from hw.1.1)
  refine ⟨11,(La 10 11 u [] hr.1 (by omega) (by omega) (by omega) (by simp)).trans ?_⟩
  rw[← hy];rfl
 ·rintro ⟨⟨(v:Int),⟨⟩⟩,⟨⟩⟩ out hw ho
  cases ho
  refine (O3 v).trans ?_
  have hr:=Gz.1 (show bH .i64 v from hw.1.1)
  have hz:0≤aC v∧aC v<18446744073709551616:=by unfold aC;split <;> omega
  obtain ⟨h1,h2⟩:=HN 10 (aC v) hz.1 (by have:=hz.2;omega)
  have h3:∀(n:Nat) (u:Int),(fL n u).length≤n:=by
   intro n
   induction n with
   |zero=>intro u;simp[fL]
   |succ n ih=>intro u;simp only[fL];split;have:=ih (u / 128);simp;omega;simp
  have h4:=h3 10 (aC v)
  have h5:(fL 10 (aC v)).length≤4294967295:=by omega
  unfold Bf oP
  simp[Tr.run_ite,Tr.run_ret,ql (n:=gy 10 (aC v)) h1 (by omega),h5,aH]
def bo (most:Nat)(top:Int):LI→Nat→Int×Int
 |[],_=>(0,1)
 |c::l,i=>if i+1=most∧top<c then (0,21) else if c<128 then (if c=0∧0<i then (0,20) else ((i:Int),0)) else bo most top l (i+1)
def bc:LI→Int
 |[]=>0
 |c::l=>c % 128+128*bc l
abbrev n6:Io:=⟨[dL,dI,dI,dU],[],[],[dI,dI],none⟩
def Fl (d:n6.In):Tr n6.Res:=
 .ite (decide (d.1.2.1<0) || decide ((d.1.1.length:Int)<d.1.2.1)) (.ret (.ret ((0,3,()),())))
  (.ite (decide (1≤d.1.2.2.1)&&(decide (d.1.2.2.1≤10)&&decide (d.1.2.2.2.1<128)))
   (.ite (decide ((bo d.1.2.2.1.toNat d.1.2.2.2.1 (d.1.1.drop d.1.2.1.toNat) 0).2=0))
    (.ret (.ret ((d.1.2.1+(bo d.1.2.2.1.toNat d.1.2.2.2.1 (d.1.1.drop d.1.2.1.toNat) 0).1,0,()),())))
    (.ret (.ret ((0,(bo d.1.2.2.1.toNat d.1.2.2.2.1 (d.1.1.drop d.1.2.1.toNat) 0).2,()),())))) .no)
abbrev D9:List (Nat×Hc):=[]
def KZ:Hd:=bG D9
abbrev fB:Lo:=⟨⟨(.one (.hol (.sl 5 (Ty.int u8)))::.one hI::.one hI::.one (.hol (.int u8))::bz (bk (.one hI::ai (ai (dm (bz (bk []))))))),[]⟩,[(.ret,⟨(dm (.one hI::.one hI::.any::ai (ai (dm (bz (bk [])))))),[]⟩),(.exit 0,⟨(.any::ai (ai (ai (dm [])))),[]⟩)]⟩
def oS (d:fB.st.den):Tr (ap fB.xs):=
 .ite (decide (0≤d.1.2.1)&&(decide (d.1.2.1≤(d.1.1.length:Int))&&(decide (1≤d.1.2.2.1)&&(decide (d.1.2.2.1≤10)&&(decide (d.1.2.2.2.1<128)&&decide (d.1.2.2.2.2.1=0))))))
   (.ite (decide ((bo d.1.2.2.1.toNat d.1.2.2.2.1 (d.1.1.drop d.1.2.1.toNat) 0).2=0))
    (.ret (.ret ((),((d.1.2.1+(bo d.1.2.2.1.toNat d.1.2.2.2.1 (d.1.1.drop d.1.2.1.toNat) 0).1,(0,())),()))))
    (.ret (.ret ((),((0,((bo d.1.2.2.1.toNat d.1.2.2.2.1 (d.1.1.drop d.1.2.1.toNat) 0).2,())),()))))) .no
def Af:Lp:=bM [(5,aD fB oS)]
def vC {R:Type}(h4:LI)(h5 h6 h7 h8:Int)(next:LI→Int→Int→Int→Int→Option R)(out:ap fB.xs→Option R):Option R:=bif decide (h8<h6) then bif decide (i64.wrap ((↑h4.length:Int) - h5)≤h8) then out (.ret ((),((0,(1,())),()))) else bif decide (0≤i64.wrap (h5+h8))&&decide (i64.wrap (h5+h8)<(↑h4.length:Int)) then bif h8 == i64.wrap (h6 - 1) then bif decide (h7<h4.getD (i64.wrap (h5+h8)).toNat 0) then out (.ret ((),((0,(21,())),()))) else bif decide (h4.getD (i64.wrap (h5+h8)).toNat 0<128) then bif h4.getD (i64.wrap (h5+h8)).toNat 0 == 0 then bif decide (0<h8) then out (.ret ((),((0,(20,())),()))) else out (.ret ((),((i64.wrap (h5+h8),(0,())),()))) else out (.ret ((),((i64.wrap (h5+h8),(0,())),()))) else next (h4) (h5) (h6) (h7) (i64.wrap (h8+1)) else bif decide (h4.getD (i64.wrap (h5+h8)).toNat 0<128) then bif h4.getD (i64.wrap (h5+h8)).toNat 0 == 0 then bif decide (0<h8) then out (.ret ((),((0,(20,())),()))) else out (.ret ((),((i64.wrap (h5+h8),(0,())),()))) else out (.ret ((),((i64.wrap (h5+h8),(0,())),()))) else next (h4) (h5) (h6) (h7) (i64.wrap (h8+1)) else none else out (.pan (.ret ((),((),()))))
def po (n:Nat)(h4:LI)(h5 h6 h7 h8:Int):Option (ap fB.xs):=fJ tt KZ dr Af 0 Tryz.f144 (bP Tryz.f144 0) n (fB.st.mk' ((h4,(h5,(h6,(h7,(h8,()))))),())) (bt fB.xs)
theorem MX (n:Nat)(h4:LI)(h5 h6 h7 h8:Int):po (n+1) h4 h5 h6 h7 h8=vC h4 h5 h6 h7 h8 (po n) some:=by kernel_rfl
theorem Lc (b:LI)(at_ most:Nat)(top:Int)(hb:b.length≤maxLen)(ha:at_≤b.length)(hm:most≤10)(ht:top<128):∀(k i:Nat),i<most→most<i+k→
  po k b at_ most top i=some (.ret ((),((if (bo most top (b.drop (at_+i)) i).2=0 then at_+(bo most top (b.drop (at_+i)) i).1 else 0,((bo most top (b.drop (at_+i)) i).2,())),()))):=by
 intro k
 rw[ba] at hb
 induction k with
 |zero=>intro i h1 h2;omega
 |succ k ih=>
  intro i h1 h2
  rw[MX]
  unfold vC
  have e1:i64.wrap ((b.length:Int) - at_)=(b.length:Int) - at_:=ae (by omega) (by omega)
  have e3:i64.wrap ((most:Int) - 1)=(most:Int) - 1:=ae (by omega) (by omega)
  have e4:i64.wrap ((i:Int)+1)=((i+1:Nat):Int):=by rw[ae] <;> omega
  rw[aa (by simpa using h1),e1,e3,e4]
  by_cases hl:(b.length:Int) - at_≤i
  ·rw[aa (by simpa using hl),zI (by omega)]
   simp[bo]
  ·have hlt:at_+i<b.length:=by omega
   have e2:i64.wrap ((at_:Int)+i)=((at_+i:Nat):Int):=by rw[ae] <;> omega
   rw[af (by simpa using hl),e2,zE hlt]
   simp only[zG,aA hlt]
   rw[aa (by simp;omega)]
   generalize b[at_+i]=c
   have hnext:i+1<most→po k b at_ most top ((i+1:Nat):Int)=_:=fun h=>ih (i+1) h (by omega)
   have e5:at_+i+1=at_+(i+1):=by omega
   rw[← e5] at hnext
   simp only[bo]
   by_cases h3:i+1=most
   ·have h3':((i:Int) == (most:Int) - 1)=true:=by simp;omega
    rw[aa h3']
    by_cases h4:top<c
    ·simp[h3,h4]
    ·have h5:c<128:=by omega
     by_cases h6:c=0
     ·subst h6
      by_cases h7:0<i <;> simp[h3,h4,h7,cond_eq_ite]
     ·simp[h3,h4,h5,h6,cond_eq_ite]
   ·have h3':((i:Int) == (most:Int) - 1)=false:=by simp;omega
    rw[af h3']
    by_cases h5:c<128
    ·by_cases h6:c=0 <;> by_cases h7:0<i <;> simp[h3,h5,h6,h7,cond_eq_ite]
    ·rw[hnext (by omega)]
     simp[h3,h5,cond_eq_ite]
def Bk (a0:LI)(a1 a2 a3:Int):Option n6.Res:=bif decide (a1<0) then oR ((0,3,()),()) else bif decide ((↑a0.length:Int)<a1) then oR ((0,3,()),()) else (oS ((a0,(a1,(a2,(a3,(0,()))))),())).run fun y=>match y with | .ret ((),((x35,x36,()),()))=>(oR ((x35,x36,()),())) | .pan (.ret ((),((),())))=>(oR ((0,21,()),()))
theorem O9 (a0:LI)(a1 a2 a3:Int):Io.run tt KZ dr Af n6 Tryz.f144 ((a0,a1,a2,a3,()),())=Bk a0 a1 a2 a3:=by kernel_rfl
theorem LX:HcOk prog 144 (ah n6 Fl):=by
 refine bQ (cs:=D9) .nil (lp:=Af) (fn:=Tryz.f144) n6
  (.step (h0:=aD fB oS) (by kernel_rfl) (f9 (cs:=D9) .nil (lp:=Af) (fn:=Tryz.f144) (.done (by kernel_rfl)) fB oS ?_) (.done (by kernel_rfl))) Fl ?_
 ·rintro ⟨⟨(b:LI),(p:Int),(m:Int),(t:Int),(i:Int),⟨⟩⟩,⟨⟩⟩ y hw hy
  obtain ⟨hg,hy⟩:=Tr.guard hy
  simp only[zA,zB] at hg
  obtain ⟨h1,h2,h3,h4,h5,rfl⟩:=hg
  have h1:(0:Int)≤p:=h1
  have h2:p≤(b.length:Int):=h2
  have h3:(1:Int)≤m:=h3
  have h4:m≤(10:Int):=h4
  have h5:t<(128:Int):=h5
  obtain ⟨p,rfl⟩:=au h1
  obtain ⟨m,rfl⟩:=au (show 0≤m by omega)
  refine ⟨m+1,(Lc b p m t hw.1.1.1 (by omega) (by omega) h5 _ 0 (by omega) (by omega)).trans ?_⟩
  rw[← hy]
  simp only[Tr.val_ite,Tr.val_ret,zG,Nat.add_zero,zB]
  by_cases he:(bo m t (b.drop p) 0).2=0 <;> simp[he]
 ·rintro ⟨⟨(b:LI),(p:Int),(m:Int),(t:Int),⟨⟩⟩,⟨⟩⟩ out hw ho
  refine (O9 b p m t).trans ?_
  rw[← ho]
  unfold Bk Fl oS
  simp only[Tr.val_ite,Tr.val_ret,Tr.val_no,Tr.run_ite,Tr.run_ret,Tr.run_no,zA,Bool.or_eq_true,zB,cond_eq_ite]
  by_cases h1:p<0
  ·simp[h1]
  ·by_cases h2:(b.length:Int)<p
   ·simp[h1,h2]
   ·have h3:0≤p:=by omega
    have h4:p≤(b.length:Int):=by omega
    simp only[h1,h2,h3,h4,if_false,if_true,or_self,true_and,and_true]
theorem qk (n:Int):IntKind.wrap .u64 n=n % 18446744073709551616:=by simp[IntKind.wrap,IntKind.signed,IntKind.bits]
theorem oE (c:Int):∀l:LI,bc (l++[c])=bc l+128 ^ l.length*(c % 128)
 |[]=>by simp[bc]
 |x::l=>by
  simp only[List.cons_append,bc,oE c l,zN,Int.pow_succ]
  rw[Int.mul_add,Int.mul_comm (128 ^ l.length) 128,Int.mul_assoc]
  omega
theorem EO (b:LI)(p m:Nat)(h:p+m<b.length):(b.take (p+(m+1))).drop p=(b.take (p+m)).drop p++[b[p+m]]:=by
 rw[← Nat.add_assoc,List.take_succ_eq_append_getElem h,List.drop_append_of_le_length (by simp;omega)]
abbrev Rw:Sh:=.dat (.int .i32) false false
abbrev iE:Io:=⟨[dL,dI,dI],[],[],[dV],none⟩
def yM (d:iE.In):Tr iE.Res:=
 .ite (decide ((0:Int)≤d.1.2.1)&&(decide ((d.1.2.1:Int) - 1≤d.1.2.2.1)&&decide ((d.1.2.2.1:Int)<(d.1.1.length:Int))))
  (.ret (.ret ((bc ((d.1.1.take (d.1.2.2.1+1).toNat).drop d.1.2.1.toNat) % 18446744073709551616,()),()))) .no
abbrev uc:List (Nat×Hc):=[]
def Cb:Hd:=bG uc
abbrev di:Lo:=⟨⟨(.one (.hol (.sl 5 (Ty.int u8)))::.one hI::.any::bz (.one (.hol (.int u64))::.one hI::ai [])),[]⟩,[(.exit 0,⟨(.any::bz (bk (.one (.hol (.int u64))::.any::ai []))),[]⟩)]⟩
def jV (d:di.st.den):Tr (ap di.xs):=
 .ite (decide ((0:Int)≤d.1.2.1)&&(decide ((d.1.2.1:Int) - 1≤d.1.2.2.2.1)&&(decide ((d.1.2.2.2.1:Int)<(d.1.1.length:Int))&&decide (d.1.2.2.1=(0:Int)))))
  (.ret (.ret ((),((bc ((d.1.1.take (d.1.2.2.2.1+1).toNat).drop d.1.2.1.toNat) % 18446744073709551616,()),())))) .no
def pz:Lp:=bM [(4,aD di jV)]
def lb {R:Type}(h3:LI)(h4 h5 h6:Int)(next:LI→Int→Int→Int→Option R)(out:ap di.xs→Option R):Option R:=bif decide (h4≤h6) then bif decide (0≤h6)&&decide (h6<(↑h3.length:Int)) then next (h3) (h4) (u64.wrap (u64.wrap (h5*128)+u64.wrap (u8.wrap (Int.tmod (h3.getD h6.toNat 0) 128)))) (i64.wrap (h6 - 1)) else none else out (.ret ((),((h5,()),())))
def ot (n:Nat)(h3:LI)(h4 h5 h6:Int):Option (ap di.xs):=fJ tt Cb dr pz 0 Tryz.f146 (bP Tryz.f146 0) n (di.st.mk' ((h3,(h4,(h5,(h6,())))),())) (bt di.xs)
theorem vh (n:Nat)(h3:LI)(h4 h5 h6:Int):ot (n+1) h3 h4 h5 h6=lb h3 h4 h5 h6 (ot n) some:=by kernel_rfl
theorem En (b:LI)(p:Nat)(hb:b.length≤maxLen)(hc:∀c∈b,0≤c∧c≤255):∀(m k:Nat) (u:Int),p+m≤b.length→m<k→
  ot k b p (u % 18446744073709551616) ((p:Int)+m - 1)=some (.ret ((),(((u*128 ^ m+bc ((b.take (p+m)).drop p)) % 18446744073709551616,()),()))):=by
 rw[ba] at hb
 intro m
 induction m with
 |zero=>
  intro k u h1 h2
  obtain ⟨k,rfl⟩:∃m,k=m+1:=⟨k - 1,by omega⟩
  rw[vh]
  unfold lb
  rw[af (by simp;omega),zI (by simp;omega)]
  simp[bc]
 |succ m ih=>
  intro k u h1 h2
  obtain ⟨k,rfl⟩:∃m,k=m+1:=⟨k - 1,by omega⟩
  rw[vh]
  unfold lb
  have hlt:p+m<b.length:=by omega
  have e0:(p:Int)+((m+1:Nat):Int) - 1=((p+m:Nat):Int):=by omega
  have hbc:=hc b[p+m] (List.getElem_mem hlt)
  rw[e0,aa (by simp;omega),aa (by simp;omega)]
  simp only[zG,aA hlt]
  have e1:Int.tmod b[p+m] 128=b[p+m] % 128:=Int.tmod_eq_emod_of_nonneg hbc.1
  have e2:i64.wrap (((p+m:Nat):Int) - 1)=(p:Int)+m - 1:=by rw[ae] <;> omega
  rw[e1,e2,ql (n:=b[p+m] % 128) (by omega) (by omega),bY (n:=b[p+m] % 128) (by omega) (by omega),qk,qk]
  have e3:(u % 18446744073709551616*128 % 18446744073709551616+b[p+m] % 128) % 18446744073709551616=(u*128+b[p+m] % 128) % 18446744073709551616:=by omega
  rw[e3,ih k (u*128+b[p+m] % 128) (by omega) (by omega),EO b p m hlt,oE]
  have e4:((b.take (p+m)).drop p).length=m:=by simp;omega
  rw[e4,Int.pow_succ,Int.add_mul,Int.mul_assoc,Int.mul_comm 128 (128 ^ m),Int.mul_comm (b[p+m] % 128) (128 ^ m),Int.add_assoc,Int.add_comm (128 ^ m*(b[p+m] % 128))]
def tX (a0:LI)(a1 a2:Int):Option iE.Res:=(jV ((a0,(a1,(0,(a2,())))),())).run fun y=>match y with | .ret ((),((x12,()),()))=>(oR ((x12,()),()))
theorem I4 (a0:LI)(a1 a2:Int):Io.run tt Cb dr pz iE Tryz.f146 ((a0,a1,a2,()),())=tX a0 a1 a2:=by kernel_rfl
theorem CP:HcOk prog 146 (ah iE yM):=by
 refine bQ (cs:=uc) .nil (lp:=pz) (fn:=Tryz.f146) iE
  (.step (h0:=aD di jV) (by kernel_rfl) (f9 (cs:=uc) .nil (lp:=pz) (fn:=Tryz.f146) (.done (by kernel_rfl)) di jV ?_) (.done (by kernel_rfl))) yM ?_
 ·rintro ⟨⟨(b:LI),(p:Int),(u:Int),(i:Int),⟨⟩⟩,⟨⟩⟩ y hw hy
  obtain ⟨hg,hy⟩:=Tr.guard hy
  simp only[zA,zB] at hg
  obtain ⟨h1,h2,h3,rfl⟩:=hg
  have h1:(0:Int)≤p:=h1
  have h2:p - 1≤i:=h2
  have h3:i<(b.length:Int):=h3
  obtain ⟨p,rfl⟩:=au h1
  obtain ⟨m,rfl⟩:∃m:Nat,i=p+m - 1:=⟨(i+1 - p).toNat,by omega⟩
  have hc:∀c∈b,0≤c∧c≤255:=fun c hc=>Ef.1 (hw.1.1.2 c hc)
  refine ⟨m+1,(En b p hw.1.1.1 hc m (m+1) 0 (by omega) (by omega)).trans ?_⟩
  rw[← hy]
  have e:((p:Int)+m - 1+1).toNat=p+m:=by omega
  simp only[Tr.val_ret,e,zG,Int.zero_mul,Int.zero_add]
 ·rintro ⟨⟨(b:LI),(p:Int),(i:Int),⟨⟩⟩,⟨⟩⟩ out hw ho
  obtain ⟨hg,ho⟩:=Tr.guard ho
  cases ho
  refine (I4 b p i).trans ?_
  simp only[zA,zB] at hg
  unfold tX jV
  simp only[Tr.run_ite,Tr.run_ret,zA,zB]
  rw[if_pos ⟨hg.1,hg.2.1,hg.2.2,trivial⟩]
def ab (most:Nat)(top:Int)(b:LI)(p:Int):Int×Int×Int:=
 if p<0∨(b.length:Int)<p then (0,0,3)
 else if (bo most top (b.drop p.toNat) 0).2=0 then
  (bc ((b.drop p.toNat).take ((bo most top (b.drop p.toNat) 0).1+1).toNat) % 18446744073709551616,p+(bo most top (b.drop p.toNat) 0).1+1,0)
 else (0,0,(bo most top (b.drop p.toNat) 0).2)
theorem pU (m:Nat)(t:Int):∀(l:LI) (i:Nat),(bo m t l i).2=0→(i:Int)≤(bo m t l i).1∧(bo m t l i).1<i+l.length
 |[],i,h=>by simp[bo] at h
 |c::l,i,h=>by
  simp only[bo] at h ⊢
  split at h
  ·cases h
  ·rename_i h1
   rw[if_neg h1]
   split at h
   ·rename_i h2
    rw[if_pos h2]
    split at h
    ·cases h
    ·rename_i h3
     rw[if_neg h3]
     simp only[zN]
     omega
   ·rename_i h2
    rw[if_neg h2]
    have:=pU m t l (i+1) h
    simp only[zN]
    omega
abbrev iB:Io:=⟨[dL,dI],[],[],[QL,dI,dI],none⟩
def Fi (d:iB.In):Tr iB.Res:=
 .ite (decide ((ab 10 1 d.1.1 d.1.2.1).2.2=0)) (.ret (.ret ((al (ab 10 1 d.1.1 d.1.2.1).1,(ab 10 1 d.1.1 d.1.2.1).2.1,0,()),())))
  (.ret (.ret ((0,0,(ab 10 1 d.1.1 d.1.2.1).2.2,()),())))
abbrev D8:List (Nat×Hc):=[(144,ah n6 Fl),(146,ah iE yM),(145,ah nW JN)]
def PV:Hd:=bG D8
def Lj:Lp:=bM []
def Be (a0:LI)(a1:Int):Option iB.Res:=bif decide (a1<0) || decide ((↑a0.length:Int)<a1) then oR ((0,0,3,()),()) else bif decide ((bo (Int.toNat 10) 1 (List.drop a1.toNat a0) 0).2=0) then bif decide (0≤a1)&&(decide (a1 - 1≤a1+(bo (Int.toNat 10) 1 (List.drop a1.toNat a0) 0).1)&&decide (a1+(bo (Int.toNat 10) 1 (List.drop a1.toNat a0) 0).1<(↑a0.length:Int))) then oR ((al (bc (List.drop a1.toNat (List.take (Int.toNat (a1+(bo (Int.toNat 10) 1 (List.drop a1.toNat a0) 0).1+1)) a0)) % 18446744073709551616),i64.wrap (a1+(bo (Int.toNat 10) 1 (List.drop a1.toNat a0) 0).1+1),0,()),()) else none else bif (bo (Int.toNat 10) 1 (List.drop a1.toNat a0) 0).2 != 0 then oR ((0,0,(bo (Int.toNat 10) 1 (List.drop a1.toNat a0) 0).2,()),()) else bif decide (0≤a1)&&(decide (a1 - 1≤0)&&decide (0<(↑a0.length:Int))) then oR ((al (bc (List.drop a1.toNat (List.take (Int.toNat (0+1)) a0)) % 18446744073709551616),i64.wrap (0+1),0,()),()) else none
theorem O2 (a0:LI)(a1:Int):Io.run tt PV dr Lj iB Tryz.f113 ((a0,a1,()),())=Be a0 a1:=by kernel_rfl
theorem Qe:HcOk prog 113 (ah iB Fi):=by
 refine bQ (cs:=D8) (.cons LX (.cons CP (.cons LV .nil))) (lp:=Lj) (fn:=Tryz.f113) iB (.done (by kernel_rfl)) Fi ?_
 rintro ⟨⟨(b:LI),(p:Int),⟨⟩⟩,⟨⟩⟩ out hw ho
 refine (O2 b p).trans ?_
 rw[← ho]
 have hb:b.length≤maxLen:=hw.1.1.1
 rw[ba] at hb
 unfold Be Fi
 simp only[Tr.val_ite,Tr.val_ret,ab,zB,show Int.toNat 10=10 from rfl]
 by_cases h1:p<0∨(b.length:Int)<p
 ·rw[aa (by simpa using h1)]
  simp only[if_pos h1]
  rfl
 ·rw[af (by simpa using h1)]
  simp only[if_neg h1]
  by_cases h2:(bo 10 1 (b.drop p.toNat) 0).2=0
  ·have h3:=pU 10 1 (b.drop p.toNat) 0 h2
   rw[aa (by simpa using h2)]
   simp only[if_pos h2,if_true]
   simp only[List.length_drop] at h3
   generalize (bo 10 1 (b.drop p.toNat) 0).1=k at h3 ⊢
   have h4:0≤p:=by omega
   rw[aa (by simp;omega),ae (n:=p+k+1) (by omega) (by omega),List.drop_take,show (p+k+1).toNat - p.toNat=(k+1).toNat by omega]
  ·rw[af (by simpa using h2),aa (by simpa using h2)]
   simp only[if_neg h2]
abbrev cQ:Io:=⟨[dL,dI],[],[],[Rw,dI,dI],none⟩
def su (d:cQ.In):Tr cQ.Res:=
 .ite (decide ((ab 5 15 d.1.1 d.1.2.1).2.2=0)) (.ret (.ret ((IntKind.wrap .i32 (al (ab 5 15 d.1.1 d.1.2.1).1),(ab 5 15 d.1.1 d.1.2.1).2.1,0,()),())))
  (.ret (.ret ((0,0,(ab 5 15 d.1.1 d.1.2.1).2.2,()),())))
abbrev BI:List (Nat×Hc):=D8
def KU:Hd:=bG BI
def CF:Lp:=bM []
def tU (a0:LI)(a1:Int):Option cQ.Res:=bif decide (a1<0) || decide ((↑a0.length:Int)<a1) then oR ((0,0,3,()),()) else bif decide ((bo (Int.toNat 5) 15 (List.drop a1.toNat a0) 0).2=0) then bif decide (0≤a1)&&(decide (a1 - 1≤a1+(bo (Int.toNat 5) 15 (List.drop a1.toNat a0) 0).1)&&decide (a1+(bo (Int.toNat 5) 15 (List.drop a1.toNat a0) 0).1<(↑a0.length:Int))) then oR ((i32.wrap (al (bc (List.drop a1.toNat (List.take (Int.toNat (a1+(bo (Int.toNat 5) 15 (List.drop a1.toNat a0) 0).1+1)) a0)) % 18446744073709551616)),i64.wrap (a1+(bo (Int.toNat 5) 15 (List.drop a1.toNat a0) 0).1+1),0,()),()) else none else bif (bo (Int.toNat 5) 15 (List.drop a1.toNat a0) 0).2 != 0 then oR ((0,0,(bo (Int.toNat 5) 15 (List.drop a1.toNat a0) 0).2,()),()) else bif decide (0≤a1)&&(decide (a1 - 1≤0)&&decide (0<(↑a0.length:Int))) then oR ((i32.wrap (al (bc (List.drop a1.toNat (List.take (Int.toNat (0+1)) a0)) % 18446744073709551616)),i64.wrap (0+1),0,()),()) else none
theorem I0 (a0:LI)(a1:Int):Io.run tt KU dr CF cQ Tryz.f150 ((a0,a1,()),())=tU a0 a1:=by kernel_rfl
theorem LT:HcOk prog 150 (ah cQ su):=by
 refine bQ (cs:=BI) (.cons LX (.cons CP (.cons LV .nil))) (lp:=CF) (fn:=Tryz.f150) cQ (.done (by kernel_rfl)) su ?_
 rintro ⟨⟨(b:LI),(p:Int),⟨⟩⟩,⟨⟩⟩ out hw ho
 refine (I0 b p).trans ?_
 rw[← ho]
 have hb:b.length≤maxLen:=hw.1.1.1
 rw[ba] at hb
 unfold tU su
 simp only[Tr.val_ite,Tr.val_ret,ab,zB,show Int.toNat 5=5 from rfl]
 by_cases h1:p<0∨(b.length:Int)<p
 ·rw[aa (by simpa using h1)]
  simp only[if_pos h1]
  rfl
 ·rw[af (by simpa using h1)]
  simp only[if_neg h1]
  by_cases h2:(bo 5 15 (b.drop p.toNat) 0).2=0
  ·have h3:=pU 5 15 (b.drop p.toNat) 0 h2
   rw[aa (by simpa using h2)]
   simp only[if_pos h2,if_true]
   simp only[List.length_drop] at h3
   generalize (bo 5 15 (b.drop p.toNat) 0).1=k at h3 ⊢
   have h4:0≤p:=by omega
   rw[aa (by simp;omega),ae (n:=p+k+1) (by omega) (by omega),List.drop_take,show (p+k+1).toNat - p.toNat=(k+1).toNat by omega]
  ·rw[af (by simpa using h2),aa (by simpa using h2)]
   simp only[if_neg h2]
end
end Go.Proofs.YthpcdhgpplmneaaGreatDoor.Sym
