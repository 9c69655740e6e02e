/- Regions that may be carried out in several orders: one canonical order tells of all. -/
import Derived.OrdersHeld
import Derived.Recover
import Derived.Test.YtomeplopmndbgaaGreatProg
import Derived.Test.YtomeplopmndbgaaGreatRows
import Derived.WalkKit
import Derived.ProofKit
import Derived.OpenShut
import Derived.JoinedCond
import Derived.ChangeStays
import Derived.DataReads
import Derived.Lib.SliceRun
import Derived.Test.YtomeplopmndbgaaGreatQ2

namespace Go.Proofs.YtomeplopmndbgaaGreat.Sym
open Go
set_option linter.unusedSimpArgs false
set_option linter.unusedVariables false
section
variable {P:Program} {ops:Array Oper} {Q:Exit→Act→World→Prop} {md:Region.Mode} {T:List Nat} {S0:World→Prop}
def Ro (T:List Nat)(S0:World→Prop)(listed:Array Bool)(w:World):Prop:=(∀j∈T,listed.getD j false=false)→S0 w
def wpAnyL (P:Program)(md:Region.Mode)(ops:Array Oper)(Q:Exit→Act→World→Prop)(T:List Nat)(S0:World→Prop):Nat→Array Bool→Act→World→Prop
 |0,listed,a,w=>Region.ready md ops listed=[]∧Q .normal a w
 |n+1,listed,a,w=>(Region.ready md ops listed=[]→Q .normal a w)∧
  ∀i∈Region.ready md ops listed,wpOp P ops Q i (fun a' w'=>Ro T S0 (listed.setIfInBounds i true) w'∧wpAnyL P md ops Q T S0 n (listed.setIfInBounds i true) a' w') a w
theorem wpAnyL.any:∀(n:Nat) {listed:Array Bool} {a:Act} {w:World},wpAnyL P md ops Q T S0 n listed a w→wpAny P md ops Q n listed a w
 |0,_,_,_,h=>h
 |n+1,_,_,_,h=>⟨h.1,fun i hi=>wpOp_mono (fun _ _ h'=>wpAnyL.any n h'.2) (h.2 i hi)⟩
theorem wpAnyL.weaken {S1:World→Prop}(hS:∀w,S0 w→S1 w):∀(n:Nat) {listed:Array Bool} {a:Act} {w:World},wpAnyL P md ops Q T S0 n listed a w→wpAnyL P md ops Q T S1 n listed a w
 |0,_,_,_,h=>h
 |n+1,_,_,_,h=>⟨h.1,fun i hi=>wpOp_mono (fun _ _ h'=>⟨fun ht=>hS _ (h'.1 ht),wpAnyL.weaken hS n h'.2⟩) (h.2 i hi)⟩
theorem wpAnyL.first {i:Nat}{oi:Oper}{v:Value}(hi:ops[i]?=some oi)(hsel:∀(j:Nat) (o:Oper) cs b,ops[j]?=some o→o.op≠.select cs b)
  (hQ:∀c a w,Q (.panic c) (a.put oi.dst v) w→Q (.panic c) a w) {Z:List Nat} (hTZ:∀j∈T,j∈Z) (hZ:∀j∈Z,j≠i∧∀oj,ops[j]?=some oj→∃e∈oj.after,Region.binds md e=true∧(e.on=i∨e.on∈Z)):
  ∀(n:Nat) (listed:Array Bool) (a:Act) (w:World),
   (∀j oj,ops[j]?=some oj→j≠i→listed.getD j true=false→(∀e∈oj.after,Region.binds md e=true→e.on≠i)→oi.apart ops oj=true)→
   i∈Region.ready md ops listed→YieldsIf P ops S0 oi v a→S0 w→(∀j∈Z,listed.getD j false=false)→
   wpAnyL P md ops Q T S0 n (listed.setIfInBounds i true) (a.put oi.dst v) w→wpAnyL P md ops Q T S0 (n+1) listed a w:=by
 intro n
 induction n with
 |zero=>
  intro listed a w _ hr hy hS hno h
  refine ⟨fun e=>(by rw[e] at hr;cases hr),fun j hj=>?_⟩
  by_cases hji:j=i
  ·subst hji;exact hy.wpOp hi hS ⟨fun _=>hS,h⟩
  ·have:=ready_mono hj hji
   rw[h.1] at this
   cases this
 |succ n ih=>
  intro listed a w hfree hr hy hS hno h
  refine ⟨fun e=>(by rw[e] at hr;cases hr),fun j hj=>?_⟩
  by_cases hji:j=i
  ·subst hji;exact hy.wpOp hi hS ⟨fun _=>hS,h⟩
  ·have h1:=h.2 j (ready_mono hj hji)
   obtain ⟨hjun,oj,hoj,hall⟩:=mem_ready.1 hj
   have hnot:∀e∈oj.after,Region.binds md e=true→e.on≠i:=fun e he hb heq=>by
    have h2:=hall e he hb
    have h0:=(mem_ready.1 hr).1
    rw[heq] at h2
    rcases Nat.lt_or_ge i listed.size with h' | h'
    ·simp[h'] at h0 h2;rw[h0] at h2;cases h2
    ·simp[Array.getElem?_eq_none h'] at h2
   have hjZ:j ∉ Z:=fun hin=>by
    obtain ⟨e,he,hb,heq⟩:=(hZ j hin).2 oj hoj
    rcases heq with heq | heq
    ·exact hnot e he hb heq
    ·have h2:=hall e he hb
     have h0:=hno e.on heq
     rw[Array.getD_eq_getD_getElem?] at h0
     rcases Nat.lt_or_ge e.on listed.size with h' | h'
     ·simp[h'] at h0 h2;rw[h0] at h2;cases h2
     ·simp[Array.getElem?_eq_none h'] at h2
   have h2:=wpOp_putIf hoj (hfree j oj hoj hji hjun hnot) (fun cs b=>hsel i oi cs b hi) (fun cs b=>hsel j oj cs b hoj) hQ hy h1
   have hfree':∀k ok,ops[k]?=some ok→k≠i→(listed.setIfInBounds j true).getD k true=false→
     (∀e∈ok.after,Region.binds md e=true→e.on≠i)→oi.apart ops ok=true:=fun k ok hk hki hun hno=>by
    refine hfree k ok hk hki ?_ hno
    by_cases hjk:j=k
    ·subst hjk;exact hjun
    ·rw[getD_set_ne true hjk] at hun;exact hun
   have hno':∀k∈Z,(listed.setIfInBounds j true).getD k false=false:=fun k hk=>by
    rw[getD_set_ne false (fun e=>hjZ (by rw[e];exact hk))];exact hno k hk
   refine wpOp_mono (fun a' w' h3=>?_) h2
   have hs:S0 w':=h3.2.1 fun k hk=>by
    rw[getD_set_ne false (fun e=>hjZ (by rw[e];exact hTZ k hk)),getD_set_ne false (Ne.symm (hZ k (hTZ k hk)).1)];exact hno k (hTZ k hk)
   refine ⟨fun _=>hs,ih (listed.setIfInBounds j true) a' w' hfree' (ready_mono hr (Ne.symm hji)) h3.1 hs hno' ?_⟩
   rw[Array.setIfInBounds_comm _ _ hji]
   exact h3.2.2
theorem Oper.wp_monoQ {o:Oper}{a:Act}{w:World}{K:Act→World→Prop}{Q':Exit→Act→World→Prop}(h:∀e a w,Q e a w→Q' e a w)(hh:o.wp P a w K Q):o.wp P a w K Q':=by
 unfold Oper.wp at *
 generalize (execOp a.eval o).run P w=r at *
 cases r with
 |ok n w'=>
  cases n <;> simp only[Oper.upon] at hh ⊢ <;>
   first
    |exact hh
    |exact h _ _ _ hh
    |exact Calls.mono hh (fun e w'' he=>by cases e <;> first | exact he | (obtain ⟨a0,w0,h0⟩:=he;exact ⟨a0,w0,h _ _ _ h0⟩) | exact h _ _ _ he)
    |exact Rows.mono hh (fun _ _ he=>he)
 |halt x w'=>cases x <;> simp only[Oper.upon] at hh ⊢ <;> first | exact hh | exact h _ _ _ hh
theorem IE {i:Nat}{K:Act→World→Prop}{Q':Exit→Act→World→Prop}(h:∀e a w,Q e a w→Q' e a w){a:Act}{w:World}(hh:wpOp P ops Q i K a w):wpOp P ops Q' i K a w:=by
 unfold wpOp at *
 split
 ·rename_i ho
  simpa only [ho] using hh
 ·rename_i o ho
  simp only[ho] at hh
  split
  ·rename_i hw
   simp only[hw,if_true] at hh
   rcases hh with hh | ⟨h1,a0,w0,h2⟩
   ·exact .inl (Oper.wp_monoQ h hh)
   ·exact .inr ⟨h1,a0,w0,h _ _ _ h2⟩
  ·rename_i hw
   simpa [hw] using hh
theorem uJ {Q':Exit→Act→World→Prop}(h:∀e a w,Q e a w→Q' e a w):∀(n:Nat) {listed:Array Bool} {a:Act} {w:World},wpAny P md ops Q n listed a w→wpAny P md ops Q' n listed a w
 |0,_,_,_,hh=>⟨hh.1,h _ _ _ hh.2⟩
 |n+1,_,_,_,hh=>⟨fun e=>h _ _ _ (hh.1 e),fun i hi=>IE h (wpOp_mono (fun _ _ h'=>uJ h n h') (hh.2 i hi))⟩
def WF (ops:Array Oper)(a a':Act):Prop:=
 a'.defers=a.defers∧a'.tmps.size=a.tmps.size∧∀t,(∀(j:Nat) (oj:Oper),ops[j]?=some oj→oj.dst≠some t)→a'.tmps[t]?=a.tmps[t]?
def Qh (ops:Array Oper)(Q:Exit→Act→World→Prop):Exit→Act→World→Prop
 |.panic c,a,w=>∀a',WF ops a a'→Q (.panic c) a' w
 |e,a,w=>Q e a w
theorem Qh.of {e:Exit}{a:Act}{w:World}(h:Qh ops Q e a w):Q e a w:=by
 cases e <;> first | exact h | exact h a ⟨rfl,rfl,fun _ _=>rfl⟩
theorem Qh.put {i:Nat}{oi:Oper}(hi:ops[i]?=some oi)(v:Value)(c:List PanicEntry)(a:Act)(w:World)(h:Qh ops Q (.panic c) (a.put oi.dst v) w):Qh ops Q (.panic c) a w:=by
 intro a' ⟨h1,h2,h3⟩
 refine h a' ⟨h1.trans (Act.put_defers' _ _ _).symm,?_,fun t ht=>?_⟩
 ·rw[h2];cases oi.dst <;> simp[Act.put]
 ·rw[h3 t ht]
  cases hd:oi.dst with
  |none=>rfl
  |some d=>
   have:d≠t:=by rintro rfl;exact ht i oi hi hd
   simp[Act.put,Array.getElem?_setIfInBounds_ne this]
end
theorem EB {ops:Array Oper}{j t:Nat}{oj:Oper}(hj:ops[j]?=some oj)(hd:oj.dst=some t):(jn ops).testBit t=true:=by
 unfold jn
 have hm:oj∈ops.toList:=List.mem_of_getElem? (by simpa using hj)
 generalize ops.toList=l at hm
 have mono:∀(l:List Oper) (m:Nat),m.testBit t=true→(l.foldl (fun m o=>match o.dst with | some d=>m ||| 2 ^ d | none=>m) m).testBit t=true:=by
  intro l
  induction l with
  |nil=>intro m h;exact h
  |cons o l ih=>
   intro m h
   rw[List.foldl_cons]
   refine ih _ ?_
   split
   ·rw[Nat.testBit_or,h];rfl
   ·exact h
 generalize 0=m
 induction l generalizing m with
 |nil=>cases hm
 |cons o l ih=>
  rw[List.foldl_cons]
  rcases List.mem_cons.1 hm with rfl | hm
  ·refine mono l _ ?_
   rw[hd]
   simp only
   rw[Nat.testBit_or,Nat.testBit_two_pow_self,Bool.or_true]
  ·exact ih hm _
theorem ui {G:Gh}{w:World}(m:Nat):∀(i:Nat) {vs:List V} {us us':List Value},All2 (Rv G w) vs us→us'.length=us.length→(∀t,m.testBit (i+t)=false→us'[t]?=us[t]?)→All2 (Rv G w) (uh m i vs) us'
 |_,[],[],[],_,_,_=>trivial
 |i,v::vs,u::us,u'::us',h,hl,ht=>by
  refine ⟨?_,ui m (i+1) h.2 (by simpa using hl) fun t h'=>?_⟩
  ·cases hb:m.testBit i with
   |true=>trivial
   |false=>
    have:=ht 0 (by simpa using hb)
    simp only[List.getElem?_cons_zero,Option.some.injEq] at this
    rw[this];exact h.1
  ·have:=ht (t+1) (by rw[← h'];congr 1;omega)
   simpa using this
 |_,[],_::_,_,h,_,_=>h.elim
 |_,_::_,[],_,h,_,_=>h.elim
 |_,[],[],_::_,_,hl,_=>by simp at hl
 |_,_::_,_::_,[],_,hl,_=>by simp at hl
theorem Rel.mask {F:Fra}{G:Gh}{A:AS}{a a':Act}{cst:List (Array Value)}{w:World}(R:Rel F G A a.tmps cst w){ops:Array Oper}(hn:WF ops a a'):
  Rel F G { A with tm:=uh (jn ops) 0 A.tm } a'.tmps cst w:=
 ⟨ui _ 0 R.tm (by simpa using hn.2.1) fun t ht=>by
  have:=hn.2.2 t fun j oj hj hd=>by rw[Nat.zero_add,EB hj hd] at ht;cases ht
  simpa using this,R.stk,R.ob,R.gh⟩
def va (ops:Array Oper)(i:Nat)(Z:List Nat)(j:Nat):List Nat:=match ops[j]? with
 |some o=>bif o.after.any fun e=>Region.binds .any e&&(e.on == i || Z.any (· == e.on)) then j::Z else Z
 |none=>Z
def sy (ops:Array Oper)(i:Nat):List Nat:=(List.range ops.size).foldl (va ops i) []
def Di (ops:Array Oper)(j i:Nat):Bool:=(sy ops i).any (· == j)
def vo (ops:Array Oper)(T:List Nat)(listed:Array Bool)(i:Nat):Bool:=
 Region.free .any ops listed i&&((Region.ready .any ops listed).contains i&&((T.all fun j=>Di ops j i)&&(sy ops i).all fun j=>!(j == i)&&!listed.getD j false))
theorem tW (ops:Array Oper)(i:Nat):∀j∈sy ops i,∀oj,ops[j]?=some oj→∃e∈oj.after,Region.binds .any e=true∧(e.on=i∨e.on∈sy ops i):=by
 have key:∀(l Z:List Nat),(∀j∈Z,∀oj,ops[j]?=some oj→∃e∈oj.after,Region.binds .any e=true∧(e.on=i∨e.on∈Z))→
   ∀j∈l.foldl (va ops i) Z,∀oj,ops[j]?=some oj→∃e∈oj.after,Region.binds .any e=true∧(e.on=i∨e.on∈l.foldl (va ops i) Z):=by
  intro l
  induction l with
  |nil=>intro Z h;exact h
  |cons k l ih=>
   intro Z h
   rw[List.foldl_cons]
   refine ih _ fun j hj oj hoj=>?_
   unfold va at hj ⊢
   cases hk:ops[k]? with
   |none=>rw[hk] at hj;exact h j hj oj hoj
   |some o=>
    rw[hk] at hj
    simp only at hj ⊢
    cases hc:o.after.any fun e=>Region.binds .any e&&(e.on == i || Z.any (· == e.on)) with
    |false=>rw[hc] at hj;exact h j hj oj hoj
    |true=>
     rw[hc] at hj
     simp only[cond_true] at hj ⊢
     rcases List.mem_cons.1 hj with rfl | hj
     ·rw[hk] at hoj;cases hoj
      obtain ⟨e,he,hb⟩:=Array.any_eq_true'.1 hc
      simp only[Bool.and_eq_true,Bool.or_eq_true,beq_iff_eq,List.any_eq_true,exists_eq_right] at hb
      exact ⟨e,he,hb.1,hb.2.imp id fun h=>List.mem_cons_of_mem _ h⟩
     ·obtain ⟨e,he,hb,h2⟩:=h j hj oj hoj
      exact ⟨e,he,hb,h2.imp id fun h=>List.mem_cons_of_mem _ h⟩
 exact key _ [] fun j hj=>by cases hj
def CZ (ops:Array Oper)(listed:Array Bool)(i:Nat):Bool:=match Region.ready .any ops listed with
 |[j]=>j == i
 |_=>false
def CT (tt:TT)(ops:Array Oper)(i:Nat):Bool:=match ops[i]? with
 |some o=>!wK tt o.op
 |none=>false
def gS:List (Nat×Nat)→List Nat
 |[]=>[]
 |(i,m)::is=>bif Nat.beq m 4 then i::gS is else gS is
def qV (l:Array Bool):List Nat→Array Bool
 |[]=>l
 |j::js=>qV (l.setIfInBounds j true) js
def oQ (ops:Array Oper)(j:Nat):Bool:=match ops[j]? with
 |some o=>(match o.op with | .alloc _=>true | _=>false)&&(o.after.isEmpty&&(o.guard.isNone&&(match o.dst with
  |some d=>(List.range ops.size).all fun k=>k == j || (match ops[k]? with | some o'=>!(o'.dst == some d) | none=>true)
  |none=>false)))
 |none=>false
def lg (ops:Array Oper)(l0:Array Bool)(pf:List Nat):Bool:=pf.all fun j=>oQ ops j&&!l0.getD j true
def Uo (ops:Array Oper)(l0:Array Bool)(pf:List Nat)(i:Nat):Bool:=(Region.ready .any ops l0).contains i&&(Region.ready .any ops (qV l0 pf)).all (· == i)
def K3:Op→Bool
 |.pick ..=>true
 |_=>false
def CS (ops:Array Oper)(i:Nat):Bool:=match ops[i]? with
 |some o=>K3 o.op
 |none=>false
def p8 (tt:TT)(ops:Array Oper)(T:List Nat):Bool→Array Bool→List (Nat×Nat)→Bool
 |_,listed,[]=>(Region.ready .any ops listed).isEmpty
 |ph,listed,(i,m)::is=>match m with
  |0=>vo ops T listed i&&CT tt ops i&&(!(gS is).contains i&&lg ops listed (gS is))&&p8 tt ops T ph (listed.setIfInBounds i true) is
  |1=>vo ops T listed i&&ph&&(!(gS is).contains i&&lg ops listed (gS is))&&p8 tt ops T ph (listed.setIfInBounds i true) is
  |2=>CZ ops listed i&&T.all (fun j=>!(j == i))&&(gS is).isEmpty&&p8 tt ops T (ph&&CS ops i) (listed.setIfInBounds i true) is
  |n+3=>bif Nat.beq n 1 then (!(gS is).contains i&&lg ops listed (i::gS is))&&(Region.ready .any ops (qV listed (gS is))).all (· == i)&&p8 tt ops T false (listed.setIfInBounds i true) is
   else bif Nat.beq n 3 then Uo ops listed (gS is) i&&T.all (fun j=>!(j == i))&&(!(gS is).contains i&&lg ops listed (gS is))&&p8 tt ops T false (listed.setIfInBounds i true) is
   else CZ ops listed i&&(T.any (· == i)&&decide (i<listed.size))&&(gS is).isEmpty&&p8 tt ops T false (listed.setIfInBounds i true) is
section
variable {P:Program} {tt:TT} {ops:Array Oper} {T:List Nat}
theorem Qh.post {R:Type}{F:Fra}{G':Gh}{A':AS}{a':Act}{cst:List (Array Value)}{w':World}{r:R}{K:Ex→AS→Option R}{Q:Exit→Act→World→Prop}{dfs:List Deferred}(hK:yF F cst dfs r K Q)
  (R':Rel F G' A' a'.tmps cst w') (hd:a'.defers=dfs) {v:V} (hk:K (.panic v) { A' with tm:=uh (jn ops) 0 A'.tm }=some r) (u:Value) (hu:Rv G' w' v u):
  Qh ops Q (.panic [{ v:=u,recovered:=false }]) a' w':=by
 intro a'' hn
 exact hK (.panic v) _ G' a'' w' (R'.mask hn) (hn.1.trans hd) hk u hu
structure Hold (G0:Gh) (w0:World) (hid:List Nat) (G:Gh) (w:World):Prop where
 sub:∀b o,G0.S b o→G.S b o
 mu:∀key∈hid,∀b,G0.mu key=some b→G.mu key=some b
 agr:Agr (·∈hid) G0 w0 w
theorem Hold.step {G0 G G':Gh}{w0 w w':World}{hid:List Nat}(h:Hold G0 w0 hid G w)(u:UntH G hid w G' w'):Hold G0 w0 hid G' w' where
 sub:=fun b o hs=>(u.1 b o (h.sub b o hs)).1
 mu:=fun key hk b hb=>(u.2 key hk b (h.mu key hk b hb)).1
 agr:=⟨fun b o hs=>(u.1 b o (h.sub b o hs)).2.trans (h.agr.1 b o hs),fun key b hk hb=>(u.2 key hk b (h.mu key hk b hb)).2.trans (h.agr.2 key b hk hb)⟩
theorem ze:∀(X:List Nat) (l:Array Bool) (k:Nat),k ∉ X→(qV l X)[k]?=l[k]?
 |[],_,_,_=>rfl
 |j::js,l,k,h=>by
  rw[qV,ze js _ k (fun e=>h (List.mem_cons_of_mem _ e)),Array.getElem?_setIfInBounds_ne]
  exact fun e=>h (e▸List.mem_cons_self)
theorem p6:∀(X:List Nat) (l:Array Bool) (k:Nat),l.getD k false=true→(qV l X).getD k false=true
 |[],_,_,h=>h
 |j::js,l,k,h=>p6 js _ k (getD_set_true h)
theorem zf:∀(X:List Nat) (l:Array Bool) (k:Nat),k∈X→k<l.size→(qV l X).getD k false=true
 |j::js,l,k,h,hk=>by
  rw[qV]
  rcases List.mem_cons.1 h with rfl | h
  ·exact p6 js _ _ (by simp[hk])
  ·exact zf js _ k h (by simpa using hk)
theorem CR:∀is:List (Nat×Nat),(gS is).length≤is.length
 |[]=>Nat.le_refl _
 |(i,m)::is=>by
  rw[gS]
  cases Nat.beq m 4 with
  |true=>have:=CR is;simp only[cond_true,List.length_cons];omega
  |false=>have:=CR is;simp only[cond_false,List.length_cons];omega
theorem mt:∀(is:List (Nat×Nat)) {j d:Nat} {o:Oper},j∈gS is→ops[j]?=some o→o.dst=some d→d∈wy ops is
 |[],_,_,_,hj,_,_=>by simp[gS] at hj
 |(i,m)::is,j,d,o,hj,ho,hd=>by
  rw[gS] at hj
  rw[wy]
  cases hm:Nat.beq m 4 with
  |true=>
   rw[hm] at hj
   simp only[cond_true] at hj ⊢
   rcases List.mem_cons.1 hj with rfl | hj
   ·rw[ho,Option.bind_some,hd];simp
   ·have:=mt is hj ho hd
    split
    ·exact List.mem_cons_of_mem _ this
    ·exact this
  |false=>rw[hm] at hj;exact mt is hj ho hd
theorem qW {tt:TT}{kb:Nat}:∀(is:List (Nat×Nat)),GQ tt ops is=true→∀{j:Nat},j∈gS is→∀o t d,ops[j]?=some o→o.op=.alloc t→o.dst=some d→∀z,∃A',Rj tt kb z o.dst o.op=some (true,A')
 |[],_,j,hj=>by simp[gS] at hj
 |(i,m)::is,h,j,hj=>by
  intro o t d ho hop hd z
  rw[gS] at hj
  rw[GQ] at h
  simp only[Bool.and_eq_true] at h
  cases hm:Nat.beq m 4 with
  |true=>
   rw[hm] at hj h
   simp only[cond_true] at hj h
   rcases List.mem_cons.1 hj with rfl | hj
   ·have h1:=h.1
    rw[ho] at h1
    simp only[hop] at h1
    rw[hop,hd]
    simp only[Rj]
    rw[h1]
    exact ⟨_,rfl⟩
   ·exact qW is h.2 hj o t d ho hop hd z
  |false=>rw[hm] at hj;exact qW is h.2 hj o t d ho hop hd z
theorem jo {j:Nat}(h:oQ ops j=true):∃o t d,ops[j]?=some o∧o.op=.alloc t∧o.after = #[]∧o.guard=none∧o.dst=some d∧∀k o',k≠j→ops[k]?=some o'→o'.dst≠some d:=by
 unfold oQ at h
 split at h
 ·rename_i o ho
  simp only[Bool.and_eq_true] at h
  obtain ⟨h1,h2,h3,h4⟩:=h
  split at h1
  ·rename_i t ht
   split at h4
   ·rename_i d hd
    refine ⟨o,t,d,ho,ht,by simpa using h2,by simpa using h3,hd,fun k o' hk hk'=>?_⟩
    simp only[List.all_eq_true,List.mem_range,Bool.or_eq_true,beq_iff_eq] at h4
    have:=(h4 k (Array.getElem?_eq_some_iff.1 hk').1).resolve_left hk
    rw[hk'] at this
    simpa using this
   ·cases h4
  ·cases h1
 ·cases h
theorem cI {l0:Array Bool}{pf:List Nat}(h:lg ops l0 pf=true):∀j∈pf,oQ ops j=true∧l0.getD j true=false:=by
 intro j hj
 have:=List.all_eq_true.1 h j hj
 simpa using this
theorem V.map_noKey {v:V}{k:Nat}(h:v.hasKey k=false):v.map (C.noKey k)=v:=by
 have hl:∀cs:List C,cs.any (·.hasKey k)=false→cs.map (C.noKey k)=cs:=fun cs h=>by
  conv=>rhs;rw[← List.map_id cs]
  refine List.map_congr_left fun c hc=>?_
  have:=List.any_eq_false.1 h c hc
  simp[C.noKey,this]
 cases v with
 |one c=>simp only[V.map];simp only[V.hasKey] at h;simp[C.noKey,h]
 |agg cs=>simp only[V.map];rw[hl cs h]
 |tup ps=>
  simp only[V.map]
  congr 1
  conv=>rhs;rw[← List.map_id ps]
  refine List.map_congr_left fun p hp=>?_
  have:=List.any_eq_false.1 h p hp
  rw[hl p.2 (by simpa using this)];rfl
 |any=>rfl
theorem AS.map_noKey {A:AS}{k:Nat}(h:A.uses k=false):A.map (C.noKey k)=A:=by
 unfold AS.uses at h
 simp only[Bool.or_eq_false_iff] at h
 obtain ⟨⟨h1,h2⟩,h3⟩:=h
 obtain ⟨tm,stk,ob⟩:=A
 have ht:∀vs:List V,(∀v∈vs,v.map (C.noKey k)=v)→vs.map (V.map (C.noKey k))=vs:=fun vs h=>by
  conv=>rhs;rw[← List.map_id vs]
  exact List.map_congr_left h
 simp only[AS.map]
 congr 1
 ·exact ht tm fun v hv=>V.map_noKey (by have:=List.any_eq_false.1 h1 v hv;simpa using this)
 ·conv=>rhs;rw[← List.map_id stk]
  refine List.map_congr_left fun vs hvs=>?_
  have:=List.any_eq_false.1 h2 vs hvs
  exact ht vs fun v hv=>V.map_noKey (by
   have h':vs.any (·.hasKey k)=false:=by simpa using this
   have:=List.any_eq_false.1 h' v hv;simpa using this)
 ·conv=>rhs;rw[← List.map_id ob]
  refine List.map_congr_left fun o ho=>?_
  have:=List.any_eq_false.1 h3 o ho
  cases o with
  |none=>rfl
  |some cs=>
   have h':cs.any (·.hasKey k)=false:=by simpa using this
   simp only[Option.map_some,id]
   congr 1
   conv=>rhs;rw[← List.map_id cs]
   refine List.map_congr_left fun c hc=>?_
   have:=List.any_eq_false.1 h' c hc
   simp[C.noKey,this]
theorem Rc.noKey' {G:Gh}{w:World}{c:C}{v:Value}(k:Nat)(h:Rc G w c v):Rc G w (c.noKey k) v:=by
 unfold C.noKey
 split
 ·exact h.cell
 ·exact h
theorem Rel.forgetO {F:Fra}{G:Gh}{A:AS}{ts:Array Value}{cst:List (Array Value)}{w:World}(R:Rel F G A ts cst w)(k:Nat):Rel F G (A.forgetO k) ts cst w:=by
 have R':=R.map (f:=C.noKey k) (fun c v h=>h.noKey' k) (lG k) (fun _ _ h=>⟨h,rfl⟩) R.gh
 refine ⟨R'.tm,R'.stk,fun j cs hj=>?_,R.gh⟩
 simp only[AS.forgetO,List.getElem?_set] at hj
 split at hj
 ·split at hj <;> cases hj
 ·exact R'.ob j cs hj
theorem Rel.anyT {F:Fra}{G:Gh}{A:AS}{ts:Array Value}{cst:List (Array Value)}{w:World}(R:Rel F G A ts cst w)(d:Nat):Rel F G (A.put (some d) .any) ts cst w:=
 ⟨R.tm.set_left d fun _ _=>trivial,R.stk,R.ob,R.gh⟩
theorem Rel.clean {F:Fra}{G:Gh}{ts:Array Value}{cst:List (Array Value)}{w:World}{kb:Nat}:∀(ds:List Nat) {A:AS},Rel F G A ts cst w→Rel F G (kY kb ds A) ts cst w
 |[],_,R=>R
 |d::ds,_,R=>Rel.clean ds ((R.forgetO (kb+d)).anyT d)
theorem All2.set_right {α β:Type}{R:α→β→Prop}:∀{xs:List α} {ys:List β} (n:Nat) {b:β},All2 R xs ys→(∀a,xs[n]?=some a→R a b)→All2 R xs (ys.set n b)
 |[],[],_,_,_,_=>by simp[All2]
 |_::_,_::_,0,_,h,h'=>⟨h' _ rfl,h.2⟩
 |_::_,_::_,n+1,_,h,h'=>⟨h.1,All2.set_right n h.2 fun b hb=>h' b (by simpa using hb)⟩
 |[],_::_,_,_,h,_=>h.elim
 |_::_,[],_,_,h,_=>h.elim
theorem Rel.newFl {F:Fra}{G:Gh}{A:AS}{ts:Array Value}{cst:List (Array Value)}{w w':World}{kb d:Nat}(R:Rel F G A ts cst w)(g:Grew w w')(hk0:F.mu0 (kb+d)=none)(hc:mZ kb A d=true)(u:Value):
  Rel F (G.newOb (kb+d) w.heap.size) A (ts.setIfInBounds d u) cst w':=by
 unfold mZ at hc
 simp only[Bool.and_eq_true,Bool.not_eq_true'] at hc
 obtain ⟨h1,h2,h3⟩:=hc
 have e:=AS.map_noKey h1
 have go:=Goes.newOb R.gh g (kb+d)
 have hf:∀c v,Rc G w c v→Rc (G.newOb (kb+d) w.heap.size) w' (c.noKey (kb+d)) v:=fun c v h=>h.noKey go
 have ht:All2 (Rv (G.newOb (kb+d) w.heap.size) w') (A.map (C.noKey (kb+d))).tm ts.toList:=R.tm.map_left _ fun a b h=>Rv.map hf h
 have hs:All2 (fun vs (t:Array Value)=>All2 (Rv (G.newOb (kb+d) w.heap.size) w') vs t.toList) (A.map (C.noKey (kb+d))).stk cst:=R.stk.map_left _ fun a b h=>h.map_left _ fun a b h=>Rv.map hf h
 rw[e] at ht hs
 refine ⟨?_,hs,fun k cs hk=>?_,R.gh.newOb g (kb+d) hk0⟩
 ·rw[Array.toList_setIfInBounds]
  refine ht.set_right d fun v hv=>?_
  rw[hv] at h2
  cases v <;> first | trivial | cases h2
 ·have hne:k≠kb+d:=by rintro rfl;rw[hk] at h3;cases h3
  have hk':(A.map (C.noKey (kb+d))).ob[k]?=some (some cs):=by rw[e];exact hk
  obtain ⟨cs0,h0,rfl⟩:=AS.map_ob hk'
  obtain ⟨b,o',hm,hh',hr'⟩:=R.ob k cs0 h0
  exact ⟨b,o',by simp[Gh.newOb,hne,hm],(g.old b (R.gh.mu k b hm).2.2).trans hh',hr'.map hf (lG _)⟩
theorem xG (htt:ej P tt){o:Oper}{t d kb:Nat}{A A':AS}{chk:Bool}(ho:o.op=.alloc t)(hd:o.dst=some d)(h:Rj tt kb A o.dst o.op=some (chk,A'))(a:Act)(w:World):
  ∃cur:Array Value,(execOp a.eval o).run P w=.ok (.value (.pointer (some ⟨w.heap.size,0,none⟩))) (w.alloc (.cells cur t))∧cur.toList=(tt.at t).zero∧(tt.at t).zero.all Value.oneCell'=true∧
   A'=(A.newOb (kb+d) (kz tt (df (kb+d) 0) t)).put (some d) (.one (.ptr (kb+d) 0)):=by
 rw[ho,hd] at h
 simp only[Rj] at h
 cases hz:(yR tt t).isSome&&(tt.at t).zero.all Value.oneCell' with
 |false=>rw[hz] at h;cases h
 |true=>
  rw[hz] at h
  simp only[cond_true,Option.some.injEq,Prod.mk.injEq] at h
  obtain ⟨_,rfl⟩:=h
  simp only[Bool.and_eq_true] at hz
  obtain ⟨n,hn⟩:=Option.isSome_iff_exists.1 hz.1
  obtain ⟨hT,_⟩:=ky htt hn
  obtain ⟨z,hzr,hzc,_⟩:=hT.zero w
  refine ⟨z.cells,?_,hzc,hz.2,rfl⟩
  obtain ⟨dst,op,type,pos,after,guard⟩:=o
  simp only at ho hd
  subst ho
  simp[execOp,Instr.alloc,hzr,newVar,kj]
def FlDone (tt:TT)(ops:Array Oper)(kb j:Nat)(G:Gh)(a:Act)(w:World):Prop:=
 ∃(o:Oper) (t d b:Nat) (cur:Array Value),ops[j]?=some o∧o.op=.alloc t∧o.dst=some d∧G.mu (kb+d)=some b∧(∀u,a.tmps[d]?=some u→u=.pointer (some ⟨b,0,none⟩))∧
  w.heap[b]?=some (.cells cur t (0,0))∧cur.toList=(tt.at t).zero
theorem Act.put_get {a:Act}{dst:Option Tmp}{d:Nat}(h:dst≠some d)(u:Value):(a.put dst u).tmps[d]?=a.tmps[d]?:=by
 cases dst with
 |none=>rfl
 |some d'=>
  have:d'≠d:=fun e=>h (by rw[e])
  simp[Act.put,Array.getElem?_setIfInBounds_ne this]
theorem FlDone.put {kb i j:Nat}{oi:Oper}{G:Gh}{a:Act}{w:World}(h:FlDone tt ops kb j G a w)(hf:oQ ops j=true)(hi:ops[i]?=some oi)(hne:i≠j)(u:Value):FlDone tt ops kb j G (a.put oi.dst u) w:=by
 obtain ⟨o,t,d,b,cur,ho,h1,h2,h3,h4,h5,h6⟩:=h
 refine ⟨o,t,d,b,cur,ho,h1,h2,h3,fun v hv=>h4 v ?_,h5,h6⟩
 obtain ⟨o',t',d',ho',_,_,_,hd',hall⟩:=jo hf
 rw[ho] at ho';cases ho'
 rw[h2] at hd';cases hd'
 rw[Act.put_get (hall i oi hne hi)] at hv
 exact hv
theorem FlDone.unt {kb j:Nat}{ks:List Nat}{G G':Gh}{a:Act}{w w':World}(h:FlDone tt ops kb j G a w)(hk:∀o d,ops[j]?=some o→o.dst=some d→kb+d∈ks)(hu:UntH G ks w G' w'):FlDone tt ops kb j G' a w':=by
 obtain ⟨o,t,d,b,cur,ho,h1,h2,h3,h4,h5,h6⟩:=h
 obtain ⟨e1,e2⟩:=hu.2 _ (hk o d ho h2) b h3
 exact ⟨o,t,d,b,cur,ho,h1,h2,e1,h4,e2.trans h5,h6⟩
theorem Rel.found {F:Fra}{G:Gh}{A:AS}{a:Act}{cst:List (Array Value)}{w:World}{kb d t b:Nat}{cur:Array Value}(R:Rel F G A a.tmps cst w)(h3:G.mu (kb+d)=some b)(h4:∀u,a.tmps[d]?=some u→u=.pointer (some ⟨b,0,none⟩))
  (h5:w.heap[b]?=some (.cells cur t (0,0))) (h6:cur.toList=(tt.at t).zero) (hz:(tt.at t).zero.all Value.oneCell'=true):
  Rel F G ((A.newOb (kb+d) (kz tt (df (kb+d) 0) t)).put (some d) (.one (.ptr (kb+d) 0))) a.tmps cst w:=by
 have R':=R.map (f:=C.noKey (kb+d)) (fun c v h=>h.noKey' (kb+d)) (lG _) (fun _ _ h=>⟨h,rfl⟩) R.gh
 refine ⟨?_,R'.stk,?_,R.gh⟩
 ·refine R'.tm.set_left d fun u hu=>?_
  rw[Array.getElem?_toList] at hu
  exact ⟨b,h3,h4 u hu⟩
 ·intro k cs hk
  rcases nq _ (kb+d) k _ cs hk with ⟨rfl,rfl⟩ | ⟨hne,hk'⟩
  ·exact ⟨b,_,h3,h5,.inl ⟨cur,t,rfl,by rw[h6];exact gR _ _ hz⟩⟩
  ·exact R'.ob k cs hk'
structure FlSt (P:Program) (tt:TT) (ops:Array Oper) (T:List Nat) (kb:Nat) (F:Fra) (cst:List (Array Value)) (dfs:List Deferred) (A:AS) (hid:List Nat) (G0:Gh) (w0:World) (l0:Array Bool) (pf:List Nat) (L:Nat)
  (ud:List Nat) (n:Nat) (listed:Array Bool) (G:Gh) (a:Act) (w:World):Prop where
 size:listed.size=l0.size
 get:∀k,k ∉ pf→listed[k]?=l0[k]?
 nodup:ud.Nodup
 und:∀j∈ud,j∈pf∧listed[j]?=l0[j]?
 done:∀j∈pf,j ∉ ud→listed.getD j false=true∧FlDone tt ops kb j G a w
 cnt:n+pf.length=L+ud.length
 rel:Rel F G A a.tmps cst w
 hold:(∀j∈T,listed.getD j false=false)→Hold G0 w0 hid G w
 dfs:a.defers=dfs
theorem cG {l l':Array Bool}{k:Nat}(h:l[k]?=l'[k]?)(d:Bool):l.getD k d=l'.getD k d:=by
 rw[Array.getD_eq_getD_getElem?,Array.getD_eq_getD_getElem?,h]
theorem FlSt.fl (htt:ej P tt){kb:Nat}{F:Fra}(hkb:∀d,F.mu0 (kb+d)=none){cst:List (Array Value)}{dfs:List Deferred}{A:AS}{hid:List Nat}{G0:Gh}{w0:World}{l0:Array Bool}{pf:List Nat}{L:Nat}
  {ud:List Nat} {n:Nat} {listed:Array Bool} {G:Gh} {a:Act} {w:World} (S:FlSt P tt ops T kb F cst dfs A hid G0 w0 l0 pf L ud (n+1) listed G a w) (hp:lg ops l0 pf=true)
  (hcl:∀j∈pf,∀o d,ops[j]?=some o→o.dst=some d→mZ kb A d=true) (hal:∀j∈pf,∀o t d,ops[j]?=some o→o.op=.alloc t→o.dst=some d→∀z,∃A',Rj tt kb z o.dst o.op=some (true,A'))
  (hhid:∀j∈pf,∀o d,ops[j]?=some o→o.dst=some d→kb+d ∉ hid)
  {Q:Exit→Act→World→Prop} {k:Nat} (hk:k∈ud):wpOp P ops Q k (fun a' w'=>∃G',FlSt P tt ops T kb F cst dfs A hid G0 w0 l0 pf L (ud.erase k) n (listed.setIfInBounds k true) G' a' w') a w:=by
 obtain ⟨hkp,hkl⟩:=S.und k hk
 obtain ⟨hf,hu0⟩:=cI hp k hkp
 obtain ⟨o,t,d,ho,hop,haf,hgd,hd,hall⟩:=jo hf
 obtain ⟨A',hz⟩:=hal k hkp o t d ho hop hd A
 obtain ⟨cur,hrun,hcur,hzz,_⟩:=xG htt hop hd hz a w
 have hlt:k<l0.size:=by
  rcases Nat.lt_or_ge k l0.size with h | h
  ·exact h
  ·rw[Array.getD_eq_getD_getElem?,Array.getElem?_eq_none h] at hu0;cases hu0
 unfold wpOp
 rw[ho]
 simp only
 rw[if_pos (by simp[Region.wanted,hgd])]
 refine .inl ?_
 unfold Oper.wp
 rw[hrun]
 simp only[Oper.upon]
 have hg:=Grew.alloc w (.cells cur t)
 have go:=Goes.newOb S.rel.gh hg (kb+d)
 have hh:(w.alloc (.cells cur t)).heap[w.heap.size]?=some (.cells cur t (0,0)):=heap_alloc_new w _
 refine ⟨G.newOb (kb+d) w.heap.size,⟨by simp[S.size],fun j hj=>?_,S.nodup.erase _,fun j hj=>?_,fun j hj hju=>?_,?_,?_,fun hT=>?_,(Act.put_defers' _ _ _).trans S.dfs⟩⟩
 ·rw[Array.getElem?_setIfInBounds_ne (by rintro rfl;exact hj hkp)];exact S.get j hj
 ·have hjk:j≠k:=by rintro rfl;exact absurd hj (by rw[S.nodup.mem_erase_iff];simp)
  obtain ⟨h1,h2⟩:=S.und j (List.mem_of_mem_erase hj)
  exact ⟨h1,by rw[Array.getElem?_setIfInBounds_ne (Ne.symm hjk)];exact h2⟩
 ·by_cases hjk:j=k
  ·subst hjk
   refine ⟨by simp[S.size,hlt],o,t,d,w.heap.size,cur,ho,hop,hd,by simp[Gh.newOb],fun u hu=>?_,hh,hcur⟩
   rw[hd] at hu
   simp only[Act.put,Array.getElem?_setIfInBounds_self] at hu
   split at hu
   ·cases hu;rfl
   ·cases hu
  ·have hju':j ∉ ud:=fun h=>hju (by rw[S.nodup.mem_erase_iff];exact ⟨hjk,h⟩)
   obtain ⟨h1,h2⟩:=S.done j hj hju'
   refine ⟨getD_set_true h1,?_⟩
   have h3:=h2.put (cI hp j hj).1 ho (Ne.symm hjk) (.pointer (some ⟨w.heap.size,0,none⟩))
   obtain ⟨o',t',d',b',cur',ho',g1,g2,g3,g4,g5,g6⟩:=h3
   have hdd:d'≠d:=by rintro rfl;exact hall j o' hjk ho' g2
   exact ⟨o',t',d',b',cur',ho',g1,g2,by simp[Gh.newOb,hdd,g3],g4,(hg.old b' (S.rel.gh.mu _ b' g3).2.2).trans g5,g6⟩
 ·have h1:=S.cnt
  have h2:(ud.erase k).length+1=ud.length:=by
   have:=List.length_erase_of_mem hk
   have:=List.length_pos_of_mem hk
   omega
  omega
 ·have:=S.rel.newFl hg (hkb d) (hcl k hkp o d ho hd) (.pointer (some ⟨w.heap.size,0,none⟩))
  rw[hd]
  exact this
 ·have h0:=S.hold fun j hj=>by
   cases hh:listed.getD j false with
   |false=>rfl
   |true=>have:=hT j hj;rw[getD_set_true hh] at this;cases this
  refine h0.step ⟨go.kept,fun key hkey b hb=>?_⟩
  have:key≠kb+d:=by rintro rfl;exact hhid k hkp o d ho hd hkey
  exact ⟨by simp[Gh.newOb,this,hb],hg.old b (S.rel.gh.mu key b hb).2.2⟩
theorem PP {l0 listed:Array Bool}{pf:List Nat}(hp:lg ops l0 pf=true)(hg:∀k,k ∉ pf→listed[k]?=l0[k]?){i:Nat}(hip:i ∉ pf)(hr:i∈Region.ready .any ops l0):i∈Region.ready .any ops listed:=by
 rw[mem_ready] at hr ⊢
 obtain ⟨h1,o',h2,h3⟩:=hr
 refine ⟨by rw[cG (hg i hip)];exact h1,o',h2,fun e he hb=>?_⟩
 have h4:=h3 e he hb
 by_cases hep:e.on∈pf
 ·have:=(cI hp _ hep).2
  rw[Array.getD_eq_getD_getElem?] at this h4
  cases hx:l0[e.on]? with
  |none=>rw[hx] at this;cases this
  |some x=>rw[hx] at this h4;simp at this h4;rw[this] at h4;cases h4
 ·rw[cG (hg _ hep)];exact h4
theorem CQ {l0:Array Bool}{pf:List Nat}(hp:lg ops l0 pf=true){j:Nat}(hj:j∈pf):j<l0.size:=by
 have:=(cI hp j hj).2
 rcases Nat.lt_or_ge j l0.size with h | h
 ·exact h
 ·rw[Array.getD_eq_getD_getElem?,Array.getElem?_eq_none h] at this;cases this
theorem FK {l0 listed:Array Bool}{X:List Nat}{k:Nat}(hX:∀j∈X,j<l0.size)(hl:∀j,listed.getD j false=true→j∈X∨l0.getD j false=true)(hkX:k ∉ X)(hk:listed[k]?=l0[k]?)(hr:k∈Region.ready .any ops listed):
  k∈Region.ready .any ops (qV l0 X):=by
 rw[mem_ready] at hr ⊢
 obtain ⟨h1,o',h2,h3⟩:=hr
 refine ⟨?_,o',h2,fun e he hb=>?_⟩
 ·rw[cG ((ze X l0 k hkX).trans hk.symm)];exact h1
 ·rcases hl _ (h3 e he hb) with h | h
  ·exact zf X l0 _ h (hX _ h)
  ·exact p6 X l0 _ h
theorem AD {listed:Array Bool}{k:Nat}(h:listed.getD k false=true):k ∉ Region.ready .any ops listed:=by
 intro hr
 have h0:=(mem_ready.1 hr).1
 rw[Array.getD_eq_getD_getElem?] at h h0
 cases hx:listed[k]? with
 |none=>rw[hx] at h0;cases h0
 |some x=>rw[hx] at h h0;simp at h h0;rw[h] at h0;cases h0
theorem FlSt.next {kb:Nat}{F:Fra}{cst:List (Array Value)}{dfs:List Deferred}{A A':AS}{hid hid':List Nat}{G0:Gh}{w0:World}{l0:Array Bool}{pf:List Nat}{L:Nat}
  {ud:List Nat} {n:Nat} {listed:Array Bool} {G G':Gh} {a:Act} {w w':World} (S:FlSt P tt ops T kb F cst dfs A hid G0 w0 l0 pf (L+1) ud (n+1) listed G a w) {i:Nat} {o:Oper} (ho:ops[i]?=some o) (hip:i ∉ pf)
  (hpe:lg ops l0 pf=true) {u:Value} {ks:List Nat} (hk:∀j∈pf,∀o d,ops[j]?=some o→o.dst=some d→kb+d∈ks) (hu:UntH G ks w G' w') (hR:Rel F G' A' (a.put o.dst u).tmps cst w')
  (hold:(∀j∈T,listed.getD j false=false)→Hold G0 w0 hid' G' w'):
  FlSt P tt ops T kb F cst dfs A' hid' G0 w0 (l0.setIfInBounds i true) pf L ud n (listed.setIfInBounds i true) G' (a.put o.dst u) w':=by
 refine ⟨by simp[S.size],fun k hk=>?_,S.nodup,fun j hj=>?_,fun j hj hju=>?_,?_,hR,fun hT'=>?_,(Act.put_defers' _ _ _).trans S.dfs⟩
 ·by_cases hki:k=i
  ·rw[hki,Array.getElem?_setIfInBounds_self,Array.getElem?_setIfInBounds_self,S.size]
  ·rw[Array.getElem?_setIfInBounds_ne (Ne.symm hki),Array.getElem?_setIfInBounds_ne (Ne.symm hki)];exact S.get k hk
 ·obtain ⟨h1,h2⟩:=S.und j hj
  have hji:i≠j:=by rintro rfl;exact hip h1
  exact ⟨h1,by rw[Array.getElem?_setIfInBounds_ne hji,Array.getElem?_setIfInBounds_ne hji];exact h2⟩
 ·obtain ⟨h1,h2⟩:=S.done j hj hju
  exact ⟨getD_set_true h1,(h2.unt (hk j hj) hu).put (cI hpe j hj).1 ho (by rintro rfl;exact hip hj) u⟩
 ·have:=S.cnt;omega
 ·exact hold fun j hj=>by
   cases hh:listed.getD j false with
   |false=>rfl
   |true=>have:=hT' j hj;rw[getD_set_true hh] at this;cases this
theorem ED (htt:ej P tt){hd:Hd}(hh:so P hd){R:Type}{F:Fra}{G:Gh}{A:AS}{a:Act}{cst:List (Array Value)}{w:World}(Rl:Rel F G A a.tmps cst w){kb:Nat}(hkb:∀d,F.mu0 (kb+d)=none)(hid:List Nat)(o:Oper){K:Ex→AS→Option R}{r:R}
  (h:B4 tt hd kb hid o A K=some r) {N:Act→World→Prop} {Q:Exit→Act→World→Prop} (hK:T0 F cst a.defers r K (fun G' a' w'=>UntH G hid w G' w'∧(K3 o.op=true→G'=G∧w'=w)) N Q):o.wp P a w N Q:=by
 cases hp:K3 o.op with
 |false=>
  refine qa htt hh Rl hkb hid o h fun ex A' G' a' w' hR hd hk=>?_
  have:=hK ex A' G' a' w' hR hd hk
  cases ex with
  |normal=>exact fun hu=>this ⟨hu.1,fun e=>by rw[hp] at e;cases e⟩
  |exit id=>exact this
  |ret=>exact this
  |panic v=>exact this
 |true=>
  unfold B4 at h
  simp only[AS.putK_eq,AS.force_eq] at h
  unfold Oper.wp
  split at h
  ·rename_i c x y hop
   have hc:=Rl.opd c
   split at h
   ·rename_i b e1
    rw[e1] at hc
    have hc':a.eval c=.bool b:=hc
    have hrun:(execOp a.eval o).run P w=.ok (.value (if b then a.eval x else a.eval y)) w:=by
     simp only[execOp,hop,Sem.run_bind,hc',asBool,Sem.run_pure,Result.andThen_ok]
    rw[hrun]
    simp only[Oper.upon]
    cases b with
    |true=>exact hK .normal _ _ _ _ (Rl.puts (Rl.opd x) o.dst) (Act.put_defers' _ _ _) h ⟨.refl _ _ _,fun _=>⟨rfl,rfl⟩⟩
    |false=>exact hK .normal _ _ _ _ (Rl.puts (Rl.opd y) o.dst) (Act.put_defers' _ _ _) h ⟨.refl _ _ _,fun _=>⟨rfl,rfl⟩⟩
   ·cases h
  all_goals
   exfalso
   unfold K3 at hp
   split at hp
   ·simp_all
   ·cases hp
theorem gl (htt:ej P tt){hd:Hd}(hh:so P hd)(hs:Region.noSelect ops=true){R:Type}{F:Fra}{cst:List (Array Value)}{kb:Nat}(hkb:∀d,F.mu0 (kb+d)=none){r:R}{Q:Exit→Act→World→Prop}{G0:Gh}{w0:World}:
  ∀(is:List (Nat×Nat)) {ph:Bool} {l0 listed:Array Bool} {ud:List Nat} {n:Nat} {hid:List Nat} {G:Gh} {A:AS} {a:Act} {w:World} {K:Ex→AS→Option R} {dfs:List Deferred},
  p8 tt ops T ph l0 is=true→yE tt hd kb ops is hid A K=some r→yF F cst dfs r K Q→
  FlSt P tt ops T kb F cst dfs A hid G0 w0 l0 (gS is) is.length ud n listed G a w→(ph=true→G=G0∧w=w0)→
  wpAnyL P .any ops (Qh ops Q) T (Agr (·∈hid) G0 w0) n listed a w
 |[],ph,l0,listed,ud,n,hid,G,A,a,w,K,dfs,hc,h,hK,S,hph=>by
  simp only[p8,List.isEmpty_iff] at hc
  have hud:ud=[]:=by
   cases ud with
   |nil=>rfl
   |cons x xs=>exact absurd (S.und x (by simp)).1 (by simp[gS])
  have hn:n=0:=by have:=S.cnt;subst hud;simp[gS] at this;exact this
  have hl:listed=l0:=Array.ext_getElem? fun k=>S.get k (by simp[gS])
  subst hn hl
  exact ⟨hc,hK .normal A G a w S.rel S.dfs h⟩
 |(i,m)::is,ph,l0,listed,ud,n,hid,G,A,a,w,K,dfs,hc,h,hK,S,hph=>by
  obtain rfl:=S.dfs
  simp only[yE] at h
  cases ho:ops[i]? with
  |none=>rw[ho] at h;cases h
  |some o=>
   rw[ho] at h
   simp only at h
   have hpl:=CR is
   have quiet:∀(hid':List Nat),gS ((i,m)::is)=gS is→vo ops T l0 i=true→(!(gS is).contains i&&lg ops l0 (gS is))=true→(∀w',Agr (·∈hid') G0 w0 w'→Agr (·∈hid) G0 w0 w')→((∀j∈T,listed.getD j false=false)→Hold G0 w0 hid' G w)→
     ∀v,YieldsIf P ops (Agr (·∈hid') G0 w0) o v a→∀A',Rel F G A' (a.put o.dst v).tmps cst w→
     (∀n',FlSt P tt ops T kb F cst (a.put o.dst v).defers A' hid' G0 w0 (l0.setIfInBounds i true) (gS is) is.length ud n' (listed.setIfInBounds i true) G (a.put o.dst v) w→wpAnyL P .any ops (Qh ops Q) T (Agr (·∈hid') G0 w0) n' (listed.setIfInBounds i true) (a.put o.dst v) w)→
     wpAnyL P .any ops (Qh ops Q) T (Agr (·∈hid) G0 w0) n listed a w:=by
    intro hid' hpf hq hpe hm hA v hy A' hR hrest
    rw[hpf] at S
    simp only[Bool.and_eq_true,Bool.not_eq_true',List.contains_eq_mem,decide_eq_false_iff_not] at hpe
    obtain ⟨hip,hpe⟩:=hpe
    simp only[vo,Bool.and_eq_true,List.all_eq_true,Bool.not_eq_true',beq_eq_false_iff_ne,Di,List.any_eq_true,beq_iff_eq,exists_eq_right] at hq
    obtain ⟨hf,hr,hT,hZ⟩:=hq
    have hnZ:∀j∈sy ops i,j ∉ gS is:=fun j hj hjp=>by
     obtain ⟨o',t,d,ho',_,haf,_⟩:=jo (cI hpe j hjp).1
     obtain ⟨e,he,_⟩:=tW ops i j hj o' ho'
     rw[haf] at he;simp at he
    have hZl:∀j∈sy ops i,listed.getD j false=false:=fun j hj=>by rw[cG (S.get j (hnZ j hj))];exact (hZ j hj).2
    have hir:i∈Region.ready .any ops listed:=by
     have hr':i∈Region.ready .any ops l0:=by simpa using hr
     rw[mem_ready] at hr' ⊢
     obtain ⟨h1,o',h2,h3⟩:=hr'
     refine ⟨by rw[cG (S.get i hip)];exact h1,o',h2,fun e he hb=>?_⟩
     have h4:=h3 e he hb
     by_cases hep:e.on∈gS is
     ·have:=(cI hpe _ hep).2
      rw[Array.getD_eq_getD_getElem?] at this h4
      cases hx:l0[e.on]? with
      |none=>rw[hx] at this;cases this
      |some x=>rw[hx] at this h4;simp at this h4;rw[this] at h4;cases h4
     ·rw[cG (S.get _ hep)];exact h4
    obtain ⟨n',rfl⟩:∃n',n=n'+1:=⟨n - 1,by have:=S.cnt;simp only[List.length_cons] at this;omega⟩
    refine (wpAnyL.first ho (Region.noSelect_spec hs) (fun c a w=>Qh.put ho v c a w) hT (fun j hj=>⟨(hZ j hj).1,tW ops i j hj⟩) n' listed a w (fun j oj hoj hji hjl hjd=>?_) hir hy
     (hA fun j hj=>hZl j (hT j hj)).agr hZl (hrest n' ⟨by simp[S.size],fun k hk=>?_,S.nodup,fun j hj=>?_,fun j hj hju=>?_,?_,hR,fun hT'=>?_,rfl⟩)).weaken hm
    ·refine Region.free_spec ho hf j oj hoj hji ?_ hjd
     by_cases hjp:j∈gS is
     ·exact (cI hpe j hjp).2
     ·rw[← cG (S.get j hjp)];exact hjl
    ·by_cases hki:k=i
     ·rw[hki,Array.getElem?_setIfInBounds_self,Array.getElem?_setIfInBounds_self,S.size]
     ·rw[Array.getElem?_setIfInBounds_ne (Ne.symm hki),Array.getElem?_setIfInBounds_ne (Ne.symm hki)];exact S.get k hk
    ·obtain ⟨h1,h2⟩:=S.und j hj
     have hji:i≠j:=by rintro rfl;exact hip h1
     exact ⟨h1,by rw[Array.getElem?_setIfInBounds_ne hji,Array.getElem?_setIfInBounds_ne hji];exact h2⟩
    ·obtain ⟨h1,h2⟩:=S.done j hj hju
     exact ⟨getD_set_true h1,h2.put (cI hpe j hj).1 ho (by rintro rfl;exact hip hj) v⟩
    ·have h1:=S.cnt;have h2:((i,m)::is).length=is.length+1:=List.length_cons;omega
    ·exact hA fun j hj=>by
      cases hh:listed.getD j false with
      |false=>rfl
      |true=>have:=hT' j hj;rw[getD_set_true hh] at this;cases this
   have hset:∀j∈T,j≠i→(listed.setIfInBounds i true).getD j false=listed.getD j false:=fun j _ hne=>getD_set_ne false (Ne.symm hne)
   have sole:∀(ph':Bool) (hid':List Nat),gS is=[]→gS ((i,m)::is)=gS is→CZ ops l0 i=true→(∀(a':Act) (w':World) (G':Gh) (A':AS),Rel F G' A' a'.tmps cst w'→a'.defers=a.defers→UntH G hid' w G' w'→(K3 o.op=true→G'=G∧w'=w)→yE tt hd kb ops is hid A' K=some r→
      (Ro T (Agr (·∈hid) G0 w0) (listed.setIfInBounds i true) w'∧(Hold G0 w0 hid G' w'∨¬ ∀j∈T,(listed.setIfInBounds i true).getD j false=false))∧(ph'=true→G'=G0∧w'=w0))→
     p8 tt ops T ph' (l0.setIfInBounds i true) is=true→
     jp ops o A (fun A=>B4 tt hd kb hid' o A fun ex A'=>match ex with
      |.normal=>yE tt hd kb ops is hid A' K
      |.panic v=>K (.panic v) { A' with tm:=uh (jn ops) 0 A'.tm }
      |ex=>K ex A') (fun A=>yE tt hd kb ops is hid A K)=some r→
     wpAnyL P .any ops (Qh ops Q) T (Agr (·∈hid) G0 w0) n listed a w:=by
    intro ph' hid' hpe hpf hs1 hho hc hgd
    rw[hpf,hpe] at S
    have hud:ud=[]:=by
     cases ud with
     |nil=>rfl
     |cons x xs=>exact absurd (S.und x (by simp)).1 (by simp)
    have hn:n=is.length+1:=by have:=S.cnt;subst hud;simp at this;exact this
    have hl:listed=l0:=Array.ext_getElem? fun k=>S.get k (by simp)
    subst hn hl hud
    have hr:Region.ready .any ops listed=[i]:=by
     unfold CZ at hs1
     split at hs1
     ·rename_i j e
      rw[e,beq_iff_eq.1 hs1]
     ·cases hs1
    have hrest:∀(a':Act) (w':World) (G':Gh) (A':AS),Rel F G' A' a'.tmps cst w'→a'.defers=a.defers→UntH G hid' w G' w'→(K3 o.op=true→G'=G∧w'=w)→yE tt hd kb ops is hid A' K=some r→
      Ro T (Agr (·∈hid) G0 w0) (listed.setIfInBounds i true) w'∧wpAnyL P .any ops (Qh ops Q) T (Agr (·∈hid) G0 w0) is.length (listed.setIfInBounds i true) a' w':=by
     intro a' w' G' A' hR hd' hu hpk hk
     obtain ⟨⟨h1,h2⟩,h3⟩:=hho a' w' G' A' hR hd' hu hpk hk
     refine ⟨h1,gl htt hh hs hkb is hc hk hK ⟨rfl,fun _ _=>rfl,S.nodup,fun j hj=>(by cases hj),fun j hj=>(by rw[hpe] at hj;cases hj),(by rw[hpe]),hR,fun hT=>h2.resolve_right fun h=>h hT,hd'⟩ h3⟩
    refine ⟨fun e=>(by rw[e] at hr;cases hr),fun j hj=>?_⟩
    rw[hr,List.mem_singleton] at hj
    subst hj
    unfold wpOp
    rw[ho]
    simp only
    rcases fN S.rel hgd with ⟨hw,A1,R1,h1⟩ | ⟨hw,A1,R1,h1⟩
    ·rw[if_pos hw]
     refine .inl (ED htt hh R1 hkb hid' o h1 ?_)
     intro ex A' G' a' w' R' hd' hk
     cases ex with
     |normal=>exact fun hu=>hrest a' w' G' A' R' hd' hu.1 hu.2 hk
     |exit id=>exact hK _ A' G' a' w' R' hd' hk
     |ret=>exact hK _ A' G' a' w' R' hd' hk
     |panic v=>exact fun u hu=>Qh.post hK R' hd' hk u hu
    ·rw[if_neg (by simp[hw])]
     exact hrest _ w G A1 R1 (Act.put_defers' _ _ _) (.refl _ _ _) (fun _=>⟨rfl,rfl⟩) h1
   match m,hc,h with
   |0,hc,h=>
    simp only[p8,Bool.and_eq_true] at hc
    obtain ⟨⟨⟨hq,hrd⟩,hpe⟩,hc⟩:=hc
    have hrd':wK tt o.op=false:=by simpa [CT,ho] using hrd
    rcases fN S.rel h with ⟨hw,A1,R1,h1⟩ | ⟨hw,A1,R1,h1⟩
    ·split at h1
     ·rename_i chk v hv
      cases chk with
      |false=>cases h1
      |true=>
       simp only[cond_true,AS.putK_eq] at h1
       obtain ⟨u,hu,hr⟩:=B5 (H:=fun _=>True) htt (fun x=>R1.opd x) R1.ob o hv rfl fun _ _ _ _ _ _=>trivial
       refine quiet hid rfl hq (by simpa using hpe) (fun _ h=>h) S.hold u (.inl ⟨hw,fun w' _=>hu w' fun e=>by rw[hrd'] at e;cases e⟩) _ (R1.puts hr o.dst) fun n' S'=>?_
       exact gl htt hh hs hkb is hc h1 (by rw[Act.put_defers'];exact hK) S' hph
     ·cases h1
    ·refine quiet hid rfl hq (by simpa using hpe) (fun _ h=>h) S.hold undef (.inr ⟨hw,rfl⟩) _ R1 fun n' S'=>?_
     exact gl htt hh hs hkb is hc h1 (by rw[Act.put_defers'];exact hK) S' hph
   |1,hc,h=>
    simp only[p8,Bool.and_eq_true] at hc
    obtain ⟨⟨⟨hq,rfl⟩,hpe⟩,hc⟩:=hc
    obtain ⟨rfl,rfl⟩:=hph rfl
    rcases fN S.rel h with ⟨hw,A1,R1,h1⟩ | ⟨hw,A1,R1,h1⟩
    ·split at h1
     ·rename_i chk v hv
      cases chk with
      |false=>cases h1
      |true=>
       simp only[cond_true,AS.putK_eq] at h1
       obtain ⟨u,hu,hr⟩:=B5 (H:=(·∈vg A1 o.op++hid)) htt (fun x=>R1.opd x) R1.ob o hv rfl fun t x k j e1 e2=>by
        rw[e1];simp only[vg,e2];simp
       refine quiet (vg A1 o.op++hid) rfl hq (by simpa using hpe) (fun w' h=>⟨h.1,fun key b hk hb=>h.2 key b (List.mem_append_right _ hk) hb⟩) (fun _=>⟨fun _ _ h=>h,fun _ _ _ h=>h,Agr.refl _ _ _⟩) u (.inl ⟨hw,fun w' h'=>hu w' fun _=>h'⟩) _ (R1.puts hr o.dst) fun n' S'=>?_
       exact gl htt hh hs hkb is hc h1 (by rw[Act.put_defers'];exact hK) S' fun _=>⟨rfl,rfl⟩
     ·cases h1
    ·refine quiet hid rfl hq (by simpa using hpe) (fun _ h=>h) S.hold undef (.inr ⟨hw,rfl⟩) _ R1 fun n' S'=>?_
     exact gl htt hh hs hkb is hc h1 (by rw[Act.put_defers'];exact hK) S' fun _=>⟨rfl,rfl⟩
   |2,hc,h=>
    simp only[p8,Bool.and_eq_true,List.all_eq_true,Bool.not_eq_true',beq_eq_false_iff_ne,List.isEmpty_iff] at hc
    obtain ⟨⟨⟨hso,hiT⟩,hpe⟩,hc⟩:=hc
    refine sole (ph&&CS ops i) hid hpe rfl hso (fun a' w' G' A' R' hd' hu hpk hk=>⟨?_,fun e=>?_⟩) hc h
    rotate_left
    ·rw[Bool.and_eq_true] at e
     obtain ⟨rfl,rfl⟩:=hpk (by simpa [CS,ho] using e.2)
     exact hph e.1
    have hold:(∀j∈T,(listed.setIfInBounds i true).getD j false=false)→Hold G0 w0 hid G' w':=fun hT=>(S.hold fun j hj=>by rw[← hset j hj (hiT j hj)];exact hT j hj).step hu
    exact ⟨fun hT=>(hold hT).agr,(Classical.em _).imp hold id⟩
   |n0+3,hc,h=>
    simp only[p8] at hc
    rename_i hx0
    clear hx0
    simp only[AS.force_eq] at h
    cases h4:Nat.beq n0 1 with
    |true=>
     obtain rfl:n0=1:=Nat.eq_of_beq_eq_true h4
     rw[h4] at hc h
     simp only[cond_true,Bool.and_eq_true,Bool.not_eq_true',List.contains_eq_mem,decide_eq_false_iff_not] at hc
     obtain ⟨⟨⟨hip,hpe⟩,hso⟩,hc⟩:=hc
     have hpf:gS ((i,1+3)::is)=i::gS is:=rfl
     simp only[cond_true] at h
     cases hcl:(GQ tt ops ((i,4)::is)&&(wy ops ((i,4)::is)).all (mZ kb (kY kb (wy ops ((i,4)::is)) A)))&&!(hid.any fun k=>(wy ops ((i,4)::is)).any fun d=>k == kb+d) with
     |false=>rw[hcl] at h;cases h
     |true=>
      rw[hcl] at h
      simp only[cond_true] at h
      have S1:FlSt P tt ops T kb F cst a.defers (kY kb (wy ops ((i,4)::is)) A) hid G0 w0 l0 (gS ((i,1+3)::is)) ((i,1+3)::is).length ud n listed G a w:={ S with rel:=S.rel.clean _ }
      generalize kY kb (wy ops ((i,4)::is)) A=A1 at h hcl S1
      clear S
      simp only[Bool.and_eq_true,Bool.not_eq_true',List.all_eq_true,List.any_eq_false,List.any_eq_true,beq_iff_eq,not_exists,not_and] at hcl
      cases hA:Rj tt kb A1 o.dst o.op with
      |none=>rw[hA] at h;cases h
      |some p=>
       obtain ⟨chk,A'⟩:=p
       rw[hA] at h
       cases chk with
       |false=>cases h
       |true=>
        simp only[cond_true] at h
        have hpall:=cI hpe
        have key:∀(N:Nat) (ud:List Nat) (n:Nat) (listed:Array Bool) (G:Gh) (a':Act) (w:World),ud.length=N→
          FlSt P tt ops T kb F cst a.defers A1 hid G0 w0 l0 (i::gS is) (is.length+1) ud n listed G a' w→wpAnyL P .any ops (Qh ops Q) T (Agr (·∈hid) G0 w0) n listed a' w:=by
         intro N
         induction N using Nat.strongRecOn with
         |ind N ih=>
         intro ud n listed G a' w hN S
         by_cases hiu:i∈ud
         ·have hlen:=List.length_pos_of_mem hiu
          obtain ⟨n',rfl⟩:∃n',n=n'+1:=⟨n - 1,by have:=S.cnt;simp only[List.length_cons] at this;omega⟩
          have hir:i∈Region.ready .any ops listed:=by
           obtain ⟨o',t,d,ho',_,haf,_⟩:=jo (hpall i (by simp)).1
           rw[mem_ready]
           refine ⟨by rw[cG (S.und i hiu).2];exact (hpall i (by simp)).2,o',ho',fun e he=>by rw[haf] at he;simp at he⟩
          refine ⟨fun e=>(by rw[e] at hir;cases hir),fun k hk=>?_⟩
          by_cases hku:k∈ud
          ·refine wpOp_mono (fun a'' w'' ⟨G',S'⟩=>⟨fun hT=>(S'.hold hT).agr,ih _ ?_ _ _ _ _ _ _ rfl S'⟩) (S.fl htt hkb hpe (fun j hj o' d ho' hd'=>hcl.1.2 d (mt ((i,4)::is) hj ho' hd')) (fun j hj=>qW ((i,4)::is) hcl.1.1 hj) (fun j hj o' d ho' hd' hin=>hcl.2 _ hin d (mt ((i,4)::is) hj ho' hd') rfl) hku)
           rw[List.length_erase_of_mem hku];have:=List.length_pos_of_mem hku;omega
          ·exfalso
           have hkp:k ∉ i::gS is:=fun h=>AD (S.done k h hku).1 hk
           have:=FK (X:=gS is) (l0:=l0) (fun j hj=>CQ hpe (List.mem_cons_of_mem _ hj)) (fun j hj=>?_) (fun h=>hkp (List.mem_cons_of_mem _ h)) (S.get k hkp) hk
           ·have:=List.all_eq_true.1 hso k this
            exact hkp (by rw[beq_iff_eq.1 this];simp)
           ·by_cases hjp:j∈i::gS is
            ·rcases List.mem_cons.1 hjp with rfl | h
             ·rw[cG (S.und j hiu).2] at hj;exact .inr hj
             ·exact .inl h
            ·rw[cG (S.get j hjp)] at hj;exact .inr hj
         ·obtain ⟨hli,o',t,d,b,cur,ho',hop,hd',hmu,htm,hhp,hcz⟩:=S.done i (by simp) hiu
          rw[ho] at ho';cases ho'
          obtain ⟨_,_,_,hzz,eA⟩:=xG htt hop hd' hA a' w
          subst eA
          refine gl htt hh hs hkb is hc h hK ⟨by simp[S.size],fun k hk=>?_,S.nodup,fun j hj=>?_,fun j hj hju=>S.done j (by simp[hj]) hju,?_,S.rel.found hmu htm hhp hcz hzz,S.hold,S.dfs⟩ fun e=>by cases e
          ·by_cases hki:k=i
           ·have hlt:=CQ hpe (j:=i) (by simp)
            rw[hki,Array.getElem?_setIfInBounds_self,if_pos hlt]
            rw[Array.getD_eq_getD_getElem?] at hli
            cases hx:listed[i]? with
            |none=>rw[hx] at hli;cases hli
            |some x=>rw[hx] at hli;simp at hli;rw[hli]
           ·rw[Array.getElem?_setIfInBounds_ne (Ne.symm hki)]
            exact S.get k (by simp[hki,hk])
          ·obtain ⟨h1,h2⟩:=S.und j hj
           have hji:j≠i:=by rintro rfl;exact hiu hj
           refine ⟨(List.mem_cons.1 h1).resolve_left hji,?_⟩
           rw[Array.getElem?_setIfInBounds_ne (Ne.symm hji)];exact h2
          ·have:=S.cnt;simp only[List.length_cons] at this;omega
        exact key _ ud n listed G a w rfl S1
    |false=>
     rw[h4] at hc h
     simp only[cond_false] at hc h
     cases h6:Nat.beq n0 3 with
     |true=>
      obtain rfl:n0=3:=Nat.eq_of_beq_eq_true h6
      rw[h6] at hc h
      simp only[cond_true,Bool.and_eq_true,Bool.not_eq_true',List.contains_eq_mem,decide_eq_false_iff_not,List.all_eq_true,beq_eq_false_iff_ne] at hc
      obtain ⟨⟨⟨hso,hiT⟩,hip,hpe⟩,hc⟩:=hc
      have hpf:gS ((i,3+3)::is)=gS is:=rfl
      simp only[cond_true] at h
      cases hcl:(GQ tt ops is&&(wy ops is).all (mZ kb (kY kb (wy ops is) A)))&&!(hid.any fun k=>(wy ops is).any fun d=>k == kb+d) with
      |false=>rw[hcl] at h;cases h
      |true=>
       rw[hcl] at h
       simp only[cond_true] at h
       have S1:FlSt P tt ops T kb F cst a.defers (kY kb (wy ops is) A) hid G0 w0 l0 (gS ((i,3+3)::is)) ((i,3+3)::is).length ud n listed G a w:={ S with rel:=S.rel.clean _ }
       generalize kY kb (wy ops is) A=A1 at h hcl S1
       clear S
       simp only[Bool.and_eq_true,Bool.not_eq_true',List.all_eq_true,List.any_eq_false,List.any_eq_true,beq_iff_eq,not_exists,not_and] at hcl
       have hpall:=cI hpe
       simp only[Uo,Bool.and_eq_true,List.contains_eq_mem,decide_eq_true_eq,List.all_eq_true,beq_iff_eq] at hso
       have key:∀(N:Nat) (ud:List Nat) (n:Nat) (listed:Array Bool) (G:Gh) (a':Act) (w:World),ud.length=N→
         FlSt P tt ops T kb F cst a.defers A1 hid G0 w0 l0 (gS is) (is.length+1) ud n listed G a' w→wpAnyL P .any ops (Qh ops Q) T (Agr (·∈hid) G0 w0) n listed a' w:=by
        intro N
        induction N using Nat.strongRecOn with
        |ind N ih=>
        intro ud n listed G a' w hN S
        obtain ⟨n',rfl⟩:∃n',n=n'+1:=⟨n - 1,by have:=S.cnt;omega⟩
        have hir:i∈Region.ready .any ops listed:=PP hpe S.get hip hso.1
        refine ⟨fun e=>(by rw[e] at hir;cases hir),fun k hk=>?_⟩
        by_cases hku:k∈ud
        ·refine wpOp_mono (fun a'' w'' ⟨G',S'⟩=>⟨fun hT=>(S'.hold hT).agr,ih _ ?_ _ _ _ _ _ _ rfl S'⟩) (S.fl htt hkb hpe (fun j hj o' d ho' hd'=>hcl.1.2 d (mt is hj ho' hd')) (fun j hj=>qW is hcl.1.1 hj) (fun j hj o' d ho' hd' hin=>hcl.2 _ hin d (mt is hj ho' hd') rfl) hku)
         rw[List.length_erase_of_mem hku];have:=List.length_pos_of_mem hku;omega
        ·have hkp:k ∉ gS is:=fun h=>AD (S.done k h hku).1 hk
         have hki:=FK (X:=gS is) (l0:=l0) (fun j hj=>CQ hpe hj) (fun j hj=>by
          by_cases hjp:j∈gS is
          ·exact .inl hjp
          ·rw[cG (S.get j hjp)] at hj;exact .inr hj) hkp (S.get k hkp) hk
         obtain rfl:=hso.2 k hki
         have hset':∀j∈T,j≠k→(listed.setIfInBounds k true).getD j false=listed.getD j false:=fun j _ hne=>getD_set_ne false (Ne.symm hne)
         have hrest:∀(u:Value) (w':World) (G':Gh) (A':AS),Rel F G' A' (a'.put o.dst u).tmps cst w'→UntH G ((wy ops is).map (kb + ·)++hid) w G' w'→yE tt hd kb ops is hid A' K=some r→
           Ro T (Agr (·∈hid) G0 w0) (listed.setIfInBounds k true) w'∧wpAnyL P .any ops (Qh ops Q) T (Agr (·∈hid) G0 w0) n' (listed.setIfInBounds k true) (a'.put o.dst u) w':=by
          intro u w' G' A' hR hu hk'
          have hold:(∀j∈T,listed.getD j false=false)→Hold G0 w0 hid G' w':=fun hT=>(S.hold hT).step ⟨hu.1,fun key hkey=>hu.2 key (List.mem_append_right _ hkey)⟩
          refine ⟨fun hT=>(hold fun j hj=>by rw[← hset' j hj (hiT j hj)];exact hT j hj).agr,?_⟩
          refine gl htt hh hs hkb is hc hk' hK (S.next ho hip hpe (fun j hj o' d ho' hd'=>List.mem_append_left _ (List.mem_map_of_mem (mt is hj ho' hd'))) hu hR hold) fun e=>by cases e
         unfold wpOp
         rw[ho]
         simp only
         rcases fN S.rel h with ⟨hw,A2,R2,h2⟩ | ⟨hw,A2,R2,h2⟩
         ·rw[if_pos hw]
          refine .inl (qa htt hh R2 hkb _ o h2 ?_)
          intro ex A' G' a'' w' R' hd' hk'
          cases ex with
          |normal=>
           rintro ⟨hu,u,rfl⟩
           exact hrest u w' G' A' R' hu hk'
          |exit id=>exact hK _ A' G' a'' w' R' (hd'.trans S.dfs) hk'
          |ret=>exact hK _ A' G' a'' w' R' (hd'.trans S.dfs) hk'
          |panic v=>exact fun u hu=>Qh.post hK R' (hd'.trans S.dfs) hk' u hu
         ·rw[if_neg (by simp[hw])]
          exact hrest undef w G A2 R2 (.refl _ _ _) h2
       exact key _ ud n listed G a w rfl S1
     |false=>
      rw[h6] at hc h
      simp only[cond_false,Bool.and_eq_true,List.any_eq_true,beq_iff_eq,exists_eq_right,decide_eq_true_eq,List.isEmpty_iff] at hc h
      obtain ⟨⟨⟨hso,hiT,hil⟩,hpe⟩,hc⟩:=hc
      have hpf:gS ((i,n0+3)::is)=gS is:=by
       have:Nat.beq (n0+3) 4=Nat.beq n0 1:=rfl
       rw[gS,this,h4];rfl
      have hlsz:i<listed.size:=by rw[S.size];exact hil
      have hno:¬ ∀j∈T,(listed.setIfInBounds i true).getD j false=false:=fun hT=>by
       have:=hT i hiT
       simp[hlsz] at this
      exact sole false [] hpe hpf hso (fun a' w' G' A' R' hd' hu _ hk=>⟨⟨fun hT=>absurd hT hno,.inr hno⟩,fun e=>by cases e⟩) hc h
def Kj (tt:TT):Op→Bool
 |.move _ | .nilCheck _ | .binOp .. | .unOp .. | .fieldAddr .. | .field .. | .indexAddr .. | .index .. | .slice .. | .load .. | .extract .. | .build .. | .makeInterface .. | .makeFunc ..=>true
 |.convert _ d _=>match (tt.at d).d with | .sl _=>false | _=>true
 |.call c=>match c.callee with | .builtin .len=>true | .builtin .min=>true | .builtin .max=>true | _=>false
 |_=>false
def B7 (tt:TT)(ops:Array Oper)(t0:Nat):Nat→Bool→Array Bool→List (Nat×Nat)
 |0,_,_=>[]
 |n+1,ph,listed=>
  let rd:=Region.ready .any ops listed
  match rd.find? fun i=>Nat.blt i t0&&(match ops[i]? with | some o=>Kj tt o.op&&(ph || !wK tt o.op) | none=>false) with
  |some i=>(i,bif CT tt ops i then 0 else 1)::B7 tt ops t0 n ph (listed.setIfInBounds i true)
  |none=>match rd with
   |i::_=>(i,bif Nat.blt i t0 then 2 else 3)::B7 tt ops t0 n (ph&&CS ops i) (listed.setIfInBounds i true)
   |[]=>[]
def vc (tt:TT)(ops:Array Oper)(t0:Nat)(fl:List Nat):Nat→Bool→Array Bool→List (Nat×Nat)
 |0,_,_=>[]
 |n+1,ph,listed=>
  let rd:=(Region.ready .any ops listed).filter fun i=>!fl.contains i
  match rd.find? fun i=>Nat.blt i t0&&(match ops[i]? with | some o=>Kj tt o.op&&(ph || !wK tt o.op) | none=>false) with
  |some i=>(i,bif CT tt ops i then 0 else 1)::vc tt ops t0 fl n ph (listed.setIfInBounds i true)
  |none=>match rd with
   |i::_=>(i,bif Nat.blt i t0 then (bif fl.all fun j=>listed.getD j false then 2 else 6) else 3)::vc tt ops t0 fl n false (listed.setIfInBounds i true)
   |[]=>match fl.find? fun j=>!listed.getD j true with
    |some j=>(j,4)::vc tt ops t0 fl n false (listed.setIfInBounds j true)
    |none=>[]
def Uy (ops:Array Oper):Nat→Nat
 |0=>0
 |t+1=>bif (List.range t).all fun i=>Di ops t i then Uy ops t else t+1
def vn (tt:TT)(ops:Array Oper)(t0:Nat)(is:List (Nat×Nat)):Option (List (Nat×Nat)):=
 bif Region.noSelect ops&&(is.length == ops.size&&(bZ (gS is)&&p8 tt ops ((List.range (ops.size - t0)).map (t0 + ·)) true (Array.replicate ops.size false) is)) then some is else none
def CO (tt:TT)(t0:Nat):Dr:=fun ops=>
 match vn tt ops t0 (B7 tt ops t0 ops.size true (Array.replicate ops.size false)) with
 |some is=>some is
 |none=>vn tt ops t0 (vc tt ops t0 ((List.range ops.size).filter (oQ ops)) ops.size true (Array.replicate ops.size false))
def xt (tt:TT):Dr:=fun ops=>CO tt (Uy ops ops.size) ops
theorem rI:∀l:List Nat,bZ l=true→l.Nodup
 |[],_=>List.nodup_nil
 |x::xs,h=>by
  simp only[bZ,Bool.and_eq_true,Bool.not_eq_true',List.any_eq_false,beq_iff_eq] at h
  exact List.nodup_cons.2 ⟨fun hx=>h.1 x hx rfl,rI xs h.2⟩
theorem xu (htt:ej P tt){hd:Hd}(hh:so P hd){R:Type}{F:Fra}{cst:List (Array Value)}{kb:Nat}{ops:Array Oper}{is' is:List (Nat×Nat)}{r:R}{Q:Exit→Act→World→Prop}{G:Gh}{A:AS}{a:Act}{w:World}{K:Ex→AS→Option R}
  (hkb:∀d,F.mu0 (kb+d)=none) {t0:Nat} (ho:vn tt ops t0 is'=some is) (h:yE tt hd kb ops is [] A K=some r) (Rl:Rel F G A a.tmps cst w) (hK:yF F cst a.defers r K Q):
  wpAny P .any ops Q ops.size (Array.replicate ops.size false) a { w with drawn:=w.drawn+1 }:=by
 unfold vn at ho
 cases hc:Region.noSelect ops&&(is'.length == ops.size&&(bZ (gS is')&&p8 tt ops ((List.range (ops.size - t0)).map (t0 + ·)) true (Array.replicate ops.size false) is')) with
 |false=>rw[hc] at ho;cases ho
 |true=>
  rw[hc] at ho
  simp only[cond_true,Option.some.injEq] at ho
  subst ho
  simp only[Bool.and_eq_true,beq_iff_eq] at hc
  obtain ⟨hs,hl,hnd,hc⟩:=hc
  have Rl':Rel F G A a.tmps cst { w with drawn:=w.drawn+1 }:=Rl.drew
  have:=gl (T:=(List.range (ops.size - t0)).map (t0 + ·)) (G0:=G) (w0:={ w with drawn:=w.drawn+1 }) (ud:=gS is') (n:=is'.length) (listed:=Array.replicate ops.size false) htt hh hs hkb is' hc h hK
   ⟨rfl,fun _ _=>rfl,rI _ hnd,fun j hj=>⟨hj,rfl⟩,fun j hj h=>absurd hj h,rfl,Rl',fun _=>⟨fun _ _ h=>h,fun _ _ _ h=>h,Agr.refl _ _ _⟩,rfl⟩ fun _=>⟨rfl,rfl⟩
  rw[hl] at this
  exact uJ (fun e a w=>Qh.of) _ (wpAnyL.any _ this)
theorem HI (htt:ej P tt){hd:Hd}(hh:so P hd){R:Type}{F:Fra}{cst:List (Array Value)}{kb:Nat}{ops:Array Oper}{is:List (Nat×Nat)}{r:R}{Q:Exit→Act→World→Prop}{G:Gh}{A:AS}{a:Act}{w:World}{K:Ex→AS→Option R}
  (hkb:∀d,F.mu0 (kb+d)=none) {t0:Nat} (ho:CO tt t0 ops=some is) (h:yE tt hd kb ops is [] A K=some r) (Rl:Rel F G A a.tmps cst w) (hK:yF F cst a.defers r K Q):
  wpAny P .any ops Q ops.size (Array.replicate ops.size false) a { w with drawn:=w.drawn+1 }:=by
 unfold CO at ho
 split at ho
 ·rename_i is1 h1
  cases ho
  exact xu htt hh hkb h1 h Rl hK
 ·exact xu htt hh hkb ho h Rl hK
theorem pl (htt:ej P tt):sg P tt (xt tt):=by
 intro hd hh R F cst kb ops is r Q G A a w K hkb ho h Rl hK
 exact HI htt hh hkb ho h Rl hK
end
end Go.Proofs.YtomeplopmndbgaaGreat.Sym
namespace Go.Proofs.YtomeplopmndbgaaGreat.Sym
open Go
set_option linter.unusedSimpArgs false
set_option linter.unusedVariables false
def VW (f:Nat→Option Ty):List Field→Option Ty
 |[]=>some .unit
 |x::xs=>match f x.type with
  |some a=>match VW f xs with
   |some b=>some (.prod a b)
   |none=>none
  |none=>none
def VP (P:Program)(t:Nat)(fs:List Field):Option Nat:=match fs.getLast? with
 |some x=>match P.underlying x.type with
  |some (.slice e)=>bif Nat.beq e t then some e else none
  |_=>none
 |none=>none
def TN (P:Program):Nat→Nat→Option Ty
 |0,_=>none
 |n+1,t=>match P.underlying t with
  |some .bool=>some .bool
  |some (.int k)=>some (.int k)
  |some .string=>some .str
  |some (.slice e)=>match TN P n e with
   |some t=>some (.sl e t)
   |none=>none
  |some (.struct fs)=>match VP P t fs.toList with
   |some e=>match VW (TN P n) fs.toList.dropLast with
    |some a=>some (.tree a e)
    |none=>none
   |none=>VW (TN P n) fs.toList
  |_=>none
def N8 (P:Program)(t:Nat):Bool:=!P.stoodInHeld t&&(!P.eqGuardType P.depth t&&match P.underlying t with
 |some (.struct F)=>F.toList.all fun f=>f.name != "_"
 |_=>true)
theorem N9 {P:Program}{t:Nat}(h:N8 P t=true):P.stoodInHeld t=false∧P.eqGuardType P.depth t=false∧∀F,P.underlying t=some (.struct F)→∀f∈F.toList,f.name≠"_":=by
 unfold N8 at h
 simp only[Bool.and_eq_true,Bool.not_eq_true'] at h
 refine ⟨h.1,h.2.1,fun F hF f hf=>?_⟩
 have h2:=h.2.2
 rw[hF] at h2
 simp only[List.all_eq_true,bne_iff_ne] at h2
 exact h2 f hf
def VU (P:Program)(t:Nat):TI:=match P.info? t with
 |some i=>match P.underlying t with
  |some d=>match i.zero with
   |some z=>bif yC z == sM (sA d) then ⟨sA d,TN P 8 t,i.size,i.bytes,z.cells.toList,N8 P t⟩ else .none
   |none=>.none
  |none=>.none
 |none=>.none
def uO (P:Program)(n:Nat):TT:=(List.range n).map (VU P)
theorem jP (P:Program)(n:Nat):ej P (uO P n):=by
 intro t ht
 have e:(uO P n).at t=if t<n then VU P t else .none:=by
  unfold uO TT.at
  rw[List.getD_eq_getElem?_getD,List.getElem?_map]
  by_cases h:t<n
  ·rw[List.getElem?_range h,if_pos h];rfl
  ·rw[List.getElem?_eq_none (by simp;omega),if_neg h];rfl
 rw[e] at ht ⊢
 by_cases h:t<n
 ·rw[if_pos h] at ht ⊢
  unfold VU at ht ⊢
  split
  ·rename_i i hi
   rw[hi] at ht
   simp only at ht
   split
   ·rename_i d hd
    rw[hd] at ht
    simp only at ht
    split
    ·rename_i z hz
     rw[hz] at ht
     simp only at ht
     cases hb:yC z == sM (sA d) with
     |false=>rw[hb] at ht;exact absurd rfl ht
     |true=>exact ⟨⟨d,hd,rfl⟩,⟨i,z,hi,rfl,rfl,hz,rfl,by simpa using hb⟩,fun h=>N9 h⟩
    ·rename_i hz;rw[hz] at ht;exact absurd rfl ht
   ·rename_i hd;rw[hd] at ht;exact absurd rfl ht
  ·rename_i hi;rw[hi] at ht;exact absurd rfl ht
 ·rw[if_neg h] at ht;exact absurd rfl ht
abbrev Hc:=(R:Type)→List V→Nat→AS→(Oc→AS→Option R)→Option R
def RC:List (Nat×Hc)→Nat→Option Hc
 |[],_=>none
 |(g,h)::l,f=>bif Nat.beq g f then some h else RC l f
def bR (l:List (Nat×Hc)):Hd:=fun R f args id A K=>match RC l f with
 |some h=>h R args id A K
 |none=>none
def HcsOk (P:Program):List (Nat×Hc)→Prop
 |[]=>True
 |p::l=>HcOk P p.1 p.2∧HcsOk P l
theorem HcsOk.nil {P:Program}:HcsOk P []:=trivial
theorem HcsOk.cons {P:Program}{f:Nat}{h:Hc}{l:List (Nat×Hc)}(a:HcOk P f h)(b:HcsOk P l):HcsOk P ((f,h)::l):=⟨a,b⟩
theorem Jx {P:Program}:∀{l:List (Nat×Hc)} {f:Nat} {h:Hc},HcsOk P l→RC l f=some h→HcOk P f h
 |[],_,_,_,e=>by cases e
 |(g,h')::l,f,h,hl,e=>by
  simp only[RC] at e
  cases hb:Nat.beq g f with
  |true=>
   rw[hb] at e
   simp only[cond_true,Option.some.injEq] at e
   subst e
   have:=Nat.eq_of_beq_eq_true hb
   subst this
   exact hl.1
  |false=>
   rw[hb] at e
   exact Jx hl.2 e
def eR (sel:List V→AS→Bool)(h1 h2:Hc):Hc:=fun R args id A K=>bif sel args A then h1 R args id A K else h2 R args id A K
theorem aZ {P:Program}{f:Nat}{sel:List V→AS→Bool}{h1 h2:Hc}(a:HcOk P f h1)(b:HcOk P f h2):HcOk P f (eR sel h1 h2):=by
 intro R args id A K r F G ts cst w vals hid h Rl hv
 unfold eR at h
 cases hs:sel args A with
 |true=>rw[hs] at h;exact a R args id A K r F G ts cst w vals hid h Rl hv
 |false=>rw[hs] at h;exact b R args id A K r F G ts cst w vals hid h Rl hv
def Ul (A:AS)(k:Nat):Bool:=match A.ob.getD k Option.none with
 |some (.nilp::_)=>true
 |_=>false
def de (args:List V)(A:AS):Bool:=args.any fun v=>match v with
 |.one (.ptr k _)=>Ul A k || (match A.ob.getD k Option.none with
  |some (.ptr k' _::_)=>Ul A k'
  |_=>false)
 |_=>false
theorem B8 {P:Program}{l:List (Nat×Hc)}(hl:HcsOk P l):so P (bR l):=by
 intro R f args id A K r F G ts cst w vals hid h Rl hv
 unfold bR at h
 split at h
 ·rename_i hc e
  exact Jx hl e R args id A K r F G ts cst w vals hid h Rl hv
 ·cases h
inductive SC where
 |hol (t:Ty)
 |onl (e:Nat) (t:Ty) (own:Nat)
 |exl (e:Nat) (t:Ty) (i j:Nat)
 |ext (e:Nat) (t:Ty) (i j:Nat)
 |ptr (key off:Nat)
 |fnp (f:Nat) (q:Bool) (ks:List Nat)
 |nils | nilp | top | itr
@[reducible] def SC.den:SC→Type
 |.hol t=>t.den
 |.onl _ t _=>List t.den
 |.exl _ t _ _=>List t.den
 |.ext _ t _ _=>Nat×List t.den
 |.itr=>List Int×Int
 |_=>Unit
@[reducible] def SCs.den:List SC→Type
 |[]=>Unit
 |.hol t::ss=>t.den×SCs.den ss
 |.onl _ t _::ss=>List t.den×SCs.den ss
 |.exl _ t _ _::ss=>List t.den×SCs.den ss
 |.ext _ t _ _::ss=>(Nat×List t.den)×SCs.den ss
 |.ptr _ _::ss=>SCs.den ss
 |.fnp _ _ _::ss=>SCs.den ss
 |.nils::ss=>SCs.den ss
 |.nilp::ss=>SCs.den ss
 |.top::ss=>SCs.den ss
 |.itr::ss=>(List Int×Int)×SCs.den ss
def Rw:List Cp→Option (List Nat)
 |[]=>some []
 |.ptr k o::cs=>bif Nat.beq o 0 then (match Rw cs with | some ks=>some (k::ks) | none=>none) else none
 |_=>none
def SC.dec:(s:SC)→C→Option s.den
 |.hol t,c=>eY t c
 |.onl e t own,.lst e' t' xs own'=>if h:e=e'∧t'=t∧own=own' then some (h.2.1▸xs) else none
 |.exl e t i j,.ex e' t' lo xs i' j'=>bif !(Nat.beq j 0)&&(Nat.beq i i'&&(Nat.beq j j' || Nat.beq i' j')) then (bif Nat.beq lo 0 then (if h:e=e'∧t'=t then some (h.2▸xs) else none) else none) else none
 |.ext e t i j,.ex e' t' lo xs i' j'=>bif !(Nat.beq j 0)&&(Nat.beq i i'&&(Nat.beq j j' || Nat.beq i' j')) then (if h:e=e'∧t'=t then some (lo,h.2▸xs) else none) else none
 |.ptr k o,.ptr k' o'=>bif Nat.beq k k'&&Nat.beq o o' then some () else none
 |.fnp f q ks,.fn f' q' cs=>match Rw cs with | some ks'=>(if f=f'∧q=q'∧ks=ks' then some () else none) | none=>none
 |.nils,.nils=>some ()
 |.nilp,.nilp=>some ()
 |.top,_=>some ()
 |_,_=>none
def SC.mk:(s:SC)→s.den→C
 |.hol (.int k),x=>.int k x
 |.hol .bool,x=>.bool x
 |.hol .str,x=>.str x
 |.hol (.sl e t),x=>.lst e t x 0
 |.hol _,_=>.top
 |.onl e t own,x=>.lst e t x own
 |.exl e t i j,x=>.ex e t 0 x i j
 |.ext e t i j,x=>.ex e t x.1 x.2 i j
 |.ptr k o,_=>.ptr k o
 |.fnp f q ks,_=>.fn f q (ks.map (.ptr · 0))
 |.nils,_=>.nils
 |.nilp,_=>.nilp
 |.top,_=>.top
 |.itr,x=>.itr x
def SCs.dec:(ss:List SC)→List C→Option (SCs.den ss)
 |[],[]=>some ()
 |.hol t::ss,c::cs=>match SC.dec (.hol t) c with | some x=>(match SCs.dec ss cs with | some xs=>some (x,xs) | none=>none) | none=>none
 |.onl e t own::ss,c::cs=>match SC.dec (.onl e t own) c with | some x=>(match SCs.dec ss cs with | some xs=>some (x,xs) | none=>none) | none=>none
 |.exl e t i j::ss,c::cs=>match SC.dec (.exl e t i j) c with | some x=>(match SCs.dec ss cs with | some xs=>some (x,xs) | none=>none) | none=>none
 |.ext e t i j::ss,c::cs=>match SC.dec (.ext e t i j) c with | some x=>(match SCs.dec ss cs with | some xs=>some (x,xs) | none=>none) | none=>none
 |.ptr k o::ss,c::cs=>match SC.dec (.ptr k o) c with | some _=>SCs.dec ss cs | none=>none
 |.fnp f q ks::ss,c::cs=>match SC.dec (.fnp f q ks) c with | some _=>SCs.dec ss cs | none=>none
 |.nils::ss,c::cs=>match SC.dec .nils c with | some _=>SCs.dec ss cs | none=>none
 |.nilp::ss,c::cs=>match SC.dec .nilp c with | some _=>SCs.dec ss cs | none=>none
 |.top::ss,_::cs=>SCs.dec ss cs
 |_,_=>none
def SCs.mk:(ss:List SC)→SCs.den ss→List C
 |[],_=>[]
 |.hol t::ss,x=>SC.mk (.hol t) x.1::SCs.mk ss x.2
 |.onl e t own::ss,x=>SC.mk (.onl e t own) x.1::SCs.mk ss x.2
 |.exl e t i j::ss,x=>SC.mk (.exl e t i j) x.1::SCs.mk ss x.2
 |.ext e t i j::ss,x=>SC.mk (.ext e t i j) x.1::SCs.mk ss x.2
 |.ptr k o::ss,x=>.ptr k o::SCs.mk ss x
 |.fnp f q ks::ss,x=>.fn f q (ks.map (.ptr · 0))::SCs.mk ss x
 |.nils::ss,x=>.nils::SCs.mk ss x
 |.nilp::ss,x=>.nilp::SCs.mk ss x
 |.top::ss,x=>.top::SCs.mk ss x
 |.itr::ss,x=>.itr x.1::SCs.mk ss x.2
def SC.wf:(s:SC)→s.den→Prop
 |.hol t,x=>t.wf x
 |.onl _ t _,xs=>xs.length≤maxLen∧∀x∈xs,t.wf x
 |.exl _ t _ _,xs=>xs.length≤maxLen∧∀x∈xs,t.wf x
 |.ext _ t _ _,xs=>xs.1+xs.2.length≤maxLen∧∀x∈xs.2,t.wf x
 |_,_=>True
def SCs.wf:(ss:List SC)→SCs.den ss→Prop
 |[],_=>True
 |.hol t::ss,x=>t.wf x.1∧SCs.wf ss x.2
 |.onl _ t _::ss,x=>(x.1.length≤maxLen∧∀y∈x.1,t.wf y)∧SCs.wf ss x.2
 |.exl _ t _ _::ss,x=>(x.1.length≤maxLen∧∀y∈x.1,t.wf y)∧SCs.wf ss x.2
 |.ext _ t _ _::ss,x=>(x.1.1+x.1.2.length≤maxLen∧∀y∈x.1.2,t.wf y)∧SCs.wf ss x.2
 |.ptr _ _::ss,x=>SCs.wf ss x
 |.fnp _ _ _::ss,x=>SCs.wf ss x
 |.nils::ss,x=>SCs.wf ss x
 |.nilp::ss,x=>SCs.wf ss x
 |.top::ss,x=>SCs.wf ss x
 |.itr::ss,x=>(byteR x.1.1∧x.1.1.length≤maxLen∧0≤x.1.2)∧SCs.wf ss x.2
section
variable {G:Gh} {w:World}
theorem KF {t:Ty}{c:C}{x:t.den}{v:Value}(h:eY t c=some x)(hv:Rc G w c v):Rc G w (SC.mk (.hol t) x) v:=by
 have hcell:=hv.cell
 have hr:=eh (G:=G) (w:=w) t c x v h hv
 have hs:=dl (G:=G) (w:=w) t x [v] hr
 cases t <;> first | exact hs.1 | exact hcell
theorem XN {e:Nat}{t:Ty}{lo:Nat}{xs:List t.den}{i j i' j':Nat}{v:Value}(hb:(!(Nat.beq j 0)&&(Nat.beq i i'&&(Nat.beq j j' || Nat.beq i' j')))=true)(hv:Rc G w (.ex e t lo xs i' j') v):Rc G w (.ex e t lo xs i j) v:=by
 simp only[Bool.and_eq_true,Bool.not_eq_true',Bool.or_eq_true] at hb
 obtain ⟨h0,h1,h2⟩:=hb
 have h1:=Nat.eq_of_beq_eq_true h1
 subst h1
 have hj:j≠0:=by rintro rfl;cases h0
 rcases hv with hv | ⟨b,cap,e0,⟨n1,n2,ho⟩,hx⟩
 ·exact .inl hv
 ·refine .inr ⟨b,cap,e0,⟨n1,hj,?_⟩,hx⟩
  rcases h2 with h2 | h2
  ·rw[Nat.eq_of_beq_eq_true h2];exact ho
  ·have h2:=Nat.eq_of_beq_eq_true h2
   subst h2
   rcases ho with ho | ho <;> exact .inl ho
theorem WQ {e:Nat}{t:Ty}{lo:Nat}{xs:List t.den}{i j:Nat}{v:Value}(hv:Rc G w (.ex e t lo xs i j) v):lo+xs.length≤maxLen∧∀x∈xs,t.wf x:=by
 rcases hv with ⟨rfl,rfl,_⟩ | ⟨b,cap,e0,_,cur,el,_,_,h2,h3,h4⟩
 ·exact ⟨Nat.zero_le _,fun x hx=>by simp at hx⟩
 ·refine ⟨Nat.le_trans h2 h3,fun x hx=>?_⟩
  obtain ⟨k,hk⟩:=List.getElem?_of_mem hx
  obtain ⟨c,hc,_⟩:=h4 k x hk
  exact Rt.wf _ x c hc
theorem I0:∀{cs:List Cp} {ks:List Nat},Rw cs=some ks→cs=ks.map (Cp.ptr · 0)
 |[],_,h=>by cases h;rfl
 |.dat _ _::_,_,h=>by cases h
 |.ptr k o::cs,_,h=>by
  simp only[Rw] at h
  cases ho:Nat.beq o 0 with
  |false=>rw[ho] at h;cases h
  |true=>
   rw[ho] at h
   simp only[cond_true] at h
   split at h
   ·rename_i ks hk
    cases h
    rw[Nat.eq_of_beq_eq_true ho,I0 hk];rfl
   ·cases h
theorem SC.dec_sound:∀{s:SC} {c:C} {x:s.den} {v:Value},s.dec c=some x→Rc G w c v→Rc G w (s.mk x) v∧s.wf x:=by
 intro s c x v h hv
 cases s with
 |hol t=>exact ⟨KF h hv,Rt.wf (w:=w) t x [v] (eh t c x v h hv)⟩
 |onl e t own=>
  cases c <;> simp only[SC.dec] at h <;> try cases h
  rename_i e' t' xs own'
  split at h
  ·rename_i hh
   obtain ⟨rfl,rfl,rfl⟩:=hh
   cases h
   refine ⟨hv,?_⟩
   obtain ⟨A,cap,_,h1,h2,hrow,_⟩:=hv
   refine ⟨Nat.le_trans h1 h2,fun y hy=>?_⟩
   obtain ⟨i,hi⟩:=List.getElem?_of_mem hy
   obtain ⟨b,o,c,_,hc,_⟩:=hrow.cellAt hi
   exact Rt.wf _ y c hc
  ·cases h
 |exl e t i j=>
  cases c <;> simp only[SC.dec] at h <;> try cases h
  rename_i e' t' lo xs i' j'
  cases hb : !(Nat.beq j 0)&&(Nat.beq i i'&&(Nat.beq j j' || Nat.beq i' j')) with
  |false=>rw[hb] at h;cases h
  |true=>
   rw[hb] at h
   simp only[cond_true] at h
   cases hl:Nat.beq lo 0 with
   |false=>rw[hl] at h;cases h
   |true=>
    rw[hl] at h
    simp only[cond_true] at h
    have hl:=Nat.eq_of_beq_eq_true hl
    subst hl
    split at h
    ·rename_i hh
     obtain ⟨rfl,rfl⟩:=hh
     cases h
     exact ⟨XN hb hv,by have:=WQ hv;rwa [Nat.zero_add] at this⟩
    ·cases h
 |ext e t i j=>
  cases c <;> simp only[SC.dec] at h <;> try cases h
  rename_i e' t' lo xs i' j'
  cases hb : !(Nat.beq j 0)&&(Nat.beq i i'&&(Nat.beq j j' || Nat.beq i' j')) with
  |false=>rw[hb] at h;cases h
  |true=>
   rw[hb] at h
   simp only[cond_true] at h
   split at h
   ·rename_i hh
    obtain ⟨rfl,rfl⟩:=hh
    cases h
    exact ⟨XN hb hv,WQ hv⟩
   ·cases h
 |ptr k o=>
  cases c <;> simp only[SC.dec] at h <;> try cases h
  rename_i k' o'
  cases hb:Nat.beq k k'&&Nat.beq o o' with
  |false=>rw[hb] at h;cases h
  |true=>
   simp only[Bool.and_eq_true] at hb
   have e1:=Nat.eq_of_beq_eq_true hb.1
   have e2:=Nat.eq_of_beq_eq_true hb.2
   subst e1;subst e2
   exact ⟨hv,trivial⟩
 |fnp f q ks=>
  cases c <;> simp only[SC.dec] at h <;> try cases h
  rename_i f' q' cs
  split at h
  ·rename_i ks' hk
   split at h
   ·rename_i hh
    obtain ⟨rfl,rfl,rfl⟩:=hh
    rw[I0 hk] at hv
    exact ⟨hv,trivial⟩
   ·cases h
  ·cases h
 |nils=>cases c <;> simp only[SC.dec] at h <;> first | exact ⟨hv,trivial⟩ | cases h
 |nilp=>cases c <;> simp only[SC.dec] at h <;> first | exact ⟨hv,trivial⟩ | cases h
 |top=>exact ⟨hv.cell,trivial⟩
 |itr=>cases c <;> simp[SC.dec] at h
theorem SCs.dec_sound:∀{ss:List SC} {cs:List C} {x:SCs.den ss} {vs:List Value},SCs.dec ss cs=some x→All2 (Rc G w) cs vs→All2 (Rc G w) (SCs.mk ss x) vs∧SCs.wf ss x
 |[],[],_,vs,_,hv=>⟨hv,trivial⟩
 |[],_::_,_,_,h,_=>by simp[SCs.dec] at h
 |s::ss,[],_,_,h,_=>by cases s <;> simp[SCs.dec] at h
 |s::ss,c::cs,x,[],h,hv=>hv.elim
 |s::ss,c::cs,x,v::vs,h,hv=>by
  cases s <;> simp only[SCs.dec] at h
  case hol t=>
   split at h
   ·rename_i y hy
    split at h
    ·rename_i ys hys
     cases h
     obtain ⟨h1,h2⟩:=SC.dec_sound hy hv.1
     obtain ⟨h3,h4⟩:=SCs.dec_sound hys hv.2
     exact ⟨⟨h1,h3⟩,h2,h4⟩
    ·cases h
   ·cases h
  case onl e t own=>
   split at h
   ·rename_i y hy
    split at h
    ·rename_i ys hys
     cases h
     obtain ⟨h1,h2⟩:=SC.dec_sound hy hv.1
     obtain ⟨h3,h4⟩:=SCs.dec_sound hys hv.2
     exact ⟨⟨h1,h3⟩,h2,h4⟩
    ·cases h
   ·cases h
  case exl e t i j=>
   split at h
   ·rename_i y hy
    split at h
    ·rename_i ys hys
     cases h
     obtain ⟨h1,h2⟩:=SC.dec_sound hy hv.1
     obtain ⟨h3,h4⟩:=SCs.dec_sound hys hv.2
     exact ⟨⟨h1,h3⟩,h2,h4⟩
    ·cases h
   ·cases h
  case ext e t i j=>
   split at h
   ·rename_i y hy
    split at h
    ·rename_i ys hys
     cases h
     obtain ⟨h1,h2⟩:=SC.dec_sound hy hv.1
     obtain ⟨h3,h4⟩:=SCs.dec_sound hys hv.2
     exact ⟨⟨h1,h3⟩,h2,h4⟩
    ·cases h
   ·cases h
  case top=>
   obtain ⟨h3,h4⟩:=SCs.dec_sound h hv.2
   exact ⟨⟨hv.1.cell,h3⟩,h4⟩
  case itr=>cases h
  all_goals
   split at h
   ·rename_i y hy
    obtain ⟨h1,_⟩:=SC.dec_sound hy hv.1
    obtain ⟨h3,h4⟩:=SCs.dec_sound h hv.2
    exact ⟨⟨h1,h3⟩,h4⟩
   ·cases h
end
inductive SV where
 |one (s:SC) | agg (ss:List SC) | any
def SV.cs:SV→List SC
 |.one s=>[s]
 |.agg ss=>ss
 |.any=>[]
abbrev bt (l:List SV):List SV:=.any::.any::l
abbrev bQ (l:List SV):List SV:=.any::.any::.any::.any::l
abbrev dq (l:List SV):List SV:=bQ (bQ l)
abbrev ag (l:List SV):List SV:=dq (dq l)
@[reducible] def nD:List SV→Type
 |[]=>Unit
 |.any::vs=>nD vs
 |.one (.ptr _ _)::vs=>nD vs
 |.one (.fnp _ _ _)::vs=>nD vs
 |.one .nils::vs=>nD vs
 |.one .nilp::vs=>nD vs
 |.one .top::vs=>nD vs
 |.one .itr::vs=>nD vs
 |.one (.hol t)::vs=>t.den×nD vs
 |.one (.onl _ t _)::vs=>List t.den×nD vs
 |.one (.exl _ t _ _)::vs=>List t.den×nD vs
 |.one (.ext _ t _ _)::vs=>(Nat×List t.den)×nD vs
 |.agg ss::vs=>SCs.den ss×nD vs
def kZ:(vs:List SV)→List V→Option (nD vs)
 |[],[]=>some ()
 |.any::vs,_::us=>kZ vs us
 |.one (.ptr k o)::vs,.one c::us=>match SC.dec (.ptr k o) c with | some _=>kZ vs us | none=>none
 |.one (.fnp f q ks)::vs,.one c::us=>match SC.dec (.fnp f q ks) c with | some _=>kZ vs us | none=>none
 |.one .nils::vs,.one c::us=>match SC.dec .nils c with | some _=>kZ vs us | none=>none
 |.one .nilp::vs,.one c::us=>match SC.dec .nilp c with | some _=>kZ vs us | none=>none
 |.one .top::vs,.one _::us=>kZ vs us
 |.one (.hol t)::vs,.one c::us=>match SC.dec (.hol t) c with | some x=>(match kZ vs us with | some xs=>some (x,xs) | none=>none) | none=>none
 |.one (.onl e t own)::vs,.one c::us=>match SC.dec (.onl e t own) c with | some x=>(match kZ vs us with | some xs=>some (x,xs) | none=>none) | none=>none
 |.one (.exl e t i j)::vs,.one c::us=>match SC.dec (.exl e t i j) c with | some x=>(match kZ vs us with | some xs=>some (x,xs) | none=>none) | none=>none
 |.one (.ext e t i j)::vs,.one c::us=>match SC.dec (.ext e t i j) c with | some x=>(match kZ vs us with | some xs=>some (x,xs) | none=>none) | none=>none
 |.agg ss::vs,.agg cs::us=>match SCs.dec ss cs with | some x=>(match kZ vs us with | some xs=>some (x,xs) | none=>none) | none=>none
 |_,_=>none
def Kb:(vs:List SV)→nD vs→List V
 |[],_=>[]
 |.any::vs,x=>.any::Kb vs x
 |.one (.ptr k o)::vs,x=>.one (.ptr k o)::Kb vs x
 |.one (.fnp f q ks)::vs,x=>.one (.fn f q (ks.map (.ptr · 0)))::Kb vs x
 |.one .nils::vs,x=>.one .nils::Kb vs x
 |.one .nilp::vs,x=>.one .nilp::Kb vs x
 |.one .top::vs,x=>.one .top::Kb vs x
 |.one .itr::vs,x=>.any::Kb vs x
 |.one (.hol t)::vs,x=>.one (SC.mk (.hol t) x.1)::Kb vs x.2
 |.one (.onl e t own)::vs,x=>.one (SC.mk (.onl e t own) x.1)::Kb vs x.2
 |.one (.exl e t i j)::vs,x=>.one (SC.mk (.exl e t i j) x.1)::Kb vs x.2
 |.one (.ext e t i j)::vs,x=>.one (SC.mk (.ext e t i j) x.1)::Kb vs x.2
 |.agg ss::vs,x=>.agg (SCs.mk ss x.1)::Kb vs x.2
def Kv:(vs:List SV)→nD vs→Prop
 |[],_=>True
 |.any::vs,x=>Kv vs x
 |.one (.ptr _ _)::vs,x=>Kv vs x
 |.one (.fnp _ _ _)::vs,x=>Kv vs x
 |.one .nils::vs,x=>Kv vs x
 |.one .nilp::vs,x=>Kv vs x
 |.one .top::vs,x=>Kv vs x
 |.one .itr::vs,x=>Kv vs x
 |.one (.hol t)::vs,x=>t.wf x.1∧Kv vs x.2
 |.one (.onl _ t _)::vs,x=>(x.1.length≤maxLen∧∀y∈x.1,t.wf y)∧Kv vs x.2
 |.one (.exl _ t _ _)::vs,x=>(x.1.length≤maxLen∧∀y∈x.1,t.wf y)∧Kv vs x.2
 |.one (.ext _ t _ _)::vs,x=>(x.1.1+x.1.2.length≤maxLen∧∀y∈x.1.2,t.wf y)∧Kv vs x.2
 |.agg ss::vs,x=>SCs.wf ss x.1∧Kv vs x.2
theorem en {G:Gh}{w:World}:∀{vs:List SV} {us:List V} {x:nD vs} {zs:List Value},kZ vs us=some x→All2 (Rv G w) us zs→All2 (Rv G w) (Kb vs x) zs∧Kv vs x
 |[],[],_,zs,_,hv=>⟨hv,trivial⟩
 |[],_::_,_,_,h,_=>by simp[kZ] at h
 |v::vs,[],_,_,h,_=>by
  cases v with
  |one s=>cases s <;> simp[kZ] at h
  |agg ss=>simp[kZ] at h
  |any=>simp[kZ] at h
 |v::vs,u::us,x,[],h,hv=>hv.elim
 |v::vs,u::us,x,z::zs,h,hv=>by
  cases v with
  |any=>
   simp only[kZ] at h
   obtain ⟨h3,h4⟩:=en h hv.2
   exact ⟨⟨trivial,h3⟩,h4⟩
  |agg ss=>
   cases u <;> simp only[kZ] at h <;> try cases h
   rename_i cs
   split at h
   ·rename_i y hy
    split at h
    ·rename_i ys hys
     cases h
     obtain ⟨us',rfl,hu⟩:=hv.1
     obtain ⟨h1,h2⟩:=SCs.dec_sound hy hu
     obtain ⟨h3,h4⟩:=en hys hv.2
     exact ⟨⟨⟨us',rfl,h1⟩,h3⟩,h2,h4⟩
    ·cases h
   ·cases h
  |one s=>
   cases u with
   |one c=>
    cases s <;> simp only[kZ] at h
    case hol t=>
     split at h
     ·rename_i y hy
      split at h
      ·rename_i ys hys
       cases h
       obtain ⟨h1,h2⟩:=SC.dec_sound hy hv.1
       obtain ⟨h3,h4⟩:=en hys hv.2
       exact ⟨⟨h1,h3⟩,h2,h4⟩
      ·cases h
     ·cases h
    case onl e t own=>
     split at h
     ·rename_i y hy
      split at h
      ·rename_i ys hys
       cases h
       obtain ⟨h1,h2⟩:=SC.dec_sound hy hv.1
       obtain ⟨h3,h4⟩:=en hys hv.2
       exact ⟨⟨h1,h3⟩,h2,h4⟩
      ·cases h
     ·cases h
    case exl e t i j=>
     split at h
     ·rename_i y hy
      split at h
      ·rename_i ys hys
       cases h
       obtain ⟨h1,h2⟩:=SC.dec_sound hy hv.1
       obtain ⟨h3,h4⟩:=en hys hv.2
       exact ⟨⟨h1,h3⟩,h2,h4⟩
      ·cases h
     ·cases h
    case ext e t i j=>
     split at h
     ·rename_i y hy
      split at h
      ·rename_i ys hys
       cases h
       obtain ⟨h1,h2⟩:=SC.dec_sound hy hv.1
       obtain ⟨h3,h4⟩:=en hys hv.2
       exact ⟨⟨h1,h3⟩,h2,h4⟩
      ·cases h
     ·cases h
    case top=>
     obtain ⟨h3,h4⟩:=en h hv.2
     exact ⟨⟨Rc.cell hv.1,h3⟩,h4⟩
    case itr=>cases h
    all_goals
     split at h
     ·rename_i y hy
      obtain ⟨h1,_⟩:=SC.dec_sound hy hv.1
      obtain ⟨h3,h4⟩:=en h hv.2
      exact ⟨⟨h1,h3⟩,h4⟩
     ·cases h
   |_=>cases s <;> simp[kZ] at h
@[reducible] def GC:List (Option (List SC))→Type
 |[]=>Unit
 |none::os=>GC os
 |some ss::os=>SCs.den ss×GC os
def UT:(ss:List SC)→List C→Option (SCs.den ss)
 |[.itr],[.itr x]=>some (x,())
 |_,_=>none
def yG:(os:List (Option (List SC)))→List (Option (List C))→Option (GC os)
 |[],_=>some ()
 |none::os,_::bs=>yG os bs
 |none::os,[]=>yG os []
 |some ss::os,some cs::bs=>match (bif cs.any C.isItr then UT ss cs else SCs.dec ss cs) with | some x=>(match yG os bs with | some xs=>some (x,xs) | none=>none) | none=>none
 |_,_=>none
def Pn:(os:List (Option (List SC)))→GC os→List (Option (List C))
 |[],_=>[]
 |none::os,x=>none::Pn os x
 |some ss::os,x=>some (SCs.mk ss x.1)::Pn os x.2
def Xx:(os:List (Option (List SC)))→GC os→Prop
 |[],_=>True
 |none::os,x=>Xx os x
 |some ss::os,x=>SCs.wf ss x.1∧Xx os x.2
theorem BY {G:Gh}{w:World}{ss:List SC}{cs:List C}{y:SCs.den ss}(h:(bif cs.any C.isItr then UT ss cs else SCs.dec ss cs)=some y)(ho:∃o:Obj,ObjOk G w cs o):
  SCs.wf ss y∧∀o,ObjOk G w cs o→ObjOk G w (SCs.mk ss y) o:=by
 obtain ⟨o,ho⟩:=ho
 cases hn:cs.any C.isItr with
 |false=>
  rw[hn] at h
  obtain ⟨cur,el,_,hr⟩:=ho.cells hn
  refine ⟨(SCs.dec_sound h hr).2,fun o' ho'=>?_⟩
  obtain ⟨cur',el',e',hr'⟩:=ho'.cells hn
  exact .inl ⟨cur',el',e',(SCs.dec_sound h hr').1⟩
 |true=>
  rw[hn] at h
  simp only[cond_true] at h
  unfold UT at h
  split at h
  ·rename_i x
   cases h
   refine ⟨?_,fun o' ho'=>ho'⟩
   rcases ho with ⟨cur,el,_,hr⟩ | ⟨s,n,e2,rfl,hbr,hlen⟩
   ·match hcl:cur.toList,hr with
    |[],hr=>exact hr.elim
    |_::_,hr=>exact hr.1.elim
   ·simp only[List.cons.injEq,C.itr.injEq,and_true] at e2
    subst e2
    exact ⟨⟨hbr,hlen,Int.natCast_nonneg n⟩,trivial⟩
  ·cases h
theorem mr {G:Gh}{w:World}:∀{os:List (Option (List SC))} {bs:List (Option (List C))} {x:GC os},yG os bs=some x→
  (∀(k:Nat) (cs:List C),bs[k]?=some (some cs)→∃o:Obj,ObjOk G w cs o)→
  Xx os x∧∀(k:Nat) (cs:List C),(Pn os x)[k]?=some (some cs)→∃cs0:List C,bs[k]?=some (some cs0)∧∀o,ObjOk G w cs0 o→ObjOk G w cs o
 |[],_,_,_,_=>⟨trivial,fun k cs h=>by simp[Pn] at h⟩
 |none::os,[],x,h,hb=>by
  simp only[yG] at h
  obtain ⟨h1,h2⟩:=mr h hb
  refine ⟨h1,fun k cs hk=>?_⟩
  cases k with
  |zero=>simp[Pn] at hk
  |succ k=>obtain ⟨cs0,h3,_⟩:=h2 k cs (by simpa [Pn] using hk);simp at h3
 |none::os,b::bs,x,h,hb=>by
  simp only[yG] at h
  obtain ⟨h1,h2⟩:=mr h fun k cs hk=>hb (k+1) cs (by simpa using hk)
  refine ⟨h1,fun k cs hk=>?_⟩
  cases k with
  |zero=>simp[Pn] at hk
  |succ k=>obtain ⟨cs0,h3,h4⟩:=h2 k cs (by simpa [Pn] using hk);exact ⟨cs0,by simpa using h3,h4⟩
 |some ss::os,[],x,h,hb=>by simp[yG] at h
 |some ss::os,none::bs,x,h,hb=>by simp[yG] at h
 |some ss::os,some cs::bs,x,h,hb=>by
  simp only[yG] at h
  split at h
  ·rename_i y hy
   split at h
   ·rename_i ys hys
    cases h
    obtain ⟨h1,h2⟩:=mr hys fun k cs hk=>hb (k+1) cs (by simpa using hk)
    obtain ⟨h6,h7⟩:=BY hy (hb 0 cs rfl)
    refine ⟨⟨h6,h1⟩,fun k cs' hk=>?_⟩
    cases k with
    |zero=>
     simp only[Pn,List.getElem?_cons_zero,Option.some.injEq] at hk
     subst hk
     exact ⟨cs,rfl,h7⟩
    |succ k=>obtain ⟨cs0,h3,h4⟩:=h2 k cs' (by simpa [Pn] using hk);exact ⟨cs0,by simpa using h3,h4⟩
   ·cases h
  ·cases h
structure Ls where
 tm:List SV
 ob:List (Option (List SC))
abbrev Ls.den (s:Ls):Type:=nD s.tm×GC s.ob
def Ls.mk' (s:Ls)(x:s.den):AS:=⟨Kb s.tm x.1,[],Pn s.ob x.2⟩
def Ls.dec (s:Ls)(A:AS):Option s.den:=match A with
 |⟨tm,[],ob⟩=>match kZ s.tm tm with
  |some x=>match yG s.ob ob with
   |some y=>some (x,y)
   |none=>none
  |none=>none
 |_=>none
def Ls.wf (s:Ls)(x:s.den):Prop:=Kv s.tm x.1∧Xx s.ob x.2
theorem Ls.dec_sound {s:Ls}{A:AS}{x:s.den}(h:s.dec A=some x){F:Fra}{G:Gh}{ts:Array Value}{cst:List (Array Value)}{w:World}(R:Rel F G A ts cst w):Rel F G (s.mk' x) ts cst w∧s.wf x:=by
 obtain ⟨tm,stk,ob⟩:=A
 unfold Ls.dec at h
 split at h
 ·rename_i tm' ob' e
  cases e
  split at h
  ·rename_i y hy
   split at h
   ·rename_i z hz
    cases h
    obtain ⟨h1,h2⟩:=en hy R.tm
    obtain ⟨h3,h4⟩:=mr (G:=G) (w:=w) hz fun k cs hk=>let ⟨b,o,_,_,hr⟩:=R.ob k cs hk;⟨_,hr⟩
    refine ⟨⟨h1,R.stk,fun k cs hk=>?_,R.gh⟩,h2,h3⟩
    obtain ⟨cs0,h5,h6⟩:=h4 k cs hk
    obtain ⟨b,o,hm,hh,hr⟩:=R.ob k cs0 h5
    exact ⟨b,o,hm,hh,h6 _ hr⟩
   ·cases h
  ·cases h
 ·cases h
inductive Lx where
 |exit (id:Nat) | ret | normal | panic (T:Nat) (t:Ty)
@[reducible] def Lx.den:Lx→Type
 |.panic _ t=>t.den
 |_=>Unit
def Lx.ex:(e:Lx)→e.den→Ex
 |.exit id,_=>.exit id
 |.ret,_=>.ret
 |.normal,_=>.normal
 |.panic T t,x=>.panic (.one (.ifc T t x))
def Lx.dec:(e:Lx)→Ex→Option e.den
 |.exit id,.exit id'=>bif Nat.beq id id' then some () else none
 |.ret,.ret=>some ()
 |.panic T t,.panic (.one (.ifc T' t' x))=>if h:T=T'∧t'=t then some (h.2▸x) else none
 |_,_=>none
@[reducible] def aJ:List (Lx×Ls)→Type
 |[]=>Empty
 |x::xs=>Out (x.1.den×x.2.den) (aJ xs)
def dc:(xs:List (Lx×Ls))→Ex→AS→Option (aJ xs)
 |[],_,_=>none
 |x::xs,e,A=>match x.1.dec e with
  |some p=>match x.2.dec A with
   |some d=>some (.ret (p,d))
   |none=>match dc xs e A with
    |some y=>some (.pan y)
    |none=>none
  |none=>match dc xs e A with
   |some y=>some (.pan y)
   |none=>none
def W4 {R:Type}:(xs:List (Lx×Ls))→aJ xs→(Ex→AS→Option R)→Option R
 |[],x,_=>nomatch x
 |x::_,.ret d,K=>K (x.1.ex d.1) (x.2.mk' d.2)
 |_::xs,.pan y,K=>W4 xs y K
structure Lo where
 st:Ls
 xs:List (Lx×Ls)
def bv (lo:Lo)(Fn:lo.st.den→Tr (aJ lo.xs)):Lh:=fun R A K=>match lo.st.dec A with
 |some x=>(Fn x).run fun y=>W4 lo.xs y K
 |none=>none
theorem wx {R:Type}{F:Fra}{G:Gh}{A:AS}{a:Act}{cst:List (Array Value)}{w:World}(Rl:Rel F G A a.tmps cst w){K:Ex→AS→Option R}{r:R}{Q:Exit→Act→World→Prop}{dfs:List Deferred}(hd:a.defers=dfs)(hK:yF F cst dfs r K Q):
  ∀{xs:List (Lx×Ls)} {e:Ex} {y:aJ xs},dc xs e A=some y→W4 xs y K=some r→
   match e with
   |.normal=>Q .normal a w
   |.exit id=>Q (.exit id) a w
   |.ret=>Q .ret a w
   |.panic v=>∀u,Rv G w v u→Q (.panic [{ v:=u,recovered:=false }]) a w
 |[],e,y,h,_=>by simp[dc] at h
 |(l,s)::xs,e,y,h,hm=>by
  simp only[dc] at h
  have rest:∀{y':aJ xs},dc xs e A=some y'→W4 xs y' K=some r→_:=fun h1 h2=>wx Rl hd hK h1 h2
  split at h
  ·rename_i p hp
   split at h
   ·rename_i d hdd
    cases h
    simp only[W4] at hm
    have R':=(Ls.dec_sound hdd Rl).1
    cases l with
    |normal=>cases e <;> simp[Lx.dec] at hp
    |ret=>
     cases e <;> simp only[Lx.dec] at hp <;> try cases hp
     exact hK .ret _ G a w R' hd hm
    |exit id=>
     cases e <;> simp only[Lx.dec] at hp <;> try cases hp
     rename_i id'
     cases hb:Nat.beq id id' with
     |false=>rw[hb] at hp;cases hp
     |true=>
      have:=Nat.eq_of_beq_eq_true hb
      subst this
      exact hK (.exit id) _ G a w R' hd hm
    |panic T t=>
     cases e with
     |panic v=>
      cases v with
      |one c=>
       cases c <;> simp only[Lx.dec] at hp <;> try cases hp
       rename_i T' t' x
       split at hp
       ·rename_i hh
        obtain ⟨rfl,rfl⟩:=hh
        cases hp
        exact hK (.panic _) _ G a w R' hd hm
       ·cases hp
      |_=>simp[Lx.dec] at hp
     |_=>simp[Lx.dec] at hp
   ·split at h
    ·rename_i y' hy'
     cases h
     exact rest hy' hm
    ·cases h
  ·split at h
   ·rename_i y' hy'
    cases h
    exact rest hy' hm
   ·cases h
theorem ON {P:Program}{tt:TT}(htt:ej P tt)(hm:P.follows .mixedOrders=true){hd:Hd}(hh:so P hd){okDraw:Dr}(hdr:sg P tt okDraw){lp:Lp}{kb lr:Nat}{m:Nat}{b:Code}{x:List (Nat×Nat)}
  (hlp:∀e∈cZ lr b m x,∀h,lp (dn e.2.1)=some h→BN P kb e.2.1 h) (lo:Lo) (Fn:lo.st.den→Tr (aJ lo.xs))
  (hF:∀d y,lo.st.wf d→(Fn d).val=some y→∃n,wT m kb (fun A K=>ev tt hd okDraw lp kb lr b m x A K) n (lo.st.mk' d) (dc lo.xs)=some y):BN P kb b (bv lo Fn):=by
 intro R F cst r Q G A a w K hkb h Rl hK
 unfold bv at h
 split at h
 ·rename_i d hdec
  obtain ⟨y,hy,h⟩:=Tr.run_val h
  obtain ⟨R1,hwf⟩:=Ls.dec_sound hdec Rl
  obtain ⟨n,hn⟩:=hF d y hwf hy
  refine EL htt hm hh hdr hkb hlp hn R1 ?_
  intro ex A' G' a' w' R' hd' hk
  have:=wx R' hd' hK hk h
  cases ex <;> exact this
 ·cases h
abbrev Le:=Nat×Code×List (Nat×Nat)
def iX:Le:=(0,.skip,[])
def sE (fn:Func):Code:=match fn.body with
 |some c=>c
 |none=>.skip
def gT (fn:Func):List Le:=cZ (Cm fn) (sE fn) (Cm fn) []
def MD (fn:Func)(e:Le):List Le:=cZ (Cm fn) e.2.1 e.1 e.2.2
def gQ (fn:Func)(j:Nat):Le:=(gT fn).getD j iX
def Gw (fn:Func)(e:Le)(j:Nat):Le:=(MD fn e).getD j iX
def bJ:List (Nat×Lh)→Lp
 |[],_=>none
 |(g,h)::l,f=>bif Nat.beq g f then some h else bJ l f
def lD (tt:TT)(hd:Hd)(dr:Dr)(lp:Lp)(kb:Nat)(fn:Func)(e:Le){R:Type}(n:Nat)(A:AS)(K:Ex→AS→Option R):Option R:=
 wT e.1 kb (fun A K=>ev tt hd dr lp kb (Cm fn) e.2.1 e.1 e.2.2 A K) n A K
def LpsOk (P:Program)(kb:Nat)(lp:Lp)(es:List Le)(i:Nat):Prop:=∀j,i≤j→j<es.length→∀h,lp (dn (es.getD j iX).2.1)=some h→BN P kb (es.getD j iX).2.1 h
theorem LpsOk.done {P:Program}{kb:Nat}{lp:Lp}{es:List Le}{i:Nat}(h:Nat.ble es.length i=true):LpsOk P kb lp es i:=fun j h1 h2=>by
 have:=Nat.le_of_ble_eq_true h
 omega
theorem LpsOk.step {P:Program}{kb:Nat}{lp:Lp}{es:List Le}{i:Nat}{h0:Lh}(e:lp (dn (es.getD i iX).2.1)=some h0)(h:BN P kb (es.getD i iX).2.1 h0)(r:LpsOk P kb lp es (i+1)):LpsOk P kb lp es i:=fun j h1 h2 g hg=>by
 by_cases hj:j=i
 ·subst hj
  rw[e] at hg
  cases hg
  exact h
 ·exact r j (by omega) h2 g hg
theorem LpsOk.all {P:Program}{kb:Nat}{lp:Lp}{es:List Le}(h:LpsOk P kb lp es 0):∀e∈es,∀g,lp (dn e.2.1)=some g→BN P kb e.2.1 g:=by
 intro e he g hg
 obtain ⟨j,hj⟩:=List.getElem?_of_mem he
 have hlt:=(List.getElem?_eq_some_iff.1 hj).1
 have e0:es.getD j iX=e:=by rw[List.getD_eq_getElem?_getD,hj];rfl
 have:=h j (Nat.zero_le _) hlt g
 rw[e0] at this
 exact this hg
theorem aQ {P:Program}{n:Nat}(hm:P.follows .mixedOrders=true){cs:List (Nat×Hc)}(hcs:HcsOk P cs){lp:Lp}{kb:Nat}{fn:Func}{e:Le}(hsub:LpsOk P kb lp (MD fn e) 0)(lo:Lo)(Fn:lo.st.den→Tr (aJ lo.xs))
  (hF:∀d y,lo.st.wf d→(Fn d).val=some y→∃k,lD (uO P n) (bR cs) (xt (uO P n)) lp kb fn e k (lo.st.mk' d) (dc lo.xs)=some y):BN P kb e.2.1 (bv lo Fn):=
 ON (jP P n) hm (B8 hcs) (pl (jP P n)) hsub.all lo Fn hF
theorem ao {P:Program}{n:Nat}(hm:P.follows .mixedOrders=true){cs:List (Nat×Hc)}(hcs:HcsOk P cs){lp:Lp}{f:Nat}{fn:Func}(hf:P.funcs[f]?=some fn)(hname:(fn.name == "runtime.NumGoroutine")=false) (hbody:fn.body.isNone=false)
  (io:Io) (hlp:LpsOk P io.obs.length lp (gT fn) 0) (Fn:io.In→Tr io.Res) (hF:∀d out,io.wf d→(Fn d).val=some out→io.run (uO P n) (bR cs) (xt (uO P n)) lp fn d=some out):HcOk P f (af io Fn):=by
 refine EK (jP P n) hm (B8 hcs) (pl (jP P n)) hf hname io lp (fun c hc=>?_) Fn (fun d out=>hF d out) hbody
 have:sE fn=c:=by unfold sE;rw[hc]
 have h:=hlp.all
 unfold gT at h
 rw[this] at h
 exact h
noncomputable def Cr (tt:TT):Dr:=fun ops=>bif Nat.beq ops.size 0 then none else xt tt ops
theorem La {P:Program}{tt:TT}(htt:ej P tt):sg P tt (Cr tt):=by
 intro hd hh R F cst kb ops is r Q G A a w K hkb ho
 unfold Cr at ho
 cases hz:Nat.beq ops.size 0 with
 |true=>rw[hz] at ho;cases ho
 |false=>rw[hz] at ho;exact pl htt hd hh R F cst kb ops is r Q G A a w K hkb ho
theorem sF {P:Program}{n:Nat}(hm:P.follows .mixedOrders=true){cs:List (Nat×Hc)}(hcs:HcsOk P cs){lp:Lp}{f:Nat}{fn:Func}(hf:P.funcs[f]?=some fn)(hname:(fn.name == "runtime.NumGoroutine")=false) (hbody:fn.body.isNone=false)
  (io:Io) (hlp:LpsOk P io.obs.length lp (gT fn) 0) (Fn:io.In→Tr io.Res) (hF:∀d out,io.wf d→(Fn d).val=some out→io.run (uO P n) (bR cs) (Cr (uO P n)) lp fn d=some out):HcOk P f (af io Fn):=by
 refine EK (jP P n) hm (B8 hcs) (La (jP P n)) hf hname io lp (fun c hc=>?_) Fn (fun d out=>hF d out) hbody
 have:sE fn=c:=by unfold sE;rw[hc]
 have h:=hlp.all
 unfold gT at h
 rw[this] at h
 exact h
end Go.Proofs.YtomeplopmndbgaaGreat.Sym
namespace Go.Proofs.YtomeplopmndbgaaGreat.Sym
open Go
set_option linter.unusedSimpArgs false
set_option linter.unusedVariables false
def L4:Code→Code
 |.seq a _=>a
 |c=>c
def Qt:Code→Code
 |.seq _ b=>b
 |c=>c
def WL:Code→Code
 |.cond _ t _=>t
 |c=>c
def VF:Code→Array Oper
 |.region _ ops _=>ops
 |_=>#[]
theorem Cv {Pr:(Nat×Code×List (Nat×Nat))→Prop}{lr l:Nat}{c:Code}{x:List (Nat×Nat)}(h:cZ lr c l x=[]):∀e∈cZ lr c l x,Pr e:=by
 intro e he
 rw[h] at he
 cases he
noncomputable section
section
variable {P:Program} {tt:TT}
end
end
end Go.Proofs.YtomeplopmndbgaaGreat.Sym
namespace Go.Proofs.YtomeplopmndbgaaGreat.Sym
open Go
set_option linter.unusedSimpArgs false
set_option linter.unusedVariables false
noncomputable section
abbrev tt:TT:=uO Tryz.prog 400
def dr:Dr:=xt (uO Tryz.prog 400)
def XF:Dr:=Cr (uO Tryz.prog 400)
theorem hm:Tryz.prog.follows .mixedOrders=true:=by kernel_rfl
abbrev prog:Program:=Tryz.prog
abbrev bs:Ty:=.sl 5 (.int .u8)
abbrev dL:Sh:=.dat bs false false
abbrev dO:Sh:=.dat bs false true
abbrev dI:Sh:=.dat (.int .i64) false false
abbrev dB:Sh:=.dat .bool false false
theorem dP {k:IntKind}{n:Int}(h:cT k n):k.wrap n=n:=by
 unfold cT at h
 cases k <;> simp[IntKind.wrap,IntKind.min,IntKind.max,IntKind.signed,IntKind.bits] at * <;> (try split) <;> omega
theorem bx {n:Int}(h0 : -9223372036854775808≤n)(h:n≤9223372036854775807):IntKind.wrap .i64 n=n:=by
 apply dP
 simp[cT,IntKind.min,IntKind.max,IntKind.signed,IntKind.bits]
 omega
theorem pe:maxLen=9223372036854775807:=rfl
theorem bM {i n:Nat}(h:i<n)(hn:n≤maxLen):IntKind.wrap .i64 ((i:Int)+1)=((i+1:Nat):Int):=by
 rw[bx] <;> rw[pe] at hn <;> omega
theorem aa {α:Type}{c:Bool}(h:c=true)(a b:α):(bif c then a else b)=a:=by rw[h];rfl
theorem ae {α:Type}{c:Bool}(h:c=false)(a b:α):(bif c then a else b)=b:=by rw[h];rfl
theorem bh {α:Type}{xs:List α}{i:Nat}{d:α}(h:i<xs.length):xs.getD i d=xs[i]:=by simp[List.getD,h]
theorem Tr.val_ret {α:Type}(a:α):(Tr.ret a).val=some a:=rfl
theorem Tr.val_ite {α:Type}(c:Bool)(t e:Tr α):(Tr.ite c t e).val=if c=true then t.val else e.val:=by cases c <;> rfl
theorem Tr.run_ret {α R:Type}(a:α)(K:α→Option R):(Tr.ret a).run K=K a:=rfl
theorem Tr.run_ite {α R:Type}(c:Bool)(t e:Tr α)(K:α→Option R):(Tr.ite c t e).run K=if c=true then t.run K else e.run K:=by cases c <;> rfl
theorem Tr.guard {α:Type}{c:Bool}{t:Tr α}{y:α}(h:(Tr.ite c t .no).val=some y):c=true∧t.val=some y:=by
 cases c with
 |true=>exact ⟨rfl,h⟩
 |false=>cases h
theorem eM {i:Int}(h:0≤i):∃n:Nat,i=n:=⟨i.toNat,by omega⟩
abbrev mw:Io:=⟨[dL,dL],[],[],[dB],none⟩
def Dl (d:mw.In):Tr mw.Res:=.ret (.ret ((decide (d.1.1=d.1.2.1),()),()))
abbrev G4:List (Nat×Hc):=[]
def Of:Hd:=bR G4
abbrev gA:Lo:=⟨⟨(.one (.hol (.sl 5 (Ty.int IntKind.u8)))::.one (.hol (.sl 5 (Ty.int IntKind.u8)))::.any::bt (.one (.hol (.int IntKind.i64))::ag (bQ []))),[]⟩,[(.ret,⟨(bQ (.one (.hol .bool)::.any::ag (bQ []))),[]⟩),(.exit 0,⟨(ag (dq (bt []))),[]⟩)]⟩
def oL (d:gA.st.den):Tr (aJ gA.xs):=
 .ite (decide (0≤d.1.2.2.1)&&decide (d.1.1.length=d.1.2.1.length)) (.ite (decide (d.1.1.drop d.1.2.2.1.toNat=d.1.2.1.drop d.1.2.2.1.toNat)) (.ret (.pan (.ret ((),((),()))))) (.ret (.ret ((),((false,()),()))))) .no
def Cj:Lp:=bJ [(5,bv gA oL)]
def qJ {R:Type}(h2 h3:List Int)(h4:Int)(next:List Int→List Int→Int→Option R)(out:aJ gA.xs→Option R):Option R:=bif decide (h4<(↑h2.length:Int)) then bif decide (0≤h4)&&decide (h4<(↑h2.length:Int)) then bif decide (0≤h4)&&decide (h4<(↑h3.length:Int)) then bif h2.getD h4.toNat 0 != h3.getD h4.toNat 0 then out (.ret ((),((false,()),()))) else next (h2) (h3) (IntKind.i64.wrap (h4+1)) else none else none else out (.pan (.ret ((),((),()))))
def rx (n:Nat)(h2 h3:List Int)(h4:Int):Option (aJ gA.xs):=lD tt Of dr Cj 0 Tryz.f28 (gQ Tryz.f28 0) n (gA.st.mk' ((h2,(h3,(h4,()))),())) (dc gA.xs)
theorem FT (n:Nat)(h2 h3:List Int)(h4:Int):rx (n+1) h2 h3 h4=qJ h2 h3 h4 (rx n) some:=by kernel_rfl
theorem OP (xs ys:List Int)(hl:xs.length=ys.length)(hb:xs.length≤maxLen):∀(k i:Nat),i≤xs.length→xs.length<i+k→
  rx k xs ys (i:Int)=if xs.drop i=ys.drop i then some (.pan (.ret ((),((),())))) else some (.ret ((),((false,()),()))):=by
 intro k
 induction k with
 |zero=>intro i h h';omega
 |succ k ih=>
  intro i hi h
  rw[FT]
  unfold qJ
  by_cases h1:i<xs.length
  ·have h2:i<ys.length:=by omega
   rw[bM h1 hb,ih (i+1) h1 (by omega)]
   have e:(xs.drop i=ys.drop i)↔(xs[i]=ys[i]∧xs.drop (i+1)=ys.drop (i+1)):=by rw[List.drop_eq_getElem_cons h1,List.drop_eq_getElem_cons h2,List.cons.injEq]
   simp only[Int.toNat_natCast,bh h1,bh h2]
   by_cases he:xs[i]=ys[i] <;> simp[h1,h2,he,e,cond_eq_ite]
  ·rw[List.drop_of_length_le (by omega),List.drop_of_length_le (by omega)]
   simp[h1]
def DC (a0 a1:List Int):Option mw.Res:=bif (↑a0.length:Int) != (↑a1.length:Int) then some (Out.ret ((false,()),())) else (oL ((a0,(a1,(0,()))),())).run fun y=>match y with | .ret ((),((x9,()),()))=>(some (Out.ret ((x9,()),()))) | .pan (.ret ((),((),())))=>(some (Out.ret ((true,()),())))
theorem SO (a0 a1:List Int):Io.run tt Of dr Cj mw Tryz.f28 ((a0,a1,()),())=DC a0 a1:=by kernel_rfl
theorem Cy:HcOk prog 28 (af mw Dl):=by
 refine ao (n:=400) hm (cs:=G4) HcsOk.nil (lp:=Cj) (fn:=Tryz.f28) (by kernel_rfl) (by kernel_rfl) (by kernel_rfl) mw
  (.step (h0:=bv gA oL) (by kernel_rfl) (aQ (n:=400) hm (cs:=G4) HcsOk.nil (lp:=Cj) (fn:=Tryz.f28) (.done (by kernel_rfl)) gA oL ?_) (.done (by kernel_rfl))) Dl ?_
 ·rintro ⟨⟨xs,ys,i,⟨⟩⟩,⟨⟩⟩ y hw hy
  obtain ⟨hg,hy⟩:=Tr.guard hy
  simp only[Bool.and_eq_true,decide_eq_true_eq] at hg
  obtain ⟨n,rfl⟩:=eM hg.1
  by_cases hn:n≤xs.length
  ·refine ⟨xs.length+1,(OP xs ys hg.2 hw.1.1.1 _ n hn (by omega)).trans ?_⟩
   rw[← hy]
   simp only[Tr.val_ite,decide_eq_true_eq,Int.toNat_natCast,Tr.val_ret]
  ·refine ⟨1,?_⟩
   show rx (0+1) xs ys n=_
   rw[FT,← hy]
   unfold qJ
   have h1:¬ n<xs.length:=by omega
   simp[Tr.val_ite,Tr.val_ret,h1,List.drop_of_length_le (show xs.length≤n by omega),List.drop_of_length_le (show ys.length≤n by omega)]
 ·rintro ⟨⟨xs,ys,⟨⟩⟩,⟨⟩⟩ out hw ho
  refine (SO xs ys).trans ?_
  cases ho
  unfold DC
  by_cases hl:xs.length=ys.length
  ·by_cases he:xs=ys
   ·subst he;simp[oL,Tr.run]
   ·simp[oL,Tr.run,hl,he]
  ·have:xs≠ys:=fun e=>hl (by rw[e])
   have h2:(xs.length:Int)≠ys.length:=by omega
   simp[this,h2,cond_eq_ite]
end
end Go.Proofs.YtomeplopmndbgaaGreat.Sym
namespace Go.Proofs.YtomeplopmndbgaaGreat.Sym
open Go
open Go.ChangeShapes Go.WideShapes Go.ChangeAt Go.RowKit
set_option linter.unusedSimpArgs false
set_option linter.unusedVariables false
def fK (P:Program):Ty→(TypeId ⊕ (List Field×Nat))→Bool
 |.int k,.inl t=>match P.underlying t with
  |some (.int k')=>decide (k'=k)
  |_=>false
 |.bool,.inl t=>match P.underlying t with
  |some .bool=>true
  |_=>false
 |.str,.inl t=>match P.underlying t with
  |some .string=>true
  |_=>false
 |.sl e ty,.inl t=>match P.underlying t with
  |some (.slice e')=>(e' == e)&&(fK P ty (.inl e)&&((P.cellsOf e == ty.size)&&!(ty.size == 0)))
  |_=>false
 |.prod a b,.inl t=>match P.underlying t with
  |some (.struct fs)=>(P.cellsOf t == a.size+b.size)&&match fs.toList with
   |f::fs'=>(f.offset == 0)&&((P.cellsOf f.type == a.size)&&(fK P a (.inl f.type)&&fK P b (.inr (fs',a.size))))
   |[]=>false
  |_=>false
 |.unit,.inr ([],_)=>true
 |.prod a b,.inr (f::fs,off)=>(f.offset == off)&&((P.cellsOf f.type == a.size)&&(fK P a (.inl f.type)&&fK P b (.inr (fs,off+a.size))))
 |_,_=>false
def GB:(t:Ty)→t.den→Nat
 |.int _,_=>1
 |.bool,_=>1
 |.str,s=>List.length (α:=Int) s+1
 |.sl _ t,xs=>(List.map (GB t) xs).sum+1
 |.unit,_=>0
 |.prod a b,x=>GB a x.1+GB b x.2
 |.tree _ _,_=>0
def S0 (W:World)(b o:Nat):Prop:=∃v,W.cell? ⟨b,o,none⟩=some v
section
variable {P:Program} {W:World} {H:Type} {enc:TypeId×Value→H} {sp:Nat→Bool} {held:Bool}
theorem Nq {a:Addr}{n:Nat}{cs:List Value}(h:W.cells? 0 a n=some cs)(hn:0<n):a.spot=none∧cs.length=n∧At (S0 W) W a.block a.off cs:=by
 simp only[World.cells?,Nat.zero_le,if_true] at h
 have hl:=mapM_some_length h
 rw[List.length_range] at hl
 have hg:∀i,i<n→W.cell? (a.add i)=cs[i]?:=fun i hi=>mapM_some_get h i i (by simp[hi])
 have hsp:a.spot=none:=by
  have h0:=hg 0 hn
  rw[List.getElem?_eq_getElem (by omega)] at h0
  unfold World.cell? at h0
  split at h0
  ·split at h0
   ·cases h0
   ·rename_i hs
    cases e:a.spot with
    |none=>rfl
    |some x=>simp[Addr.add,e] at hs
  ·cases h0
 refine ⟨hsp,hl,fun j v hv=>?_⟩
 have hj:j<n:=by rw[← hl];exact (List.getElem?_eq_some_iff.1 hv).1
 have:=hg j hj
 rw[hv] at this
 have e:a.add j=⟨a.block,a.off+j,none⟩:=by
  obtain ⟨b,o,s⟩:=a
  simp only at hsp
  subst hsp
  exact Addr.add_plain ..
 rw[e] at this
 exact ⟨⟨v,this⟩,this⟩
theorem sf (ub:DataW H→Nat)(uba:List (DataW H)→Nat)(u1:∀l,1≤ub (.lit l))(u2:∀bs,bs.length+1≤ub (.lit (.string bs)))(u3:1≤ub .nil)(u4:∀es ss,uba es+1≤ub (.slice es ss))(u5:∀ps,uba ps≤ub (.agg ps))
  (u6:∀d ds,uba (d::ds)=ub d+uba ds) (u7:uba []=0):
  ∀(ty:Ty),(∀(t:TypeId),fK P ty (.inl t)=true→∀(fuel:Nat) (cs:List Value) (x:DataW H×List MemPlace),DataW.trod enc P W 0 sp held fuel t cs=some x→∃y:ty.den,Rt (S0 W) W ty y cs∧GB ty y≤ub x.1)∧
   (∀(fs:List Field) (off:Nat),fK P ty (.inr (fs,off))=true→∀(fuel:Nat) (cs:List Value) (xs:List (DataW H×List MemPlace)),fs.mapM (fun f=>DataW.trod enc P W 0 sp held fuel f.type ((cs.drop f.offset).take (P.cellsOf f.type)))=some xs→
    (cs.drop off).length=ty.size→∃y:ty.den,Rt (S0 W) W ty y (cs.drop off)∧GB ty y≤uba (xs.map (·.1)))
 |.int k=>by
  refine ⟨fun t ht fuel cs x h=>?_,fun fs off ht=>by cases fs <;> simp[fK] at ht⟩
  simp only[fK] at ht
  split at ht
  ·rename_i k' hu
   have ht:=of_decide_eq_true ht
   subst ht
   obtain ⟨n2,rfl,rfl,hw⟩:=DataW.trod_int hu h
   refine ⟨n2,⟨rfl,?_⟩,u1 _⟩
   simpa [Lit.wf,cT] using hw
  ·cases ht
 |.bool=>by
  refine ⟨fun t ht fuel cs x h=>?_,fun fs off ht=>by cases fs <;> simp[fK] at ht⟩
  simp only[fK] at ht
  split at ht
  ·rename_i hu
   obtain ⟨b,rfl,rfl⟩:=DataW.trod_bool hu h
   exact ⟨b,rfl,u1 _⟩
  ·cases ht
 |.str=>by
  refine ⟨fun t ht fuel cs x h=>?_,fun fs off ht=>by cases fs <;> simp[fK] at ht⟩
  simp only[fK] at ht
  split at ht
  ·rename_i hu
   obtain ⟨s,rfl,rfl,hl⟩:=DataW.trod_string hu h
   refine ⟨kX s,⟨by rw[n5],uH s,?_⟩,?_⟩
   ·have:(kX s).length=s.size:=by rw[← cU,n5]
    rw[this];exact hl
   ·have:(kX s).length=s.data.toList.length:=by unfold kX;exact List.length_map _
    show (kX s).length+1≤_
    rw[this]
    exact u2 _
  ·cases ht
 |.unit=>by
  refine ⟨fun t ht=>by simp[fK] at ht,fun fs off ht fuel cs xs h hl=>?_⟩
  refine ⟨(),?_,Nat.zero_le _⟩
  exact List.eq_nil_of_length_eq_zero hl
 |.sl e ty=>by
  refine ⟨fun t ht fuel cs x h=>?_,fun fs off ht=>by cases fs <;> simp[fK] at ht⟩
  simp only[fK] at ht
  split at ht
  ·rename_i e' hu
   simp only[Bool.and_eq_true,beq_iff_eq,Bool.not_eq_true',beq_eq_false_iff_ne] at ht
   obtain ⟨rfl,hT,hsz,hpos⟩:=ht
   have ih:=(sf ub uba u1 u2 u3 u4 u5 u6 u7 ty).1 e' hT
   rcases DataW.trod_slice hu h with ⟨rfl,rfl⟩ | ⟨a,len,cap,elems,rest,n,_,rfl,rfl,hb,hl,hm,hlen,hel,_,_⟩
   ·exact ⟨[],⟨none,0,rfl,Nat.le_refl _,Nat.zero_le _,fun h=>absurd rfl h⟩,u3⟩
   ·have each:∀i,i<len→∃y:ty.den,(∃c,Rt (S0 W) W ty y c∧(i=0→a.spot=none)∧At (S0 W) W a.block (a.off+i*ty.size) c)∧∃d,elems[i]?=some d∧GB ty y≤ub d.1:=by
     intro i hi
     have h1:=hel i hi
     rw[List.getElem?_eq_getElem (by omega)] at h1
     obtain ⟨c,hc,hd⟩:=Option.bind_eq_some_iff.1 h1
     obtain ⟨y,hy,hs⟩:=ih _ _ _ hd
     rw[hsz] at hc
     obtain ⟨h2,h3,h4⟩:=Nq hc (by omega)
     have e1:(a.add (i*ty.size)).block=a.block:=by unfold Addr.add;split <;> rfl
     have e2:(a.add (i*ty.size)).off=a.off+i*ty.size:=by
      unfold Addr.add
      split
      ·rename_i h0;rw[h0];rfl
      ·rfl
     rw[e1,e2] at h4
     refine ⟨y,⟨c,hy,fun h0=>?_,h4⟩,elems[i],by simp,hs⟩
     subst h0
     simpa [Addr.add] using h2
    have mk:∀m,m≤len→∃ys:List ty.den,ys.length=m∧(∀i y,ys[i]?=some y→∃c,Rt (S0 W) W ty y c∧(i=0→a.spot=none)∧At (S0 W) W a.block (a.off+i*ty.size) c)∧(ys.map (GB ty)).sum≤uba ((elems.take m).map (·.1)):=by
     intro m
     induction m with
     |zero=>intro _;exact ⟨[],rfl,fun i y h=>by simp at h,by simp⟩
     |succ m ihm=>
      intro hm'
      obtain ⟨ys,g1,g2,g3⟩:=ihm (by omega)
      obtain ⟨y,g4,d,g5,g6⟩:=each m (by omega)
      refine ⟨ys++[y],by simp[g1],fun i z hz=>?_,?_⟩
      ·rw[List.getElem?_append] at hz
       split at hz
       ·exact g2 i z hz
       ·rename_i hlt
        have:i=m:=by
         have:=(List.getElem?_eq_some_iff.1 hz).1
         simp at this;omega
        subst this
        simp[g1] at hz
        subst hz
        exact g4
      ·have hap:∀(xs bs:List (DataW H)),uba (xs++bs)=uba xs+uba bs:=by
        intro xs bs
        induction xs with
        |nil=>simp[u7]
        |cons c xs ih=>rw[List.cons_append,u6,u6,ih];omega
       rw[List.take_add_one,g5]
       simp only[List.map_append,List.sum_append,hap,Option.toList,List.map_cons,List.map_nil,List.sum_cons,List.sum_nil,u6,u7]
       omega
    obtain ⟨ys,g1,g2,g3⟩:=mk len (Nat.le_refl _)
    refine ⟨ys,⟨some a,cap,by rw[g1],by omega,hm,fun hne=>?_⟩,?_⟩
    ·have h0:0<ys.length:=List.length_pos_iff.2 hne
     obtain ⟨c,_,hsp,_⟩:=g2 0 ys[0] (by simp)
     have hsp:=hsp rfl
     refine ⟨a.block,a.off,?_,fun i y hy=>?_⟩
     ·obtain ⟨b,o,s⟩:=a
      simp only at hsp
      rw[hsp]
     ·obtain ⟨c,hc,_,hat⟩:=g2 i y hy
      exact ⟨c,hc,hat⟩
    ·rw[List.take_of_length_le (by omega)] at g3
     show (ys.map (GB ty)).sum+1≤_
     exact Nat.le_trans (by omega) (u4 _ _)
  ·cases ht
 |.tree a e=>⟨fun t ht=>by simp[fK] at ht,fun fs off ht=>by cases fs <;> simp[fK] at ht⟩
 |.prod a b=>by
  have step:∀(f:Field) (fs:List Field) (off:Nat),((f.offset == off)&&((P.cellsOf f.type == a.size)&&(fK P a (.inl f.type)&&fK P b (.inr (fs,off+a.size)))))=true→
    ∀(fuel:Nat) (cs:List Value) (xs:List (DataW H×List MemPlace)),(f::fs).mapM (fun f=>DataW.trod enc P W 0 sp held fuel f.type ((cs.drop f.offset).take (P.cellsOf f.type)))=some xs→
    (cs.drop off).length=a.size+b.size→∃y:a.den×b.den,Rt (S0 W) W (.prod a b) y (cs.drop off)∧GB a y.1+GB b y.2≤uba (xs.map (·.1)):=by
   intro f fs off ht fuel cs xs h hl
   simp only[Bool.and_eq_true,beq_iff_eq] at ht
   obtain ⟨rfl,hs,hA,hB⟩:=ht
   simp only[List.mapM_cons,Option.bind_eq_bind,Option.bind_eq_some_iff] at h
   obtain ⟨x0,h0,xs',h1,h2⟩:=h
   simp only[Option.pure_def,Option.some.injEq] at h2
   subst h2
   rw[hs] at h0
   obtain ⟨y1,hy1,hd1⟩:=(sf ub uba u1 u2 u3 u4 u5 u6 u7 a).1 f.type hA _ _ _ h0
   have hl2:(cs.drop (f.offset+a.size)).length=b.size:=by
    simp only[List.length_drop] at hl ⊢
    omega
   obtain ⟨y2,hy2,hd2⟩:=(sf ub uba u1 u2 u3 u4 u5 u6 u7 b).2 fs _ hB _ _ _ h1 hl2
   refine ⟨(y1,y2),⟨_,_,?_,hy1,hy2⟩,?_⟩
   ·rw[← List.drop_drop,List.take_append_drop]
   ·simp only[List.map_cons,u6]
    omega
  refine ⟨fun t ht fuel cs x h=>?_,fun fs off ht fuel cs xs h hl=>?_⟩
  ·simp only[fK] at ht
   split at ht
   ·rename_i fs hu
    simp only[Bool.and_eq_true,beq_iff_eq] at ht
    obtain ⟨hsz,ht⟩:=ht
    split at ht
    ·rename_i f fs' hfs
     cases fuel with
     |zero=>simp[DataW.trod] at h
     |succ n=>
      unfold DataW.trod at h
      rw[hu] at h
      simp only at h
      split at h
      ·rename_i hlen
       obtain ⟨xs,hxs,rfl⟩:=Option.map_eq_some_iff.1 h
       rw[hfs] at hxs
       obtain ⟨y,hy,hd⟩:=step f fs' 0 (by simpa using ht) n cs xs hxs (by simpa [hsz] using hlen)
       exact ⟨y,by simpa using hy,Nat.le_trans hd (u5 _)⟩
      ·cases h
    ·cases ht
   ·cases ht
  ·cases fs with
   |nil=>simp[fK] at ht
   |cons f fs=>exact step f fs off (by simpa only [fK] using ht) fuel cs xs h hl
theorem WP {ty:Ty}{t:TypeId}(ht:fK P ty (.inl t)=true){fuel:Nat}{cs:List Value}{d:DataW H}{ps:List MemPlace}(h:DataW.trod enc P W 0 sp held fuel t cs=some (d,ps)):∃y:ty.den,Rt (S0 W) W ty y cs∧GB ty y≤Rows.uptoBulk d:=
 (sf Rows.uptoBulk Rows.uptoBulkAll (fun l=>by cases l <;> simp[Rows.uptoBulk]) (fun bs=>by simp[Rows.uptoBulk]) (by simp[Rows.uptoBulk]) (fun es ss=>by simp[Rows.uptoBulk]) (fun ps=>by simp[Rows.uptoBulk]) (fun d ds=>by simp[Rows.uptoBulkAll]) (by simp[Rows.uptoBulkAll]) ty).1 t ht fuel cs _ h
def G0 (W:World):Gh:=⟨S0 W,fun _=>none,fun _=>none⟩
def F0 (W:World):Fra:=⟨W,fun _=>False,S0 W,fun _=>none⟩
theorem XG (W:World):Rel (F0 W) (G0 W) ⟨[],[],[]⟩ #[] [] W where
 tm:=trivial
 stk:=trivial
 ob:=fun k cs h=>by simp at h
 gh:=⟨fun _ _ h=>(by cases h),fun _ _ _ h=>(by cases h),fun _ _ _ h=>(by cases h),fun _ _ _ _ _ h=>(by cases h),fun b o h=>(by
   obtain ⟨v,h⟩:=h
   unfold World.cell? at h
   split at h
   ·rename_i e
    exact (Array.getElem?_eq_some_iff.1 e).1
   ·cases h),⟨rfl,rfl,rfl,Nat.le_refl _,fun _ _ _=>rfl⟩,fun _ _ h=>h,fun _ _ h=>.inl h,fun _ _ _=>rfl,fun _ _ h=>(by cases h)⟩
def K4 (oc:Oc)(A:AS):Option Unit:=match oc with
 |.ret (.one (.bool true)) _=>some ()
 |_=>none
theorem K5 {f:Nat}{io:Io}{Fn:io.In→Tr io.Res}(hok:HcOk P f (af io Fn)){args:List V}{vals:Array Value}(hargs:All2 (Rv (G0 W) W) args vals.toList)(hrun:af io Fn Unit args 1 ⟨[],[],[]⟩ K4=some ()):
  Calls P f vals W fun e w'=>e=.returned (.bool true)∧w'.os=W.os∧w'.output=W.output∧∀i,i<W.heap.size→w'.heap[i]?=W.heap[i]?:=by
 refine (hok Unit args 1 _ K4 () (F0 W) (G0 W) #[] [] W vals (fun _=>rfl) hrun (XG W) hargs).2.mono ?_
 rintro e w' ⟨G',A',v,u,R',hv,h⟩
 have hfr:=R'.gh.fr
 refine ⟨?_,hfr.os,hfr.output,fun i hi=>hfr.block i hi (fun h=>h)⟩
 rcases h with ⟨rfl,ks,_,hk⟩ | ⟨rfl,hk⟩
 ·unfold K4 at hk
  split at hk
  ·rename_i e
   cases e
   rw[show u=.bool true from hv]
  ·cases hk
 ·cases hk
def M7 (ty:Ty)(y:ty.den):V:=bif ty.isProd then .agg (se ty y) else match se ty y with
 |[c]=>.one c
 |_=>.any
theorem GR {G:Gh}{ty:Ty}{y:ty.den}{v:Value}(h:Rt G.S W ty y v.cells.toList)(hp:ty.isProd=true→∃vs,v=.agg vs)(hn:ty.isProd=false→v.cells = #[v]):Rv G W (M7 ty y) v:=by
 have hs:=dl (G:=G) (w:=W) ty y _ h
 unfold M7
 cases hb:ty.isProd with
 |true=>
  obtain ⟨vs,rfl⟩:=hp hb
  exact ⟨vs,rfl,hs⟩
 |false=>
  rw[hn hb] at hs
  simp only[cond_false]
  split
  ·rename_i c e
   rw[e] at hs
   exact hs.1
  ·trivial
theorem Ky {ty:Ty}{t:TypeId}(ht:fK P ty (.inl t)=true){r:Reach}{base:Nat}{v:Value}(hval:Value.okWide P W r base t v):(ty.isProd=true→∃vs,v=.agg vs)∧(ty.isProd=false→v.cells = #[v]):=by
 cases ty with
 |tree a e=>simp[fK] at ht
 |int k=>
  refine ⟨fun h=>(by cases h),fun _=>?_⟩
  simp only[fK] at ht
  split at ht
  ·rename_i k' hu
   cases v <;> simp[Value.okWide,hu,Cell.okWide,Cell.ok] at hval <;> rfl
  ·cases ht
 |bool=>
  refine ⟨fun h=>(by cases h),fun _=>?_⟩
  simp only[fK] at ht
  split at ht
  ·rename_i hu
   cases v <;> simp[Value.okWide,hu,Cell.okWide,Cell.ok] at hval <;> rfl
  ·cases ht
 |str=>
  refine ⟨fun h=>(by cases h),fun _=>?_⟩
  simp only[fK] at ht
  split at ht
  ·rename_i hu
   cases v <;> simp[Value.okWide,hu,Cell.okWide,Cell.ok] at hval <;> rfl
  ·cases ht
 |sl e ty=>
  refine ⟨fun h=>(by cases h),fun _=>?_⟩
  simp only[fK] at ht
  split at ht
  ·rename_i e' hu
   cases v <;> simp[Value.okWide,hu,Cell.okWide,Cell.ok] at hval <;> rfl
  ·cases ht
 |unit=>simp[fK] at ht
 |prod a b=>
  refine ⟨fun _=>?_,fun h=>(by cases h)⟩
  simp only[fK] at ht
  split at ht
  ·rename_i fs hu
   simp only[Value.okWide,hu] at hval
   obtain ⟨cs,rfl,_⟩:=hval
   exact ⟨cs,rfl⟩
  ·cases ht
def vq (P:Program):Bool:=(List.range P.types.size).all fun t=>match P.underlying t with
 |some (.slice e)=>decide (0<P.cellsOf e)
 |_=>true
theorem zg (hl:laidOutB P=true)(hm:mapsRowed P=true)(hs:vq P=true){W':World}(hk:∀i,i<W.heap.size→W'.heap[i]?=W.heap[i]?):∀{ts:List TypeId} {vs:List Value} {ds:List (DataW H)} {ps:List MemPlace},
  (∀t∈ts,t<P.types.size)→DataW.TrodAll enc P W 0 (fun _=>true) true ts vs ds ps→(∀p∈ps,sp p.block=true)→DataW.TrodAll enc P W' 0 sp true ts vs ds ps
 |[],[],[],_,_,h,_=>h
 |t::ts,v::vs,d::ds,ps,hT,⟨p,q,⟨fuel,h1⟩,h2,e⟩,hsp=>by
  refine ⟨p,q,⟨fuel,DataW.trod_stays (kids_rows hl hm) (fun {t e} ht hu=>?_) (fun h=>(by cases h)) (hT t (by simp)) h1 (fun x hx=>?_) fun x hx=>hsp x (by rw[e];exact List.mem_append_left _ hx)⟩,
   zg hl hm hs hk (fun t ht=>hT t (by simp[ht])) h2 (fun x hx=>hsp x (by rw[e];exact List.mem_append_right _ hx)),e⟩
  ·have:=List.all_eq_true.1 hs t (by simpa using ht)
   rw[hu] at this
   exact of_decide_eq_true this
  ·have hb:=DataW.trod_lt _ _ _ _ h1 x hx
   cases x with
   |cell b off=>simp[World.sameAt,World.cell?,hk b hb]
   |map b=>exact hk b hb
 |[],[],_::_,_,_,h,_=>h.elim
 |[],_::_,_,_,_,h,_=>h.elim
 |_::_,[],_,_,_,h,_=>h.elim
 |_::_,_::_,[],_,_,h,_=>h.elim
theorem PO {f:Func}{s:ChangeSpec}{apart fresh handsOn again:Bool}{W':World}{args:Array Value}{ds gs:List (DataW H)}{before:List MemPlace}
  (hl:laidOutB P=true) (hm:mapsRowed P=true) (hs:vq P=true) (hT:∀t∈f.params.toList,t<P.types.size) {tb:TypeId} (hr:f.resultTypes = #[tb]) (htb:P.underlying tb=some .bool) (hv:s.vars=[])
  (hW:DataW.Whole enc P f.params.toList s.vars apart W args.toList ds gs before) (hfn:s.fn H (ds++gs)={ results:=[.lit (.bool true)],args:=ds })
  (hos:W'.os=W.os) (hout:W'.output=W.output) (hk:∀i,i<W.heap.size→W'.heap[i]?=W.heap[i]?):s.post enc P f apart fresh handsOn again W args (.bool true) W':=by
 have hlt:=hW.lt
 obtain ⟨p,q,hA,hV,hpq,hfz,hnd⟩:=id hW
 rw[hv] at hV
 obtain ⟨rfl,rfl⟩:=trodVars_none hV
 rw[List.append_nil] at hpq
 subst hpq
 have hres:∀(b:Nat) (sp:Nat→Bool) (hd:Bool),DataW.TrodAll enc P W' b sp hd f.resultTypes.toList ((Value.bool true).resultList f.resultTypes.size) [.lit (.bool true)] []:=by
  intro b sp hd
  rw[hr]
  exact trodAll_cons_mk (shut_bool htb _) trodAll_mk0
 have hargs:∀sp:Nat→Bool,(∀x∈before,sp x.block=true)→DataW.TrodAll enc P W' 0 sp true f.params.toList args.toList ds before:=
  fun sp hsp=>zg hl hm hs hk hT hA hsp
 have hvars:∀sp:Nat→Bool,DataW.TrodVars enc P W' sp s.vars [] []:=by
  intro sp
  rw[hv]
  rfl
 have hold:∀x∈before,(fun b=>decide (b<W.heap.size)) x.block=true:=fun x hx=>by simpa using hlt x hx
 have hkept:∀may:MemPlace→Prop,W.keptBut W' may:=fun may=>⟨hos,hout,fun i hi=>by
  rw[hk i hi]
  cases h:W.heap[i]? with
  |none=>rfl
  |some o=>cases o <;> simp⟩
 refine ⟨ds,[],before,[],before,[],hW,by rw[hfn];exact hres _ _ _,by rw[hfn];exact hargs _ hold,by rw[hfn];exact hvars _,hkept _,fun _=>?_⟩
 refine ⟨ok_one hr rfl (okWide_bool_mk htb true),[.lit (.bool true)]++ds,[],[]++before,⟨[]++before,[],trodAll_append (hargs _ fun _ _=>rfl) (hres _ _ _),hvars _,by simp,fun b off hx=>?_,fun ha=>by simpa using hnd ha⟩,fun x hx _=>by simpa using hx⟩
 have hx:MemPlace.cell b off∈before:=by simpa using hx
 rw[← hfz b off hx]
 simp[World.frozen?,hk b (hlt _ hx)]
@[reducible] def sq:List Ty→Type
 |[]=>Unit
 |t::ts=>t.den×sq ts
def IS:(tys:List Ty)→sq tys→List V
 |[],_=>[]
 |t::ts,y=>M7 t y.1::IS ts y.2
def N4:(tys:List Ty)→sq tys→Nat
 |[],_=>0
 |t::ts,y=>GB t y.1+N4 ts y.2
def XK:(tys:List Ty)→sq tys→Prop
 |[],_=>True
 |t::ts,y=>t.wf y.1∧XK ts y.2
def Sp (P:Program):List Ty→List TypeId→Bool
 |[],[]=>true
 |ty::tys,t::ts=>fK P ty (.inl t)&&Sp P tys ts
 |_,_=>false
theorem Dy {r:Reach}{base:Nat}:∀(tys:List Ty) (ts:List TypeId),Sp P tys ts=true→∀{vs:List Value} {ds:List (DataW H)} {ps:List MemPlace},DataW.TrodAll enc P W 0 sp held ts vs ds ps→
  (∀(j:Nat) t v,ts[j]?=some t→vs[j]?=some v→Value.okWide P W r base t v)→
  ∃ys:sq tys,All2 (Rv (G0 W) W) (IS tys ys) vs∧N4 tys ys≤Rows.uptoBulkAll ds∧XK tys ys∧ds.length=tys.length
 |[],[],_,[],[],_,_,_=>⟨(),trivial,Nat.zero_le _,trivial,rfl⟩
 |ty::tys,t::ts,ht,v::vs,d::ds,_,⟨p,q,⟨fuel,h1⟩,h2,_⟩,hv=>by
  simp only[Sp,Bool.and_eq_true] at ht
  obtain ⟨y,hy,hs⟩:=WP ht.1 h1
  obtain ⟨k1,k2⟩:=Ky ht.1 (hv 0 t v rfl rfl)
  obtain ⟨ys,g1,g2,g3,g4⟩:=Dy tys ts ht.2 h2 fun j t' v' e1 e2=>hv (j+1) t' v' (by simpa using e1) (by simpa using e2)
  refine ⟨(y,ys),⟨GR hy k1 k2,g1⟩,?_,⟨Rt.wf ty y _ hy,g3⟩,by simp[g4]⟩
  simp only[N4,Rows.uptoBulkAll]
  omega
 |[],[],_,[],_::_,_,h,_=>h.elim
 |[],[],_,_::_,_,_,h,_=>h.elim
 |_::_,_::_,_,[],_,_,h,_=>h.elim
 |_::_,_::_,_,_::_,[],_,h,_=>h.elim
 |[],_::_,h,_,_,_,_,_=>by cases h
 |_::_,[],h,_,_,_,_,_=>by cases h
theorem Cg {fn:Func}{f:Nat}{io:Io}{Fn:io.In→Tr io.Res}(hok:HcOk P f (af io Fn)){s:ChangeSpec}(tys:List Ty)(hts:Sp P tys fn.params.toList=true)
  (hl:laidOutB P=true) (hm:mapsRowed P=true) (hs:vq P=true) (hT:∀t∈fn.params.toList,t<P.types.size) {tb:TypeId} (hr:fn.resultTypes = #[tb]) (htb:P.underlying tb=some .bool) (hv:s.vars=[])
  (hfn:∀ds:List (DataW H),ds.length=tys.length→s.fn H ds={ results:=[.lit (.bool true)],args:=ds })
  (hrun:∀ys:sq tys,N4 tys ys≤1048576→XK tys ys→af io Fn Unit (IS tys ys) 1 ⟨[],[],[]⟩ K4=some ())
  (base:Nat) (args:Array Value) (ds gs:List (DataW H)) (before:List MemPlace)
  (hval:∀(j:Nat) t v,fn.params[j]?=some t→args[j]?=some v→Value.okWide P W .any base t v)
  (hW:DataW.Whole enc P fn.params.toList s.vars false W args.toList ds gs before) (hk:Rows.uptoSmall H (ds++gs)=true):
  Calls P f args W fun e W'=>∃v,e=.returned v∧s.post enc P fn false true false false W args v W':=by
 have hW':=hW
 obtain ⟨p,q,hA,hV,_,_,_⟩:=hW
 rw[hv] at hV
 obtain ⟨rfl,rfl⟩:=trodVars_none hV
 obtain ⟨ys,g1,g2,g3,g4⟩:=Dy tys fn.params.toList hts hA fun j t v e1 e2=>hval j t v (by simpa using e1) (by simpa using e2)
 have hb:Rows.uptoBulkAll ds≤1048576:=by simpa [Rows.uptoSmall] using hk
 refine (K5 hok (vals:=args) (args:=IS tys ys) g1 (hrun ys (by omega) g3)).mono ?_
 rintro e W' ⟨rfl,hos,hout,hkeep⟩
 exact ⟨_,rfl,PO hl hm hs hT hr htb hv hW' (by rw[List.append_nil];exact hfn ds g4) hos hout hkeep⟩
end
end Go.Proofs.YtomeplopmndbgaaGreat.Sym
namespace Go.Proofs.YtomeplopmndbgaaGreat.Sym
open Go
set_option linter.unusedSimpArgs false
set_option linter.unusedVariables false
noncomputable section
section
variable {P:Program} {tt:TT}
end
end
end Go.Proofs.YtomeplopmndbgaaGreat.Sym
namespace Go.Proofs.YtomeplopmndbgaaGreat.Sym
open Go
set_option linter.unusedSimpArgs false
set_option linter.unusedVariables false
def Ty.flatB:Ty→Bool
 |.sl _ _=>false
 |.tree _ _=>false
 |.prod a b=>a.flatB&&b.flatB
 |_=>true
theorem Rt.flat {S S':Nat→Nat→Prop}{w w':World}:∀(t:Ty) (x:t.den) (cs:List Value),t.flatB=true→Rt S w t x cs→Rt S' w' t x cs
 |.int _,_,_,_,h=>h
 |.bool,_,_,_,h=>h
 |.str,_,_,_,h=>h
 |.unit,_,_,_,h=>h
 |.prod a b,_,_,hf,⟨c1,c2,e,h1,h2⟩=>by
  simp only[Ty.flatB,Bool.and_eq_true] at hf
  exact ⟨c1,c2,e,Rt.flat a _ _ hf.1 h1,Rt.flat b _ _ hf.2 h2⟩
 |.sl _ _,_,_,hf,_=>by cases hf
 |.tree _ _,_,_,hf,_=>by cases hf
noncomputable section
structure Grown (w w':World):Prop where
 os:w'.os=w.os
 tape:w'.tape=w.tape
 output:w'.output=w.output
 size:w.heap.size≤w'.heap.size
 old:∀k,k<w.heap.size→w'.heap[k]?=w.heap[k]?
theorem Grown.cell {w w':World}(g:Grown w w'){b o:Nat}(hb:b<w.heap.size):w'.cell? ⟨b,o,none⟩=w.cell? ⟨b,o,none⟩:=by
 simp[World.cell?,g.old b hb]
section
variable {F:Fra} {G:Gh} {w w':World}
def Gh.owned (G:Gh)(i:Nat)(o:Option Nat):Gh:=⟨G.S,G.mu,fun j=>if j=i then o.map (·,0) else G.ow j⟩
variable {G':Gh}
def OwnsTo (G' H:Gh)(l:List Nat):Prop:=∀j∈l,j≠0∧∀b n,G'.ow j=some (b,n)→H.ow j=some (b,0)
theorem OwnsTo.l {H:Gh}{l l':List Nat}(h:OwnsTo G' H (l++l')):OwnsTo G' H l:=fun j hj=>h j (List.mem_append_left _ hj)
theorem OwnsTo.r {H:Gh}{l l':List Nat}(h:OwnsTo G' H (l++l')):OwnsTo G' H l':=fun j hj=>h j (List.mem_append_right _ hj)
end
end
end Go.Proofs.YtomeplopmndbgaaGreat.Sym
namespace Go.Proofs.YtomeplopmndbgaaGreat.Sym
open Go
set_option linter.unusedSimpArgs false
set_option linter.unusedVariables false
noncomputable section
def tk (lo:Nat)(zs xs:List Int):List Int:=(zs.drop lo).take xs.length++xs.drop (zs.length - lo)
def C.over (i:Nat)(zs:List Int):C→C
 |.lst e t xs own=>.lst e t xs (bif own == i then 0 else own)
 |.ex e t lo xs a b=>bif !(a == i)&&!(b == i) then .ex e t lo xs a b else
   (if h:t=.int .u8 then (bif (a == i)&&(b == i) then .ex e (.int .u8) lo (tk lo zs (h▸xs:List (Ty.int .u8).den)) a b
    else bif Nat.beq lo 0 then .ex e (.int .u8) zs.length (List.drop zs.length (h▸xs:List (Ty.int .u8).den)) a b else .top) else .top)
 |.eel t k x a b=>bif !(a == i)&&!(b == i) then .eel t k x a b else .top
 |c=>c
def C.longs (i:Nat):C→List Nat
 |.ex _ _ _ xs a b=>bif (!(a == i)&&!(b == i)) || ((a == i)&&(b == i)) then [] else [xs.length]
 |_=>[]
def XY (x:Int):Int:=QX .u8 x 90
theorem pT (lo:Nat)(zs xs:List Int):(tk lo zs xs).length=xs.length:=by simp[tk];omega
theorem Ik (lo:Nat)(zs xs:List Int)(k:Nat)(x:Int)(h:(tk lo zs xs)[k]?=some x):(lo+k<zs.length∧zs[lo+k]?=some x)∨(zs.length≤lo+k∧xs[k]?=some x):=by
 have hk:k<xs.length:=by rw[← pT lo zs xs];exact (List.getElem?_eq_some_iff.1 h).1
 unfold tk at h
 rw[List.getElem?_append] at h
 split at h
 ·rename_i hlt
  simp at hlt
  rw[List.getElem?_take,if_pos hk,List.getElem?_drop] at h
  exact .inl ⟨by omega,h⟩
 ·rename_i hlt
  simp at hlt
  rw[List.getElem?_drop] at h
  refine .inr ⟨by omega,?_⟩
  rw[← h]
  congr 1
  simp
  omega
theorem Rel.over {F:Fra}{G:Gh}{A:AS}{ts:Array Value}{cst:List (Array Value)}{w w':World}(R:Rel F G A ts cst w){b i:Nat}{zs:List Int}{cur cur':Array Value}{el:TypeId}
  (ho:G.ow i=some (b,0)) (hwr:Wrote w w' b) (hh:w.heap[b]?=some (.cells cur el (0,0))) (hh':w'.heap[b]?=some (.cells cur' el (0,0))) (hsz:cur'.size=cur.size)
  (hlow:∀(k:Nat) (z:Int),zs[k]?=some z→cur'[k]?=some (Value.int .u8 z)∧cT .u8 z) (hhigh:∀q:Nat,zs.length≤q→cur'[q]?=cur[q]?) (hg:fM zs.length (A.coll (C.longs i))=true):Rel F G (A.map (C.over i zs)) ts cst w':=by
 have R0:=R
 rw[← AS.upto_eq (jl _) hg] at R0
 have e:(A.map (C.upto (C.longs i) (fM zs.length))).map (C.over i zs)=A.map (C.over i zs):=by rw[AS.upto_eq (jl _) hg]
 have hk:=(Goes.exWrote R.gh ho hwr).kept
 have key:∀c v,Rc G w c v→fM zs.length (c.longs i)=true→Rc G w' (c.over i zs) v:=by
  intro c v hc hl
  have hcell:=hc.cell
  have go:=Goes.exWrote R.gh ho hwr
  cases c with
  |lst e t xs own=>
   have h0:=hc.beyond R.gh ho hwr hh hh' hsz (fun t2 lo2 xs2 i2 j2 cap2 hform _=>by rcases hform with ⟨h,_⟩ | ⟨_,h⟩ <;> cases h)
   simp only[C.over]
   obtain ⟨A',cap,e0,h1,h2,h3,h4⟩:=h0
   refine ⟨A',cap,e0,h1,h2,h3,?_⟩
   cases hb:own == i with
   |true=>exact .inl rfl
   |false=>exact h4
  |ex e t lo xs a b'=>
   simp only[C.over]
   cases hn : !(a == i)&&!(b' == i) with
   |true=>
    simp only[cond_true]
    simp only[Bool.and_eq_true,Bool.not_eq_true',beq_eq_false_iff_ne] at hn
    exact hc.goes go (fun _ e=>by cases e) (fun j e=>by cases e;simp[C.hasOwn,hn.1,hn.2])
   |false=>
    simp only[cond_false]
    split
    ·rename_i ht
     subst ht
     simp only
     cases hy:(a == i)&&(b' == i) with
     |true=>
      simp only[cond_true]
      simp only[Bool.and_eq_true,beq_iff_eq] at hy
      obtain ⟨rfl,rfl⟩:=hy
      have hlen:=pT lo zs xs
      rcases hc with ⟨rfl,rfl,e0⟩ | ⟨bl,cap,e0,⟨n1,n2,ho2⟩,cu,el2,hb2,h1,h2,h3,h4⟩
      ·exact .inl ⟨rfl,List.eq_nil_of_length_eq_zero hlen,e0⟩
      ·have hbb:bl=b:=by rcases ho2 with h | h <;> (rw[ho] at h;cases h;rfl)
       subst hbb
       rw[hh] at hb2;cases hb2
       have hlen':List.length (α:=(Ty.int .u8).den) (tk lo zs xs)=xs.length:=hlen
       refine .inr ⟨bl,cap,by rw[hlen'];exact e0,⟨n1,n2,ho2⟩,cur',el,hh',hsz.trans h1,by rw[hlen'];exact h2,h3,fun k x hx=>?_⟩
       rcases Ik lo zs xs k x hx with ⟨hlt,hz⟩ | ⟨hge,hxk⟩
       ·obtain ⟨g1,g2⟩:=hlow _ _ hz
        refine ⟨[.int .u8 x],⟨rfl,g2⟩,fun q u hq=>?_⟩
        cases q with
        |succ q=>simp at hq
        |zero=>
         simp only[List.getElem?_cons_zero,Option.some.injEq] at hq
         subst hq
         simpa [Ty.size] using g1
       ·obtain ⟨c,hcr,hu⟩:=h4 k x hxk
        refine ⟨c,Rt.kept hk _ _ _ hcr,fun q u hq=>?_⟩
        have hqs:q<1:=by have:=Rt.len _ _ _ hcr;rw[show (Ty.int .u8).size=1 from rfl] at this;rw[← this];exact (List.getElem?_eq_some_iff.1 hq).1
        have:=hu q u hq
        rw[hhigh _ (by simp only[Ty.size];omega)]
        exact this
     |false=>
      simp only[cond_false]
      simp only[C.longs,hn,hy,Bool.or_self,cond_false,fM,Bool.and_true,decide_eq_true_eq] at hl
      cases hlo:Nat.beq lo 0 with
      |false=>exact hcell
      |true=>
       simp only[cond_true]
       have hlo:=Nat.eq_of_beq_eq_true hlo
       subst hlo
       rcases hc with ⟨_,rfl,e0⟩ | ⟨bl,cap,e0,⟨n1,n2,ho2⟩,cu,el2,hb2,h1,h2,h3,h4⟩
       ·have:zs=[]:=List.eq_nil_of_length_eq_zero (by simpa using hl)
        subst this
        exact .inl ⟨rfl,rfl,e0⟩
       ·have hdl:zs.length+(List.drop zs.length xs).length=0+xs.length:=by simp;omega
        by_cases hbb:bl=b
        ·subst hbb
         rw[hh] at hb2;cases hb2
         refine .inr ⟨bl,cap,by rw[hdl];exact e0,⟨n1,n2,ho2⟩,cur',el,hh',hsz.trans h1,by rw[hdl];exact h2,h3,fun k x hx=>?_⟩
         rw[List.getElem?_drop] at hx
         obtain ⟨c,hcr,hu⟩:=h4 _ x hx
         refine ⟨c,Rt.kept hk _ _ _ hcr,fun q u hq=>?_⟩
         have:=hu q u hq
         rw[hhigh _ (by simp only[Ty.size];omega)]
         rw[Nat.zero_add] at this
         exact this
        ·refine .inr ⟨bl,cap,by rw[hdl];exact e0,⟨n1,n2,ho2⟩,cu,el2,(hwr.other bl hbb).trans hb2,h1,by rw[hdl];exact h2,h3,fun k x hx=>?_⟩
         rw[List.getElem?_drop] at hx
         obtain ⟨c,hcr,hu⟩:=h4 _ x hx
         refine ⟨c,Rt.kept hk _ _ _ hcr,fun q u hq=>?_⟩
         have:=hu q u hq
         rw[Nat.zero_add] at this
         exact this
    ·exact hcell
  |eel t' k' x a b'=>
   simp only[C.over]
   cases hn : !(a == i)&&!(b' == i) with
   |true=>
    simp only[cond_true]
    simp only[Bool.and_eq_true,Bool.not_eq_true',beq_eq_false_iff_ne] at hn
    exact hc.goes go (fun _ e=>by cases e) (fun j e=>by cases e;simp[C.hasOwn,hn.1,hn.2])
   |false=>exact hcell
  |ro t x=>exact hc.goes go (fun _ e=>by cases e) (fun _ _=>rfl)
  |fn f m caps=>exact hc.goes go (fun _ e=>by cases e) (fun _ _=>rfl)
  |ifc T t x=>exact hc.goes go (fun _ e=>by cases e) (fun _ _=>rfl)
  |pin v0 t x=>exact hc.goes go (fun _ e=>by cases e) (fun _ _=>rfl)
  |_=>exact hc
 have R1:=R.exWrote ho hwr (f:=fun c=>if fM zs.length (c.longs i)=true then c.over i zs else .top) (fun c v hc=>by
  split
  ·rename_i h;exact key c v hc h
  ·exact hc.cell) (fun x=>rfl)
 have e2:A.map (fun c=>if fM zs.length (c.longs i)=true then c.over i zs else .top)=A.map (C.over i zs):=by
  rw[← e]
  conv=>lhs;rw[← AS.upto_eq (jl _) hg]
  obtain ⟨tm,stk,ob⟩:=A
  have hf:∀c:C,(if fM zs.length ((c.upto (C.longs i) (fM zs.length)).longs i)=true then (c.upto (C.longs i) (fM zs.length)).over i zs else .top)=(c.upto (C.longs i) (fM zs.length)).over i zs:=by
   intro c
   unfold C.upto
   cases h:fM zs.length (c.longs i) with
   |true=>simp[h]
   |false=>simp[C.longs,fM,C.over]
  have hcs:∀cs:List C,(cs.map (C.upto (C.longs i) (fM zs.length))).map (fun c=>if fM zs.length (c.longs i)=true then c.over i zs else .top)=(cs.map (C.upto (C.longs i) (fM zs.length))).map (C.over i zs):=by
   intro cs
   rw[List.map_map,List.map_map]
   exact List.map_congr_left fun c _=>hf c
  have hv:∀v:V,(v.map (C.upto (C.longs i) (fM zs.length))).map (fun c=>if fM zs.length (c.longs i)=true then c.over i zs else .top)=(v.map (C.upto (C.longs i) (fM zs.length))).map (C.over i zs):=by
   intro v
   cases v with
   |one c=>simp only[V.map];rw[hf c]
   |agg cs=>simp only[V.map];rw[hcs cs]
   |tup ps=>
    simp only[V.map,List.map_map]
    congr 1
    refine List.map_congr_left fun p _=>?_
    simp only[Function.comp_apply]
    rw[hcs p.2]
   |any=>rfl
  simp only[AS.map,List.map_map,AS.mk.injEq]
  refine ⟨List.map_congr_left fun v _=>hv v,List.map_congr_left fun l _=>?_,List.map_congr_left fun o _=>?_⟩
  ·simp only[Function.comp_apply,List.map_map]
   exact List.map_congr_left fun v _=>hv v
  ·cases o with
   |none=>rfl
   |some cs=>simp only[Function.comp_apply,Option.map_some];rw[hcs cs]
 rw[e2] at R1
 exact R1
abbrev XI:Ty:=.int .u8
abbrev XD (n:Nat):List V:=List.replicate n .any
theorem Grown.refl (w:World):Grown w w:=⟨rfl,rfl,rfl,Nat.le_refl _,fun _ _=>rfl⟩
abbrev wS:Lo:=⟨⟨(.one (.hol (.sl 5 (Ty.int IntKind.u8)))::.one (.hol (.sl 5 (Ty.int IntKind.u8)))::.any::bt (.one (.hol (.int IntKind.i64))::.any::ag (bQ []))),[]⟩,[(.ret,⟨(bQ (.one (.hol .bool)::ag (bQ (bt [])))),[]⟩),(.exit 0,⟨(.any::ag (dq (bt []))),[]⟩)]⟩
def V8 (d:wS.st.den):Tr (aJ wS.xs):=
 .ite (decide (0≤d.1.2.2.1)&&decide (d.1.1.length=d.1.2.1.length)) (.ite (decide (d.1.1.drop d.1.2.2.1.toNat=(List.map XY d.1.2.1).drop d.1.2.2.1.toNat)) (.ret (.pan (.ret ((),((),()))))) (.ret (.ret ((),((false,()),()))))) .no
abbrev Rp:Type:=List Int×(List Int×(List Int×Unit))
def Xw (d:Rp):AS:=⟨[.one (.ex 5 XI 0 d.1 1 1),.one (.ex 5 XI 0 d.2.1 3 3),.one (.lst 5 XI d.2.2.1 0)]++XD 94,[],[]⟩
def Tv (c:Nat):List Int:=(List.range 80).map fun i=>((i+c:Nat):Int)
abbrev z9:Lo:=⟨⟨(.one (.exl 5 (Ty.int IntKind.u8) 1 1)::.one (.exl 5 (Ty.int IntKind.u8) 3 3)::.one (.hol (.sl 5 (Ty.int IntKind.u8)))::bQ (.one (.exl 5 (Ty.int IntKind.u8) 1 15)::.one (.hol (.int IntKind.i64))::ag (ag (ag (ag (ag (dq []))))))),[]⟩,[(.exit 0,⟨(.one (.exl 5 (Ty.int IntKind.u8) 1 1)::.one (.exl 5 (Ty.int IntKind.u8) 3 3)::.one (.hol (.sl 5 (Ty.int IntKind.u8)))::bQ (.one (.exl 5 (Ty.int IntKind.u8) 1 15)::.any::ag (ag (ag (ag (ag (dq []))))))),[]⟩)]⟩
abbrev wQ:Lo:=⟨⟨(.one (.exl 5 (Ty.int IntKind.u8) 1 1)::.one (.exl 5 (Ty.int IntKind.u8) 3 3)::.one (.hol (.sl 5 (Ty.int IntKind.u8)))::bQ (.one (.exl 5 (Ty.int IntKind.u8) 1 15)::.any::.one (.exl 5 (Ty.int IntKind.u8) 3 19)::.one (.hol (.int IntKind.i64))::ag (ag (ag (ag (ag (bQ (bt [])))))))),[]⟩,[(.exit 2,⟨(.one (.exl 5 (Ty.int IntKind.u8) 1 1)::.one (.exl 5 (Ty.int IntKind.u8) 3 3)::.one (.hol (.sl 5 (Ty.int IntKind.u8)))::bQ (.one (.exl 5 (Ty.int IntKind.u8) 1 15)::.any::.one (.exl 5 (Ty.int IntKind.u8) 3 19)::.any::ag (ag (ag (ag (ag (bQ (bt [])))))))),[]⟩)]⟩
abbrev wR:Lo:=⟨⟨(.one (.exl 5 (Ty.int IntKind.u8) 1 1)::.one (.exl 5 (Ty.int IntKind.u8) 3 3)::.one (.hol (.sl 5 (Ty.int IntKind.u8)))::bQ (.one (.exl 5 (Ty.int IntKind.u8) 1 15)::.any::.one (.ext 5 (Ty.int IntKind.u8) 3 19)::.any::.one (.hol (.int IntKind.i64))::.any::ag (ag (ag (ag (ag (bQ []))))))),[]⟩,[(.ret,⟨(bQ (bt (.one (.hol .bool)::ag (ag (ag (ag (ag (dq (bt []))))))))),[]⟩),(.exit 4,⟨(.one (.exl 5 (Ty.int IntKind.u8) 1 1)::.one (.exl 5 (Ty.int IntKind.u8) 3 3)::.one (.hol (.sl 5 (Ty.int IntKind.u8)))::ag (ag (ag (ag (ag (dq (bQ (bt [])))))))),[]⟩)]⟩
def Wt (d:z9.st.den):Tr (aJ z9.xs):=
 .ite (decide (d.1.2.2.2.2.1=0)&&(decide (d.1.2.2.2.1.length≤4294967000)&&decide (d.1.1.length≤d.1.2.2.2.1.length))) (.ret (.ret ((),((d.1.1,d.1.2.1,d.1.2.2.1,d.1.2.2.2.1++Tv 1,()),())))) .no
def V6 (d:wQ.st.den):Tr (aJ wQ.xs):=
 .ite (decide (d.1.2.2.2.2.2.1=0)&&(decide (d.1.2.2.2.2.1.length≤4294967000)&&decide (d.1.2.1.length≤d.1.2.2.2.2.1.length))) (.ret (.ret ((),((d.1.1,d.1.2.1,d.1.2.2.1,d.1.2.2.2.1,d.1.2.2.2.2.1++Tv 101,()),())))) .no
def V7 (d:wR.st.den):Tr (aJ wR.xs):=
 .ite (decide (d.1.2.2.2.2.2.1=0)&&(decide (List.drop d.1.1.length d.1.2.2.2.1=Tv 1)&&(decide (d.1.2.2.2.2.1.1=d.1.2.1.length)&&decide (d.1.2.2.2.2.1.2=Tv 101)))) (.ret (.pan (.ret ((),((d.1.1,d.1.2.1,d.1.2.2.1,()),()))))) .no
theorem Dx {R:Type}(it:Nat→List Int→List Int→Int→Option R)(out:List Int→Option R)
  (h:∀n b o i,it (n+1) b o i=bif decide (i<(b.length:Int)) then bif decide (0≤i)&&decide (i<(b.length:Int)) then bif decide (o.length+[b.getD i.toNat 0].length≤4294967296) then it n b (o++[b.getD i.toNat 0]) (IntKind.i64.wrap (i+1)) else none else none else out o)
  (b:List Int) (hb:b.length≤maxLen):∀(k:Nat) (o:List Int) (i:Nat),i≤b.length→b.length<i+k→o.length+(b.length - i)≤4294967296→it k b o i=out (o++b.drop i):=by
 intro k
 induction k with
 |zero=>intro o i h1 h2;omega
 |succ k ih=>
  intro o i h1 h2 h3
  rw[h]
  by_cases hi:i<b.length
  ·rw[bM hi hb,ih _ (i+1) hi (by omega) (by simp;omega),List.drop_eq_getElem_cons hi]
   simp only[Int.toNat_natCast,bh hi]
   have h4:o.length+1≤4294967296:=by omega
   simp[hi,h4]
  ·rw[List.drop_of_length_le (by omega)]
   simp[hi]
abbrev nU:Io:=⟨[dL],[],[],[dO],none⟩
def IF (d:nU.In):Tr nU.Res:=.ite (decide (d.1.1.length≤4294967296)) (.ret (.ret ((d.1.1,()),()))) .no
abbrev GZ:List (Nat×Hc):=[]
def Oe:Hd:=bR GZ
abbrev gz:Lo:=⟨⟨(.one (.hol (.sl 5 (Ty.int IntKind.u8)))::bt (.one (.onl 5 (Ty.int IntKind.u8) 7)::.one (.hol (.int IntKind.i64))::.any::dq (bQ (bt [])))),[]⟩,[(.exit 0,⟨(.any::bt (.one (.onl 5 (Ty.int IntKind.u8) 7)::ag [])),[]⟩)]⟩
def qK (d:gz.st.den):Tr (aJ gz.xs):=
 .ite (decide (d.1.2.2.1=0)&&decide (d.1.2.1.length+d.1.1.length≤4294967296)) (.ret (.ret ((),((d.1.2.1++d.1.1,()),())))) .no
def Ci:Lp:=bJ [(4,bv gz qK)]
def IA {R:Type}(h1 h2:List Int)(h3:Int)(next:List Int→List Int→Int→Option R)(out:aJ gz.xs→Option R):Option R:=bif decide (h3<(↑h1.length:Int)) then bif decide (0≤h3)&&decide (h3<(↑h1.length:Int)) then bif decide (h2.length+[h1.getD h3.toNat 0].length≤4294967296) then next (h1) (h2++[h1.getD h3.toNat 0]) (IntKind.i64.wrap (h3+1)) else none else none else out (.ret ((),((h2,()),())))
def wL (n:Nat)(h1 h2:List Int)(h3:Int):Option (aJ gz.xs):=lD tt Oe dr Ci 0 Tryz.f27 (gQ Tryz.f27 0) n (gz.st.mk' ((h1,(h2,(h3,()))),())) (dc gz.xs)
theorem Qv (n:Nat)(h1 h2:List Int)(h3:Int):wL (n+1) h1 h2 h3=IA h1 h2 h3 (wL n) some:=by kernel_rfl
def DA (a0:List Int):Option nU.Res:=(qK ((a0,([],(0,()))),())).run fun y=>match y with | .ret ((),((x8,()),()))=>(some (Out.ret ((x8,()),())))
theorem SN (a0:List Int):Io.run tt Oe dr Ci nU Tryz.f27 ((a0,()),())=DA a0:=by kernel_rfl
theorem Hy:HcOk prog 27 (af nU IF):=by
 refine ao (n:=400) hm (cs:=GZ) HcsOk.nil (lp:=Ci) (fn:=Tryz.f27) (by kernel_rfl) (by kernel_rfl) (by kernel_rfl) nU
  (.step (h0:=bv gz qK) (by kernel_rfl) (aQ (n:=400) hm (cs:=GZ) HcsOk.nil (lp:=Ci) (fn:=Tryz.f27) (.done (by kernel_rfl)) gz qK ?_) (.done (by kernel_rfl))) IF ?_
 ·rintro ⟨⟨b,o,i,⟨⟩⟩,⟨⟩⟩ y hw hy
  obtain ⟨hg,hy⟩:=Tr.guard hy
  simp only[Bool.and_eq_true,decide_eq_true_eq] at hg
  obtain ⟨rfl,hl⟩:=hg
  refine ⟨b.length+1,(Dx (fun k b o i=>wL k b o i) (fun o=>some (.ret ((),((o,()),())))) (fun n b o i=>Qv n b o i) b hw.1.1.1 _ o 0 (by omega) (by omega) (by omega)).trans ?_⟩
  rw[← hy];rfl
 ·rintro ⟨⟨b,⟨⟩⟩,⟨⟩⟩ out hw ho
  obtain ⟨hg,ho⟩:=Tr.guard ho
  cases ho
  refine (SN b).trans ?_
  simp only[decide_eq_true_eq] at hg
  unfold DA qK
  simp[Tr.run_ite,Tr.run_ret,hg]
abbrev JA:Lo:=⟨⟨(.any::.one (.hol (.sl 5 (Ty.int IntKind.u8)))::.any::bt (.one (.onl 5 (Ty.int IntKind.u8) 11)::.one (.hol (.int IntKind.i64))::ag [])),[]⟩,[(.exit 0,⟨(.any::bQ (.one (.onl 5 (Ty.int IntKind.u8) 11)::.any::ag [])),[]⟩)]⟩
def XB (d:JA.st.den):Tr (aJ JA.xs):=
 .ite (decide (d.1.2.2.1=0)&&decide (d.1.2.1.length+d.1.1.length≤4294967296)) (.ret (.ret ((),((d.1.2.1++d.1.1,()),())))) .no
abbrev mv:Io:=⟨[dL,dI,dI],[],[],[dO],none⟩
def GD (d:mv.In):Tr mv.Res:=.ite (decide (d.1.1.length≤4294967296)) (.ret (.ret ((((d.1.1.take d.1.2.2.1.toNat).drop d.1.2.1.toNat),()),()))) .no
abbrev BS:List (Nat×Hc):=[]
def Jy:Hd:=bR BS
abbrev fe:Lo:=⟨⟨(.one (.hol (.sl 5 (Ty.int IntKind.u8)))::.any::.one (.hol (.int IntKind.i64))::bQ (.one (.onl 5 (Ty.int IntKind.u8) 15)::.one (.hol (.int IntKind.i64))::.any::ag (bQ (bt [])))),[]⟩,[(.exit 0,⟨(.any::bQ (bt (.one (.onl 5 (Ty.int IntKind.u8) 15)::ag (dq [])))),[]⟩)]⟩
def lx (d:fe.st.den):Tr (aJ fe.xs):=
 .ite (decide (0≤d.1.2.2.2.1)&&decide (d.1.2.2.1.length+d.1.1.length≤4294967296)) (.ret (.ret ((),((d.1.2.2.1++(d.1.1.take d.1.2.1.toNat).drop d.1.2.2.2.1.toNat,()),())))) .no
def vh:Lp:=bJ [(6,bv fe lx)]
def ux {R:Type}(h3:List Int)(h4:Int)(h5:List Int)(h6:Int)(next:List Int→Int→List Int→Int→Option R)(out:aJ fe.xs→Option R):Option R:=bif decide (h6<(↑h3.length:Int)) then bif decide (h6<h4) then bif decide (0≤h6)&&decide (h6<(↑h3.length:Int)) then bif decide (h5.length+[h3.getD h6.toNat 0].length≤4294967296) then next (h3) (h4) (h5++[h3.getD h6.toNat 0]) (IntKind.i64.wrap (h6+1)) else none else none else out (.ret ((),((h5,()),()))) else out (.ret ((),((h5,()),())))
def sN (n:Nat)(h3:List Int)(h4:Int)(h5:List Int)(h6:Int):Option (aJ fe.xs):=lD tt Jy dr vh 0 Tryz.f29 (gQ Tryz.f29 0) n (fe.st.mk' ((h3,(h4,(h5,(h6,())))),())) (dc fe.xs)
theorem L5 (n:Nat)(h3:List Int)(h4:Int)(h5:List Int)(h6:Int):sN (n+1) h3 h4 h5 h6=ux h3 h4 h5 h6 (sN n) some:=by kernel_rfl
theorem K7 (b:List Int)(hi:Int)(hb:b.length≤maxLen):∀(k:Nat) (o:List Int) (i:Nat),b.length<i+k→o.length+(b.length - i)≤4294967296→0<k→
  sN k b hi o i=some (.ret ((),((o++(b.take hi.toNat).drop i,()),()))):=by
 intro k
 induction k with
 |zero=>intro o i _ _ h;omega
 |succ k ih=>
  intro o i h1 h2 _
  rw[L5]
  unfold ux
  by_cases hl:i<b.length
  ·by_cases hh:(i:Int)<hi
   ·rw[bM hl hb,ih _ (i+1) (by omega) (by simp;omega) (by omega)]
    have hlt:i<(b.take hi.toNat).length:=by simp;omega
    rw[List.drop_eq_getElem_cons hlt]
    simp only[Int.toNat_natCast,bh hl,List.getElem_take]
    have h4:o.length+1≤4294967296:=by omega
    simp[hl,hh,h4]
   ·rw[List.drop_of_length_le (by simp;omega)]
    simp[hl,hh]
  ·rw[List.drop_of_length_le (by simp;omega)]
   simp[hl]
def zk (a0:List Int)(a1 a2:Int):Option mv.Res:=bif decide (a1<0) then (lx ((a0,(a2,([],(0,())))),())).run fun y=>match y with | .ret ((),((x13,()),()))=>(some (Out.ret ((x13,()),()))) else (lx ((a0,(a2,([],(a1,())))),())).run fun y=>match y with | .ret ((),((x18,()),()))=>(some (Out.ret ((x18,()),())))
theorem PS (a0:List Int)(a1 a2:Int):Io.run tt Jy dr vh mv Tryz.f29 ((a0,a1,a2,()),())=zk a0 a1 a2:=by kernel_rfl
theorem So:HcOk prog 29 (af mv GD):=by
 refine ao (n:=400) hm (cs:=BS) HcsOk.nil (lp:=vh) (fn:=Tryz.f29) (by kernel_rfl) (by kernel_rfl) (by kernel_rfl) mv
  (.step (h0:=bv fe lx) (by kernel_rfl) (aQ (n:=400) hm (cs:=BS) HcsOk.nil (lp:=vh) (fn:=Tryz.f29) (.done (by kernel_rfl)) fe lx ?_) (.done (by kernel_rfl))) GD ?_
 ·rintro ⟨⟨b,hi,o,i,⟨⟩⟩,⟨⟩⟩ y hw hy
  obtain ⟨hg,hy⟩:=Tr.guard hy
  simp only[Bool.and_eq_true,decide_eq_true_eq] at hg
  obtain ⟨n,rfl⟩:=eM hg.1
  refine ⟨b.length+1,(K7 b hi hw.1.1.1 _ o n (by omega) (by have:=hg.2;omega) (by omega)).trans ?_⟩
  rw[← hy];rfl
 ·rintro ⟨⟨(b:List Int),(lo:Int),(hi:Int),⟨⟩⟩,⟨⟩⟩ out hw ho
  obtain ⟨hg,ho⟩:=Tr.guard ho
  cases ho
  refine (PS b lo hi).trans ?_
  simp only[decide_eq_true_eq] at hg
  have hg:b.length≤4294967296:=hg
  unfold zk lx
  by_cases h0:lo<0
  ·have:lo.toNat=0:=by omega
   simp[Tr.run_ite,Tr.run_ret,hg,h0,this]
  ·have h1:0≤lo:=by omega
   simp[Tr.run_ite,Tr.run_ret,hg,h0,h1]
abbrev sK:Io:=⟨[dL],[],[],[dO],none⟩
def iN:List Int:=(List.range 96).map fun i=>((i*7+13:Nat):Int) % 256
def TS (d:sK.In):Tr sK.Res:=.ite (decide (d.1.1.length≤4294967000)) (.ret (.ret ((d.1.1++iN,()),()))) .no
abbrev G5:List (Nat×Hc):=[(27,af nU IF)]
def Og:Hd:=bR G5
abbrev gB:Lo:=⟨⟨(.any::bt (.one (.onl 5 (Ty.int IntKind.u8) 7)::.one (.hol (.int IntKind.i64))::dq (bQ (bt [])))),[]⟩,[(.exit 0,⟨(.any::bt (.one (.onl 5 (Ty.int IntKind.u8) 7)::.any::dq (bQ (bt [])))),[]⟩)]⟩
def qL (d:gB.st.den):Tr (aJ gB.xs):=
 .ite (decide (d.1.2.1=0)&&decide (d.1.1.length≤4294967000)) (.ret (.ret ((),((d.1.1++iN,()),())))) .no
def Ck:Lp:=bJ [(4,bv gB qL)]
def yu {R:Type}(h1:List Int)(h2:Int)(next:List Int→Int→Option R)(out:aJ gB.xs→Option R):Option R:=bif decide (h2<96) then bif decide (h1.length+[IntKind.u8.wrap (IntKind.i64.wrap (IntKind.i64.wrap (h2*7)+13))].length≤4294967296) then next (h1++[IntKind.u8.wrap (IntKind.i64.wrap (IntKind.i64.wrap (h2*7)+13))]) (IntKind.i64.wrap (h2+1)) else none else out (.ret ((),((h1,()),())))
def wM (n:Nat)(h1:List Int)(h2:Int):Option (aJ gB.xs):=lD tt Og dr Ck 0 Tryz.f19 (gQ Tryz.f19 0) n (gB.st.mk' ((h1,(h2,())),())) (dc gB.xs)
theorem Qw (n:Nat)(h1:List Int)(h2:Int):wM (n+1) h1 h2=yu h1 h2 (wM n) some:=by kernel_rfl
theorem OQ:∀(k:Nat) (o:List Int) (i:Nat),96<i+k→i≤96→o.length+(96 - i)≤4294967296→
  wM k o i=some (.ret ((),((o++iN.drop i,()),()))):=by
 intro k
 induction k with
 |zero=>intro o i _ _ h;omega
 |succ k ih=>
  intro o i h1 h2 h3
  rw[Qw]
  unfold yu
  by_cases hl:i<96
  ·have hlen:iN.length=96:=by simp[iN]
   rw[bM hl (by rw[pe];omega),ih _ (i+1) (by omega) (by omega) (by simp;omega)]
   rw[List.drop_eq_getElem_cons (show i<iN.length by omega)]
   have e1:IntKind.i64.wrap ((i:Int)*7)=(i:Int)*7:=by rw[bx] <;> omega
   have e2:IntKind.i64.wrap ((i:Int)*7+13)=(i:Int)*7+13:=by rw[bx] <;> omega
   have e3:IntKind.u8.wrap ((i:Int)*7+13)=iN[i]'(by omega):=by
    simp[IntKind.wrap,IntKind.signed,IntKind.bits,iN]
   rw[e1,e2,e3]
   have h4:o.length+1≤4294967296:=by omega
   have h5:(i:Int)<96:=by omega
   simp[h5,h4]
  ·have hlen:iN.length=96:=by simp[iN]
   rw[List.drop_of_length_le (by omega)]
   have h5:¬(i:Int)<96:=by omega
   simp[h5]
def DD (a0:List Int):Option sK.Res:=bif decide (a0.length≤4294967296) then (qL ((a0,(0,())),())).run fun y=>match y with | .ret ((),((x6,()),()))=>(some (Out.ret ((x6,()),()))) else none
theorem SP (a0:List Int):Io.run tt Og dr Ck sK Tryz.f19 ((a0,()),())=DD a0:=by kernel_rfl
theorem okWide:HcOk prog 19 (af sK TS):=by
 refine ao (n:=400) hm (cs:=G5) (.cons Hy .nil) (lp:=Ck) (fn:=Tryz.f19) (by kernel_rfl) (by kernel_rfl) (by kernel_rfl) sK
  (.step (h0:=bv gB qL) (by kernel_rfl) (aQ (n:=400) hm (cs:=G5) (.cons Hy .nil) (lp:=Ck) (fn:=Tryz.f19) (.done (by kernel_rfl)) gB qL ?_) (.done (by kernel_rfl))) TS ?_
 ·rintro ⟨⟨o,i,⟨⟩⟩,⟨⟩⟩ y hw hy
  obtain ⟨hg,hy⟩:=Tr.guard hy
  simp only[Bool.and_eq_true,decide_eq_true_eq] at hg
  obtain ⟨rfl,hl⟩:=hg
  refine ⟨97,(OQ _ o 0 (by omega) (by omega) (by omega)).trans ?_⟩
  rw[← hy];rfl
 ·rintro ⟨⟨b,⟨⟩⟩,⟨⟩⟩ out hw ho
  obtain ⟨hg,ho⟩:=Tr.guard ho
  cases ho
  refine (SP b).trans ?_
  simp only[decide_eq_true_eq] at hg
  have hg:b.length≤4294967000:=hg
  have h1:b.length≤4294967296:=by omega
  unfold DD qL
  simp[Tr.run_ite,Tr.run_ret,hg,h1]
def yO (b:List Int)(p lo hi:Int):Bool:=decide (p<(b.length:Int))&&(decide (lo≤b.getD p.toNat 0)&&decide (b.getD p.toNat 0≤hi))
def C4 (c:Int):Int:=if c=240 then 144 else if c=224 then 160 else 128
def C2 (c:Int):Int:=if c=244 then 143 else if c=237 then 159 else 191
def je (b:List Int)(p:Int):Int:=
 if p<0∨(b.length:Int)≤p then 0
 else if b.getD p.toNat 0<128 then 1
 else if b.getD p.toNat 0<194∨244<b.getD p.toNat 0∨yO b (p+1) (C4 (b.getD p.toNat 0)) (C2 (b.getD p.toNat 0))=false then 0
 else if b.getD p.toNat 0<224 then 2
 else if yO b (p+2) 128 191=false then 0
 else if b.getD p.toNat 0<240 then 3
 else if yO b (p+3) 128 191=false then 0
 else 4
theorem C3 {b:List Int}{p lo hi:Int}(h:yO b p lo hi=true):p<(b.length:Int):=by
 simp only[yO,Bool.and_eq_true,decide_eq_true_eq] at h
 exact h.1
def gJ (b:List Int):Nat→Int→Int×Bool
 |0,p=>(p,true)
 |n+1,p=>if (b.length:Int)≤p then (p,true) else if je b p=0 then (p,false) else gJ b n (p+je b p)
def cM (b:List Int):Int×Bool:=gJ b (b.length+1) 0
theorem AN {b:List Int}{p:Int}(h0:0≤p)(h:p<(b.length:Int)):0≤je b p∧p+je b p≤b.length:=by
 unfold je
 rw[if_neg (by omega)]
 split
 ·omega
 split
 ·omega
 rename_i h1
 have a1:yO b (p+1) (C4 (b.getD p.toNat 0)) (C2 (b.getD p.toNat 0))=true:=by
  cases hx:yO b (p+1) (C4 (b.getD p.toNat 0)) (C2 (b.getD p.toNat 0)) with
  |true=>rfl
  |false=>exact absurd (.inr (.inr hx)) h1
 have h2:=C3 a1
 split
 ·omega
 split
 ·omega
 rename_i h3
 have h4:=C3 (show yO b (p+2) 128 191=true by simpa using h3)
 split
 ·omega
 split
 ·omega
 rename_i h5
 have h6:=C3 (show yO b (p+3) 128 191=true by simpa using h5)
 omega
abbrev EX:Lo:=⟨⟨(.one (.hol (.sl 5 (Ty.int IntKind.u8)))::.any::bt (.one (.hol (.int IntKind.i64))::.any::dq (bQ (bt [])))),[]⟩,[(.ret,⟨(bt (.one (.hol (.int IntKind.i64))::.one (.hol .bool)::ag [])),[]⟩),(.exit 0,⟨(bQ (.one (.hol (.int IntKind.i64))::.any::dq (bQ (bt [])))),[]⟩)]⟩
def Xr (d:EX.st.den):Tr (aJ EX.xs):=
 .ite (decide (d.1.2.1=(0:Int))) (.ite (cM d.1.1).2 (.ret (.pan (.ret ((),(((cM d.1.1).1,()),()))))) (.ret (.ret ((),(((cM d.1.1).1,(false,())),()))))) .no
abbrev dS:Sh:=.dat .str false false
def nA (s p:List Int):Bool:=decide (s.take p.length=p)
theorem AC {s:List Int}(hs:byteR s)(k:Nat):((aY s).get! k).toNat=(s.getD k 0).toNat:=by
 by_cases h:k<s.length
 ·have h1:(aY s).get! k=UInt8.ofNat (s[k]).toNat:=by
   have:k<(aY s).data.size:=by simp[aY,h]
   have e:(aY s).get! k=(aY s).data[k]:=getElem!_pos (aY s).data k this
   rw[e]
   simp[aY]
  rw[h1,bh h]
  have:=hs s[k] (List.getElem_mem h)
  rw[UInt8.toNat_ofNat',Nat.mod_eq_of_lt (by omega)]
 ·have h1:(aY s).get! k=0:=by
   have:¬ k<(aY s).data.size:=by simp[aY];omega
   have e:(aY s).get! k=default:=getElem!_neg (aY s).data k this
   rw[e]
   rfl
  rw[h1,List.getD_eq_getElem?_getD,List.getElem?_eq_none (by omega)]
  rfl
def KG (r1 r2 r3:Prop)[Decidable r1][Decidable r2][Decidable r3](x0 x1 x2 x3:Nat):Nat:=
 if x0<128 then 1
 else if x0<194∨244<x0∨¬(r1∧(if x0=240 then 144 else if x0=224 then 160 else 128)≤x1∧x1≤(if x0=244 then 143 else if x0=237 then 159 else 191)) then 0
 else if x0<224 then 2
 else if ¬(r2∧128≤x2∧x2≤191) then 0
 else if x0<240 then 3
 else if ¬(r3∧128≤x3∧x3≤191) then 0 else 4
theorem QG {b:List Int}(hs:byteR b){n:Nat}(h:n<b.length):je b n=(KG (n+1<b.length) (n+2<b.length) (n+3<b.length) (b.getD n 0).toNat (b.getD (n+1) 0).toNat (b.getD (n+2) 0).toNat (b.getD (n+3) 0).toNat:Int):=by
 have hr:∀k,0≤b.getD k 0∧b.getD k 0<256:=fun k=>by
  by_cases hk:k<b.length
  ·rw[bh hk];exact hs _ (List.getElem_mem hk)
  ·rw[List.getD_eq_getElem?_getD,List.getElem?_eq_none (by omega)];simp
 unfold je KG yO C4 C2
 have e1:((n:Int)+1).toNat=n+1:=by omega
 have e2:((n:Int)+2).toNat=n+2:=by omega
 have e3:((n:Int)+3).toNat=n+3:=by omega
 rw[e1,e2,e3,Int.toNat_natCast]
 have h0:=hr n
 have h1:=hr (n+1)
 have h2:=hr (n+2)
 have h3:=hr (n+3)
 generalize b.getD n 0=y0 at *
 generalize b.getD (n+1) 0=y1 at *
 generalize b.getD (n+2) 0=y2 at *
 generalize b.getD (n+3) 0=y3 at *
 obtain ⟨x0,rfl⟩:=eM h0.1
 obtain ⟨x1,rfl⟩:=eM h1.1
 obtain ⟨x2,rfl⟩:=eM h2.1
 obtain ⟨x3,rfl⟩:=eM h3.1
 generalize b.length=L at *
 rw[if_neg (by omega)]
 simp only[Bool.and_eq_false_iff,decide_eq_false_iff_not,Int.toNat_natCast]
 by_cases a0:x0<128
 ·rw[if_pos (by omega),if_pos a0];rfl
 rw[if_neg (by omega),if_neg a0]
 have hi:(if (x0:Int)=240 then (144:Int) else if (x0:Int)=224 then 160 else 128)=((if x0=240 then 144 else if x0=224 then 160 else 128:Nat):Int):=by
  repeat' split
  all_goals omega
 have hj:(if (x0:Int)=244 then (143:Int) else if (x0:Int)=237 then 159 else 191)=((if x0=244 then 143 else if x0=237 then 159 else 191:Nat):Int):=by
  repeat' split
  all_goals omega
 rw[hi,hj]
 generalize (if x0=240 then 144 else if x0=224 then 160 else 128:Nat)=lo
 generalize (if x0=244 then 143 else if x0=237 then 159 else 191:Nat)=hi
 by_cases a1:x0<194∨244<x0∨¬(n+1<L∧lo≤x1∧x1≤hi)
 ·rw[if_pos a1,if_pos (by omega)];rfl
 rw[if_neg a1,if_neg (by omega)]
 by_cases a2:x0<224
 ·rw[if_pos a2,if_pos (by omega)];rfl
 rw[if_neg a2,if_neg (by omega)]
 by_cases a3:¬(n+2<L∧128≤x2∧x2≤191)
 ·rw[if_pos a3,if_pos (by omega)];rfl
 rw[if_neg a3,if_neg (by omega)]
 by_cases a4:x0<240
 ·rw[if_pos a4,if_pos (by omega)];rfl
 rw[if_neg a4,if_neg (by omega)]
 by_cases a5:¬(n+3<L∧128≤x3∧x3≤191)
 ·rw[if_pos a5,if_pos (by omega)];rfl
 rw[if_neg a5,if_neg (by omega)];rfl
def Km (r1 r2 r3:Prop)[Decidable r1][Decidable r2][Decidable r3](x0 x1 x2 x3:Nat):Nat×Nat:=
 if x0<128 then (x0,1)
 else if x0 / 32=6∧(r1∧x1 / 64=2) then (if 128≤(x0 % 32)*64+x1 % 64 then ((x0 % 32)*64+x1 % 64,2) else (65533,1))
 else if (x0 / 16=14∧(r1∧x1 / 64=2))∧(r2∧x2 / 64=2) then
  (if 2048≤(x0 % 16)*4096+(x1 % 64)*64+x2 % 64∧((x0 % 16)*4096+(x1 % 64)*64+x2 % 64<55296∨57344≤(x0 % 16)*4096+(x1 % 64)*64+x2 % 64) then ((x0 % 16)*4096+(x1 % 64)*64+x2 % 64,3) else (65533,1))
 else if ((x0 / 8=30∧(r1∧x1 / 64=2))∧(r2∧x2 / 64=2))∧(r3∧x3 / 64=2) then
  (if 65536≤(x0 % 8)*262144+(x1 % 64)*4096+(x2 % 64)*64+x3 % 64∧(x0 % 8)*262144+(x1 % 64)*4096+(x2 % 64)*64+x3 % 64≤1114111 then ((x0 % 8)*262144+(x1 % 64)*4096+(x2 % 64)*64+x3 % 64,4) else (65533,1))
 else (65533,1)
theorem Q7 {c:Nat}(h:c<65536):Utf8.valid (c:Int)=true↔(c<55296∨57344≤c):=by
 simp only[Utf8.valid,Bool.or_eq_true,Bool.and_eq_true,decide_eq_true_eq];omega
theorem Q8 {c:Nat}(h:65536≤c):Utf8.valid (c:Int)=true↔c≤1114111:=by
 simp only[Utf8.valid,Bool.or_eq_true,Bool.and_eq_true,decide_eq_true_eq];omega
theorem N3 {b:List Int}(hs:byteR b)(n:Nat):Utf8.decode (aY b) n=Km (n+1<b.length) (n+2<b.length) (n+3<b.length) (b.getD n 0).toNat (b.getD (n+1) 0).toNat (b.getD (n+2) 0).toNat (b.getD (n+3) 0).toNat:=by
 unfold Utf8.decode Km Utf8.runeError
 simp only[AC hs,cU,Nat.add_zero]
 generalize (b.getD n 0).toNat=x0
 generalize (b.getD (n+1) 0).toNat=x1
 generalize (b.getD (n+2) 0).toNat=x2
 generalize (b.getD (n+3) 0).toNat=x3
 simp only[Bool.and_eq_true,decide_eq_true_eq,beq_iff_eq,ge_iff_le]
 congr 1
 congr 1
 congr 1
 ·congr 1
  apply propext
  constructor
  ·rintro ⟨h1,h2⟩;exact ⟨h1,(Q7 (by omega)).1 h2⟩
  ·rintro ⟨h1,h2⟩;exact ⟨h1,(Q7 (by omega)).2 h2⟩
 ·congr 1
  congr 1
  apply propext
  constructor
  ·rintro ⟨h1,h2⟩;exact ⟨h1,(Q8 h1).1 h2⟩
  ·rintro ⟨h1,h2⟩;exact ⟨h1,(Q8 h1).2 h2⟩
theorem XP {x0 x1:Nat}(h0:x0<256)(h1:x1<256):(x0 / 32=6∧x1 / 64=2)∧128≤(x0 % 32)*64+x1 % 64↔194≤x0∧x0<224∧128≤x1∧x1≤191:=by omega
theorem XQ {x0 x1 x2:Nat}(h0:x0<256)(h1:x1<256)(h2:x2<256):((x0 / 16=14∧x1 / 64=2)∧x2 / 64=2)∧(2048≤(x0 % 16)*4096+(x1 % 64)*64+x2 % 64∧((x0 % 16)*4096+(x1 % 64)*64+x2 % 64<55296∨57344≤(x0 % 16)*4096+(x1 % 64)*64+x2 % 64)) ↔
  224≤x0∧x0<240∧((if x0=224 then 160 else 128)≤x1∧x1≤(if x0=237 then 159 else 191))∧128≤x2∧x2≤191:=by
 constructor
 ·rintro ⟨⟨⟨h3,h4⟩,h5⟩,h6⟩
  refine ⟨by omega,by omega,⟨?_,?_⟩,by omega,by omega⟩
  ·split <;> omega
  ·split <;> omega
 ·rintro ⟨h3,h4,⟨h5,h6⟩,h7,h8⟩
  split at h5 <;> split at h6 <;> omega
theorem XR {x0 x1 x2 x3:Nat}(h0:x0<256)(h1:x1<256)(h2:x2<256)(h3:x3<256):(((x0 / 8=30∧x1 / 64=2)∧x2 / 64=2)∧x3 / 64=2)∧(65536≤(x0 % 8)*262144+(x1 % 64)*4096+(x2 % 64)*64+x3 % 64∧(x0 % 8)*262144+(x1 % 64)*4096+(x2 % 64)*64+x3 % 64≤1114111) ↔
  240≤x0∧x0≤244∧((if x0=240 then 144 else 128)≤x1∧x1≤(if x0=244 then 143 else 191))∧(128≤x2∧x2≤191)∧(128≤x3∧x3≤191):=by
 constructor
 ·rintro ⟨⟨⟨⟨h3,h4⟩,h5⟩,h6⟩,h7⟩
  refine ⟨by omega,by omega,⟨?_,?_⟩,⟨by omega,by omega⟩,by omega,by omega⟩
  ·split <;> omega
  ·split <;> omega
 ·rintro ⟨h3,h4,⟨h5,h6⟩,⟨h7,h8⟩,h9,h10⟩
  split at h5 <;> split at h6 <;> omega
theorem WH (r1 r2 r3:Prop)[Decidable r1][Decidable r2][Decidable r3](x0 x1 x2 x3:Nat)(h0:x0<256)(h1:x1<256)(h2:x2<256)(h3:x3<256):
  (KG r1 r2 r3 x0 x1 x2 x3=0∧Km r1 r2 r3 x0 x1 x2 x3=(65533,1)∧¬(r1∧r2∧x0=239∧x1=191∧x2=189)) ∨
  (0<KG r1 r2 r3 x0 x1 x2 x3∧(Km r1 r2 r3 x0 x1 x2 x3).2=KG r1 r2 r3 x0 x1 x2 x3∧((Km r1 r2 r3 x0 x1 x2 x3).1=65533→(r1∧r2∧x0=239∧x1=191∧x2=189))):=by
 by_cases a0:x0<128
 ·right
  unfold KG Km
  rw[if_pos a0,if_pos a0]
  exact ⟨by omega,rfl,fun h=>by simp only at h;omega⟩
 by_cases c2:r1∧194≤x0∧x0<224∧128≤x1∧x1≤191
 ·right
  obtain ⟨⟨g1,g2⟩,g3⟩:=(XP h0 h1).2 c2.2
  have e1:KG r1 r2 r3 x0 x1 x2 x3=2:=by
   unfold KG
   rw[if_neg a0,if_neg,if_pos (by omega)]
   rintro (h | h | h)
   ·omega
   ·omega
   ·refine h ⟨c2.1,?_,?_⟩
    ·rw[if_neg (by omega),if_neg (by omega)];omega
    ·rw[if_neg (by omega),if_neg (by omega)];omega
  have e2:Km r1 r2 r3 x0 x1 x2 x3=((x0 % 32)*64+x1 % 64,2):=by
   unfold Km
   rw[if_neg a0,if_pos ⟨g1,c2.1,g2⟩,if_pos g3]
  rw[e1,e2]
  exact ⟨by omega,rfl,fun h=>by simp only at h;omega⟩
 by_cases c3:r1∧r2∧(224≤x0∧x0<240∧((if x0=224 then 160 else 128)≤x1∧x1≤(if x0=237 then 159 else 191))∧128≤x2∧x2≤191)
 ·right
  obtain ⟨k1,k2,k⟩:=c3
  obtain ⟨⟨⟨g1,g2⟩,g3⟩,g4⟩:=(XQ h0 h1 h2).2 k
  have e1:KG r1 r2 r3 x0 x1 x2 x3=3:=by
   unfold KG
   rw[if_neg a0,if_neg,if_neg (by omega),if_neg (fun h=>h ⟨k2,k.2.2.2⟩),if_pos (by omega)]
   rintro (h | h | h)
   ·omega
   ·omega
   ·refine h ⟨k1,?_,?_⟩
    ·rw[if_neg (by omega)];exact k.2.2.1.1
    ·rw[if_neg (by omega)];exact k.2.2.1.2
  have e2:Km r1 r2 r3 x0 x1 x2 x3=((x0 % 16)*4096+(x1 % 64)*64+x2 % 64,3):=by
   unfold Km
   rw[if_neg a0,if_neg (by omega),if_pos ⟨⟨g1,k1,g2⟩,k2,g3⟩,if_pos g4]
  rw[e1,e2]
  refine ⟨by omega,rfl,fun h=>?_⟩
  simp only at h
  exact ⟨k1,k2,by omega⟩
 by_cases c4:r1∧r2∧r3∧(240≤x0∧x0≤244∧((if x0=240 then 144 else 128)≤x1∧x1≤(if x0=244 then 143 else 191))∧(128≤x2∧x2≤191)∧(128≤x3∧x3≤191))
 ·right
  obtain ⟨k1,k2,k3,k⟩:=c4
  obtain ⟨⟨⟨⟨g1,g2⟩,g3⟩,g4⟩,g5⟩:=(XR h0 h1 h2 h3).2 k
  have e1:KG r1 r2 r3 x0 x1 x2 x3=4:=by
   unfold KG
   rw[if_neg a0,if_neg,if_neg (by omega),if_neg (fun h=>h ⟨k2,k.2.2.2.1⟩),if_neg (by omega),if_neg (fun h=>h ⟨k3,k.2.2.2.2⟩)]
   rintro (h | h | h)
   ·omega
   ·omega
   ·refine h ⟨k1,?_,?_⟩
    ·have:=k.2.2.1.1
     split at this
     ·rename_i e;rw[if_pos e];exact this
     ·rename_i e;rw[if_neg e,if_neg (by omega)];exact this
    ·have:=k.2.2.1.2
     split at this
     ·rename_i e;rw[if_pos e];exact this
     ·rename_i e;rw[if_neg e,if_neg (by omega)];exact this
  have e2:Km r1 r2 r3 x0 x1 x2 x3=((x0 % 8)*262144+(x1 % 64)*4096+(x2 % 64)*64+x3 % 64,4):=by
   unfold Km
   rw[if_neg a0,if_neg (by omega),if_neg (by omega),if_pos ⟨⟨⟨g1,k1,g2⟩,k2,g3⟩,k3,g4⟩,if_pos g5]
  rw[e1,e2]
  exact ⟨by omega,rfl,fun h=>by simp only at h;omega⟩
 ·left
  have e2:Km r1 r2 r3 x0 x1 x2 x3=(65533,1):=by
   unfold Km
   rw[if_neg a0]
   split
   ·rename_i g
    rw[if_neg fun g'=>c2 ⟨g.2.1,(XP h0 h1).1 ⟨⟨g.1,g.2.2⟩,g'⟩⟩]
   split
   ·rename_i g
    rw[if_neg fun g'=>c3 ⟨g.1.2.1,g.2.1,(XQ h0 h1 h2).1 ⟨⟨⟨g.1.1,g.1.2.2⟩,g.2.2⟩,g'⟩⟩]
   split
   ·rename_i g
    rw[if_neg fun g'=>c4 ⟨g.1.1.2.1,g.1.2.1,g.2.1,(XR h0 h1 h2 h3).1 ⟨⟨⟨⟨g.1.1.1,g.1.1.2.2⟩,g.1.2.2⟩,g.2.2⟩,g'⟩⟩]
   rfl
  have e3:¬(r1∧r2∧x0=239∧x1=191∧x2=189):=by
   rintro ⟨k1,k2,rfl,rfl,rfl⟩
   exact c3 ⟨k1,k2,by simp⟩
  refine ⟨?_,e2,e3⟩
  unfold KG
  rw[if_neg a0]
  generalize hlo:(if x0=240 then 144 else if x0=224 then 160 else 128:Nat)=lo
  generalize hhi:(if x0=244 then 143 else if x0=237 then 159 else 191:Nat)=hi
  by_cases g:x0<194∨244<x0∨¬(r1∧lo≤x1∧x1≤hi)
  ·rw[if_pos g]
  rw[if_neg g]
  simp only[not_or,Decidable.not_not] at g
  obtain ⟨g1,g2,g3,g4,g5⟩:=g
  by_cases g6:x0<224
  ·rw[if_neg (by omega),if_neg (by omega)] at hlo hhi
   exact absurd ⟨g3,by omega,by omega,by omega,by omega⟩ c2
  rw[if_neg g6]
  by_cases g7:¬(r2∧128≤x2∧x2≤191)
  ·rw[if_pos g7]
  rw[if_neg g7]
  simp only[Decidable.not_not] at g7
  by_cases g8:x0<240
  ·rw[if_neg (by omega)] at hlo hhi
   subst hlo hhi
   exact absurd ⟨g3,g7.1,by omega,by omega,⟨g4,g5⟩,g7.2⟩ c3
  rw[if_neg g8]
  by_cases g9:¬(r3∧128≤x3∧x3≤191)
  ·rw[if_pos g9]
  exfalso
  simp only[Decidable.not_not] at g9
  refine c4 ⟨g3,g7.1,g9.1,by omega,by omega,⟨?_,?_⟩,g7.2,g9.2⟩
  ·by_cases e:x0=240
   ·rw[if_pos e] at hlo ⊢;omega
   ·rw[if_neg e] at hlo ⊢;rw[if_neg (by omega)] at hlo;omega
  ·by_cases e:x0=244
   ·rw[if_pos e] at hhi ⊢;omega
   ·rw[if_neg e] at hhi ⊢;rw[if_neg (by omega)] at hhi;omega
theorem Kh {b:List Int}{n:Nat}(hs:byteR b):nA (b.drop n) [239,191,189]=true↔(n+1<b.length∧n+2<b.length∧(b.getD n 0).toNat=239∧(b.getD (n+1) 0).toNat=191∧(b.getD (n+2) 0).toNat=189):=by
 unfold nA
 rw[decide_eq_true_eq]
 show (b.drop n).take 3=_↔_
 constructor
 ·intro h
  have hl:=congrArg List.length h
  simp only[List.length_take,List.length_drop,List.length_cons,List.length_nil] at hl
  have h3:n+2<b.length:=by omega
  rw[List.drop_eq_getElem_cons (by omega),List.drop_eq_getElem_cons (by omega),List.drop_eq_getElem_cons (by omega)] at h
  simp only[List.take_succ_cons,List.take_zero,List.cons.injEq,and_true] at h
  obtain ⟨k1,k2,k3⟩:=h
  have k3:b[n+2]=189:=k3
  rw[bh (by omega),bh (by omega),bh h3,k1,k2,k3]
  exact ⟨by omega,by omega,rfl,rfl,rfl⟩
 ·rintro ⟨h1,h2,h3,h4,h5⟩
  rw[bh (by omega)] at h3 h4 h5
  rw[List.drop_eq_getElem_cons (by omega),List.drop_eq_getElem_cons (by omega),List.drop_eq_getElem_cons (by omega)]
  simp only[List.take_succ_cons,List.take_zero,List.cons.injEq,and_true]
  refine ⟨by omega,by omega,?_⟩
  show b[n+2]=189
  omega
theorem LP {b:List Int}(hs:byteR b){n:Nat}(h:n<b.length):
  (je b n=0∧(gg b n).1=65533∧nA (b.drop n) [239,191,189]=false) ∨
  (0<je b n∧(gg b n).2=je b n∧((gg b n).1=65533→nA (b.drop n) [239,191,189]=true)):=by
 rw[nf,QG hs h,N3 hs n]
 have hx:∀k,(b.getD k 0).toNat<256:=fun k=>by rw[← AC hs];exact UInt8.toNat_lt _
 have:=WH (n+1<b.length) (n+2<b.length) (n+3<b.length) _ _ _ _ (hx n) (hx (n+1)) (hx (n+2)) (hx (n+3))
 rw[Kh hs,← Bool.not_eq_true,Kh hs]
 rcases this with ⟨h1,h2,h3⟩ | ⟨h1,h2,h3⟩
 ·left
  exact ⟨by rw[h1];rfl,by rw[h2];rfl,h3⟩
 ·right
  exact ⟨by omega,by simp only;rw[h2],fun h=>h3 (by simp only at h;omega)⟩
abbrev mP:Io:=⟨[dS,dS],[],[],[dB],none⟩
def GK (d:mP.In):Tr mP.Res:=.ret (.ret ((nA d.1.1 d.1.2.1,()),()))
abbrev Jj:List (Nat×Hc):=[]
def RV:Hd:=bR Jj
def JW:Lp:=bJ []
def zJ (a0 a1:List Int):Option mP.Res:=bif decide ((↑a1.length:Int)≤(↑a0.length:Int)) then bif decide (0≤0)&&(decide (0≤(↑a1.length:Int))&&decide ((↑a1.length:Int)≤(↑a0.length:Int))) then some (Out.ret ((decide (List.drop (Int.toNat 0) (List.take (↑a1.length:Int).toNat a0)=a1),()),())) else none else some (Out.ret ((false,()),()))
theorem Qf (a0 a1:List Int):Io.run tt RV dr JW mP Tryz.f212 ((a0,a1,()),())=zJ a0 a1:=by kernel_rfl
theorem SB:HcOk prog 212 (af mP GK):=by
 refine ao (n:=400) hm (cs:=Jj) .nil (lp:=JW) (fn:=Tryz.f212) (by kernel_rfl) (by kernel_rfl) (by kernel_rfl) mP (.done (by kernel_rfl)) GK ?_
 rintro ⟨⟨(s:List Int),(p:List Int),⟨⟩⟩,⟨⟩⟩ out hw ho
 cases ho
 refine (Qf s p).trans ?_
 show _=some (Out.ret ((nA s p,()),()))
 unfold zJ
 by_cases h:p.length≤s.length
 ·rw[aa (by simpa using h),aa (by simp;omega)]
  rfl
 ·rw[ae (by simpa using h)]
  have:nA s p=false:=by
   unfold nA
   rw[decide_eq_false_iff_not]
   intro e
   have:=congrArg List.length e
   simp only[List.length_take] at this
   omega
  rw[this]
abbrev qj:Io:=⟨[dS,dS],[],[],[dB],none⟩
def MY (d:qj.In):Tr qj.Res:=.ret (.ret ((nA d.1.1 d.1.2.1,()),()))
abbrev NN:List (Nat×Hc):=[(212,af mP GK)]
def Vk:Hd:=bR NN
def Pc:Lp:=bJ []
def Ng (a0 a1:List Int):Option qj.Res:=some (Out.ret ((nA a0 a1,()),()))
theorem Tc (a0 a1:List Int):Io.run tt Vk dr Pc qj Tryz.f193 ((a0,a1,()),())=Ng a0 a1:=by kernel_rfl
theorem PF:HcOk prog 193 (af qj MY):=by
 refine ao (n:=400) hm (cs:=NN) (.cons SB .nil) (lp:=Pc) (fn:=Tryz.f193) (by kernel_rfl) (by kernel_rfl) (by kernel_rfl) qj (.done (by kernel_rfl)) MY ?_
 rintro ⟨⟨(s:List Int),(p:List Int),⟨⟩⟩,⟨⟩⟩ out hw ho
 cases ho
 exact Tc s p
theorem x5 (b:List Int):∀(n:Nat) (p:Int),0≤p→p≤b.length→(b.length:Int)<p+n→(gJ b n p).2=true→(gJ b n p).1=b.length
 |0,p,h0,h1,h2,h=>by omega
 |n+1,p,h0,h1,h2,h=>by
  unfold gJ at h ⊢
  split
  ·rename_i h3;simp only;omega
  ·rename_i h3
   rw[if_neg h3] at h
   split
   ·rename_i h4;rw[if_pos h4] at h;cases h
   ·rename_i h4
    rw[if_neg h4] at h
    have h5:=AN (b:=b) h0 (show p<(b.length:Int) by omega)
    exact x5 b n _ (by omega) (by omega) (by omega) h
theorem Mq (b:List Int)(h:(cM b).2=true):(cM b).1=b.length:=x5 b (b.length+1) 0 (by omega) (by omega) (by omega) h
abbrev lb:Io:=⟨[dL],[],[],[dI,dB],none⟩
def za (d:lb.In):Tr lb.Res:=.ret (.ret (((cM d.1.1).1,(cM d.1.1).2,()),()))
abbrev Hf:List (Nat×Hc):=[(193,af qj MY)]
def Oz:Hd:=bR Hf
abbrev gD:Lo:=⟨⟨(.one (.hol (.sl 5 (Ty.int IntKind.u8)))::.any::bt (.one (.hol .str)::.any::bQ (.one (.ptr 10 0)::ag []))),[none,none,none,none,none,none,none,none,none,none,some [.itr]]⟩,[(.ret,⟨(bt (.one (.hol (.int IntKind.i64))::.one (.hol .bool)::.any::ag (bQ (bt [])))),[]⟩),(.exit 0,⟨(.one (.hol (.sl 5 (Ty.int IntKind.u8)))::ag (dq (bt []))),[]⟩)]⟩
def qR (d:gD.st.den):Tr (aJ gD.xs):=
 .ite (decide (d.2.1.1.2=(0:Int))&&decide (d.2.1.1.1=d.1.2.1)) (.ite (cM d.1.2.1).2 (.ret (.pan (.ret ((),((d.1.1,()),()))))) (.ret (.ret ((),(((cM d.1.2.1).1,(false,())),()))))) .no
def Cl:Lp:=bJ [(4,bv gD qR)]
def yw {R:Type}(h1 h2:List Int)(h3:List Int×Int)(next:List Int→List Int→List Int×Int→Option R)(out:aJ gD.xs→Option R):Option R:=bif decide (h3.2<(↑h3.1.length:Int)) then bif (gg h3.1 h3.2).1 == 65533 then bif decide (0≤h3.2)&&(decide (h3.2≤(↑h2.length:Int))&&decide ((↑h2.length:Int)≤(↑h2.length:Int))) then bif !nA (List.drop h3.2.toNat (List.take (↑h2.length:Int).toNat h2)) (List.map (fun (c:UInt8)=>(↑c.toNat:Int)) [UInt8.ofBitVec (BitVec.ofFin (Fin.mk (239 % 2 ^ 8) (Nat.mod_lt 239 (BitVec.ofNat._proof_1 8)))),UInt8.ofBitVec (BitVec.ofFin (Fin.mk (191 % 2 ^ 8) (Nat.mod_lt 191 (BitVec.ofNat._proof_1 8)))),UInt8.ofBitVec (BitVec.ofFin (Fin.mk (189 % 2 ^ 8) (Nat.mod_lt 189 (BitVec.ofNat._proof_1 8))))]) then out (.ret ((),((h3.2,(false,())),()))) else next (h1) (h2) ((h3.1,h3.2+(gg h3.1 h3.2).2)) else none else next (h1) (h2) ((h3.1,h3.2+(gg h3.1 h3.2).2)) else out (.pan (.ret ((),((h1,()),()))))
def nZ (n:Nat)(h1 h2:List Int)(h3:List Int×Int):Option (aJ gD.xs):=lD tt Oz dr Cl 0 Tryz.f92 (gQ Tryz.f92 0) n (gD.st.mk' ((h1,(h2,())),((h3,()),()))) (dc gD.xs)
theorem Qy (n:Nat)(h1 h2:List Int)(h3:List Int×Int):nZ (n+1) h1 h2 h3=yw h1 h2 h3 (nZ n) some:=by kernel_rfl
theorem OR (b s:List Int)(hs:byteR s)(hb:(s.length:Int)≤9223372036854775807):∀(k:Nat) (p:Int),0≤p→p≤s.length→(s.length:Int)<p+k→
  nZ k b s (s,p)=if (gJ s k p).2=true then some (.pan (.ret ((),((b,()),())))) else some (.ret ((),(((gJ s k p).1,(false,())),()))):=by
 intro k
 induction k with
 |zero=>intro p h0 h1 h2;omega
 |succ k ih=>
  intro p h0 h1 h2
  rw[Qy]
  unfold yw
  change (bif decide (p<(s.length:Int)) then bif (gg s p).1 == 65533 then bif decide (0≤p)&&(decide (p≤(s.length:Int))&&decide ((s.length:Int)≤(s.length:Int))) then bif !nA (List.drop p.toNat (List.take (s.length:Int).toNat s)) [239,191,189] then some (.ret ((),((p,(false,())),()))) else nZ k b s (s,p+(gg s p).2) else none else nZ k b s (s,p+(gg s p).2) else some (.pan (.ret ((),((b,()),())))))=_
  by_cases h3:(s.length:Int)≤p
  ·have h4:¬ p<(s.length:Int):=by omega
   have hS:gJ s (k+1) p=(p,true):=by simp[gJ,h3]
   simp[hS,h4]
  ·have h4:p<(s.length:Int):=by omega
   obtain ⟨n,rfl⟩:=eM h0
   have h5:=LP hs (show n<s.length by omega)
   have h6:=AN h0 h4
   rw[aa (by simpa using h4),Int.toNat_natCast,Int.toNat_natCast,List.take_length]
   rcases h5 with ⟨g1,g2,g3⟩ | ⟨g1,g2,g3⟩
   ·have hS:gJ s (k+1) n=(↑n,false):=by simp[gJ,h3,g1]
    rw[hS,g3,aa (by simpa using g2),aa (by simp;omega)]
    rfl
   ·have hS:gJ s (k+1) n=gJ s k (n+je s n):=by
     simp only[gJ]
     rw[if_neg h3,if_neg (by omega)]
    rw[hS,g2]
    have hn:=ih (n+je s n) (by omega) (by omega) (by omega)
    by_cases g4:(gg s n).1=65533
    ·rw[aa (by simpa using g4),aa (by simp;omega),g3 g4]
     exact hn
    ·rw[ae (by simpa using g4)]
     exact hn
def DU (a0:List Int):Option lb.Res:=(qR ((a0,(a0,())),(((a0,0),()),()))).run fun y=>match y with | .ret ((),((x13,x14,()),()))=>(some (Out.ret ((x13,x14,()),()))) | .pan (.ret ((),((x15,()),())))=>(some (Out.ret (((↑x15.length:Int),true,()),())))
theorem Td (a0:List Int):Io.run tt Oz dr Cl lb Tryz.f92 ((a0,()),())=DU a0:=by kernel_rfl
theorem CI:HcOk prog 92 (af lb za):=by
 refine ao (n:=400) hm (cs:=Hf) (.cons PF .nil) (lp:=Cl) (fn:=Tryz.f92) (by kernel_rfl) (by kernel_rfl) (by kernel_rfl) lb
  (.step (h0:=bv gD qR) (by kernel_rfl) (aQ (n:=400) hm (cs:=Hf) (.cons PF .nil) (lp:=Cl) (fn:=Tryz.f92) (.done (by kernel_rfl)) gD qR ?_) (.done (by kernel_rfl))) za ?_
 ·rintro ⟨⟨(b:List Int),(s:List Int),⟨⟩⟩,⟨⟨⟨(s':List Int),(p:Int)⟩,⟨⟩⟩,⟨⟩⟩⟩ y hw hy
  obtain ⟨hg,hy⟩:=Tr.guard hy
  simp only[Bool.and_eq_true,decide_eq_true_eq] at hg
  have hg1:p=0:=hg.1
  have hg2:s'=s:=hg.2
  subst hg1 hg2
  have hs:byteR s'∧s'.length≤maxLen:=hw.1.2.1
  have hb:=hs.2
  rw[pe] at hb
  refine ⟨s'.length+1,(OR b s' hs.1 (by omega) (s'.length+1) 0 (by omega) (by omega) (by omega)).trans ?_⟩
  rw[← hy]
  simp only[Tr.val_ite,Tr.val_ret]
  rfl
 ·rintro ⟨⟨(b:List Int),⟨⟩⟩,⟨⟩⟩ out hw ho
  cases ho
  refine (Td b).trans ?_
  unfold DU qR
  show _=some (Out.ret (((cM b).1,(cM b).2,()),()))
  simp only[Tr.run_ite,Tr.run_ret]
  have he:(cM b).2=true→(cM b).1=b.length:=Mq b
  generalize cM b=r at *
  obtain ⟨r1,r2⟩:=r
  cases r2 with
  |true=>
   have he:r1=b.length:=he rfl
   simp[he]
  |false=>simp
abbrev Wq:Code:=sE Tryz.f118
abbrev WI:Array Oper:=VF (L4 (L4 (Qt Wq)))
abbrev WJ:Code:=WL (Qt (L4 (Qt Wq)))
abbrev WK:Code:=Qt (Qt Wq)
abbrev fO:Io:=⟨[dL],[],[],[dO],none⟩
def qQ (d:fO.In):Tr fO.Res:=.ite (decide (d.1.1.length≤4294967296)) (.ret (.ret ((d.1.1,()),()))) .no
abbrev Rx:Hd:=bR []
abbrev KH:Lp:=bJ []
def XE (b:List Int)(v3 v4:V):AS:=⟨[.one (.lst 5 (.int .u8) b 0),.any,.one (.lst 5 (.int .u8) [] 5),v3,v4,.any,.any,.any],[],[]⟩
def XM (ex:Ex)(A:AS):Option fO.Res:=match ex with
 |.ret=>fO.fin tt Tryz.f118 .ret A
 |_=>none
abbrev D6:Nat:=Cm Tryz.f118
theorem XU (b:List Int):ev tt Rx dr KH 0 D6 (L4 Wq) D6 [] (fO.start 8 ((b,()),())) (fun ex A=>match ex with | .normal=>some A | _=>none)=some (XE b .any .any):=by kernel_rfl
theorem XV (b:List Int):ev tt Rx dr KH 0 D6 WJ D6 [] (XE b (.one (.lst 5 (.int .u8) b 0)) (.one (.bool true))) XM=some (.ret (([],()),())):=by kernel_rfl
theorem XW (b:List Int):ev tt Rx dr KH 0 D6 WK D6 [] (XE b (.one (.lst 5 (.int .u8) b 0)) (.one (.bool false))) XM=bif decide (([]:List Int).length+b.length≤4294967296) then some (.ret ((b,()),())) else none:=by kernel_rfl
theorem xo:HcOk prog 118 (af fO qQ):=by
 have htt:=jP Tryz.prog 400
 refine sL (P:=prog) htt (fn:=Tryz.f118) (by kernel_rfl) (by kernel_rfl) fO qQ ?_ (by kernel_rfl)
 rintro ⟨⟨(b:List Int),⟨⟩⟩,⟨⟩⟩ out hwf hout F G cst w vals R Rl hkb hend
 obtain ⟨hg,hout⟩:=Tr.guard hout
 have hg:b.length≤4294967296:=by simpa using hg
 cases hout
 have hc:(Tryz.f118).body=some (.seq (L4 Wq) (.seq (.seq (.region 1 WI false) (.cond (.tmp 4) WJ .skip)) WK)):=by kernel_rfl
 have hdr:=pl (jP Tryz.prog 400)
 have hhd:so prog Rx:=B8 HcsOk.nil
 refine calls_of_wp (P:=prog) (fn:=Tryz.f118) (by kernel_rfl) hc ?_
 refine wp_seq (nS htt hm hhd hdr hkb (lp:=KH) _ (Cv (c:=(L4 Wq)) (by kernel_rfl)) (XU b) Rl ?_)
 intro ex A1 G1 a1 w1 R1 hd1 h1
 cases ex with
 |normal=>
  simp only[Option.some.injEq] at h1
  subst h1
  show (Code.seq (.seq (.region 1 WI false) (.cond (.tmp 4) WJ .skip)) WK).wp prog _ a1 w1
  refine wp_seq (wp_seq (wp_region ?_))
  have hr:List.range WI.size=[0,1]:=by kernel_rfl
  rw[hr]
  obtain ⟨p0,f0,ho0⟩:∃pos after,WI[0]?=some { dst:=some 3,op:=.move (.tmp 0),type:=39,pos:=pos,after:=after,guard:=none }:=⟨_,_,rfl⟩
  obtain ⟨p1,f1,ho1⟩:∃pos after,WI[1]?=some { dst:=some 4,op:=.binOp .eql 39 (.tmp 3) (.const (.slice none 0 0)) 39,type:=4,pos:=pos,after:=after,guard:=none }:=⟨_,_,rfl⟩
  have hu:Program.underlying prog 39=some (.slice 5):=by kernel_rfl
  simp only[wpOps,ho0,ho1]
  rw[if_pos (by rfl)]
  refine .inl ?_
  obtain ⟨u0,hu0,hv0⟩:=sD (P:=prog) htt (fun x=>R1.opd x) R1.ob { dst:=some 3,op:=.move (.tmp 0),type:=39,pos:=p0,after:=f0,guard:=none } (id:=7) (chk:=true) (v:=.one (.lst 5 (.int .u8) b 0)) (by kernel_rfl) rfl
  unfold Oper.wp
  rw[hu0,Oper.upon_value]
  have R2:=R1.puts hv0 (some 3)
  have hd2:(a1.put (some 3) u0).defers=[]:=(Act.put_defers' _ _ _).trans hd1
  generalize a1.put (some 3) u0=a2 at R2 hd2 ⊢
  rw[if_pos (by rfl)]
  refine .inl ?_
  obtain ⟨Aa,cap,he,hc1,hc2,hrow,_⟩:Rc G1 w1 (.lst 5 (.int .u8) b 0) (a2.eval (.tmp 3)):=R2.opd (.tmp 3)
  have hrun:(execOp a2.eval { dst:=some 4,op:=.binOp .eql 39 (.tmp 3) (.const (.slice none 0 0)) 39,type:=4,pos:=p1,after:=f1,guard:=none }).run prog w1=.ok (.value (.bool Aa.isNone)) w1:=by
   have h1:=Go.Lib.run_eql_slice_nil (P:=prog) w1 39 5 Aa b.length cap 0 0 hu
   have h2:a2.eval (.const (.slice none 0 0))=.slice none 0 0:=rfl
   simp only[execOp,Sem.run_bind,he,h2]
   simp[eqGuard,h1]
  rw[hrun,Oper.upon_value]
  have R3:=R2.puts (v:=.one (.bool Aa.isNone)) (u:=.bool Aa.isNone) rfl (some 4)
  have hd3:(a2.put (some 4) (.bool Aa.isNone)).defers=[]:=(Act.put_defers' _ _ _).trans hd2
  generalize a2.put (some 4) (.bool Aa.isNone)=a3 at R3 hd3 ⊢
  have hb4:a3.eval (.tmp 4)=.bool Aa.isNone:=R3.opd (.tmp 4)
  refine wp_cond hb4 ?_
  cases Aa with
  |none=>
   have hb:b=[]:=Classical.byContradiction fun hne=>by
    obtain ⟨_,_,e,_⟩:=hrow hne
    cases e
   subst hb
   refine nS htt hm hhd hdr hkb (lp:=KH) (l:=D6) (x:=[]) WJ (Cv (c:=WJ) (by kernel_rfl)) (XV []) R3 ?_
   intro ex A' G' a' w' R' hd' hk
   cases ex with
   |ret=>exact ⟨hd'.trans hd3,hend .ret A' G' a' w' R' hk⟩
   |normal=>cases hk
   |exit i=>cases hk
   |panic v=>cases hk
  |some ad=>
   refine wp_skip ?_
   refine nS htt hm hhd hdr hkb (lp:=KH) (l:=D6) (x:=[]) WK (Cv (c:=WK) (by kernel_rfl)) ((XW b).trans (aa (by simpa using hg) _ _)) R3 ?_
   intro ex A' G' a' w' R' hd' hk
   cases ex with
   |ret=>exact ⟨hd'.trans hd3,hend .ret A' G' a' w' R' hk⟩
   |normal=>cases hk
   |exit i=>cases hk
   |panic v=>cases hk
 |exit i=>cases h1
 |ret=>cases h1
 |panic v=>cases h1
abbrev Sn:List Sh:=[dO,dI]
abbrev N1:Sh:=.dat (.int .i16) false false
abbrev KO:Sh:=.dat (.int .i32) false false
abbrev WO:Sh:=.dat (.int .u64) false false
def aE (v:Int):Nat→List Int
 |0=>[]
 |n+1=>(v / 256 ^ n) % 256::aE v n
theorem di (v:Int):∀n,(aE v n).length=n
 |0=>rfl
 |n+1=>by rw[aE,List.length_cons,di v n]
def ay (b:List Int)(most v:Int)(n:Nat):Int×List Int:=if most - b.length<n then (10,b) else (0,b++aE v n)
def bc (b:List Int)(most:Int):Bool:=decide (b.length≤4294960000)&&(decide (0≤most)&&decide (most≤(1048576:Int)))
abbrev kN:Io:=⟨[.ptr 0 0],[Sn],[],[dI],none⟩
def BM (d:kN.In):Tr kN.Res:=.ret (.ret ((IntKind.i64.wrap (d.2.1.2.1 - d.2.1.1.length),()),((d.2.1.1,(d.2.1.2.1,())),())))
abbrev Jv:List (Nat×Hc):=[]
def Sb:Hd:=bR Jv
def J8:Lp:=bJ []
def KC (a0:List Int)(a1:Int):Option kN.Res:=some (Out.ret ((IntKind.i64.wrap (a1 - (↑a0.length:Int)),()),(a0,a1,()),()))
theorem Qs (a0:List Int)(a1:Int):Io.run tt Sb dr J8 kN Tryz.f117 (((),()),(a0,a1,()),())=KC a0 a1:=by kernel_rfl
theorem rN:HcOk prog 117 (af kN BM):=by
 refine ao (n:=400) hm (cs:=Jv) HcsOk.nil (lp:=J8) (fn:=Tryz.f117) (by kernel_rfl) (by kernel_rfl) (by kernel_rfl) kN (.done (by kernel_rfl)) BM ?_
 rintro ⟨⟨⟨⟩,⟨⟩⟩,⟨⟨(b:List Int),(m:Int),⟨⟩⟩,⟨⟩⟩⟩ out hw ho
 rw[← ho]
 exact Qs b m
abbrev eN:Io:=⟨[.ptr 0 0,WO,dI],[Sn],[],[dI],none⟩
def lA (d:eN.In):Tr eN.Res:=
 .ite (bc d.2.1.1 d.2.1.2.1&&(decide ((0:Int)≤d.1.2.2.1)&&decide (d.1.2.2.1≤(8:Int)))) (.ret (.ret (((ay d.2.1.1 d.2.1.2.1 d.1.2.1 d.1.2.2.1.toNat).1,()),(((ay d.2.1.1 d.2.1.2.1 d.1.2.1 d.1.2.2.1.toNat).2,(d.2.1.2.1,())),())))) .no
abbrev sx:List (Nat×Hc):=[(117,af kN BM)]
def z7:Hd:=bR sx
abbrev dy:Lo:=⟨⟨(.one (.ptr 0 0)::.one (.hol (.int IntKind.u64))::.any::bQ (.one (.hol (.int IntKind.i64))::ag (dq []))),[some [.onl 5 (Ty.int IntKind.u8) 2,.hol (.int IntKind.i64)]]⟩,[(.exit 0,⟨(ag (ag ([]))),[some [.onl 5 (Ty.int IntKind.u8) 2,.hol (.int IntKind.i64)]]⟩)]⟩
def jZ (d:dy.st.den):Tr (aJ dy.xs):=
 .ite (decide (-1≤d.1.2.1)&&(decide (d.1.2.1≤7)&&decide (d.2.1.1.length≤4294960000))) (.ret (.ret ((),((),((d.2.1.1++aE d.1.1 (d.1.2.1+1).toNat,(d.2.1.2.1,())),()))))) .no
def pb:Lp:=bJ [(5,bv dy jZ)]
def pX {R:Type}(h4 h5:Int)(h6:List Int)(h7:Int)(next:Int→Int→List Int→Int→Option R)(out:aJ dy.xs→Option R):Option R:=bif decide (0≤h5) then bif decide (0≤IntKind.i64.wrap (8*h5)) then bif !(0 == 1+29 || false)&&true&&decide (h6.length+[IntKind.u8.wrap (AT IntKind.u64 h4 (IntKind.i64.wrap (8*h5)))].length≤4294967296) then next (h4) (IntKind.i64.wrap (h5 - 1)) (h6++[IntKind.u8.wrap (AT IntKind.u64 h4 (IntKind.i64.wrap (8*h5)))]) (h7) else none else none else out (.ret ((),((),((h6,(h7,())),()))))
def n3 (n:Nat)(h4 h5:Int)(h6:List Int)(h7:Int):Option (aJ dy.xs):=lD tt z7 dr pb 1 Tryz.f116 (gQ Tryz.f116 0) n (dy.st.mk' ((h4,(h5,())),((h6,(h7,())),()))) (dc dy.xs)
theorem FU (n:Nat)(h4 h5:Int)(h6:List Int)(h7:Int):n3 (n+1) h4 h5 h6 h7=pX h4 h5 h6 h7 (n3 n) some:=by kernel_rfl
theorem Qu {v:Int}(h0:0≤v)(h1:v≤18446744073709551615){i:Nat}(hi:i≤7):IntKind.u8.wrap (AT .u64 v (IntKind.i64.wrap (8*(i:Int))))=(v / 256 ^ i) % 256:=by
 rw[bx (n:=8*(i:Int)) (by omega) (by omega)]
 unfold AT
 have e:min (8*(i:Int)).toNat (IntKind.u64).bits=8*i:=by
  show min (8*(i:Int)).toNat 64=8*i
  omega
 rw[e]
 have e2:(2:Int) ^ (8*i)=256 ^ i:=by rw[Int.pow_mul];rfl
 have hp:(0:Int)<256 ^ i:=Int.pow_pos (by decide)
 rw[e2,Int.fdiv_eq_ediv_of_nonneg _ (Int.le_of_lt hp)]
 have h3:0≤v / 256 ^ i:=Int.ediv_nonneg h0 (Int.le_of_lt hp)
 have h4:v / 256 ^ i≤v:=Int.ediv_le_self _ h0
 rw[dP (k:=.u64) (by simp[cT,IntKind.min,IntKind.max,IntKind.signed,IntKind.bits];omega)]
 simp[IntKind.wrap,IntKind.signed,IntKind.bits]
theorem EW {v:Int}(h0:0≤v)(h1:v≤18446744073709551615)(most:Int):∀(k m:Nat) (b:List Int),m<k→m≤8→b.length+m≤4294967296→
  n3 k v ((m:Int) - 1) b most=some (.ret ((),((),((b++aE v m,(most,())),())))):=by
 intro k
 induction k with
 |zero=>intro m b h;omega
 |succ k ih=>
  intro m b h2 h3 h4
  rw[FU]
  unfold pX
  cases m with
  |zero=>simp[aE]
  |succ m=>
   have e:((m+1:Nat):Int) - 1=(m:Int):=by omega
   rw[e,aa (by simp),bx (n:=(m:Int) - 1) (by omega) (by omega),Qu h0 h1 (by omega),bx (n:=8*(m:Int)) (by omega) (by omega),aa (by simp;omega),aa (by simp;omega),ih m _ (by omega) (by omega) (by simp;omega)]
   simp[aE]
def tT (a0 a1:Int)(a2:List Int)(a3:Int):Option eN.Res:=bif decide (IntKind.i64.wrap (a3 - (↑a2.length:Int))<a1) then some (Out.ret ((10,()),(a2,a3,()),())) else (jZ ((a0,(IntKind.i64.wrap (a1 - 1),())),((a2,(a3,())),()))).run fun y=>match y with | .ret ((),((),(x14,x15,()),()))=>(some (Out.ret ((0,()),(x14,x15,()),())))
theorem H0 (a0 a1:Int)(a2:List Int)(a3:Int):Io.run tt z7 dr pb eN Tryz.f116 (((),a0,a1,()),(a2,a3,()),())=tT a0 a1 a2 a3:=by kernel_rfl
theorem pk:HcOk prog 116 (af eN lA):=by
 refine ao (n:=400) hm (cs:=sx) (.cons rN .nil) (lp:=pb) (fn:=Tryz.f116) (by kernel_rfl) (by kernel_rfl) (by kernel_rfl) eN (.step (h0:=bv dy jZ) (by kernel_rfl) (aQ (n:=400) hm (cs:=sx) (.cons rN .nil) (lp:=pb) (fn:=Tryz.f116) (.done (by kernel_rfl)) dy jZ ?_) (.done (by kernel_rfl))) lA ?_
 ·rintro ⟨⟨(v:Int),(i:Int),⟨⟩⟩,⟨⟨(b:List Int),(m:Int),⟨⟩⟩,⟨⟩⟩⟩ y hw hy
  obtain ⟨hg,hy⟩:=Tr.guard hy
  simp only[Bool.and_eq_true,decide_eq_true_eq] at hg
  have hv:cT .u64 v:=hw.1.1
  simp[cT,IntKind.min,IntKind.max,IntKind.signed,IntKind.bits] at hv
  have g1:(-1:Int)≤i:=hg.1
  have g2:i≤(7:Int):=hg.2.1
  have g3:b.length≤4294960000:=hg.2.2
  obtain ⟨n,hn⟩:∃n:Nat,i=(n:Int) - 1:=⟨(i+1).toNat,by omega⟩
  subst hn
  refine ⟨10,(EW hv.1 (by omega) m 10 n b (by omega) (by omega) (by omega)).trans ?_⟩
  rw[← hy,show ((n:Int) - 1+1).toNat=n by omega];rfl
 ·rintro ⟨⟨⟨⟩,(v:Int),(n:Int),⟨⟩⟩,⟨⟨(b:List Int),(m:Int),⟨⟩⟩,⟨⟩⟩⟩ out hw ho
  obtain ⟨hg,ho⟩:=Tr.guard ho
  simp only[bc,Bool.and_eq_true,decide_eq_true_eq] at hg
  obtain ⟨⟨h1,h2,h3⟩,h4,h5⟩:=hg
  have h4:(0:Int)≤n:=h4
  have h5:n≤(8:Int):=h5
  cases ho
  refine (H0 v n b m).trans ?_
  unfold tT jZ
  simp only
  rw[bx (n:=m - (b.length:Int)) (by omega) (by omega),bx (n:=n - 1) (by omega) (by omega),show n - 1+1=n by omega]
  unfold ay
  by_cases hl:m - (b.length:Int)<n
  ·rw[aa (by simpa using hl),if_pos (by omega)]
  ·rw[ae (by simpa using hl),if_neg (by omega)]
   have:(decide (-1≤n - 1)&&(decide (n - 1≤7)&&decide (b.length≤4294960000)))=true:=by simp;omega
   rw[this]
   rfl
theorem rP (v:Int){n:Nat}(h:n≤8):aE (IntKind.u64.wrap v) n=aE v n:=by
 have e:IntKind.u64.wrap v=v % 18446744073709551616:=by simp[IntKind.wrap,IntKind.signed,IntKind.bits]
 rw[e]
 have key:∀k:Nat,k<8→(v % 18446744073709551616 / 256 ^ k) % 256=(v / 256 ^ k) % 256:=by
  intro k hk
  match k,hk with
  |0,_=>omega
  |1,_=>omega
  |2,_=>omega
  |3,_=>omega
  |4,_=>omega
  |5,_=>omega
  |6,_=>omega
  |7,_=>omega
 induction n with
 |zero=>rfl
 |succ n ih=>rw[aE,aE,key n (by omega),ih (by omega)]
abbrev nY:Io:=⟨[.ptr 0 0,N1],[Sn],[],[dI],none⟩
def IR (d:nY.In):Tr nY.Res:=
 .ite (bc d.2.1.1 d.2.1.2.1) (.ret (.ret (((ay d.2.1.1 d.2.1.2.1 d.1.2.1 2).1,()),(((ay d.2.1.1 d.2.1.2.1 d.1.2.1 2).2,(d.2.1.2.1,())),())))) .no
abbrev NX:List (Nat×Hc):=[(116,af eN lA)]
def Vq:Hd:=bR NX
def Pi:Lp:=bJ []
def D0 (a0:Int)(a1:List Int)(a2:Int):Option nY.Res:=bif bc a1 a2&&(decide (0≤2)&&decide (2≤8)) then some (Out.ret (((ay a1 a2 (IntKind.u64.wrap a0) (Int.toNat 2)).1,()),((ay a1 a2 (IntKind.u64.wrap a0) (Int.toNat 2)).2,a2,()),())) else none
theorem Tk (a0:Int)(a1:List Int)(a2:Int):Io.run tt Vq dr Pi nY Tryz.f47 (((),a0,()),(a1,a2,()),())=D0 a0 a1 a2:=by kernel_rfl
theorem PM:HcOk prog 47 (af nY IR):=by
 refine ao (n:=400) hm (cs:=NX) (.cons pk .nil) (lp:=Pi) (fn:=Tryz.f47) (by kernel_rfl) (by kernel_rfl) (by kernel_rfl) nY (.done (by kernel_rfl)) IR ?_
 rintro ⟨⟨⟨⟩,(v:Int),⟨⟩⟩,⟨⟨(b:List Int),(m:Int),⟨⟩⟩,⟨⟩⟩⟩ out hw ho
 obtain ⟨hg,ho⟩:=Tr.guard ho
 have hg:bc b m=true:=hg
 cases ho
 refine (Tk v b m).trans ?_
 unfold D0
 have e:ay b m (IntKind.u64.wrap v) 2=ay b m v 2:=by unfold ay;rw[rP v (by decide)]
 simp[hg,e]
abbrev lc:Io:=⟨[.ptr 0 0,KO],[Sn],[],[dI],none⟩
def zc (d:lc.In):Tr lc.Res:=
 .ite (bc d.2.1.1 d.2.1.2.1) (.ret (.ret (((ay d.2.1.1 d.2.1.2.1 d.1.2.1 4).1,()),(((ay d.2.1.1 d.2.1.2.1 d.1.2.1 4).2,(d.2.1.2.1,())),())))) .no
abbrev NY:List (Nat×Hc):=[(116,af eN lA)]
def Vr:Hd:=bR NY
def Pj:Lp:=bJ []
def D1 (a0:Int)(a1:List Int)(a2:Int):Option lc.Res:=bif bc a1 a2&&(decide (0≤4)&&decide (4≤8)) then some (Out.ret (((ay a1 a2 (IntKind.u64.wrap a0) (Int.toNat 4)).1,()),((ay a1 a2 (IntKind.u64.wrap a0) (Int.toNat 4)).2,a2,()),())) else none
theorem Tl (a0:Int)(a1:List Int)(a2:Int):Io.run tt Vr dr Pj lc Tryz.f48 (((),a0,()),(a1,a2,()),())=D1 a0 a1 a2:=by kernel_rfl
theorem CL:HcOk prog 48 (af lc zc):=by
 refine ao (n:=400) hm (cs:=NY) (.cons pk .nil) (lp:=Pj) (fn:=Tryz.f48) (by kernel_rfl) (by kernel_rfl) (by kernel_rfl) lc (.done (by kernel_rfl)) zc ?_
 rintro ⟨⟨⟨⟩,(v:Int),⟨⟩⟩,⟨⟨(b:List Int),(m:Int),⟨⟩⟩,⟨⟩⟩⟩ out hw ho
 obtain ⟨hg,ho⟩:=Tr.guard ho
 have hg:bc b m=true:=hg
 cases ho
 refine (Tl v b m).trans ?_
 unfold D1
 have e:ay b m (IntKind.u64.wrap v) 4=ay b m v 4:=by unfold ay;rw[rP v (by decide)]
 simp[hg,e]
abbrev qo:Io:=⟨[.ptr 0 0,.dat (.int .i64) false false],[Sn],[],[dI],none⟩
def M3 (d:qo.In):Tr qo.Res:=
 .ite (bc d.2.1.1 d.2.1.2.1) (.ret (.ret (((ay d.2.1.1 d.2.1.2.1 d.1.2.1 8).1,()),(((ay d.2.1.1 d.2.1.2.1 d.1.2.1 8).2,(d.2.1.2.1,())),())))) .no
abbrev NZ:List (Nat×Hc):=[(116,af eN lA)]
def Vs:Hd:=bR NZ
def Pk:Lp:=bJ []
def D2 (a0:Int)(a1:List Int)(a2:Int):Option qo.Res:=bif bc a1 a2&&(decide (0≤8)&&decide (8≤8)) then some (Out.ret (((ay a1 a2 (IntKind.u64.wrap a0) (Int.toNat 8)).1,()),((ay a1 a2 (IntKind.u64.wrap a0) (Int.toNat 8)).2,a2,()),())) else none
theorem Tm (a0:Int)(a1:List Int)(a2:Int):Io.run tt Vs dr Pk qo Tryz.f197 (((),a0,()),(a1,a2,()),())=D2 a0 a1 a2:=by kernel_rfl
theorem VE:HcOk prog 197 (af qo M3):=by
 refine ao (n:=400) hm (cs:=NZ) (.cons pk .nil) (lp:=Pk) (fn:=Tryz.f197) (by kernel_rfl) (by kernel_rfl) (by kernel_rfl) qo (.done (by kernel_rfl)) M3 ?_
 rintro ⟨⟨⟨⟩,(v:Int),⟨⟩⟩,⟨⟨(b:List Int),(m:Int),⟨⟩⟩,⟨⟩⟩⟩ out hw ho
 obtain ⟨hg,ho⟩:=Tr.guard ho
 have hg:bc b m=true:=hg
 cases ho
 refine (Tm v b m).trans ?_
 unfold D2
 have e:ay b m (IntKind.u64.wrap v) 8=ay b m v 8:=by unfold ay;rw[rP v (by decide)]
 simp[hg,e]
abbrev ld:Io:=⟨[dI],[],[Sn],[.ptr 0 0],none⟩
def zd (d:ld.In):Tr ld.Res:=.ret (.ret (((),()),((([]:List Int),(ai (ah d.1.1 0) 1048576,())),())))
abbrev N0:List (Nat×Hc):=[]
def Vt:Hd:=bR N0
def Pl:Lp:=bJ []
def Nj (a0:Int):Option ld.Res:=some (Out.ret (((),()),([],ai (ah a0 0) 1048576,()),()))
theorem Tn (a0:Int):Io.run tt Vt dr Pl ld Tryz.f46 ((a0,()),())=Nj a0:=by kernel_rfl
theorem CM:HcOk prog 46 (af ld zd):=by
 refine ao (n:=400) hm (cs:=N0) HcsOk.nil (lp:=Pl) (fn:=Tryz.f46) (by kernel_rfl) (by kernel_rfl) (by kernel_rfl) ld (.done (by kernel_rfl)) zd ?_
 rintro ⟨⟨(m:Int),⟨⟩⟩,⟨⟩⟩ out hw ho
 rw[← ho]
 exact Tn m
abbrev fP:Io:=⟨[.ptr 0 0],[Sn],[],[dO],none⟩
def oM (d:fP.In):Tr fP.Res:=.ite (decide (d.2.1.1.length≤4294967296)) (.ret (.ret ((d.2.1.1,()),((d.2.1.1,(d.2.1.2.1,())),())))) .no
abbrev EA:List (Nat×Hc):=[(118,af fO qQ)]
def OH:Hd:=bR EA
def Fo:Lp:=bJ []
def GX (a0:List Int)(a1:Int):Option fP.Res:=bif decide (a0.length≤4294967296) then some (Out.ret ((a0,()),(a0,a1,()),())) else none
theorem L3 (a0:List Int)(a1:Int):Io.run tt OH dr Fo fP Tryz.f50 (((),()),(a0,a1,()),())=GX a0 a1:=by kernel_rfl
theorem rM:HcOk prog 50 (af fP oM):=by
 refine ao (n:=400) hm (cs:=EA) (.cons xo .nil) (lp:=Fo) (fn:=Tryz.f50) (by kernel_rfl) (by kernel_rfl) (by kernel_rfl) fP (.done (by kernel_rfl)) oM ?_
 rintro ⟨⟨⟨⟩,⟨⟩⟩,⟨⟨(b:List Int),(m:Int),⟨⟩⟩,⟨⟩⟩⟩ out hw ho
 obtain ⟨hg,ho⟩:=Tr.guard ho
 cases ho
 exact (L3 b m).trans (aa hg _ _)
def aN:List (List Int)→Nat
 |[]=>0
 |p::ps=>p.length+aN ps
def kq:List (List Int)→List Int
 |[]=>[]
 |p::ps=>p++kq ps
def bb (b:List Int)(most:Int)(ps:List (List Int)):Int×List Int:=if most - b.length<aN ps then (10,b) else (0,b++kq ps)
abbrev kg:Io:=⟨[.ptr 0 0,.dat (.sl 39 bs) false false],[Sn],[],[dI],none⟩
def vR (d:kg.In):Tr kg.Res:=
 .ite (bc d.2.1.1 d.2.1.2.1&&decide (aN d.1.2.1≤4294960000)) (.ret (.ret (((bb d.2.1.1 d.2.1.2.1 d.1.2.1).1,()),(((bb d.2.1.1 d.2.1.2.1 d.1.2.1).2,(d.2.1.2.1,())),())))) .no
abbrev BX:List (Nat×Hc):=[(117,af kN BM)]
def Hn:Hd:=bR BX
abbrev gG:Lo:=⟨⟨(.one (.ptr 0 0)::.one (.hol (.sl 39 (Ty.sl 5 (Ty.int IntKind.u8))))::.any::bt (.one (.hol (.int IntKind.i64))::bQ (.one (.hol (.sl 39 (Ty.sl 5 (Ty.int IntKind.u8))))::.one (.hol (.int IntKind.i64))::.one (.hol (.int IntKind.i64))::ag (dq (bQ []))))),[some [.onl 5 (Ty.int IntKind.u8) 2,.hol (.int IntKind.i64)]]⟩,[(.exit 0,⟨(.one (.ptr 0 0)::.one (.hol (.sl 39 (Ty.sl 5 (Ty.int IntKind.u8))))::.any::bt (.one (.hol (.int IntKind.i64))::.any::ag (ag (bt [])))),[some [.onl 5 (Ty.int IntKind.u8) 2,.hol (.int IntKind.i64)]]⟩)]⟩
abbrev fv:Lo:=⟨⟨(.one (.ptr 0 0)::ag (dq (.one (.hol (.sl 39 (Ty.sl 5 (Ty.int IntKind.u8))))::.one (.hol (.int IntKind.i64))::.one (.hol (.int IntKind.i64))::.any::dq (bQ [])))),[some [.onl 5 (Ty.int IntKind.u8) 2,.hol (.int IntKind.i64)]]⟩,[(.exit 2,⟨(.any::ag (ag (dq []))),[some [.onl 5 (Ty.int IntKind.u8) 2,.hol (.int IntKind.i64)]]⟩)]⟩
def qU (d:gG.st.den):Tr (aJ gG.xs):=
 .ite (decide (d.1.2.1=0)&&(decide (d.1.2.2.2.2.1=0)&&(decide (d.1.2.2.2.1=(d.1.2.2.1.length:Int))&&decide (aN d.1.2.2.1≤4294960000)))) (.ret (.ret ((),((d.1.1,((aN d.1.2.2.1:Int),())),(d.2.1,()))))) .no
def nP (d:fv.st.den):Tr (aJ fv.xs):=
 .ite (decide (d.1.2.2.1=0)&&(decide (d.1.2.1=(d.1.1.length:Int))&&decide (d.2.1.1.length+aN d.1.1≤4294967296))) (.ret (.ret ((),((),((d.2.1.1++kq d.1.1,(d.2.1.2.1,())),()))))) .no
def sU:Lp:=bJ [(4,bv gG qU),(11,bv fv nP)]
def yz {R:Type}(h3:List bs.den)(h4:Int)(h5:List bs.den)(h6 h7:Int)(h8:List Int)(h9:Int)(next:List bs.den→Int→List bs.den→Int→Int→List Int→Int→Option R)(out:aJ gG.xs→Option R):Option R:=bif decide (h7<h6) then bif decide (0≤h7)&&decide (h7<(↑h5.length:Int)) then next (h3) (IntKind.i64.wrap (h4+(↑(List.length (h5.getD h7.toNat [])):Int))) (h5) (h6) (IntKind.i64.wrap (h7+1)) (h8) (h9) else none else out (.ret ((),((h3,(h4,())),((h8,(h9,())),()))))
def wP (n:Nat)(h3:List bs.den)(h4:Int)(h5:List bs.den)(h6 h7:Int)(h8:List Int)(h9:Int):Option (aJ gG.xs):=lD tt Hn dr sU 1 Tryz.f49 (gQ Tryz.f49 0) n (gG.st.mk' ((h3,(h4,(h5,(h6,(h7,()))))),((h8,(h9,())),()))) (dc gG.xs)
theorem QB (n:Nat)(h3:List bs.den)(h4:Int)(h5:List bs.den)(h6 h7:Int)(h8:List Int)(h9:Int):wP (n+1) h3 h4 h5 h6 h7 h8 h9=yz h3 h4 h5 h6 h7 h8 h9 (wP n) some:=by kernel_rfl
def uG {R:Type}(h25:List (Ty.sl 5 (Ty.int IntKind.u8)).den)(h26 h27:Int)(h28:List Int)(h29:Int)(next:List (Ty.sl 5 (Ty.int IntKind.u8)).den→Int→Int→List Int→Int→Option R)(out:aJ fv.xs→Option R):Option R:=bif decide (h27<h26) then bif decide (0≤h27)&&decide (h27<(↑h25.length:Int)) then bif decide (h28.length+List.length (h25.getD h27.toNat [])≤4294967296) then next (h25) (h26) (IntKind.i64.wrap (h27+1)) (h28++h25.getD h27.toNat []) (h29) else none else none else out (.ret ((),((),((h28,(h29,())),()))))
def sS (n:Nat)(h25:List (Ty.sl 5 (Ty.int IntKind.u8)).den)(h26 h27:Int)(h28:List Int)(h29:Int):Option (aJ fv.xs):=lD tt Hn dr sU 1 Tryz.f49 (gQ Tryz.f49 1) n (fv.st.mk' ((h25,(h26,(h27,()))),((h28,(h29,())),()))) (dc fv.xs)
theorem Me (n:Nat)(h25:List (Ty.sl 5 (Ty.int IntKind.u8)).den)(h26 h27:Int)(h28:List Int)(h29:Int):sS (n+1) h25 h26 h27 h28 h29=uG h25 h26 h27 h28 h29 (sS n) some:=by kernel_rfl
theorem pU {ps:List (List Int)}{i:Nat}(h:i<ps.length):aN (ps.drop i)=ps[i].length+aN (ps.drop (i+1)):=by rw[List.drop_eq_getElem_cons h];rfl
theorem Gc {ps:List (List Int)}{i:Nat}(h:i<ps.length):kq (ps.drop i)=ps[i]++kq (ps.drop (i+1)):=by rw[List.drop_eq_getElem_cons h];rfl
theorem Hv (ps0 ps:List (List Int))(b:List Int)(m:Int)(hl:ps.length≤maxLen):∀(k i s:Nat),ps.length<i+k→i≤ps.length→s+aN (ps.drop i)≤4294960000→
  wP k ps0 s ps (ps.length:Int) i b m=some (.ret ((),((ps0,(((s+aN (ps.drop i):Nat):Int),())),((b,(m,())),())))):=by
 intro k
 induction k with
 |zero=>intro i s h;omega
 |succ k ih=>
  intro i s h1 h2 h3
  rw[QB]
  unfold yz
  by_cases hi:i<ps.length
  ·rw[pU hi] at h3 ⊢
   have e:List.getD ps (i:Int).toNat []=ps[i]:=by simp only[Int.toNat_natCast,bh hi]
   rw[aa (by simpa using hi),aa (by simpa using hi),e,bM hi hl,bx (n:=(s:Int)+(List.length (α:=Int) ps[i]:Int)) (by omega) (by omega)]
   have e2:(s:Int)+(List.length (α:=Int) ps[i]:Int)=((s+ps[i].length:Nat):Int):=by omega
   rw[e2,ih (i+1) (s+ps[i].length) (by omega) (by omega) (by omega),Nat.add_assoc]
  ·rw[ae (by simp;omega),List.drop_of_length_le (by omega)]
   rfl
theorem EV (ps:List (List Int))(m:Int)(hl:ps.length≤maxLen):∀(k i:Nat) (b:List Int),ps.length<i+k→i≤ps.length→b.length+aN (ps.drop i)≤4294967296→
  sS k ps (ps.length:Int) i b m=some (.ret ((),((),((b++kq (ps.drop i),(m,())),())))):=by
 intro k
 induction k with
 |zero=>intro i b h;omega
 |succ k ih=>
  intro i b h1 h2 h3
  rw[Me]
  unfold uG
  by_cases hi:i<ps.length
  ·rw[pU hi] at h3
   rw[Gc hi]
   have e:List.getD ps (i:Int).toNat []=ps[i]:=by simp only[Int.toNat_natCast,bh hi]
   rw[aa (by simpa using hi),aa (by simpa using hi),e,bM hi hl,aa (by simp;omega),ih (i+1) _ (by omega) (by omega) (by simp;omega),List.append_assoc]
  ·rw[ae (by simp;omega),List.drop_of_length_le (by omega)]
   simp[kq]
def D3 (a0:List bs.den)(a1:List Int)(a2:Int):Option kg.Res:=(qU ((a0,(0,(a0,((↑a0.length:Int),(0,()))))),((a1,(a2,())),()))).run fun y=>match y with | .ret ((),((x21,x22,()),(x23,x24,()),()))=>(bif decide (IntKind.i64.wrap (x24 - (↑x23.length:Int))<x22) then some (Out.ret ((10,()),(x23,x24,()),())) else (nP ((x21,((↑x21.length:Int),(0,()))),((x23,(x24,())),()))).run fun y=>match y with | .ret ((),((),(x37,x38,()),()))=>(some (Out.ret ((0,()),(x37,x38,()),()))))
theorem To (a0:List bs.den)(a1:List Int)(a2:Int):Io.run tt Hn dr sU kg Tryz.f49 (((),a0,()),(a1,a2,()),())=D3 a0 a1 a2:=by kernel_rfl
theorem xr:HcOk prog 49 (af kg vR):=by
 refine ao (n:=400) hm (cs:=BX) (.cons rN .nil) (lp:=sU) (fn:=Tryz.f49) (by kernel_rfl) (by kernel_rfl) (by kernel_rfl) kg (.step (h0:=bv gG qU) (by kernel_rfl) (aQ (n:=400) hm (cs:=BX) (.cons rN .nil) (lp:=sU) (fn:=Tryz.f49) (.done (by kernel_rfl)) gG qU ?_) (.step (h0:=bv fv nP) (by kernel_rfl) (aQ (n:=400) hm (cs:=BX) (.cons rN .nil) (lp:=sU) (fn:=Tryz.f49) (.done (by kernel_rfl)) fv nP ?_) (.done (by kernel_rfl)))) vR ?_
 ·rintro ⟨⟨ps0,s,ps,n,i,⟨⟩⟩,⟨⟨b,m,⟨⟩⟩,⟨⟩⟩⟩ y hw hy
  obtain ⟨hg,hy⟩:=Tr.guard hy
  simp only[Bool.and_eq_true,decide_eq_true_eq] at hg
  obtain ⟨rfl,rfl,rfl,h4⟩:=hg
  refine ⟨ps.length+1,(Hv ps0 ps b m hw.1.2.2.1.1 _ 0 0 (by omega) (by omega) (by simpa using h4)).trans ?_⟩
  rw[← hy,Nat.zero_add];rfl
 ·rintro ⟨⟨ps,n,i,⟨⟩⟩,⟨⟨b,m,⟨⟩⟩,⟨⟩⟩⟩ y hw hy
  obtain ⟨hg,hy⟩:=Tr.guard hy
  simp only[Bool.and_eq_true,decide_eq_true_eq] at hg
  obtain ⟨rfl,rfl,h4⟩:=hg
  refine ⟨ps.length+1,(EV ps m hw.1.1.1 _ 0 b (by omega) (by omega) (by simpa using h4)).trans ?_⟩
  rw[← hy];rfl
 ·rintro ⟨⟨⟨⟩,(ps:List (List Int)),⟨⟩⟩,⟨⟨(b:List Int),(m:Int),⟨⟩⟩,⟨⟩⟩⟩ out hw ho
  obtain ⟨hg,ho⟩:=Tr.guard ho
  simp only[bc,Bool.and_eq_true,decide_eq_true_eq] at hg
  obtain ⟨⟨h1,h2,h3⟩,h4⟩:=hg
  have h4:aN ps≤4294960000:=h4
  cases ho
  refine (To ps b m).trans ?_
  unfold D3
  have c1:(decide ((0:Int)=0)&&(decide ((0:Int)=0)&&(decide ((ps.length:Int)=(ps.length:Int))&&decide (aN ps≤4294960000))))=true:=by simp;omega
  have e1:qU ((ps,(0,(ps,((ps.length:Int),(0,()))))),((b,(m,())),()))=.ite true (.ret (.ret ((),((ps,((aN ps:Int),())),((b,(m,())),()))))) .no:=congrArg (fun c=>Tr.ite c _ _) c1
  rw[e1]
  simp only[Tr.run,cond_true]
  rw[bx (n:=m - (b.length:Int)) (by omega) (by omega)]
  unfold bb
  by_cases hl:m - (b.length:Int)<(aN ps:Int)
  ·rw[aa (by simpa using hl),if_pos hl]
  ·rw[ae (by simpa using hl),if_neg hl]
   have c2:(decide ((0:Int)=0)&&(decide ((ps.length:Int)=(ps.length:Int))&&decide (b.length+aN ps≤4294967296)))=true:=by simp;omega
   have e2:nP ((ps,((ps.length:Int),(0,()))),((b,(m,())),()))=.ite true (.ret (.ret ((),((),((b++kq ps,(m,())),()))))) .no:=congrArg (fun c=>Tr.ite c _ _) c2
   rw[e2]
   rfl
end
end Go.Proofs.YtomeplopmndbgaaGreat.Sym
