/- Soundness of the operations that touch memory: append, and all of them. -/
import Derived.Laws.RangeString
import Derived.Test.YthpcdhgpplmneaaGreatDoorQ1

set_option linter.unusedVariables false
set_option linter.unusedSimpArgs false
namespace Go.Proofs.YthpcdhgpplmneaaGreatDoor.Sym
open Go
open Go.IntKind (i8 i16 i32 i64 u8 u16 u32 u64)
section
variable {P:Program} {tt:TT}
theorem Rows.append {S:Nat→Nat→Prop}{w:World}{t:Ty}{b o:Nat}{xs ys:List t.den}(h:Rows S w t b o xs)(h':Rows S w t b (o+xs.length*t.size) ys):Rows S w t b o (xs++ys):=by
 intro i x hx
 rw[List.getElem?_append] at hx
 split at hx
 ·exact h i x hx
 ·rename_i hlt
  obtain ⟨c,hr,ha⟩:=h' _ x hx
  refine ⟨c,hr,?_⟩
  have e:o+xs.length*t.size+(i - xs.length)*t.size=o+i*t.size:=by
   rw[Nat.add_assoc,← Nat.add_mul];congr 2;omega
  rw[e] at ha;exact ha
theorem Rows.kept {S S':Nat→Nat→Prop}{w w':World}(k:Kept S S' w w'){t:Ty}{b o:Nat}{xs:List t.den}(h:Rows S w t b o xs):Rows S' w' t b o xs:=
 fun i x hx=>let ⟨c,hr,ha⟩:=h i x hx;⟨c,Rt.kept k t x c hr,ha.kept k⟩
def s9 (A:AS)(op:Op)(k:Nat):Prop:=match op with
 |.store _ a _=>match opd A a with
  |.one (.ptr j _)=>k=j
  |_=>True
 |_=>False
structure Unt (G G':Gh) (X:Nat→Prop) (w w':World):Prop where
 kept:Kept G.S G'.S w w'
 mu:∀key b,¬ X key→G.mu key=some b→G'.mu key=some b∧w'.heap[b]?=w.heap[b]?
theorem Goes.unt {G G':Gh}{w w':World}{k i:Option Nat}(g:Goes G G' w w' k i){X:Nat→Prop}(hX:∀key,k=some key→X key)(hh:∀key b,¬ X key→G.mu key=some b→w'.heap[b]?=w.heap[b]?):Unt G G' X w w':=
 ⟨g.kept,fun key b hx hb=>⟨g.mu key b hb (fun e=>hx (hX key e.symm)),hh key b hx hb⟩⟩
theorem Unt.weaken {G G':Gh}{w w':World}{X Y:Nat→Prop}(h:Unt G G' X w w')(hXY:∀k,X k→Y k):Unt G G' Y w w':=⟨h.kept,fun key b hy hb=>h.mu key b (fun hx=>hy (hXY _ hx)) hb⟩
theorem Unt.refl (G:Gh)(X:Nat→Prop)(w:World):Unt G G X w w:=⟨.refl _ _,fun _ _ _ h=>⟨h,rfl⟩⟩
theorem Grew.mu {F:Fra}{G:Gh}{w w':World}(g:Grew w w')(h:GhOk F G w){key b:Nat}(hb:G.mu key=some b):w'.heap[b]?=w.heap[b]?:=g.old b (h.mu key b hb).2.2
theorem yW (htt:cJ P tt){F:Fra}{G:Gh}{A:AS}{ts:Array Value}{cst:List (Array Value)}{w:World}(R:Rel F G A ts cst w)
  {t t' e own type:Nat} {ty:Ty} {xs ys:List ty.den} {sv xv:Value} {v:V} (hS:P.underlying t=some (.slice e)) (hT:TIok P e (tt.at e)) (hsz:(tt.at e).size=ty.size) (hpos:0<ty.size)
  (hby:(tt.at e).bytes≤4096) (hb0:(tt.at e).bytes≠0) (hzl:(tt.at e).zero.length=ty.size) (hown:own≠0) (hs:Rc G w (.lst e ty xs own) sv) (hx:qp tt e ty t' v=some ys) (hxv:Rv G w v xv)
  (hl:xs.length+ys.length≤4294967296):
  ∃u w' G',Unt G G' (fun _=>False) w w'∧(Builtin.append_ #[t,t'] type #[sv,xv]).run P w=.ok u w'∧Rel F G' (A.map (C.noOwn own)) ts cst w'∧Rc G' w' (.lst e ty (xs++ys) own) u:=by
 obtain ⟨d,css,htx,hd,hlen,hF,_,hfc⟩:=o4 htt hx hxv
 obtain ⟨i,z,hi,hi1,hi2,hz,hzc⟩:=hT.bytesOf
 obtain ⟨Ad,cap,rfl,hlc,hcap,hrow,hO⟩:=hs
 have hisz:i.size=ty.size:=hi1.trans hsz
 by_cases hm:ys=[]
 ·subst hm
  have hr:=lg (P:=P) (w:=w) (ty:=type) hS hi htx hd Ad xs.length cap hlc xv hlen (by
   have:=hfc w (Kept.refl _ _)
   rw[hisz]
   have hc0:css=[]:=zF hF.len
   rw[hc0] at this
   exact this)
  have g:Goes G G w w none (some own):=⟨.refl _ _,fun _ _ h _=>h,fun _ _ _ h _=>⟨h,rfl⟩⟩
  refine ⟨_,w,G,g.unt (fun _ e=>by cases e) (fun _ _ _ _=>rfl),hr,R.map (fun c v h=>h.noOwn g) (fun _=>rfl) (fun _ _ h=>⟨h,rfl⟩) R.gh,?_⟩
  rw[List.append_nil]
  exact ⟨Ad,cap,rfl,hlc,hcap,hrow,hO⟩
 ·have hmpos:0<ys.length:=List.length_pos_iff.2 hm
  have hcl:css.flatten.length=ys.length*ty.size:=by rw[dD css hF.size,hF.len]
  have hnew:cap<xs.length+ys.length→∃u w' G',Unt G G' (fun _=>False) w w'∧(Builtin.append_ #[t,t'] type #[.slice Ad xs.length cap,xv]).run P w=.ok u w'∧Rel F G' (A.map (C.noOwn own)) ts cst w'∧Rc G' w' (.lst e ty (xs++ys) own) u:=by
   intro hg
   obtain ⟨dss,hD,hdc⟩:=hrow.flat
   have hdl:dss.flatten.length=xs.length*ty.size:=by rw[dD dss hD.size,hD.len]
   have hk:Kept G.S G.S w w.drew:=fun _ _ h=>⟨h,rfl⟩
   have holds:(Builtin.firstCells i.size xs.length (.slice Ad xs.length cap)).run P w.drew=.ok dss.flatten.toArray w.drew:=by
    rw[hisz]
    by_cases hne:xs=[]
    ·subst hne
     have:dss=[]:=zF hD.len
     subst this
     cases Ad with
     |none=>simp[Builtin.firstCells]
     |some ad=>simp[Builtin.firstCells,loadCells,loadCellsFrom]
    ·obtain ⟨b,o,rfl,hcc⟩:=hdc hne
     refine run_firstCells_some (P:=P) w.drew ty.size xs.length ⟨b,o,none⟩ _ cap dss.flatten hdl fun j v hv=>?_
     rw[Addr.add_plain]
     exact (hcc j v hv).2
   have hfit:Builtin.nextslicecap (xs.length+ys.length) cap*i.bytes≤281474976710656:=by
    refine growslice_fits hg ?_
    rw[hi2]
    have:=Nat.mul_le_mul hl hby
    omega
   have hr:=ml (P:=P) (w:=w) (ty:=type) hS hi hz htx hd Ad xs.length cap ys.length dss.flatten holds xv css.flatten hlen (by rw[hisz];exact hfc w.drew hk) hg (by omega) hfit
   have hgc:=grownCap_ge w (xs.length+ys.length) cap e
   have hgm:=grownCap_le_maxLen w (xs.length+ys.length) cap e (by simp only[maxLen];omega)
   let cur:Array Value:=dss.flatten.toArray++css.flatten.toArray++Builtin.zeroCells z.cells (grownCap w (xs.length+ys.length) cap e - (xs.length+ys.length))
   have hgr:Grew w (w.drew.alloc (.cells cur e)):=Grew.drewAlloc w _
   have R':=R.fresh hgr ((xs.length+ys.length)*ty.size) own
   have hh:(w.drew.alloc (.cells cur e)).heap[w.heap.size]?=some (.cells cur e (0,0)):=heap_alloc_new w.drew _
   have hk':Kept G.S (G.fresh w.heap.size ((xs.length+ys.length)*ty.size) own).S w (w.drew.alloc (.cells cur e)):=(Goes.fresh R.gh hgr _ own).kept
   refine ⟨_,_,_,(Goes.fresh R.gh hgr ((xs.length+ys.length)*ty.size) own).unt (fun _ e=>by cases e) (fun key b _ hb=>hgr.mu R.gh hb),hr,R',_,_,by rw[zH],by rw[zH];exact hgc,hgm,?_,.inr (.inr ⟨w.heap.size,cur,e,rfl,by simp[Gh.fresh],hh,?_⟩)⟩
   ·refine Rows.row (Flat.rows ((hD.append hF).kept hk') fun j v hv=>?_)
    rw[Nat.zero_add,List.flatten_append] at *
    have hj:j<(xs.length+ys.length)*ty.size:=by
     have:=(List.getElem?_eq_some_iff.1 hv).1
     rw[zH,hdl,hcl,← Nat.add_mul] at this
     exact this
    refine ⟨.inr ⟨rfl,hj⟩,?_⟩
    rw[gA hh]
    have e1:cur.toList=(dss.flatten++css.flatten)++(Builtin.zeroCells z.cells (grownCap w (xs.length+ys.length) cap e - (xs.length+ys.length))).toList:=by simp[cur]
    rw[e1,List.getElem?_append_left (by rw[zH,hdl,hcl,← Nat.add_mul];exact hj)]
    exact hv
   ·have hzs:z.cells.size=ty.size:=by rw[← hzl,← hzc];simp
    simp only[cur,Array.size_append,List.size_toArray,size_zeroCells,hzs,hdl,hcl,← Nat.add_mul]
    congr 1
    omega
  by_cases hroom:xs.length+ys.length≤cap
  ·rcases hO with hO | ⟨_,hO⟩ | ⟨b,cur,el,rfl,ho,hh,hcs⟩
   ·exact absurd hO hown
   ·omega
   ·have hfit:xs.length*i.size+css.flatten.length≤cur.size:=by
     rw[hisz,hcl,hcs,← Nat.add_mul];exact Nat.mul_le_mul_right _ hroom
    have hr:=mj (P:=P) (w:=w) (ty:=type) hS hi htx hd b xs.length cap ys.length cur el hh xv css.flatten hlen (by rw[hisz];exact hfc w (Kept.refl _ _)) hF.one hroom hfit
    rw[hisz] at hr hfit
    have hwr:=Wrote.setRow w b (cur.toList.take (xs.length*ty.size)++css.flatten++cur.toList.drop (xs.length*ty.size+css.flatten.length)).toArray
    have hh':=setRow_heap w b cur (cur.toList.take (xs.length*ty.size)++css.flatten++cur.toList.drop (xs.length*ty.size+css.flatten.length)).toArray el (0,0) hh
    have htl:(cur.toList.take (xs.length*ty.size)).length=xs.length*ty.size:=by simp;omega
    have hc:∀o,o<xs.length*ty.size→(w.setRow b (cur.toList.take (xs.length*ty.size)++css.flatten++cur.toList.drop (xs.length*ty.size+css.flatten.length)).toArray).cell? ⟨b,o,none⟩=w.cell? ⟨b,o,none⟩:=by
     intro o ho'
     rw[gA hh',gA hh,zK,List.getElem?_append_left (by rw[htl];exact ho'),List.getElem?_take,if_pos ho']
    have hle:xs.length*ty.size≤(xs.length+ys.length)*ty.size:=Nat.mul_le_mul_right _ (by omega)
    have R':=R.more ho hle hwr hc
    have hk:=(Goes.more (n:=(xs.length+ys.length)*ty.size) R.gh ho hwr hc).kept
    refine ⟨_,_,_,(Goes.more (n:=(xs.length+ys.length)*ty.size) R.gh ho hwr hc).unt (fun _ e=>by cases e) (fun key b' _ hb=>hwr.other b' (by rintro rfl;exact (R.gh.ow own _ _ ho).2.2.2 key hb)),hr,R',some ⟨b,0,none⟩,cap,by rw[zH],by rw[zH];exact hroom,hcap,?_,.inr (.inr ⟨b,_,el,rfl,by simp[Gh.more],hh',?_⟩)⟩
    ·have hxr:Rows G.S w ty b 0 xs:=by
      intro j x hxj
      obtain ⟨b',o',c,e',h1,h2⟩:=hrow.cellAt hxj
      cases e'
      exact ⟨c,h1,h2⟩
     refine Rows.row ((hxr.kept hk).append (Flat.rows (hF.kept hk) fun j v hv=>?_))
     have hj:j<ys.length*ty.size:=by rw[← hcl];exact (List.getElem?_eq_some_iff.1 hv).1
     refine ⟨.inr ⟨rfl,by rw[Nat.add_mul];omega⟩,?_⟩
     rw[gA hh',zK,List.getElem?_append_right (by rw[htl];omega),htl,List.getElem?_append_left (by rw[hcl];omega)]
     rw[show 0+xs.length*ty.size+j - xs.length*ty.size=j by omega]
     exact hv
    ·simp only[List.size_toArray,zH,htl,List.length_drop,Array.length_toList]
     rw[hcs] at hfit ⊢
     omega
  ·exact hnew (by omega)
def lL (q:List Nat→Bool):Prop:=∀l l',q (l++l')=true→q l=true∧q l'=true
theorem o3 (n:Nat):lL (oZ n)
 |[],_,h=>⟨rfl,h⟩
 |m::l,l',h=>by
  simp only[List.cons_append,oZ,zA] at h ⊢
  obtain ⟨h1,h2⟩:=o3 n l l' h.2
  exact ⟨⟨h.1,h1⟩,h2⟩
def C.upto (f:C→List Nat)(q:List Nat→Bool)(c:C):C:=bif q (f c) then c else .top
theorem C.upto_eq {f:C→List Nat}{q:List Nat→Bool}{c:C}(h:q (f c)=true):c.upto f q=c:=by unfold C.upto;rw[h];rfl
theorem sD {f:C→List Nat}{q:List Nat→Bool}(hq:lL q):∀{cs:List C},q (t7 f cs)=true→cs.map (C.upto f q)=cs
 |[],_=>rfl
 |c::cs,h=>by
  obtain ⟨h1,h2⟩:=hq _ _ h
  rw[zL,C.upto_eq h1,sD hq h2]
theorem HD {f:C→List Nat}{q:List Nat→Bool}(hq:lL q):∀{ps:List (Bool×List C)},q (Er f ps)=true→(ps.map fun p=>(p.1,p.2.map (C.upto f q)))=ps
 |[],_=>rfl
 |p::ps,h=>by
  obtain ⟨h1,h2⟩:=hq _ _ h
  rw[zL,sD hq h1,HD hq h2]
theorem V.upto_eq {f:C→List Nat}{q:List Nat→Bool}(hq:lL q){v:V}(h:q (v.coll f)=true):v.map (C.upto f q)=v:=by
 cases v with
 |one c=>simp only[V.map];rw[C.upto_eq h]
 |agg cs=>simp only[V.map];rw[sD hq h]
 |tup ps=>simp only[V.map];rw[HD hq h]
 |any=>rfl
theorem AP {f:C→List Nat}{q:List Nat→Bool}(hq:lL q):∀{vs:List V},q (AO f vs)=true→vs.map (V.map (C.upto f q))=vs
 |[],_=>rfl
 |c::cs,h=>by
  obtain ⟨h1,h2⟩:=hq _ _ h
  rw[zL,V.upto_eq hq h1,AP hq h2]
theorem HO {f:C→List Nat}{q:List Nat→Bool}(hq:lL q):∀{vs:List (List V)},q (E5 f vs)=true→(vs.map fun l=>l.map (V.map (C.upto f q)))=vs
 |[],_=>rfl
 |c::cs,h=>by
  obtain ⟨h1,h2⟩:=hq _ _ h
  rw[zL,AP hq h1,HO hq h2]
theorem Av {f:C→List Nat}{q:List Nat→Bool}(hq:lL q):∀{os:List (Option (List C))},q (uP f os)=true→os.map (Option.map (·.map (C.upto f q)))=os
 |[],_=>rfl
 |none::os,h=>by
  have h':q (uP f os)=true:=h
  have:=Av hq h'
  simp only[zL,Option.map_none]
  exact congrArg _ this
 |some cs::os,h=>by
  obtain ⟨h1,h2⟩:=hq _ _ h
  have h2:=Av hq h2
  simp only[zL,Option.map_some,sD hq h1]
  exact congrArg _ h2
theorem AS.upto_eq {f:C→List Nat}{q:List Nat→Bool}(hq:lL q){A:AS}(h:q (A.coll f)=true):A.map (C.upto f q)=A:=by
 obtain ⟨tm,stk,ob⟩:=A
 obtain ⟨h1,h2⟩:=hq _ _ h
 obtain ⟨h2,h3⟩:=hq _ _ h2
 simp only[AS.map]
 rw[AP hq h1,HO hq h2,Av hq h3]
theorem xp {S:Nat→Nat→Prop}{w:World}{t:Ty}{lo:Nat}{xs ys:List t.den}{css:List (List Value)}{L:List Value}(h:∀k x,xs[k]?=some x→∃c,Rt S w t x c∧∀q u,c[q]?=some u→L[(lo+k)*t.size+q]?=some u)
  (hF:Flat S w t ys css) (hL:∀q u,css.flatten[q]?=some u→L[(lo+xs.length)*t.size+q]?=some u):
  ∀k x,(xs++ys)[k]?=some x→∃c,Rt S w t x c∧∀q u,c[q]?=some u→L[(lo+k)*t.size+q]?=some u:=by
 intro k x hx
 rw[List.getElem?_append] at hx
 split at hx
 ·exact h k x hx
 ·rename_i hlt
  obtain ⟨c,hc,hr⟩:=hF.at_ _ x hx
  refine ⟨c,hr,fun q u hu=>?_⟩
  have hq:q<t.size:=by rw[← Rt.len _ _ _ hr];exact (List.getElem?_eq_some_iff.1 hu).1
  have:=hL ((k - xs.length)*t.size+q) u (by rw[pe css hF.size _ q hq,hc];exact hu)
  rw[← this]
  congr 1
  rw[← Nat.add_assoc,← Nat.add_mul]
  congr 2
  omega
theorem Rel.updEx {F:Fra}{G:Gh}{A:AS}{ts:Array Value}{cst:List (Array Value)}{w w':World}(R:Rel F G A ts cst w){b i k:Nat}{t:Ty}{y:t.den}{cs:List Value}{cur cur':Array Value}{el:TypeId}
  (ho:G.ow i=some (b,0)) (hwr:Wrote w w' b) (hh:w.heap[b]?=some (.cells cur el (0,0))) (hh':w'.heap[b]?=some (.cells cur' el (0,0)))
  (hcur':(cur.toList.take (k*t.size)++cs++cur.toList.drop (k*t.size+cs.length)).toArray=cur') (hin:k*t.size+t.size≤cur.size) (hr:Rt G.S w t y cs):Rel F G (A.map (C.updEx i t k y)) ts cst w':=by
 have hcl:=Rt.len _ _ _ hr
 have htl:(cur.toList.take (k*t.size)).length=k*t.size:=by simp;omega
 have hsz':cur'.size=cur.size:=by rw[← hcur'];simp;omega
 have hk:=(Goes.exWrote R.gh ho hwr).kept
 have hget:∀q,cur'[q]?=if q<k*t.size then cur[q]? else if q<k*t.size+t.size then cs[q - k*t.size]? else cur[q]?:=by
  intro q
  rw[← hcur',← Array.getElem?_toList]
  simp only[]
  by_cases h1:q<k*t.size
  ·rw[if_pos h1,zK,List.getElem?_append_left (by rw[htl];exact h1),List.getElem?_take,if_pos h1,Array.getElem?_toList]
  ·rw[if_neg h1,zK,List.getElem?_append_right (by rw[htl];omega),htl]
   by_cases h2:q<k*t.size+t.size
   ·rw[if_pos h2,List.getElem?_append_left (by omega)]
   ·rw[if_neg h2,List.getElem?_append_right (by omega),List.getElem?_drop,hcl,Array.getElem?_toList]
    congr 1
    omega
 refine R.exWrote ho hwr (fun c v hc=>?_) (fun _=>rfl)
 have hcell:=hc.cell
 cases c with
 |lst e t' xs own=>
  have h0:=hc.beyond R.gh ho hwr hh hh' hsz' (fun t2 lo2 xs2 i2 j2 cap2 hform _=>by rcases hform with ⟨h,_⟩ | ⟨_,h⟩ <;> cases h)
  simp only[C.updEx]
  obtain ⟨A',cap,e0,h1,h2,h3,h4⟩:=h0
  refine ⟨A',cap,e0,h1,h2,h3,?_⟩
  cases hb:own == i with
  |true=>exact .inl rfl
  |false=>exact h4
 |ex e t' lo xs a b'=>
  simp only[C.updEx]
  cases hn : !(a == i)&&!(b' == i) with
  |true=>
   simp only[cond_true]
   simp only[zA,Bool.not_eq_true',beq_eq_false_iff_ne] at hn
   exact hc.goes (Goes.exWrote R.gh ho hwr) (fun _ e=>by cases e) (fun j e=>by cases e;simp[C.hasOwn,hn.1,hn.2])
  |false=>
   simp only[cond_false]
   cases hy:(a == i)&&(b' == i) with
   |false=>exact hcell
   |true=>
    simp only[cond_true]
    simp only[zA,beq_iff_eq] at hy
    obtain ⟨rfl,rfl⟩:=hy
    split
    ·rename_i ht
     subst ht
     have hlen:(Dk lo k xs y).length=xs.length:=by unfold Dk;cases Nat.ble lo k <;> simp
     rcases hc with ⟨rfl,rfl,e0⟩ | ⟨bl,cap,e0,⟨n1,n2,ho2⟩,cu,el2,hb2,h1,h2,h3,h4⟩
     ·refine .inl ⟨rfl,?_,e0⟩
      unfold Dk
      cases Nat.ble 0 k <;> simp
     ·have hbb:bl=b:=by
       rcases ho2 with h | h <;> (rw[ho] at h;cases h;rfl)
      subst hbb
      rw[hh] at hb2;cases hb2
      refine .inr ⟨bl,cap,by rw[hlen];exact e0,⟨n1,n2,ho2⟩,cur',el,hh',hsz'.trans h1,by rw[hlen];exact h2,h3,fun q x hx=>?_⟩
      have old:xs[q]?=some x→lo+q≠k→∃c,Rt G.S w' t x c∧∀q_1 u,c[q_1]?=some u→cur'[(lo+q)*t.size+q_1]?=some u:=by
       intro hx hne
       obtain ⟨c,hc,hu⟩:=h4 q x hx
       refine ⟨c,Rt.kept hk _ _ _ hc,fun p u hp=>?_⟩
       have hps:p<t.size:=by rw[← Rt.len _ _ _ hc];exact (List.getElem?_eq_some_iff.1 hp).1
       rw[hget]
       rcases Nat.lt_or_gt_of_ne hne with h | h
       ·have:(lo+q+1)*t.size≤k*t.size:=Nat.mul_le_mul_right _ h
        rw[Nat.add_mul,Nat.one_mul] at this
        rw[if_pos (by omega)];exact hu p u hp
       ·have:(k+1)*t.size≤(lo+q)*t.size:=Nat.mul_le_mul_right _ h
        rw[Nat.add_mul,Nat.one_mul] at this
        rw[if_neg (by omega),if_neg (by omega)];exact hu p u hp
      unfold Dk at hx
      cases hle:Nat.ble lo k with
      |false=>
       rw[hle] at hx
       refine old hx ?_
       intro e
       have:lo≤k:=by omega
       rw[Nat.ble_eq_true_of_le this] at hle;cases hle
      |true=>
       rw[hle] at hx
       have hle:=Nat.le_of_ble_eq_true hle
       simp only[cond_true] at hx
       rw[List.getElem?_set] at hx
       split at hx
       ·rename_i e
        split at hx
        ·cases hx
         have ek:lo+q=k:=by omega
         refine ⟨cs,Rt.kept hk _ _ _ hr,fun p u hp=>?_⟩
         have hps:p<t.size:=by rw[← hcl];exact (List.getElem?_eq_some_iff.1 hp).1
         rw[hget,ek,if_neg (by omega),if_pos (by omega),Nat.add_sub_cancel_left]
         exact hp
        ·cases hx
       ·exact old hx (by omega)
    ·exact hcell
 |eel t' k' x a b'=>
  simp only[C.updEx]
  cases hn : !(a == i)&&!(b' == i) with
  |true=>
   simp only[cond_true]
   simp only[zA,Bool.not_eq_true',beq_eq_false_iff_ne] at hn
   exact hc.goes (Goes.exWrote R.gh ho hwr) (fun _ e=>by cases e) (fun j e=>by cases e;simp[C.hasOwn,hn.1,hn.2])
  |false=>exact hcell
 |ro t x=>exact hc.goes (Goes.exWrote R.gh ho hwr) (fun _ e=>by cases e) (fun _ _=>rfl)
 |fn f m caps=>exact hc.goes (Goes.exWrote R.gh ho hwr) (fun _ e=>by cases e) (fun _ _=>rfl)
 |ifc T t x=>exact hc.goes (Goes.exWrote R.gh ho hwr) (fun _ e=>by cases e) (fun _ _=>rfl)
 |pin v0 t x=>exact hc.goes (Goes.exWrote R.gh ho hwr) (fun _ e=>by cases e) (fun _ _=>rfl)
 |_=>exact hc
theorem si (htt:cJ P tt){F:Fra}{G:Gh}{A:AS}{ts:Array Value}{cst:List (Array Value)}{w:World}(R:Rel F G A ts cst w)
  {t t' e lo i j d' type:Nat} {ty:Ty} {xs ys:List ty.den} {sv xv:Value} {v:V} (hS:P.underlying t=some (.slice e)) (hT:TIok P e (tt.at e)) (hsz:(tt.at e).size=ty.size) (hpos:0<ty.size)
  (hby:(tt.at e).bytes≤4096) (hb0:(tt.at e).bytes≠0) (hzl:(tt.at e).zero.length=ty.size) (hd0:d'≠0) (hi0:i≠0) (hij:i≠j→d'=j) (hs:Rc G w (.ex e ty lo xs i j) sv) (hx:qp tt e ty t' v=some ys) (hxv:Rv G w v xv)
  (hl:lo+xs.length+ys.length≤4294967296) (hends:oZ ((lo+xs.length)*ty.size) ((A.map (C.noOwn d')).ends i)=true):
  ∃u w' G',Unt G G' (fun _=>False) w w'∧(Builtin.append_ #[t,t'] type #[sv,xv]).run P w=.ok u w'∧Rel F G' (A.map (C.noOwn d')) ts cst w'∧Rc G' w' (.ex e ty lo (xs++ys) i d') u:=by
 obtain ⟨d,css,htx,hd,hlen,hF,_,hfc⟩:=o4 htt hx hxv
 obtain ⟨inf,z,hi,hi1,hi2,hz,hzc⟩:=hT.bytesOf
 have hisz:inf.size=ty.size:=hi1.trans hsz
 have gw:Goes G G w w none (some d'):=⟨.refl _ _,fun _ _ h _=>h,fun _ _ _ h _=>⟨h,rfl⟩⟩
 have R0:Rel F G (A.map (C.noOwn d')) ts cst w:=R.map (fun c v h=>h.noOwn gw) (fun _=>rfl) (fun _ _ h=>⟨h,rfl⟩) R.gh
 obtain ⟨Ad,cap,L,rfl,hlc,hcap,hLx,hLl,hLh,hO⟩:∃(Ad:Option Addr) (cap:Nat) (L:List Value),sv=.slice Ad (lo+xs.length) cap∧lo+xs.length≤cap∧cap≤maxLen∧
   (∀k x,xs[k]?=some x→∃c,Rt G.S w ty x c∧∀q u,c[q]?=some u→L[(lo+k)*ty.size+q]?=some u)∧L.length=(lo+xs.length)*ty.size∧
   (∀w':World,(∀b,Ad=some ⟨b,0,none⟩→w'.heap[b]?=w.heap[b]?)→(Builtin.firstCells ty.size (lo+xs.length) (.slice Ad (lo+xs.length) cap)).run P w'=.ok L.toArray w')∧
   ((Ad=none∧cap=0∧lo=0∧xs=[])∨∃b cur el,Ad=some ⟨b,0,none⟩∧ExAt G w ty lo xs i j b cap∧w.heap[b]?=some (.cells cur el (0,0))∧cur.size=cap*ty.size∧L=cur.toList.take ((lo+xs.length)*ty.size)):=by
  rcases hs with ⟨rfl,rfl,rfl⟩ | ⟨b,cap,rfl,hx⟩
  ·exact ⟨none,0,[],rfl,Nat.le_refl _,Nat.zero_le _,fun k x hx=>by simp at hx,by simp,fun w' _=>by simp[Builtin.firstCells],.inl ⟨rfl,rfl,rfl,rfl⟩⟩
  ·have hx0:=hx
   obtain ⟨ho,cur,el,hh,h1,h2,h3,h4⟩:=hx
   have hle:(lo+xs.length)*ty.size≤cur.size:=by rw[h1];exact Nat.mul_le_mul_right _ h2
   refine ⟨_,cap,cur.toList.take ((lo+xs.length)*ty.size),rfl,h2,h3,fun k x hx=>?_,by simp;omega,fun w' hw'=>?_,.inr ⟨b,cur,el,rfl,hx0,hh,h1,rfl⟩⟩
   ·obtain ⟨c,hc,hu⟩:=h4 k x hx
    refine ⟨c,hc,fun q u hq=>?_⟩
    have hqs:q<ty.size:=by rw[← Rt.len _ _ _ hc];exact (List.getElem?_eq_some_iff.1 hq).1
    have hk:k<xs.length:=(List.getElem?_eq_some_iff.1 hx).1
    rw[List.getElem?_take,if_pos,Array.getElem?_toList]
    ·exact hu q u hq
    ·have:(lo+k+1)*ty.size≤(lo+xs.length)*ty.size:=Nat.mul_le_mul_right _ (by omega)
     rw[Nat.add_mul,Nat.one_mul] at this
     omega
   ·refine run_firstCells_some (P:=P) w' ty.size (lo+xs.length) ⟨b,0,none⟩ _ cap _ (by simp;omega) fun j v hv=>?_
    rw[Addr.add_plain,gA ((hw' b rfl).trans hh),Nat.zero_add]
    rw[List.getElem?_take] at hv
    split at hv
    ·exact hv
    ·cases hv
 by_cases hm:ys=[]
 ·subst hm
  have hr:=lg (P:=P) (w:=w) (ty:=type) hS hi htx hd Ad (lo+xs.length) cap hlc xv hlen (by
   have:=hfc w (Kept.refl _ _)
   rw[hisz]
   have hc0:css=[]:=zF hF.len
   rw[hc0] at this
   exact this)
  refine ⟨_,w,G,⟨.refl _ _,fun _ _ _ h=>⟨h,rfl⟩⟩,hr,R0,?_⟩
  rw[List.append_nil]
  rcases hO with ⟨rfl,rfl,rfl,rfl⟩ | ⟨b,cur,el,rfl,hex,_⟩
  ·exact .inl ⟨rfl,rfl,rfl⟩
  ·refine .inr ⟨b,cap,rfl,⟨hi0,hd0,?_⟩,hex.2⟩
   rcases hex.1.2.2 with h | h
   ·exact .inl h
   ·by_cases e:i=j
    ·subst e;exact .inl h
    ·rw[hij e];exact .inr h
 ·have hmpos:0<ys.length:=List.length_pos_iff.2 hm
  have hcl:css.flatten.length=ys.length*ty.size:=by rw[dD css hF.size,hF.len]
  by_cases hroom:lo+xs.length+ys.length≤cap
  ·rcases hO with ⟨_,hO,h1,h2⟩ | ⟨b,cur,el,rfl,hex,hh,hcs,hL⟩
   ·subst h1 h2;simp at hroom;omega
   ·have hfit:(lo+xs.length)*inf.size+css.flatten.length≤cur.size:=by
     rw[hisz,hcl,hcs,← Nat.add_mul];exact Nat.mul_le_mul_right _ hroom
    have hr:=mj (P:=P) (w:=w) (ty:=type) hS hi htx hd b (lo+xs.length) cap ys.length cur el hh xv css.flatten hlen (by rw[hisz];exact hfc w (Kept.refl _ _)) hF.one hroom hfit
    rw[hisz] at hr hfit
    have hwr:=Wrote.setRow w b (cur.toList.take ((lo+xs.length)*ty.size)++css.flatten++cur.toList.drop ((lo+xs.length)*ty.size+css.flatten.length)).toArray
    have hh':=setRow_heap w b cur (cur.toList.take ((lo+xs.length)*ty.size)++css.flatten++cur.toList.drop ((lo+xs.length)*ty.size+css.flatten.length)).toArray el (0,0) hh
    generalize hcur':(cur.toList.take ((lo+xs.length)*ty.size)++css.flatten++cur.toList.drop ((lo+xs.length)*ty.size+css.flatten.length)).toArray=cur' at hr hwr hh'
    have htl:(cur.toList.take ((lo+xs.length)*ty.size)).length=(lo+xs.length)*ty.size:=by simp;omega
    have hsz':cur'.size=cur.size:=by
     rw[← hcur']
     simp only[List.size_toArray,zH,htl,List.length_drop,Array.length_toList]
     omega
    have hlow:∀q,q<(lo+xs.length)*ty.size→cur'[q]?=cur[q]?:=by
     intro q hq
     rw[← hcur',← Array.getElem?_toList]
     simp only[]
     rw[zK,List.getElem?_append_left (by rw[htl];exact hq),List.getElem?_take,if_pos hq,Array.getElem?_toList]
    have hhigh:∀q u,css.flatten[q]?=some u→cur'[(lo+xs.length)*ty.size+q]?=some u:=by
     intro q u hq
     have hql:=(List.getElem?_eq_some_iff.1 hq).1
     rw[← hcur',← Array.getElem?_toList]
     simp only[]
     rw[zK,List.getElem?_append_right (by rw[htl];omega),htl,List.getElem?_append_left (by omega),Nat.add_sub_cancel_left]
     exact hq
    have hfin:∀id,G.ow id=some (b,0)→Kept G.S G.S w (w.setRow b cur'):=fun id hid=>(Goes.exWrote R.gh hid hwr).kept
    have hnew:(G.ow i=some (b,0)∨G.ow d'=some (b,0))→Rc G (w.setRow b cur') (.ex e ty lo (xs++ys) i d') (.slice (some ⟨b,0,none⟩) (lo+xs.length+ys.length) cap):=by
     intro ho
     have hk:Kept G.S G.S w (w.setRow b cur'):=by rcases ho with h | h;exact hfin _ h;exact hfin _ h
     refine .inr ⟨b,cap,by rw[zH,Nat.add_assoc],⟨hi0,hd0,ho⟩,cur',el,hh',hsz'.trans hcs,by rw[zH];omega,hcap,?_⟩
     have:=xp (S:=G.S) (w:=w.setRow b cur') (lo:=lo) (xs:=xs) (L:=cur'.toList) (fun k x hx=>?_) (hF.kept hk) (fun q u hq=>by rw[Array.getElem?_toList];exact hhigh q u hq)
     ·intro k x hx
      obtain ⟨c,hc,hu⟩:=this k x hx
      exact ⟨c,hc,fun q u hq=>by rw[← Array.getElem?_toList];exact hu q u hq⟩
     ·obtain ⟨_,cu,el2,hb2,_,_,_,h4⟩:=hex
      rw[hh] at hb2;cases hb2
      obtain ⟨c,hc,hu⟩:=h4 k x hx
      refine ⟨c,Rt.kept hk _ _ _ hc,fun q u hq=>?_⟩
      have hqs:q<ty.size:=by rw[← Rt.len _ _ _ hc];exact (List.getElem?_eq_some_iff.1 hq).1
      have hkx:k<xs.length:=(List.getElem?_eq_some_iff.1 hx).1
      have:(lo+k+1)*ty.size≤(lo+xs.length)*ty.size:=Nat.mul_le_mul_right _ (by omega)
      rw[Nat.add_mul,Nat.one_mul] at this
      rw[Array.getElem?_toList,hlow _ (by omega)]
      exact hu q u hq
    by_cases hoi:G.ow i=some (b,0)
    ·-- the block of i: the others end before
     have R1:=R0.exWrote hoi hwr (f:=C.upto (C.ends i) (oZ ((lo+xs.length)*ty.size))) (fun c v hc=>?_) (fun _=>rfl)
     ·rw[AS.upto_eq (o3 _) hends] at R1
      exact ⟨_,_,G,(Goes.exWrote R.gh hoi hwr).unt (fun _ e=>by cases e) (fun key b' _ hb=>hwr.other b' (by rintro rfl;exact (R.gh.ow i _ _ hoi).2.2.2 key hb)),hr,R1,hnew (.inl hoi)⟩
     ·unfold C.upto
      cases hal:oZ ((lo+xs.length)*ty.size) (c.ends i) with
      |false=>exact hc.cell
      |true=>
       refine hc.beyond R.gh hoi hwr hh hh' hsz' fun t2 lo2 xs2 i2 j2 cap2 hform hx2=>?_
       obtain ⟨⟨n1,n2,ho2⟩,cu,el2,hb2,g1,g2,g3,g4⟩:=hx2
       rw[hh] at hb2;cases hb2
       have hm2:i2=i∨j2=i:=by
        rcases ho2 with h | h
        ·exact .inl (R.gh.owI _ _ _ _ _ h hoi)
        ·exact .inr (R.gh.owI _ _ _ _ _ h hoi)
       have hb3:((i2 == i) || (j2 == i))=true:=by rcases hm2 with h | h <;> simp[h]
       refine ⟨⟨n1,n2,ho2⟩,cur',el,hh',hsz'.trans g1,g2,g3,fun k x hx=>?_⟩
       obtain ⟨c2,hc2,hu⟩:=g4 k x hx
       refine ⟨c2,Rt.kept (hfin _ hoi) _ _ _ hc2,fun q u hq=>?_⟩
       have hend:(lo2+xs2.length)*t2.size≤(lo+xs.length)*ty.size:=by
        rcases hform with ⟨rfl,hl1⟩ | ⟨e2,rfl⟩
        ·simp only[C.ends,hb3,cond_true,oZ,Bool.and_true,zB] at hal
         rw[hl1];exact hal
        ·simp only[C.ends,hb3,cond_true,oZ,Bool.and_true,zB] at hal
         exact hal
       have hqs:q<t2.size:=by rw[← Rt.len _ _ _ hc2];exact (List.getElem?_eq_some_iff.1 hq).1
       have hkx:k<xs2.length:=(List.getElem?_eq_some_iff.1 hx).1
       have:(lo2+k+1)*t2.size≤(lo2+xs2.length)*t2.size:=Nat.mul_le_mul_right _ (by omega)
       rw[Nat.add_mul,Nat.one_mul] at this
       rw[hlow _ (by omega)]
       exact hu q u hq
    ·have hoj:G.ow j=some (b,0):=by rcases hex.1.2.2 with h | h;exact absurd h hoi;exact h
     have hne:i≠j:=by rintro rfl;exact hoi hoj
     have hdj:=hij hne
     subst hdj
     have R1:=R.exWrote hoj hwr (f:=C.noOwn d') (fun c v hc=>hc.noOwn (Goes.exWrote R.gh hoj hwr)) (fun _=>rfl)
     exact ⟨_,_,G,(Goes.exWrote R.gh hoj hwr).unt (fun _ e=>by cases e) (fun key b' _ hb=>hwr.other b' (by rintro rfl;exact (R.gh.ow d' _ _ hoj).2.2.2 key hb)),hr,R1,hnew (.inr hoj)⟩
  ·-- a new row
   have hg:cap<lo+xs.length+ys.length:=by omega
   have hk:Kept G.S G.S w w.drew:=fun _ _ h=>⟨h,rfl⟩
   have holds:(Builtin.firstCells inf.size (lo+xs.length) (.slice Ad (lo+xs.length) cap)).run P w.drew=.ok L.toArray w.drew:=by
    rw[hisz];exact hLh w.drew fun _ _=>rfl
   have hfit:Builtin.nextslicecap (lo+xs.length+ys.length) cap*inf.bytes≤281474976710656:=by
    refine growslice_fits hg ?_
    rw[hi2]
    have:=Nat.mul_le_mul hl hby
    omega
   have hr:=ml (P:=P) (w:=w) (ty:=type) hS hi hz htx hd Ad (lo+xs.length) cap ys.length L holds xv css.flatten hlen (by rw[hisz];exact hfc w.drew hk) hg (by omega) hfit
   have hgc:=grownCap_ge w (lo+xs.length+ys.length) cap e
   have hgm:=grownCap_le_maxLen w (lo+xs.length+ys.length) cap e (by simp only[maxLen];omega)
   let cur:Array Value:=L.toArray++css.flatten.toArray++Builtin.zeroCells z.cells (grownCap w (lo+xs.length+ys.length) cap e - (lo+xs.length+ys.length))
   have hgr:Grew w (w.drew.alloc (.cells cur e)):=Grew.drewAlloc w _
   have R':=R.fresh hgr 0 d'
   have hh:(w.drew.alloc (.cells cur e)).heap[w.heap.size]?=some (.cells cur e (0,0)):=heap_alloc_new w.drew _
   have hk':Kept G.S (G.fresh w.heap.size 0 d').S w (w.drew.alloc (.cells cur e)):=(Goes.fresh R.gh hgr _ d').kept
   have e1:cur.toList=L++(css.flatten++(Builtin.zeroCells z.cells (grownCap w (lo+xs.length+ys.length) cap e - (lo+xs.length+ys.length))).toList):=by simp[cur]
   refine ⟨_,_,_,(Goes.fresh R.gh hgr 0 d').unt (fun _ e=>by cases e) (fun key b _ hb=>hgr.mu R.gh hb),hr,R',.inr ⟨w.heap.size,_,by rw[zH,Nat.add_assoc],⟨hi0,hd0,.inr (by simp[Gh.fresh])⟩,cur,e,hh,?_,by rw[zH];omega,hgm,?_⟩⟩
   ·have hzs:z.cells.size=ty.size:=by rw[← hzl,← hzc];simp
    simp only[cur,Array.size_append,List.size_toArray,size_zeroCells,hzs,hLl,hcl,← Nat.add_mul]
    congr 1
    omega
   ·have:=xp (S:=(G.fresh w.heap.size 0 d').S) (w:=w.drew.alloc (.cells cur e)) (lo:=lo) (xs:=xs) (L:=cur.toList) (fun k x hx=>?_) (hF.kept hk') (fun q u hq=>?_)
    ·intro k x hx
     obtain ⟨c,hc,hu⟩:=this k x hx
     exact ⟨c,hc,fun q u hq=>by rw[← Array.getElem?_toList];exact hu q u hq⟩
    ·obtain ⟨c,hc,hu⟩:=hLx k x hx
     refine ⟨c,Rt.kept hk' _ _ _ hc,fun q u hq=>?_⟩
     have:=hu q u hq
     rw[e1,List.getElem?_append_left (List.getElem?_eq_some_iff.1 this).1]
     exact this
    ·have hql:=(List.getElem?_eq_some_iff.1 hq).1
     rw[e1,List.getElem?_append_right (by rw[hLl];omega),hLl,Nat.add_sub_cancel_left,List.getElem?_append_left hql]
     exact hq
theorem qX {w:World}{t e:TypeId}(ht:P.underlying t=some (.slice e))(he:P.underlying e=some (.int .u8)){b:Nat}{cur:Array Value}{el:TypeId}(hh:w.heap[b]?=some (.cells cur el (0,0))){n cap:Nat}:
  (convert t t (.slice (some ⟨b,0,none⟩) n cap)).run P w=.ok (.slice (some ⟨b,0,none⟩) n cap) (w.freeze ⟨b,cur.size,none⟩ 1)∧Wrote w (w.freeze ⟨b,cur.size,none⟩ 1) b∧
   ∀o,(w.freeze ⟨b,cur.size,none⟩ 1).cell? ⟨b,o,none⟩=w.cell? ⟨b,o,none⟩:=by
 have hsh:w.shape? b=some (el,cur.size):=by simp[World.shape?,hh]
 have e:w.freeze ⟨b,cur.size,none⟩ 1={ w with heap:=w.heap.modify b fun
   |.cells c elem (lo,hi)=>.cells c elem (if lo == hi then (cur.size,cur.size+1) else (min lo cur.size,max hi (cur.size+1)))
   |o=>o }:=by
  unfold World.freeze
  rw[if_neg (by decide)]
  congr 2
 refine ⟨by simp[convert,run_underlying ht,run_underlying he,markStringish,hsh],?_⟩
 rw[e]
 exact ⟨⟨rfl,rfl,rfl,by simp,fun k hk=>by simp[Array.getElem?_modify,Ne.symm hk]⟩,fun o=>by simp[World.cell?,Array.getElem?_modify,hh]⟩
theorem Ib (htt:cJ P tt){F:Fra}{G:Gh}{A:AS}{a:Act}{cst:List (Array Value)}{w:World}(R:Rel F G A a.tmps cst w)(o:Oper){kb:Nat}(hkb:∀d,F.mu0 (kb+d)=none){chk:Bool}{A':AS}
  (h:Nq tt kb A o.dst o.op=some (chk,A')) (hc:chk=true):
  ∃u w' G',Unt G G' (fun k=>s9 A o.op k∨k=kb+o.dst.getD 0) w w'∧((execOp a.eval o).run P w=.ok (.value u) w'∨((execOp a.eval o).run P w=.ok .skip w'∧u=undef))∧Rel F G' A' (a.put o.dst u).tmps cst w':=by
 obtain ⟨dst,op,type,pos,after,guard⟩:=o
 simp only at h ⊢
 cases op <;> simp only[Nq,reduceCtorEq] at h
 case alloc t=>
  split at h
  ·rename_i d
   cases hz:(v8 tt t).isSome&&(tt.at t).zero.all Value.oneCell' with
   |false=>rw[hz] at h;cases h
   |true=>
    rw[hz] at h
    simp only[cond_true,zC,zD] at h
    obtain ⟨_,rfl⟩:=h
    simp only[zA] at hz
    obtain ⟨n,hn⟩:=Option.isSome_iff_exists.1 hz.1
    obtain ⟨hT,_⟩:=iS htt hn
    obtain ⟨z,hzr,hzc,_⟩:=hT.zero w
    have hg:=Grew.alloc w (.cells z.cells t)
    have hh:(w.alloc (.cells z.cells t)).heap[w.heap.size]?=some (.cells z.cells t (0,0)):=heap_alloc_new w _
    have R':=R.newOb hg (kb+d) (hkb d) hh (cs:=iT tt (cn (kb+d) 0) t) (by rw[hzc];exact fI _ _ hz.2)
    refine ⟨.pointer (some ⟨w.heap.size,0,none⟩),_,_,(Goes.newOb R.gh hg (kb+d)).unt (fun _ e=>.inr (by cases e;rfl)) (fun key b _ hb=>hg.mu R.gh hb),.inl ?_,R'.puts (v:=.one (.ptr (kb+d) 0)) ⟨w.heap.size,by simp[Gh.newOb],rfl⟩ (some d)⟩
    simp[execOp,Instr.alloc,hzr,newVar,iJ]
  ·cases h
 case box t x=>
  split at h
  ·rename_i d
   cases hz:(opd A x).solid with
   |false=>rw[hz] at h;cases h
   |true=>
    rw[hz] at h
    simp only[cond_true,zC,zD] at h
    obtain ⟨_,rfl⟩:=h
    have hg:=Grew.alloc w (.cells (a.eval x).cells t)
    have hh:(w.alloc (.cells (a.eval x).cells t)).heap[w.heap.size]?=some (.cells (a.eval x).cells t (0,0)):=heap_alloc_new w _
    have go:=Goes.newOb R.gh hg (kb+d)
    have hv:Rv (G.newOb (kb+d) w.heap.size) (w.alloc (.cells (a.eval x).cells t)) ((opd A x).map (C.noKey (kb+d))) (a.eval x):=Rv.map (fun c v h=>h.noKey go) (R.opd x)
    have R':=R.newOb hg (kb+d) (hkb d) hh (hv.cells (by rw[V.solid_map];exact hz))
    refine ⟨.pointer (some ⟨w.heap.size,0,none⟩),_,_,(Goes.newOb R.gh hg (kb+d)).unt (fun _ e=>.inr (by cases e;rfl)) (fun key b _ hb=>hg.mu R.gh hb),.inl ?_,R'.puts (v:=.one (.ptr (kb+d) 0)) ⟨w.heap.size,by simp[Gh.newOb],rfl⟩ (some d)⟩
    simp[execOp,Instr.box,newVar,iJ]
  ·cases h
 case range t x=>
  have hx:=R.opd x
  split at h
  ·rename_i d s hd e1
   rw[e1] at hx
   simp only[zC,zD] at h
   obtain ⟨_,rfl⟩:=h
   obtain ⟨eu,hbr,hlen⟩:=hx
   have hS:=(htt t (by rw[hd];simp)).str hd
   have hg:=Grew.alloc w (.stringIter (aF s) 0)
   have hh:(w.alloc (.stringIter (aF s) 0)).heap[w.heap.size]?=some (.stringIter (aF s) 0):=heap_alloc_new w _
   have R':=R.newObj hg (kb+d) (hkb d) hh (cs:=[.itr (s,0)]) (.inr ⟨s,0,rfl,rfl,hbr,hlen⟩)
   refine ⟨.pointer (some ⟨w.heap.size,0,none⟩),_,_,(Goes.newOb R.gh hg (kb+d)).unt (fun _ e=>.inr (by cases e;rfl)) (fun key b _ hb=>hg.mu R.gh hb),.inl ?_,R'.puts (v:=.one (.ptr (kb+d) 0)) ⟨w.heap.size,by simp[Gh.newOb],rfl⟩ (some d)⟩
   simp[execOp,eu,run_range_string w t (aF s) hS,World.iter]
  ·cases h
 case store t x y=>
  have hx:=R.opd x
  split at h
  ·rename_i k o e1
   rw[e1] at hx
   split at h
   ·rename_i cs hcs
    cases hz0 : !cs.any C.isItr&&((opd A y).solid&&fM tt t (opd A y).cells.length) with
    |false=>rw[hz0] at h;cases h
    |true=>
     rw[hz0] at h
     simp only[cond_true,zC,zD] at h
     obtain ⟨rfl,rfl⟩:=h
     simp only[zA,Bool.not_eq_true'] at hz0
     obtain ⟨hni,hz⟩:=hz0
     have hc:=of_decide_eq_true hc
     obtain ⟨hT,hsz,hpos⟩:=bO htt hz.2
     obtain ⟨b,hb,eu⟩:=hx
     obtain ⟨b',cur,el,hb',hh,hr⟩:=R.ob.cells hcs hni
     rw[hb] at hb';cases hb'
     have hy:=(R.opd y).cells hz.1
     have hyl:=hy.length
     have hrl:=hr.length
     have hst:=run_storeCells_at P b o el (a.eval y).cells.toList 0 cur w hh (by simp at hrl ⊢;simp at hyl;omega) (by
      intro u hu
      obtain ⟨i,hi⟩:=List.getElem?_of_mem hu
      have hlt:i<(opd A y).cells.length:=by rw[hyl];exact (List.getElem?_eq_some_iff.1 hi).1
      obtain ⟨u',hu',hru⟩:=hy.get (List.getElem?_eq_getElem hlt)
      rw[hi] at hu';cases hu'
      exact hru.cell)
     simp only[Nat.add_zero] at hst
     have hrt:=(kX tt (cn k o) t (R.opd y)).cells (by rw[(AC _ _ _).2];exact hz.1)
     have hsp:All2 (Rc G w) (splice cs o (mg tt (cn k o) t (opd A y)).cells) (splice cur.toList o (a.eval y).cells.toList):=hr.splice o hrt
     have hwr:=Wrote.setRow w b (cur.toList.take o++(a.eval y).cells.toList++cur.toList.drop (o+(a.eval y).cells.toList.length)).toArray
     have hh':=setRow_heap w b cur (cur.toList.take o++(a.eval y).cells.toList++cur.toList.drop (o+(a.eval y).cells.toList.length)).toArray el (0,0) hh
     have R':=R.store hb hwr hh' (cs:=splice cs o (mg tt (cn k o) t (opd A y)).cells) hsp
     refine ⟨undef,_,_,(Goes.store R.gh hb hwr).unt (fun _ e=>by cases e) (fun key b1 h hb1=>hwr.other b1 (by rintro rfl;exact h (.inl (by simp only[s9,e1];exact R.gh.muI _ _ _ hb1 hb)))),.inr ⟨?_,rfl⟩,R'.puts (v:=.tup []) ⟨#[],rfl,trivial⟩ dst⟩
     have hcs:(a.eval y).cells.size=(tt.at t).size:=by rw[hsz];simp at hyl;omega
     simp[execOp,Instr.storeAt,eu,Instr.sureAddr,storeVar,hT.size,hcs,hst]
   ·cases h
  ·rename_i t' k x0 i j e1
   rw[e1] at hx
   cases hz0:Nat.beq i j&&fM tt t t'.size with
   |false=>rw[hz0] at h;cases h
   |true=>
    rw[hz0] at h
    simp only[cond_true] at h
    split at h
    ·rename_i d hd
     simp only[zC,zD] at h
     obtain ⟨_,rfl⟩:=h
     simp only[zA] at hz0
     have hij:=Nat.eq_of_beq_eq_true hz0.1
     subst hij
     obtain ⟨hT,hsz,hpos⟩:=bO htt hz0.2
     obtain ⟨b,cap,eu,hex⟩:=hx
     obtain ⟨⟨n1,_,ho⟩,cur,el,hh,h1,h2,h3,h4⟩:=hex
     have ho:G.ow i=some (b,0):=by rcases ho with h | h <;> exact h
     have hr:=gl hd (R.opd y)
     have hyl:=Rt.len _ _ _ hr
     have hyl':(a.eval y).cells.size=t'.size:=by simpa using hyl
     have hin:k*t'.size+t'.size≤cur.size:=by
      have:(k+1)*t'.size≤cap*t'.size:=Nat.mul_le_mul_right _ (by simpa using h2)
      rw[Nat.add_mul,Nat.one_mul] at this
      omega
     have hst:=run_storeCells_at P b (k*t'.size) el (a.eval y).cells.toList 0 cur w hh (by simp;omega) (fun u hu=>Rt.cell _ _ _ hr u hu)
     simp only[Nat.add_zero] at hst
     have hwr:=Wrote.setRow w b (cur.toList.take (k*t'.size)++(a.eval y).cells.toList++cur.toList.drop (k*t'.size+(a.eval y).cells.toList.length)).toArray
     have hh':=setRow_heap w b cur (cur.toList.take (k*t'.size)++(a.eval y).cells.toList++cur.toList.drop (k*t'.size+(a.eval y).cells.toList.length)).toArray el (0,0) hh
     generalize hcur':(cur.toList.take (k*t'.size)++(a.eval y).cells.toList++cur.toList.drop (k*t'.size+(a.eval y).cells.toList.length)).toArray=cur' at hst hwr hh'
     have R':=R.updEx ho hwr hh hh' hcur' hin hr
     refine ⟨undef,_,_,(Goes.exWrote R.gh ho hwr).unt (fun _ e=>by cases e) (fun key b1 h hb1=>hwr.other b1 (by rintro rfl;exact (R.gh.ow i _ _ ho).2.2.2 key hb1)),.inr ⟨?_,rfl⟩,R'.puts (v:=.tup []) ⟨#[],rfl,trivial⟩ dst⟩
     have hcs:(a.eval y).cells.size=(tt.at t).size:=by rw[hsz];exact hyl'
     simp[execOp,Instr.storeAt,eu,Instr.sureAddr,storeVar,hT.size,hcs,hst]
    ·cases h
  ·cases h
 case load t x=>
  have hx:=R.opd x
  split at h
  ·rename_i t' k d i j e1
   rw[e1] at hx
   cases hz:t'.size == (tt.at t).size with
   |false=>rw[hz] at h;cases h
   |true=>
    rw[hz] at h
    obtain ⟨v',hv',h3⟩:=Option.map_eq_some_iff.1 h
    simp only[zD] at h3
    obtain ⟨_,rfl⟩:=h3
    obtain ⟨b,cap,eu,_,cur,el,hh,_,_,_,h4⟩:=hx
    obtain ⟨cs,hr,hu⟩:=h4 0 d rfl
    have h2:=cr t' d cs hr
    obtain ⟨u,hru,hrv⟩:=mo (P:=P) (b:=b) (o:=k*t'.size) htt hv' h2 (by rw[h2.length,Rt.len _ _ _ hr];simpa using hz) (fun j u hj=>by
     rw[gA hh]
     have:=hu j u hj
     simpa using this)
    refine ⟨u,w,G,⟨.refl _ _,fun _ _ _ h=>⟨h,rfl⟩⟩,.inl ?_,R.puts hrv dst⟩
    simp[execOp,Instr.loadAt,eu,Instr.sureAddr,hru]
  ·cases h
 case buildSlice t n parts=>
  split at h
  ·rename_i d e hd
   split at h
   ·rename_i ty hty
    cases hz:fM tt e ty.size&&(parts.toList.length == n)&&decide (n*ty.size≤65536) with
    |false=>rw[hz] at h;cases h
    |true=>
     rw[hz] at h
     simp only[zA,beq_iff_eq,zB] at hz
     obtain ⟨⟨hz1,hn⟩,hle⟩:=hz
     simp only[cond_true] at h
     split at h
     ·rename_i xs hxs
      simp only[zC,zD] at h
      obtain ⟨_,rfl⟩:=h
      obtain ⟨hT,hsz,hpos⟩:=bO htt hz1
      have hS:=(htt t (by rw[hd];simp)).sl hd
      obtain ⟨z,hzr,hzc,_⟩:=hT.zero w
      obtain ⟨hF,hI⟩:=nk R ty parts.toList 0 xs hxs
      have hxl:xs.length=n:=by rw[← hn,← hF.len,List.length_map]
      obtain ⟨i,z',hi,hi1,_,hz',hzc'⟩:=hT.bytesOf
      have hcur0:∀zz:Array Value,((Array.range (n*ty.size)).map (zz[· % zz.size]!)).size=n*ty.size:=by intro zz;simp
      have hfill:∀zz:Array Value,∃cur',Instr.fill (fun i=>some (i*ty.size,ty.size)) ((Array.range (n*ty.size)).map (zz[· % zz.size]!)) (parts.toList.map fun p=>(p.1,a.eval p.2))=some cur'∧
        cur'.toList=(parts.toList.map fun p=>(a.eval p.2).cells.toList).flatten:=by
       intro zz
       obtain ⟨cur',h1,h2⟩:=BW ty.size (parts.toList.map fun p=>(p.1,a.eval p.2)) 0 ((Array.range (n*ty.size)).map (zz[· % zz.size]!)) (fun j p hp=>by
        rw[List.getElem?_map] at hp
        obtain ⟨q,hq,rfl⟩:=Option.map_eq_some_iff.1 hp
        refine ⟨hI j q hq,?_⟩
        have:=hF.size ((a.eval q.2).cells.toList) (List.mem_map.2 ⟨q,List.mem_of_getElem? hq,rfl⟩)
        simpa using this) (by rw[hcur0,List.length_map,hn,Nat.zero_add];exact Nat.le_refl _)
       refine ⟨cur',h1,?_⟩
       rw[h2,List.map_map,List.length_map,hn,Nat.zero_mul,List.take_zero,List.nil_append,Nat.zero_add,zI (by simp)]
       simp[Function.comp_def]
      obtain ⟨cur,hfl,hcl⟩:=hfill (if n*ty.size=0 then #[] else z.cells)
      have hcs:cur.size=n*ty.size:=by
       have:=congrArg List.length hcl
       rw[dD _ hF.size,List.length_map,hn] at this
       simpa using this
      have hg:=Grew.alloc w (.cells cur e)
      have hh:(w.alloc (.cells cur e)).heap[w.heap.size]?=some (.cells cur e (0,0)):=heap_alloc_new w _
      have R':=R.fresh hg (n*ty.size) (cV kb d)
      have hk:=(Goes.fresh R.gh hg (n*ty.size) (cV kb d)).kept
      have hp:(parts.map fun (i,x)=>(i,a.eval x)).toList=parts.toList.map fun p=>(p.1,a.eval p.2):=by simp
      refine ⟨.slice (some ⟨w.heap.size,0,none⟩) n n,_,_,(Goes.fresh R.gh hg (n*ty.size) (cV kb d)).unt (fun _ e=>by cases e) (fun key b _ hb=>hg.mu R.gh hb),.inl ?_,R'.puts ?_ (some d)⟩
      ·have hle':¬(2 ^ 24<n*ty.size):=by omega
       by_cases h0:n*ty.size=0
       ·simp only[h0,if_true] at hfl
        simp only[execOp,Instr.buildSlice,Sem.run_bind,run_underlying hS,Result.andThen_ok,hT.size,hsz]
        rw[if_neg hle']
        simp only[Sem.run_bind,Sem.run_pure,Result.andThen_ok,h0,if_true]
        rw[hp,hfl]
        simp[iJ]
       ·simp only[h0,if_false] at hfl
        simp only[execOp,Instr.buildSlice,Sem.run_bind,run_underlying hS,Result.andThen_ok,hT.size,hsz]
        rw[if_neg hle']
        simp only[Sem.run_bind,Sem.run_pure,Result.andThen_ok,h0,if_false,hzr]
        rw[hp,hfl]
        simp[iJ]
      ·refine ⟨_,n,by rw[hxl],by rw[hxl];exact Nat.le_refl _,?_,?_,.inr (.inr ⟨w.heap.size,cur,e,rfl,by simp[Gh.fresh,hxl],hh,hcs⟩)⟩
       ·have:n≤n*ty.size:=Nat.le_mul_of_pos_right _ hpos
        simp only[maxLen];omega
       ·refine Rows.row (Flat.rows (hF.kept hk) fun j v hv=>?_)
        rw[Nat.zero_add]
        have hj:j<n*ty.size:=by rw[← hcs,← Array.length_toList,hcl];exact (List.getElem?_eq_some_iff.1 hv).1
        exact ⟨.inr ⟨rfl,hj⟩,by rw[gA hh,hcl];exact hv⟩
     ·cases h
   ·cases h
  ·cases h
 case convert st dt x=>
  have hx:=R.opd x
  split at h
  ·rename_i d e s hd e1
   rw[e1] at hx
   split at h
   ·rename_i hde hst
    simp only[zC,zD] at h
    obtain ⟨_,rfl⟩:=h
    obtain ⟨eu,hb,hl⟩:=hx
    have e1:=(htt st (by rw[hst];simp)).str hst
    have e2:=(htt dt (by rw[hd];simp)).sl hd
    have e3:=(htt e (by rw[hde];simp)).int hde
    have hr:=Lib.run_convert_string_bytes (P:=P) w st dt e (aF s) e1 e2 e3
    have hnew:=Lib.bytesWorld_at_new w e (aF s)
    have hg:Grew w (Lib.bytesWorld w e (aF s)):=by
     refine ⟨rfl,rfl,rfl,Lib.bytesWorld_size w e (aF s),fun k hk=>Lib.bytesWorld_at_old w e (aF s) k hk⟩
    have R':=R.fresh hg s.length 0
    rw[Ep,AS.map_id] at R'
    rw[b8] at hr
    refine ⟨.slice (some ⟨w.heap.size,0,none⟩) s.length (grownCap w s.length 0 e),_,_,(Goes.fresh R.gh hg s.length 0).unt (fun _ e=>by cases e) (fun key b _ hb=>hg.mu R.gh hb),.inl (by simp[execOp,eu,hr]),
     R'.puts (v:=.one (.lst e (.int .u8) (s:List (Ty.den (.int .u8))) 0)) ⟨some ⟨w.heap.size,0,none⟩,grownCap w s.length 0 e,rfl,?_,?_,?_,.inl rfl⟩ (some d)⟩
    ·exact grownCap_ge w s.length 0 e
    ·exact grownCap_le_maxLen w s.length 0 e hl
    ·refine Rows.row fun i x hx=>?_
     have hi:i<s.length:=(List.getElem?_eq_some_iff.1 hx).1
     have hm:=hb x (List.mem_of_getElem? hx)
     refine ⟨[.int .u8 x],⟨rfl,?_⟩,fun j v hv=>?_⟩
     ·simp[bH,IntKind.min,IntKind.max,IntKind.signed,IntKind.bits];omega
     ·cases j with
      |succ j=>simp at hv
      |zero=>
       simp only[List.getElem?_cons_zero,zC] at hv
       subst hv
       have hc:=Lib.bytesWorld_cell w e (aF s) i (by rw[b8];exact hi)
       refine ⟨.inr ⟨rfl,by simpa [Ty.size] using hi⟩,?_⟩
       have ex:(((aF s).data.toList.getD i 0).toNat:Int)=x:=by
        have:(aF s).data.toList=s.map fun c=>UInt8.ofNat c.toNat:=rfl
        rw[this,List.getD_eq_getElem?_getD,List.getElem?_map,hx]
        simp only[Option.map_some,Option.getD_some]
        rw[UInt8.toNat_ofNat',Nat.mod_eq_of_lt (by omega)]
        omega
       rw[ex] at hc
       simpa [Ty.size] using hc
   ·cases h
  ·rename_i d e e' ty xs own hd e1
   rw[e1] at hx
   split at h
   ·rename_i hde
    cases hz:Nat.beq st dt&&(Nat.beq e e'&&!(own == 0)) with
    |false=>rw[hz] at h;cases h
    |true=>
     rw[hz] at h
     simp only[cond_true,zC,zD] at h
     obtain ⟨hchk,rfl⟩:=h
     simp only[zA,Bool.not_eq_true',beq_eq_false_iff_ne] at hz
     obtain ⟨hz1,hz2,hz3⟩:=hz
     have hz1:=Nat.eq_of_beq_eq_true hz1
     have hz2:=Nat.eq_of_beq_eq_true hz2
     subst hz1 hz2
     have hne:xs≠[]:=by
      rintro rfl
      rw[hc] at hchk
      cases hchk
     obtain ⟨A',cap,eu,hlen,hcap,hrow,hO⟩:=hx
     have hS:=(htt st (by rw[hd];simp)).sl hd
     have hI:=(htt e (by rw[hde];simp)).int hde
     rcases hO with hO | ⟨rfl,_⟩ | ⟨b,cur,el,rfl,ho,hh,hcs⟩
     ·exact absurd hO hz3
     ·obtain ⟨_,_,e2,_⟩:=hrow hne
      cases e2
     ·obtain ⟨hr,hwr,hce⟩:=qX (P:=P) (w:=w) hS hI hh (n:=xs.length) (cap:=cap)
      have R':=R.more ho (Nat.le_refl _) hwr fun o _=>hce o
      have hk:=(Goes.more (n:=xs.length*ty.size) R.gh ho hwr fun o _=>hce o).kept
      refine ⟨.slice (some ⟨b,0,none⟩) xs.length cap,_,_,(Goes.more (n:=xs.length*ty.size) R.gh ho hwr fun o _=>hce o).unt (fun _ e=>by cases e) (fun key b1 _ hb1=>hwr.other b1 (by rintro rfl;exact (R.gh.ow own _ _ ho).2.2.2 key hb1)),.inl (by simp[execOp,eu,hr]),R'.puts (v:=.one (.lst e ty xs 0)) ⟨_,cap,rfl,hlen,hcap,hrow.kept hk,.inl rfl⟩ (some d)⟩
   ·cases h
  ·cases h
 case call c=>
  obtain ⟨callee,args,argTypes⟩:=c
  simp only at h
  split at h
  ·split at h
   ·rename_i d s x t t' hargs hts
    have ea:args = #[s,x]:=by apply Array.ext';simpa using hargs
    have et:argTypes = #[t,t']:=by apply Array.ext';simpa using hts
    subst ea;subst et
    have hs:=R.opd s
    split at h
    ·rename_i e e1 ty xs own hd es
     rw[es] at hs
     cases hz:(e == e1)&&!(own == 0)&&fM tt e ty.size&&decide ((tt.at e).bytes≤4096)&&!((tt.at e).bytes == 0)&&((tt.at e).zero.length == ty.size) with
     |false=>rw[hz] at h;cases h
     |true=>
      rw[hz] at h
      simp only[zA,beq_iff_eq,zB,Bool.not_eq_true',beq_eq_false_iff_ne] at hz
      obtain ⟨⟨⟨⟨⟨rfl,h2⟩,h3⟩,h4⟩,h5⟩,h6⟩:=hz
      simp only[cond_true] at h
      split at h
      ·rename_i ys hys
       simp only[zC,zD] at h
       obtain ⟨rfl,rfl⟩:=h
       obtain ⟨hT,hsz,hpos⟩:=bO htt h3
       have hS:=(htt t (by rw[hd];simp)).sl hd
       obtain ⟨u,w',G',hun,hr,R',hu⟩:=yW (type:=type) htt R hS hT hsz hpos h4 h5 h6 h2 hs hys (R.opd x) (of_decide_eq_true hc)
       refine ⟨u,w',G',hun.weaken (fun _ h=>h.elim),.inl ?_,R'.puts (v:=.one (.lst e ty (xs++ys) own)) hu (some d)⟩
       simp[execOp,resolve,invoke,builtin,hr]
      ·cases h
    ·rename_i e e1 ty lo xs i j hd es
     rw[es] at hs
     cases hz:(e == e1)&&fM tt e ty.size&&decide ((tt.at e).bytes≤4096)&&!((tt.at e).bytes == 0)&&((tt.at e).zero.length == ty.size) with
     |false=>rw[hz] at h;cases h
     |true=>
      rw[hz] at h
      simp only[zA,beq_iff_eq,zB,Bool.not_eq_true',beq_eq_false_iff_ne] at hz
      obtain ⟨⟨⟨⟨rfl,h3⟩,h4⟩,h5⟩,h6⟩:=hz
      simp only[cond_true] at h
      split at h
      ·rename_i ys hys
       generalize hd':(bif Nat.beq i j then cV kb d else j)=d' at h
       cases hz2 : !(d' == 0)&&!(i == 0) with
       |false=>rw[hz2] at h;cases h
       |true=>
        rw[hz2] at h
        simp only[cond_true,zC,zD] at h
        obtain ⟨hchk,rfl⟩:=h
        rw[hc] at hchk
        simp only[zA,zB,Bool.not_eq_true',beq_eq_false_iff_ne] at hchk hz2
        obtain ⟨hT,hsz,hpos⟩:=bO htt h3
        have hS:=(htt t (by rw[hd];simp)).sl hd
        obtain ⟨u,w',G',hun,hr,R',hu⟩:=si (type:=type) (d':=d') htt R hS hT hsz hpos h4 h5 h6 hz2.1 hz2.2 (fun hne=>by
         have:Nat.beq i j=false:=by cases hb:Nat.beq i j with | false=>rfl | true=>exact absurd (Nat.eq_of_beq_eq_true hb) hne
         rw[this] at hd'
         exact hd'.symm) hs hys (R.opd x) hchk.1 hchk.2
        refine ⟨u,w',G',hun.weaken (fun _ h=>h.elim),.inl ?_,R'.puts (v:=.one (.ex e ty lo (xs++ys) i d')) hu (some d)⟩
        simp[execOp,resolve,invoke,builtin,hr]
      ·cases h
    ·cases h
   ·cases h
  ·cases h
end
end Go.Proofs.YthpcdhgpplmneaaGreatDoor.Sym
namespace Go.Proofs.YthpcdhgpplmneaaGreatDoor.Sym
open Go
open Go.IntKind (i8 i16 i32 i64 u8 u16 u32 u64)
section
variable {P:Program} {tt:TT}
def tC {R:Type}(F:Fra)(cst:List (Array Value))(dfs:List Deferred)(r:R)(K:Ex→AS→Option R)(Q:Exit→Act→World→Prop):Prop:=
 ∀ex A' G' a' w',Rel F G' A' a'.tmps cst w'→a'.defers=dfs→K ex A'=some r→
  match ex with
  |.normal=>Q .normal a' w'
  |.exit id=>Q (.exit id) a' w'
  |.ret=>Q .ret a' w'
  |.panic v=>∀u,Rv G' w' v u→Q (.panic [{ v:=u,recovered:=false }]) a' w'
def FnOk (P:Program)(f:Nat):Prop:=∃fn,P.funcs[f]?=some fn∧(fn.name == "runtime.NumGoroutine")=false∧fn.body.isNone=false
theorem FnOk.run {f:Nat}(h:FnOk P f)(args:Array Value)(w:World):(callFunc f args).run P w=.ok (.enter f args) w:=by
 obtain ⟨fn,h1,h2,h3⟩:=h
 have h2':¬ fn.name = "runtime.NumGoroutine":=by simpa using h2
 have h3':¬ fn.body=none:=by intro e;rw[e] at h3;cases h3
 simp[callFunc,program,Sem.run,h1,h2',h3']
def Pw {R:Type}(F:Fra)(cst:List (Array Value))(dfs:List Deferred)(r:R)(K:Ex→AS→Option R)(U:Gh→Act→World→Prop)(N:Act→World→Prop)(Q:Exit→Act→World→Prop):Prop:=
 ∀ex A' G' a' w',Rel F G' A' a'.tmps cst w'→a'.defers=dfs→K ex A'=some r→
  match ex with
  |.normal=>U G' a' w'→N a' w'
  |.exit id=>Q (.exit id) a' w'
  |.ret=>Q .ret a' w'
  |.panic v=>∀u,Rv G' w' v u→Q (.panic [{ v:=u,recovered:=false }]) a' w'
def UntH (G:Gh)(hid:List Nat)(w:World)(G':Gh)(w':World):Prop:=
 Kept G.S G'.S w w'∧∀key∈hid,∀b,G.mu key=some b→G'.mu key=some b∧w'.heap[b]?=w.heap[b]?
theorem UntH.refl (G:Gh)(hid:List Nat)(w:World):UntH G hid w G w:=⟨.refl _ _,fun _ _ _ h=>⟨h,rfl⟩⟩
theorem Unt.hid {G G':Gh}{w w':World}{X:Nat→Prop}(h:Unt G G' X w w'){hid:List Nat}(hX:∀k∈hid,¬ X k):UntH G hid w G' w':=⟨h.kept,fun key hk b hb=>h.mu key b (hX key hk) hb⟩
def Od (ks:Option (List Nat))(k:Nat):Prop:=∀l,ks=some l→k∈l
theorem Ed {hid:List Nat}{ks:Option (List Nat)}(h:Oa hid ks=true):∀k∈hid,¬ Od ks k:=by
 intro k hk hin
 cases hid with
 |nil=>cases hk
 |cons k0 hid=>
  cases ks with
  |none=>cases h
  |some l=>
   simp only[Oa,Bool.not_eq_true',List.any_eq_false] at h
   have:=h k hk
   simp only[List.any_eq_true,beq_iff_eq,exists_eq_right] at this
   exact this (hin l rfl)
theorem Ec {A:AS}{hid:List Nat}{kb:Nat}{o:Oper}(h:N9 A hid kb o=true):∀k∈hid,¬(s9 A o.op k∨k=kb+o.dst.getD 0):=by
 intro k hk hin
 cases hid with
 |nil=>cases hk
 |cons k0 hid=>
  unfold N9 at h
  simp only[zA,Bool.not_eq_true',List.any_eq_false] at h
  obtain ⟨h1,h2⟩:=h
  rcases hin with hin | hin
  ·unfold s9 at hin
   split at hin
   ·rename_i t a x e
    simp only[e] at h2
    split at hin
    ·rename_i j o' e2
     simp only[e2,Bool.not_eq_true',List.any_eq_false] at h2
     exact h2 k hk (by simp[hin])
    ·rename_i hne
     split at h2
     ·rename_i j o' e2
      exact hne _ _ e2
     ·cases h2
   ·exact hin
  ·exact h1 k hk (by simp[hin])
def lK (P:Program)(hd:Hd):Prop:=
 ∀(R:Type) (f:Nat) (args:List V) (id:Nat) (A:AS) (K:Oc→AS→Option R) (r:R) (F:Fra) (G:Gh) (ts:Array Value) (cst:List (Array Value)) (w:World) (vals:Array Value),
  (∀d,F.mu0 (id / 2+d)=none)→hd R f args id A K=some r→Rel F G A ts cst w→All2 (Rv G w) args vals.toList→FnOk P f∧
  Calls P f vals w fun e w'=>∃G' A' v u,Rel F G' A' ts cst w'∧Rv G' w' v u∧
   ((e=.returned u∧∃ks,Unt G G' (Od ks) w w'∧K (.ret v ks) A'=some r)∨(e=.panicked [{ v:=u,recovered:=false }]∧K (.pan v) A'=some r))
theorem Act.put_defers' (a:Act)(d:Option Tmp)(v:Value):(a.put d v).defers=a.defers:=by cases d <;> rfl
theorem Cp.toV_sound {G:Gh}{w:World}{c:Cp}{u:Value}(h:Rcp G w c u):Rv G w c.toV u:=by
 cases c with
 |ptr k o=>exact h
 |dat t x=>
  simp only[Cp.toV]
  have h':Rt G.S w t x [u]:=h
  have hs:=cr (G:=G) (w:=w) t x [u] h'
  split
  ·rename_i c e
   rw[e] at hs
   exact hs.1
  ·trivial
theorem Cp.toVs_sound {G:Gh}{w:World}:∀{cs:List Cp} {us:List Value},All2 (Rcp G w) cs us→All2 (Rv G w) (cs.map Cp.toV) us
 |[],[],_=>trivial
 |_::_,_::_,h=>⟨Cp.toV_sound h.1,Cp.toVs_sound h.2⟩
 |[],_::_,h=>h.elim
 |_::_,[],h=>h.elim
theorem oy {G:Gh}{w:World}{A:AS}{a:Act}(hop:∀x,Rv G w (opd A x) (a.eval x)):∀xs:List Operand,All2 (Rv G w) (xs.map (opd A)) (xs.map a.eval)
 |[]=>trivial
 |x::xs=>⟨hop x,oy hop xs⟩
theorem H9 (s:ByteArray)(i:Nat):(Utf8.decode s i).1<2097152:=by
 have hb:∀k,(s.get! k).toNat<256:=fun k=>(s.get! k).toNat_lt
 have h0:=hb (i+0)
 have h1:=hb (i+1)
 have h2:=hb (i+2)
 have h3:=hb (i+3)
 unfold Utf8.decode Utf8.runeError
 simp only
 repeat' split
 all_goals simp only
 all_goals omega
theorem ie (htt:cJ P tt){hd:Hd}(hh:lK P hd){R:Type}{F:Fra}{G:Gh}{A:AS}{a:Act}{cst:List (Array Value)}{w:World}(Rl:Rel F G A a.tmps cst w){kb:Nat}(hkb:∀d,F.mu0 (kb+d)=none)(hid:List Nat)(o:Oper){K:Ex→AS→Option R}{r:R}
  (h:zd tt hd kb hid o A K=some r) {N:Act→World→Prop} {Q:Exit→Act→World→Prop} (hK:Pw F cst a.defers r K (fun G' a' w'=>UntH G hid w G' w'∧∃u,a'=a.put o.dst u) N Q):o.wp P a w N Q:=by
 unfold zd at h
 simp only[AS.putK_eq,AS.force_eq] at h
 unfold Oper.wp
 split at h
 ·rename_i c x y hop
  have hc:=Rl.opd c
  split at h
  ·rename_i b e1
   rw[e1] at hc
   have hc':a.eval c=.bool b:=hc
   have hrun:(execOp a.eval o).run P w=.ok (.value (if b then a.eval x else a.eval y)) w:=by
    simp only[execOp,hop,Sem.run_bind,hc',asBool,Sem.run_pure,Result.andThen_ok]
   rw[hrun]
   simp only[Oper.upon]
   cases b with
   |true=>exact hK .normal _ _ _ _ (Rl.puts (Rl.opd x) o.dst) (Act.put_defers' _ _ _) h ⟨.refl _ _ _,_,rfl⟩
   |false=>exact hK .normal _ _ _ _ (Rl.puts (Rl.opd y) o.dst) (Act.put_defers' _ _ _) h ⟨.refl _ _ _,_,rfl⟩
  ·cases h
 ·rename_i x hop
  have hx:=Rl.opd x
  split at h
  ·rename_i T t d e1
   rw[e1] at hx
   obtain ⟨u,eu,hu⟩:=hx
   have hrun:(execOp a.eval o).run P w=.halt (.panic (.iface T u)) w:=by
    simp[execOp,hop,eu,Instr.panic,goPanic,Sem.run,Result.andThen]
   rw[hrun]
   simp only[Oper.upon]
   exact hK (.panic _) _ _ _ _ Rl rfl h (.iface T u) ⟨u,rfl,hu⟩
  ·cases h
 ·rename_i it str hop
  have hx:=Rl.opd it
  split at h
  ·rename_i k e1
   rw[e1] at hx
   obtain ⟨b,hb,eu⟩:=hx
   split at h
   ·rename_i x hcs
    obtain ⟨b',o',hb',hh',ho⟩:=Rl.ob k _ hcs
    rw[hb] at hb'
    cases hb'
    rcases ho with ⟨cur,el,_,hr⟩ | ⟨s,n,e2,rfl,hbr,hlen⟩
    ·match hcl:cur.toList,hr with
     |[],hr=>exact hr.elim
     |_::_,hr=>exact hr.1.elim
    ·simp only[List.cons.injEq,C.itr.injEq,and_true] at e2
     subst e2
     simp only at h
     by_cases hlt:(n:Int)<(s.length:Int)
     ·rw[decide_eq_true hlt] at h
      simp only[cond_true] at h
      have hlt':n<(aF s).size:=by rw[b8];omega
      have hrun:(execOp a.eval o).run P w=.ok (.value (.tuple #[.bool true,.int .i64 n,.int .i32 (Utf8.decode (aF s) n).1])) { w with heap:=w.heap.setIfInBounds b (.stringIter (aF s) (n+(Utf8.decode (aF s) n).2)) }:=by
       simp[execOp,hop,eu,Instr.next,getObj,setObj,Sem.run,hh',Result.andThen,hlt',goInt]
      rw[hrun]
      simp only[Oper.upon]
      have hbs:b<w.heap.size:=(Rl.gh.mu k b hb).2.2
      have hwr:Wrote w { w with heap:=w.heap.setIfInBounds b (.stringIter (aF s) (n+(Utf8.decode (aF s) n).2)) } b:=
       ⟨rfl,rfl,rfl,by simp,fun j hj=>by simp[Array.getElem?_setIfInBounds,Ne.symm hj]⟩
      have R':=Rl.storeObj hb hwr (cs:=[.itr (s,(n:Int)+(eZ s n).2)]) (o:=.stringIter (aF s) (n+(Utf8.decode (aF s) n).2)) (by simp[Array.getElem?_setIfInBounds,hbs])
       (.inr ⟨s,n+(Utf8.decode (aF s) n).2,by simp[la],rfl,hbr,hlen⟩)
      have hun:=(Goes.store Rl.gh hb hwr).kept
      refine hK .normal _ _ _ _ (R'.puts (v:=.tup [(false,[.bool true]),(false,[.int .i64 n]),(false,[.int .i32 (eZ s n).1])]) ⟨_,rfl,?_⟩ o.dst) (Act.put_defers' _ _ _) h ⟨⟨hun,fun _ hk=>by cases hk⟩,_,rfl⟩
      refine ⟨.inr ⟨rfl,_,rfl,rfl⟩,.inr ⟨rfl,_,rfl,rfl,?_⟩,.inr ⟨rfl,_,rfl,?_,?_⟩,trivial⟩
      ·unfold maxLen at hlen
       simp[bH,IntKind.min,IntKind.max,IntKind.signed,IntKind.bits]
       omega
      ·simp[la]
      ·have:=H9 (aF s) n
       simp[bH,IntKind.min,IntKind.max,IntKind.signed,IntKind.bits,la]
       omega
     ·rw[decide_eq_false hlt] at h
      simp only[cond_false] at h
      have hlt':¬ n<(aF s).size:=by rw[b8];omega
      have hrun:(execOp a.eval o).run P w=.ok (.value (.tuple #[.bool false])) w:=by
       simp[execOp,hop,eu,Instr.next,getObj,Sem.run,hh',Result.andThen,hlt']
      rw[hrun]
      simp only[Oper.upon]
      exact hK .normal _ _ _ _ (Rl.puts (show Rv G w (.tup [(false,[.bool false])]) (.tuple #[.bool false]) from ⟨#[.bool false],rfl,⟨.inr ⟨rfl,_,rfl,rfl⟩,trivial⟩⟩) o.dst) (Act.put_defers' _ _ _) h ⟨.refl _ _ _,_,rfl⟩
   ·cases h
  ·cases h
 ·split at h
  ·rename_i chk v hv
   cases chk with
   |false=>cases h
   |true=>
    obtain ⟨u,hu,hr⟩:=qy htt Rl.gh.tabs (fun x=>Rl.opd x) Rl.ob o hv rfl
    rw[hu]
    simp only[Oper.upon]
    exact hK .normal _ _ _ _ (Rl.puts hr o.dst) (Act.put_defers' _ _ _) h ⟨.refl _ _ _,_,rfl⟩
  ·split at h
   ·rename_i chk A' hA
    cases hck:N9 A hid kb o&&chk with
    |false=>rw[hck] at h;cases h
    |true=>
     rw[hck] at h
     simp only[zA] at hck
     obtain ⟨u,w',G',hun,hrun,R'⟩:=Ib htt Rl o hkb hA hck.2
     have hU:=hun.hid (Ec hck.1)
     rcases hrun with hrun | ⟨hrun,rfl⟩
     ·rw[hrun]
      simp only[Oper.upon]
      exact hK .normal _ _ _ _ R' (Act.put_defers' _ _ _) h ⟨hU,_,rfl⟩
     ·rw[hrun]
      simp only[Oper.upon]
      exact hK .normal _ _ _ _ R' (Act.put_defers' _ _ _) h ⟨hU,_,rfl⟩
   ·split at h
    ·rename_i c hop
     split at h
     ·rename_i f hcal
      split at h
      ·rename_i g m caps e1
       have hf:=Rl.opd f
       rw[e1] at hf
       obtain ⟨vs,ef,hvs⟩:=hf
       have hargs:All2 (Rv G w) (bif m then caps.map Cp.toV++c.args.toList.map (opd A) else c.args.toList.map (opd A)++caps.map Cp.toV) (bif m then vs++c.args.map a.eval else c.args.map a.eval++vs).toList:=by
        cases m <;> simp only[cond_true,cond_false] <;> rw[Array.toList_append,Array.toList_map]
        ·exact (oy (fun x=>Rl.opd x) _).append (Cp.toVs_sound hvs)
        ·exact (Cp.toVs_sound hvs).append (oy (fun x=>Rl.opd x) _)
       obtain ⟨hfn,hcalls⟩:=hh R g _ _ A _ r F G a.tmps cst w _ (fun d=>by
        have e:cV kb (o.dst.getD 0) / 2+d=kb+(o.dst.getD 0+d):=by simp only[cV];omega
        rw[e];exact hkb _) h Rl hargs
       have hrun:(execOp a.eval o).run P w=.ok (.enter g (bif m then vs++c.args.map a.eval else c.args.map a.eval++vs)) w:=by
        cases m
        ·simp only[pg,cond_false] at ef
         simp[execOp,hop,resolve,hcal,ef,Deferred.ofValue,invoke,hfn.run]
        ·simp only[pg,cond_true] at ef
         simp[execOp,hop,resolve,hcal,ef,Deferred.ofValue,invoke,hfn.run]
       rw[hrun]
       simp only[Oper.upon]
       refine hcalls.mono fun e w' ⟨G',A',v,u,R',hv,he⟩=>?_
       rcases he with ⟨rfl,ks,hun,hk⟩ | ⟨rfl,hk⟩
       ·simp only at hk
        cases hks:Oa hid ks with
        |false=>rw[hks] at hk;cases hk
        |true=>
         rw[hks] at hk
         exact hK .normal _ _ _ _ (R'.puts hv o.dst) (Act.put_defers' _ _ _) hk ⟨hun.hid (Ed hks),_,rfl⟩
       ·exact hK (.panic v) _ _ _ _ R' rfl hk u hv
      ·cases h
     ·cases h
    ·cases h
theorem All2.set_left {α β:Type}{R:α→β→Prop}:∀{as:List α} {bs:List β} (n:Nat) {a:α},All2 R as bs→(∀b,bs[n]?=some b→R a b)→All2 R (as.set n a) bs
 |[],[],_,_,_,_=>by simp[All2]
 |_::_,_::_,0,_,h,h'=>⟨h' _ rfl,h.2⟩
 |_::_,_::_,n+1,_,h,h'=>⟨h.1,All2.set_left n h.2 fun b hb=>h' b (by simpa using hb)⟩
 |[],_::_,_,_,h,_=>h.elim
 |_::_,[],_,_,h,_=>h.elim
theorem Rel.refine {F:Fra}{G:Gh}{A:AS}{ts:Array Value}{cst:List (Array Value)}{w:World}(R:Rel F G A ts cst w)(d:Nat){v:V}(h:Rv G w v (ts.getD d undef)):Rel F G (A.put (some d) v) ts cst w:=
 ⟨R.tm.set_left d fun b hb=>by
  have:ts.getD d undef=b:=by
   have hb':ts[d]?=some b:=by simpa using hb
   simp[Array.getD_eq_getD_getElem?,hb']
  rw[this] at h;exact h,R.stk,R.ob,R.gh⟩
theorem vL {ops:Array Oper}{tmps:Array Value}{j d:Nat}(hd:(ops[j]?).bind (·.dst)=some d):yielded ops tmps j=match tmps.getD d undef with | .bool b=>some b | _=>none:=by
 unfold yielded
 rw[hd,Option.bind_some,Array.getD_eq_getD_getElem?]
 cases tmps[d]? with
 |none=>simp[undef]
 |some v=>cases v <;> rfl
theorem cK {R:Type}{F:Fra}{G:Gh}{A:AS}{a:Act}{cst:List (Array Value)}{w:World}(Rl:Rel F G A a.tmps cst w){ops:Array Oper}{o:Oper}{f K:AS→Option R}{r:R}(h:gD ops o A f K=some r):
  (Region.wanted o (yielded ops a.tmps)=true∧∃A1,Rel F G A1 a.tmps cst w∧f A1=some r) ∨
  (Region.wanted o (yielded ops a.tmps)=false∧∃A1,Rel F G A1 (a.put o.dst undef).tmps cst w∧K A1=some r):=by
 have skip:∀A1,Rel F G A1 a.tmps cst w→Rel F G (A1.put o.dst (.tup [])) (a.put o.dst undef).tmps cst w:=fun A1 R1=>R1.puts (v:=.tup []) ⟨#[],rfl,trivial⟩ o.dst
 unfold gD at h
 simp only[AS.putK_eq] at h
 split at h
 ·rename_i hg
  exact .inl ⟨by simp[Region.wanted,hg],A,Rl,h⟩
 ·rename_i j want hg
  split at h
  ·cases h
  ·rename_i d hdst
   have hd:=Rl.get d
   have hy:=vL (tmps:=a.tmps) hdst
   split at h
   ·rename_i e1
    rw[e1] at hd
    obtain ⟨us,eu,hus⟩:=hd
    rw[eu] at hy
    exact .inr ⟨by simp[Region.wanted,hg,hy],_,skip A Rl,h⟩
   ·rename_i x e1
    rw[e1] at hd
    have eu:a.tmps.getD d undef=.bool x:=hd
    rw[eu] at hy
    have R1:Rel F G (A.put (some d) (.one (.bool x))) a.tmps cst w:=Rl.refine d (by rw[eu];rfl)
    cases x <;> cases want <;> simp only[cond_true,cond_false] at h
    ·exact .inl ⟨by simp[Region.wanted,hg,hy],_,R1,h⟩
    ·exact .inr ⟨by simp[Region.wanted,hg,hy],_,skip _ R1,h⟩
    ·exact .inr ⟨by simp[Region.wanted,hg,hy],_,skip _ R1,h⟩
    ·exact .inl ⟨by simp[Region.wanted,hg,hy],_,R1,h⟩
   ·cases h
theorem lO (htt:cJ P tt){hd:Hd}(hh:lK P hd){R:Type}{F:Fra}{cst:List (Array Value)}{kb:Nat}(hkb:∀d,F.mu0 (kb+d)=none){ops:Array Oper}{r:R}{Q:Exit→Act→World→Prop}:∀(l:List Nat) {G:Gh} {A:AS} {a:Act} {w:World} {K:Ex→AS→Option R},
  lN tt hd kb ops l A K=some r→Rel F G A a.tmps cst w→tC F cst a.defers r K Q→wpOps P ops Q l a w
 |[],G,A,a,w,K,h,Rl,hK=>hK .normal A G a w Rl rfl h
 |i::is,G,A,a,w,K,h,Rl,hK=>by
  simp only[lN] at h
  simp only[wpOps]
  split at h
  ·cases h
  ·rename_i o ho
   rw[ho]
   simp only
   rcases cK Rl h with ⟨hw,A1,R1,h1⟩ | ⟨hw,A1,R1,h1⟩
   ·rw[if_pos hw]
    refine .inl (ie htt hh R1 hkb [] o h1 ?_)
    intro ex A' G' a' w' R' hd' hk
    cases ex with
    |normal=>exact fun _=>lO htt hh hkb is hk R' (by rw[hd'];exact hK)
    |exit id=>exact hK _ A' G' a' w' R' hd' hk
    |ret=>exact hK _ A' G' a' w' R' hd' hk
    |panic v=>exact hK _ A' G' a' w' R' hd' hk
   ·rw[if_neg (by simp[hw])]
    exact lO htt hh hkb is h1 R1 (by rw[Act.put_defers'];exact hK)
def SameBut (m:Nat)(A A':AS):Prop:=A'.tm.length=A.tm.length∧(∀i,m.testBit i=false→A'.tm[i]?=A.tm[i]?)∧A'.stk=A.stk∧A'.ob=A.ob
theorem SameBut.refl (m:Nat)(A:AS):SameBut m A A:=⟨rfl,fun _ _=>rfl,rfl,rfl⟩
theorem SameBut.trans {m:Nat}{A A' A'':AS}(h:SameBut m A A')(h':SameBut m A' A''):SameBut m A A'':=
 ⟨h'.1.trans h.1,fun i hi=>(h'.2.1 i hi).trans (h.2.1 i hi),h'.2.2.1.trans h.2.2.1,h'.2.2.2.trans h.2.2.2⟩
theorem bw {m:Nat}{A A':AS}{dst:Option Nat}{v:V}(h:mf m A dst v=some A'):A'=A.put dst v∧SameBut m A A':=by
 cases dst with
 |none=>simp only[mf,zC] at h;subst h;exact ⟨rfl,.refl _ _⟩
 |some d=>
  simp only[mf] at h
  cases hb:m.testBit d with
  |false=>rw[hb] at h;cases h
  |true=>
   rw[hb] at h
   simp only[cond_true,zC] at h
   subst h
   refine ⟨rfl,by simp[AS.put],fun i hi=>?_,rfl,rfl⟩
   have:d≠i:=fun e=>by rw[e,hi] at hb;cases hb
   simp[AS.put,List.getElem?_set,this]
theorem pV {tt:TT}{kb m:Nat}{kn:List (Nat×Bool)}{o:Oper}{A A':AS}(h:JF tt kb m kn o A=some A'):SameBut m A A':=by
 unfold JF at h
 split at h
 ·split at h
  ·split at h
   ·rename_i x _ _ y _
    cases hx:x == y with
    |false=>rw[hx] at h;cases h
    |true=>rw[hx] at h;exact (bw h).2
   ·exact (bw h).2
  ·cases h
 ·split at h
  ·rename_i chk v _
   cases chk with
   |false=>cases h
   |true=>exact (bw h).2
  ·cases h
theorem CK {m lv:Nat}{x:Bool}:∀{i:Nat} {vs vs1 vs2:List V},(j1 m lv x i vs vs1 vs2).length=vs.length
 |i,[],_,_=>by simp[j1]
 |i,v::vs,[],_=>by simp[j1]
 |i,v::vs,_::_,[]=>by simp[j1]
 |i,v::vs,v1::vs1,v2::vs2=>by simp[j1,CK]
theorem CJ {m lv:Nat}{x:Bool}:∀{i:Nat} {vs vs1 vs2:List V} (k:Nat),vs1.length=vs.length→vs2.length=vs.length→m.testBit (i+k)=false→(j1 m lv x i vs vs1 vs2)[k]?=vs[k]?
 |i,[],vs1,vs2,k,_,_,_=>by cases vs1 <;> simp[j1]
 |i,v::vs,[],_,k,h,_,_=>by simp at h
 |i,v::vs,_::_,[],k,_,h,_=>by simp at h
 |i,v::vs,v1::vs1,v2::vs2,0,_,_,hb=>by
  rw[Nat.add_zero] at hb
  simp[j1,hb]
 |i,v::vs,v1::vs1,v2::vs2,k+1,h1,h2,hb=>by
  have:=CJ (m:=m) (lv:=lv) (x:=x) (i:=i+1) (vs:=vs) (vs1:=vs1) (vs2:=vs2) k (by simpa using h1) (by simpa using h2) (by rw[show i+1+k=i+(k+1) by omega];exact hb)
  simpa [j1] using this
theorem gm {tt:TT}{kb:Nat}{ops:Array Oper}{m lv:Nat}:∀(l:List Nat) {kn:List (Nat×Bool)} {A A':AS},AW tt kb ops m lv l kn A=some A'→SameBut m A A'
 |[],kn,A,A',h=>by simp only[AW,zC] at h;subst h;exact .refl _ _
 |i::is,kn,A,A',h=>by
  simp only[AW] at h
  split at h
  ·cases h
  ·rename_i o ho
   split at h
   ·split at h
    ·rename_i A1 h1
     exact (pV h1).trans (gm is h)
    ·cases h
   ·rename_i j want hg
    split at h
    ·cases h
    ·rename_i d hd
     split at h
     ·split at h
      ·rename_i A1 h1
       exact (bw h1).2.trans (gm is h)
      ·cases h
     ·rename_i x hx
      split at h
      ·rename_i y hy
       cases hxy:x == y with
       |false=>rw[hxy] at h;cases h
       |true=>
        rw[hxy] at h
        simp only[cond_true] at h
        cases hyw:y == want with
        |true=>
         rw[hyw] at h
         simp only[cond_true] at h
         split at h
         ·rename_i A1 h1;exact (pV h1).trans (gm is h)
         ·cases h
        |false=>
         rw[hyw] at h
         simp only[cond_false] at h
         split at h
         ·rename_i A1 h1;exact (bw h1).2.trans (gm is h)
         ·cases h
      ·split at h
       ·rename_i At Ae h1 h2
        split at h
        ·rename_i At' Ae' h3 h4
         split at h
         ·rename_i A1 A2 h5 h6
          cases h
          have s1:=((bw h1).2.trans (pV h3)).trans (gm is h5)
          have s2:=((bw h2).2.trans (bw h4).2).trans (gm is h6)
          exact ⟨CK,fun i hi=>CJ i s1.1 s2.1 (by rw[Nat.zero_add];exact hi),rfl,rfl⟩
         ·cases h
        ·cases h
       ·cases h
     ·cases h
theorem CL {G:Gh}{w:World}{v1 v2:V}{u:Value}(h:Rv G w v1 u):Rv G w (P5 true v1 v2) u:=by
 unfold P5
 split
 ·exact h
 ·rename_i k a k' b
  cases hk:decide (k=k') with
  |false=>trivial
  |true=>exact h
 ·trivial
theorem xO {G:Gh}{w:World}{v1 v2:V}{u:Value}(h:Rv G w v2 u):Rv G w (P5 false v1 v2) u:=by
 unfold P5
 split
 ·exact h
 ·rename_i k a k' b
  cases hk:decide (k=k') with
  |false=>trivial
  |true=>
   have hk:=of_decide_eq_true hk
   subst hk
   exact h
 ·trivial
theorem JX {G:Gh}{w:World}:∀{vs:List V} {us:List Value},vs.length=us.length→All2 (Rv G w) (vs.map fun _=>V.any) us
 |[],[],_=>trivial
 |_::vs,_::us,h=>⟨trivial,JX (vs:=vs) (us:=us) (by simpa using h)⟩
theorem xN {G:Gh}{w:World}{m lv:Nat}:∀{i:Nat} {vs vs1 vs2:List V} {us:List Value},All2 (Rv G w) vs1 us→vs1.length=vs.length→(∀k,m.testBit (i+k)=false→vs1[k]?=vs[k]?)→All2 (Rv G w) (j1 m lv true i vs vs1 vs2) us
 |i,[],[],_,[],h,_,_=>by simp[j1,All2]
 |i,v::vs,v1::vs1,[],u::us,h,hl,_=>by
  unfold j1
  exact JX (by have:=h.length;simp at hl this ⊢;omega)
 |i,v::vs,v1::vs1,v2::vs2,u::us,h,hl,hs=>by
  refine ⟨?_,xN h.2 (by simpa using hl) fun k hk=>by have:=hs (k+1) (by rw[show i+(k+1)=i+1+k by omega];exact hk);simpa using this⟩
  cases hm:m.testBit i with
  |true=>cases lv.testBit i with
   |true=>exact CL h.1
   |false=>trivial
  |false=>
   have:=hs 0 (by rw[Nat.add_zero];exact hm)
   simp only[List.getElem?_cons_zero,zC] at this
   subst this
   exact h.1
 |_,[],[],_,_::_,h,_,_=>h.elim
 |_,[],_::_,_,_,_,hl,_=>by simp at hl
 |_,_::_,[],_,_,_,hl,_=>by simp at hl
 |_,_::_,_::_,_,[],h,_,_=>h.elim
theorem uJ {G:Gh}{w:World}{m lv:Nat}:∀{i:Nat} {vs vs1 vs2:List V} {us:List Value},All2 (Rv G w) vs2 us→vs2.length=vs.length→(∀k,m.testBit (i+k)=false→vs2[k]?=vs[k]?)→All2 (Rv G w) (j1 m lv false i vs vs1 vs2) us
 |i,[],_,[],[],h,_,_=>by simp[j1,All2]
 |i,v::vs,[],v2::vs2,u::us,h,hl,_=>by
  unfold j1
  exact JX (by have:=h.length;simp at hl this ⊢;omega)
 |i,v::vs,v1::vs1,v2::vs2,u::us,h,hl,hs=>by
  refine ⟨?_,uJ h.2 (by simpa using hl) fun k hk=>by have:=hs (k+1) (by rw[show i+(k+1)=i+1+k by omega];exact hk);simpa using this⟩
  cases hm:m.testBit i with
  |true=>cases lv.testBit i with
   |true=>exact xO h.1
   |false=>trivial
  |false=>
   have:=hs 0 (by rw[Nat.add_zero];exact hm)
   simp only[List.getElem?_cons_zero,zC] at this
   subst this
   exact h.1
 |_,[],_,[],_::_,h,_,_=>h.elim
 |_,[],_,_::_,_,_,hl,_=>by simp at hl
 |_,_::_,_,[],_,_,hl,_=>by simp at hl
 |_,_::_,_,_::_,[],h,_,_=>h.elim
theorem Jt {P:Program}{tt:TT}(htt:cJ P tt){F:Fra}{G:Gh}{cst:List (Array Value)}{w:World}{kb m:Nat}{kn:List (Nat×Bool)}{o:Oper}{A A':AS}{a:Act}{N:Act→World→Prop}{Q:Exit→Act→World→Prop}
  (h:JF tt kb m kn o A=some A') (Rl:Rel F G A a.tmps cst w) (hK:∀a',Rel F G A' a'.tmps cst w→a'.defers=a.defers→N a' w):o.wp P a w N Q:=by
 unfold JF at h
 unfold Oper.wp
 split at h
 ·rename_i c x y hop
  have hc:=Rl.opd c
  split at h
  ·rename_i b e1
   rw[e1] at hc
   have hc':a.eval c=.bool b:=hc
   have hrun:(execOp a.eval o).run P w=.ok (.value (if b then a.eval x else a.eval y)) w:=by
    simp only[execOp,hop,Sem.run_bind,hc',asBool,Sem.run_pure,Result.andThen_ok]
   rw[hrun]
   simp only[Oper.upon]
   have hx:=Rl.opd x
   have hy:=Rl.opd y
   split at h
   ·rename_i z hz
    cases hbz:b == z with
    |false=>rw[hbz] at h;cases h
    |true=>
     rw[hbz] at h
     simp only[cond_true] at h
     rw[beq_iff_eq] at hbz
     subst hbz
     rw[(bw h).1] at hK
     cases b with
     |true=>exact hK _ (Rl.puts hx o.dst) (Act.put_defers' _ _ _)
     |false=>exact hK _ (Rl.puts hy o.dst) (Act.put_defers' _ _ _)
   ·rw[(bw h).1] at hK
    cases b with
    |true=>exact hK _ (Rl.puts (CL hx) o.dst) (Act.put_defers' _ _ _)
    |false=>exact hK _ (Rl.puts (xO hy) o.dst) (Act.put_defers' _ _ _)
  ·cases h
 ·split at h
  ·rename_i chk v he
   cases chk with
   |false=>cases h
   |true=>
    simp only[cond_true] at h
    obtain ⟨u,hu,hv⟩:=qy htt Rl.gh.tabs (fun x=>Rl.opd x) Rl.ob o he rfl
    rw[hu,Oper.upon_value]
    rw[(bw h).1] at hK
    exact hK _ (Rl.puts hv o.dst) (Act.put_defers' _ _ _)
  ·cases h
theorem qw {P:Program}{tt:TT}(htt:cJ P tt){F:Fra}{G:Gh}{cst:List (Array Value)}{w:World}{kb:Nat}{ops:Array Oper}{m lv:Nat}{Q:Exit→Act→World→Prop}:
  ∀(l:List Nat) {kn:List (Nat×Bool)} {A A':AS} {a:Act},AW tt kb ops m lv l kn A=some A'→Rel F G A a.tmps cst w→(∀a',Rel F G A' a'.tmps cst w→a'.defers=a.defers→Q .normal a' w)→wpOps P ops Q l a w
 |[],kn,A,A',a,h,Rl,hK=>by
  simp only[AW,zC] at h
  subst h
  exact hK a Rl rfl
 |i::is,kn,A,A',a,h,Rl,hK=>by
  simp only[AW] at h
  simp only[wpOps]
  split at h
  ·cases h
  ·rename_i o ho
   rw[ho]
   simp only
   have run:∀{kn':List (Nat×Bool)} {A0 A1 A2:AS},Rel F G A0 a.tmps cst w→JF tt kb m kn' o A0=some A1→AW tt kb ops m lv is kn' A1=some A2→(∀a',Rel F G A2 a'.tmps cst w→a'.defers=a.defers→Q .normal a' w)→o.wp P a w (wpOps P ops Q is) Q:=fun R0 h0 h1 h2=>
    Jt htt h0 R0 (Q:=Q) fun a' R' hd'=>qw htt is h1 R' fun a'' R'' hd''=>h2 a'' R'' (hd''.trans hd')
   have skp:∀{kn':List (Nat×Bool)} {A0 A1 A2:AS},Rel F G A0 a.tmps cst w→mf m A0 o.dst (.tup [])=some A1→AW tt kb ops m lv is kn' A1=some A2→(∀a',Rel F G A2 a'.tmps cst w→a'.defers=a.defers→Q .normal a' w)→wpOps P ops Q is (a.put o.dst undef) w:=fun R0 h0 h1 h2=>by
    rw[(bw h0).1] at h1
    exact qw htt is h1 (R0.puts (v:=.tup []) ⟨#[],rfl,trivial⟩ o.dst) fun a'' R'' hd''=>h2 a'' R'' (hd''.trans (Act.put_defers' _ _ _))
   split at h
   ·rename_i hg
    rw[if_pos (by simp[Region.wanted,hg])]
    split at h
    ·rename_i A1 h1
     exact .inl (run Rl h1 h hK)
    ·cases h
   ·rename_i j want hg
    split at h
    ·cases h
    ·rename_i d hdst
     have hd:=Rl.get d
     have hy:=vL (tmps:=a.tmps) hdst
     split at h
     ·rename_i e1
      rw[e1] at hd
      obtain ⟨us,eu,hus⟩:=hd
      rw[eu] at hy
      rw[if_neg (by simp[Region.wanted,hg,hy])]
      split at h
      ·rename_i A1 h1
       exact skp Rl h1 h hK
      ·cases h
     ·rename_i x e1
      rw[e1] at hd
      have eu:a.tmps.getD d undef=.bool x:=hd
      rw[eu] at hy
      split at h
      ·rename_i y hyk
       cases hxy:x == y with
       |false=>rw[hxy] at h;cases h
       |true=>
        rw[hxy] at h
        simp only[cond_true] at h
        rw[beq_iff_eq] at hxy
        subst hxy
        cases hyw:x == want with
        |true=>
         rw[hyw] at h
         simp only[cond_true] at h
         rw[beq_iff_eq] at hyw
         subst hyw
         rw[if_pos (by simp[Region.wanted,hg,hy])]
         split at h
         ·rename_i A1 h1;exact .inl (run Rl h1 h hK)
         ·cases h
        |false=>
         rw[hyw] at h
         simp only[cond_false] at h
         have hne:x≠want:=by simpa using hyw
         rw[if_neg (by simp[Region.wanted,hg,hy,hne])]
         split at h
         ·rename_i A1 h1;exact skp Rl h1 h hK
         ·cases h
      ·split at h
       ·rename_i At Ae h1 h2
        split at h
        ·rename_i At' Ae' h3 h4
         split at h
         ·rename_i A1 A2 h5 h6
          cases h
          have s1:=((bw h1).2.trans (pV h3)).trans (gm is h5)
          have s2:=((bw h2).2.trans (bw h4).2).trans (gm is h6)
          have e1':=(bw h1).1
          have e2':=(bw h2).1
          by_cases hw:x=want
          ·subst hw
           rw[if_pos (by simp[Region.wanted,hg,hy])]
           refine .inl (run (by rw[e1'];exact Rl.refine d (by rw[eu];rfl)) h3 h5 fun a' R' hd'=>hK a' ⟨?_,?_,?_,R'.gh⟩ hd')
           ·show All2 (Rv G w) (j1 m lv (bif x then x else !x) 0 A.tm A1.tm A2.tm) a'.tmps.toList
            rw[show (bif x then x else !x)=true by cases x <;> rfl]
            exact xN R'.tm s1.1 fun k hk=>s1.2.1 k (by rw[Nat.zero_add] at hk;exact hk)
           ·have:=R'.stk;rw[s1.2.2.1] at this;exact this
           ·have:=R'.ob;unfold ObOk at this ⊢;rw[s1.2.2.2] at this;exact this
          ·have hxn:x = !want:=by cases x <;> cases want <;> simp_all
           rw[if_neg (by simp[Region.wanted,hg,hy,hw])]
           refine skp (by rw[e2'];exact Rl.refine d (by rw[eu,hxn];rfl)) h4 h6 fun a' R' hd'=>hK a' ⟨?_,?_,?_,R'.gh⟩ hd'
           ·show All2 (Rv G w) (j1 m lv (bif want then x else !x) 0 A.tm A1.tm A2.tm) a'.tmps.toList
            rw[show (bif want then x else !x)=false by rw[hxn];cases want <;> rfl]
            exact uJ R'.tm s2.1 fun k hk=>s2.2.1 k (by rw[Nat.zero_add] at hk;exact hk)
           ·have:=R'.stk;rw[s2.2.2.1] at this;exact this
           ·have:=R'.ob;unfold ObOk at this ⊢;rw[s2.2.2.2] at this;exact this
         ·cases h
        ·cases h
       ·cases h
     ·cases h
theorem pB {G:Gh}{w:World}(m:Nat):∀(i:Nat) {vs:List V} {us:List Value},All2 (Rv G w) vs us→All2 (Rv G w) (Ai m i vs) us
 |_,[],[],_=>trivial
 |i,v::vs,u::us,h=>by
  refine ⟨?_,pB m (i+1) h.2⟩
  cases m.testBit i with
  |true=>exact h.1
  |false=>trivial
 |_,[],_::_,h=>h.elim
 |_,_::_,[],h=>h.elim
theorem Rel.drop {F:Fra}{G:Gh}{A:AS}{ts:Array Value}{cst:List (Array Value)}{w:World}(R:Rel F G A ts cst w)(k:Nat)(hk0:F.mu0 k=none):∃G',Rel F G' (A.drop k) ts cst w:=by
 let G':Gh:=⟨G.S,fun j=>if j=k then none else G.mu j,G.ow⟩
 have g:Goes G G' w w (some k) none:=⟨fun _ _ h=>⟨h,rfl⟩,fun j b hb hne=>by
  have:j≠k:=fun e=>hne (by rw[e])
  simp[G',this,hb],fun _ _ _ h _=>⟨h,rfl⟩⟩
 have hf:∀c v,Rc G w c v→Rc G' w (c.noKey k) v:=fun c v h=>h.noKey g
 have hmu:∀j b,G'.mu j=some b→G.mu j=some b:=fun j b hb=>by
  simp only[G'] at hb
  split at hb
  ·cases hb
  ·exact hb
 refine ⟨G',R.tm.map_left _ fun a b h=>Rv.map hf h,R.stk.map_left _ fun a b h=>h.map_left _ fun a b h=>Rv.map hf h,?_,?_⟩
 ·intro j cs hj
  simp only[AS.drop,List.getElem?_set] at hj
  split at hj
  ·split at hj <;> cases hj
  ·rename_i hne
   obtain ⟨cs0,h0,rfl⟩:=AS.map_ob hj
   obtain ⟨b,o,hm,hh,hr⟩:=R.ob j cs0 h0
   exact ⟨b,o,by simp[G',Ne.symm hne,hm],hh,hr.map hf (j3 k)⟩
 ·exact ⟨fun j b hb=>R.gh.mu j b (hmu j b hb),fun j j' b h h'=>R.gh.muI j j' b (hmu _ _ h) (hmu _ _ h'),fun i b l hi=>by
   obtain ⟨h1,h2,h3,h4⟩:=R.gh.ow i b l hi
   exact ⟨h1,h2,h3,fun key hk=>h4 key (hmu _ _ hk)⟩,R.gh.owI,R.gh.sB,R.gh.fr,R.gh.sub,R.gh.sup,R.gh.keep,fun j b hb=>by
    have:j≠k:=by rintro rfl;rw[hk0] at hb;cases hb
    simp[G',this,R.gh.fix_ j b hb],R.gh.tab⟩
theorem Rel.gc {F:Fra}{ts:Array Value}{cst:List (Array Value)}{w:World}:∀(ks:List Nat) {G:Gh} {A:AS},(∀k∈ks,F.mu0 k=none)→Rel F G A ts cst w→∃G',Rel F G' (A.gc ks) ts cst w
 |[],G,A,_,R=>⟨G,R⟩
 |k::ks,G,A,hk,R=>by
  simp only[AS.gc]
  split
  ·cases A.uses k with
   |true=>exact Rel.gc ks (fun k' h=>hk k' (by simp[h])) R
   |false=>
    obtain ⟨G',R'⟩:=R.drop k (hk k (by simp))
    exact Rel.gc ks (fun k' h=>hk k' (by simp[h])) R'
  ·exact Rel.gc ks (fun k' h=>hk k' (by simp[h])) R
theorem vD {α:Type}:∀(l:List (Option α)) (k:Nat) (x:α),(E9 l)[k]?=some (some x)→l[k]?=some (some x)
 |[],_,_,h=>by simp[E9] at h
 |none::l,k,x,h=>by
  simp only[E9] at h
  split at h
  ·simp at h
  ·rename_i l' hl
   cases k with
   |zero=>simp at h
   |succ k=>simpa using vD l k x (by simpa using h)
 |some y::l,k,x,h=>by
  simp only[E9] at h
  cases k with
  |zero=>simpa using h
  |succ k=>simpa using vD l k x (by simpa using h)
theorem fi:∀{l:List (Nat×Nat)} {p:Nat×Nat},bv (l.map (·.1))=true→p∈l→l.find? (·.1 == p.1)=some p
 |q::l,p,h,hp=>by
  simp only[zL,bv,zA,Bool.not_eq_true',List.any_eq_false] at h
  rcases List.mem_cons.1 hp with rfl | hp'
  ·simp
  ·have hne:¬ q.1=p.1:=fun e=>h.1 p.1 (List.mem_map.2 ⟨p,hp',rfl⟩) (by simp[e])
   rw[List.find?_cons_of_neg (by simpa using hne)]
   exact fi h.2 hp'
theorem kT:∀{l:List (Nat×Nat)} {p q:Nat×Nat},bv (l.map (·.2))=true→p∈l→q∈l→p.2=q.2→p=q
 |r::l,p,q,h,hp,hq,e=>by
  simp only[zL,bv,zA,Bool.not_eq_true',List.any_eq_false] at h
  rcases List.mem_cons.1 hp with rfl | hp' <;> rcases List.mem_cons.1 hq with rfl | hq'
  ·rfl
  ·exact absurd (by simp[e]) (h.1 q.2 (List.mem_map.2 ⟨q,hq',rfl⟩))
  ·exact absurd (by simp[e]) (h.1 p.2 (List.mem_map.2 ⟨p,hp',rfl⟩))
  ·exact kT h.2 hp' hq' e
theorem lP {l:List (Nat×Nat)}{j:Nat}{p:Nat×Nat}(h:l.find? (·.1 == j)=some p):p∈l∧p.1=j:=by
 have h1:=List.find?_some h
 exact ⟨List.mem_of_find?_eq_some h,by simpa using h1⟩
theorem Rel.reOwn {F:Fra}{G:Gh}{A:AS}{ts:Array Value}{cst:List (Array Value)}{w:World}(R:Rel F G A ts cst w){ps:List (Nat×Nat)}(h1:bv (ps.map (·.1))=true)(h2:bv (ps.map (·.2))=true):
  ∃G',Rel F G' (A.map (C.reOwn ps)) ts cst w:=by
 let G':Gh:=⟨G.S,G.mu,fun j=>match ps.find? (·.1 == j) with | some p=>G.ow p.2 | none=>none⟩
 have hG':∀i b l,G'.ow i=some (b,l)→∃p∈ps,p.1=i∧G.ow p.2=some (b,l):=by
  intro i b l h
  simp only[G'] at h
  cases hf:ps.find? (·.1 == i) with
  |none=>rw[hf] at h;cases h
  |some p=>
   rw[hf] at h
   obtain ⟨hp,e⟩:=lP hf
   exact ⟨p,hp,e,h⟩
 have hc:∀c v,Rc G w c v→Rc G' w (c.reOwn ps) v:=by
  intro c v h
  cases c with
  |lst e t xs own=>
   obtain ⟨A',cap,ev,h3,h4,h5,h6⟩:=h
   refine ⟨A',cap,ev,h3,h4,h5,?_⟩
   cases ho:own == 0 with
   |true=>exact .inl rfl
   |false=>
    cases hf:ps.find? (·.2 == own) with
    |none=>exact .inl rfl
    |some p=>
     show Own G' w p.1 xs.length A' cap t.size
     have hp:=List.mem_of_find?_eq_some hf
     have e:p.2=own:=by simpa using List.find?_some hf
     rcases h6 with h6 | h6 | ⟨b,cur,el,ea,how,hh,hs⟩
     ·rw[h6] at ho;cases ho
     ·exact .inr (.inl h6)
     ·refine .inr (.inr ⟨b,cur,el,ea,?_,hh,hs⟩)
      simp only[G',fi h1 hp,e,how]
  |ptr key off=>exact h
  |fn f m caps=>
   obtain ⟨vs,e,hv⟩:=h
   exact ⟨vs,e,hv.mono fun c _ v hcv=>by cases c <;> exact hcv⟩
  |ex e t lo xs i j=>
   have hcell:=h.cell
   simp only[C.reOwn]
   split
   ·rename_i p q hp hq
    cases h0:Nat.beq p.1 0 || Nat.beq q.1 0 with
    |true=>exact hcell
    |false=>
     simp only[cond_false]
     simp only[Bool.or_eq_false_iff] at h0
     rcases h with h | ⟨b,cap,e0,⟨n1,n2,ho⟩,h⟩
     ·exact .inl h
     ·refine .inr ⟨b,cap,e0,⟨fun e=>by rw[e] at h0;exact absurd h0.1 (by decide),fun e=>by rw[e] at h0;exact absurd h0.2 (by decide),?_⟩,h⟩
      have hp1:=List.mem_of_find?_eq_some hp
      have hp2:p.2=i:=by simpa using List.find?_some hp
      have hq1:=List.mem_of_find?_eq_some hq
      have hq2:q.2=j:=by simpa using List.find?_some hq
      rcases ho with ho | ho
      ·left;simp only[G',fi h1 hp1,hp2,ho]
      ·right;simp only[G',fi h1 hq1,hq2,ho]
   ·exact hcell
  |eel t k x i j=>exact h.cell
  |_=>exact h
 refine ⟨G',R.map hc (fun _=>rfl) (fun key b hb=>⟨hb,rfl⟩) ⟨R.gh.mu,R.gh.muI,?_,?_,R.gh.sB,R.gh.fr,R.gh.sub,R.gh.sup,R.gh.keep,R.gh.fix_,R.gh.tab⟩⟩
 ·intro i b l hi
  obtain ⟨p,hp,rfl,hb⟩:=hG' i b l hi
  exact R.gh.ow p.2 b l hb
 ·intro i j b l l' hi hj
  obtain ⟨p,hp,rfl,hb⟩:=hG' i b l hi
  obtain ⟨q,hq,rfl,hb'⟩:=hG' j b l' hj
  have e:=R.gh.owI _ _ _ _ _ hb hb'
  rw[kT h2 hp hq e]
theorem Rel.reown {F:Fra}{G:Gh}{A:AS}{ts:Array Value}{cst:List (Array Value)}{w:World}(R:Rel F G A ts cst w)(kb:Nat):∃G',Rel F G' (reown kb A) ts cst w:=by
 unfold Sym.reown HF
 generalize Al [] (ux kb 0 A.tm++zk 0 A.ob)=ps
 cases hb:A.stk.isEmpty&&(bv (ps.map (·.1))&&bv (ps.map (·.2))) with
 |false=>exact ⟨G,R⟩
 |true=>
  simp only[zA] at hb
  exact R.reOwn hb.2.1 hb.2.2
theorem Rel.canon0 {F:Fra}{G:Gh}{A:AS}{ts:Array Value}{cst:List (Array Value)}{w:World}(R:Rel F G A ts cst w)(m kb:Nat)(hkb:∀d,F.mu0 (kb+d)=none):∃G',Rel F G' (canon0 m kb A) ts cst w:=by
 have R1:Rel F G { A with tm:=Ai m 0 A.tm } ts cst w:=⟨pB m 0 R.tm,R.stk,R.ob,R.gh⟩
 have hks:∀k∈(List.range (A.ob.length - kb)).map (kb + ·),F.mu0 k=none:=fun k hk=>by
  obtain ⟨d,_,rfl⟩:=List.mem_map.1 hk
  exact hkb d
 obtain ⟨G2,R2⟩:=R1.gc _ hks
 obtain ⟨G3,R3⟩:=R2.gc _ hks
 exact ⟨G3,R3.tm,R3.stk,fun k cs hk=>R3.ob k cs (vD _ _ _ hk),R3.gh⟩
theorem Rel.canon {F:Fra}{G:Gh}{A:AS}{ts:Array Value}{cst:List (Array Value)}{w:World}(R:Rel F G A ts cst w)(m kb:Nat)(hkb:∀d,F.mu0 (kb+d)=none):∃G',Rel F G' (canon m kb A) ts cst w:=by
 obtain ⟨G1,R1⟩:=R.canon0 m kb hkb
 exact R1.reown kb
def ll (P:Program)(tt:TT)(okDraw:Dr):Prop:=
 ∀(hd:Hd),lK P hd→∀(R:Type) (F:Fra) (cst:List (Array Value)) (kb:Nat) (ops:Array Oper) (is:List (Nat×Nat)) (r:R) (Q:Exit→Act→World→Prop) (G:Gh) (A:AS) (a:Act) (w:World) (K:Ex→AS→Option R),
  (∀d,F.mu0 (kb+d)=none)→okDraw ops=some is→vN tt hd kb ops is [] A K=some r→Rel F G A a.tmps cst w→tC F cst a.defers r K Q→
  wpAny P .any ops Q ops.size (Array.replicate ops.size false) a { w with drawn:=w.drawn+1 }
def tB (P:Program)(kb:Nat)(b:Code)(h:Lh):Prop:=
 ∀(R:Type) (F:Fra) (cst:List (Array Value)) (r:R) (Q:Exit→Act→World→Prop) (G:Gh) (A:AS) (a:Act) (w:World) (K:Ex→AS→Option R),
  (∀d,F.mu0 (kb+d)=none)→h R A K=some r→Rel F G A a.tmps cst w→tC F cst a.defers r K Q→(Code.loop b).wp P Q a w
theorem gn (htt:cJ P tt)(hm:P.follows .mixedOrders=true){hd:Hd}(hh:lK P hd){okDraw:Dr}(hdr:ll P tt okDraw){lp:Lp}{R:Type}{F:Fra}{cst:List (Array Value)}{kb lr:Nat}(hkb:∀d,F.mu0 (kb+d)=none){r:R}:
  ∀(c:Code) {l:Nat} {x:List (Nat×Nat)},(∀e∈bB lr c l x,∀h,lp (cY e.2.1)=some h→tB P kb e.2.1 h)→∀{G:Gh} {A:AS} {a:Act} {w:World} {K:Ex→AS→Option R} {Q:Exit→Act→World→Prop},
  ev tt hd okDraw lp kb lr c l x A K=some r→Rel F G A a.tmps cst w→tC F cst a.defers r K Q→c.wp P Q a w:=by
 intro c
 induction c with
 |skip=>intro l x hlp G A a w K Q h Rl hK;exact wp_skip (hK .normal A G a w Rl rfl h)
 |label i=>intro l x hlp G A a w K Q h Rl hK;exact wp_label (hK .normal A G a w Rl rfl h)
 |exit i=>intro l x hlp G A a w K Q h Rl hK;exact wp_exit (hK (.exit i) A G a w Rl rfl h)
 |ret=>intro l x hlp G A a w K Q h Rl hK;exact wp_ret (hK .ret A G a w Rl rfl h)
 |region i ops draw=>
  intro l x hlp G A a w K Q h Rl hK
  simp only[ev] at h
  cases draw with
  |false=>
   simp only[cond_false] at h
   cases hmg:(okDraw #[]).isNone&&Hf tt ops with
   |false=>rw[hmg] at h;exact wp_region (lO htt hh hkb _ h Rl hK)
   |true=>
    rw[hmg] at h
    simp only[cond_true,Gg] at h
    split at h
    ·rename_i A' hA
     rw[AS.force_eq] at h
     exact wp_region (qw htt _ hA Rl fun a' R' hd'=>hK .normal A' G a' w R' hd' h)
    ·cases h
  |true=>
   simp only[cond_true] at h
   cases ho:okDraw ops with
   |none=>rw[ho] at h;cases h
   |some is=>
    rw[ho] at h
    exact wp_region_any hm (hdr hd hh R F cst kb ops is r Q G A a w K hkb ho h Rl hK)
 |seq c d ihc ihd=>
  intro l x hlp G A a w K Q h Rl hK
  simp only[ev] at h
  refine wp_seq (ihc (fun e he=>hlp e (by simp[bB,he])) h Rl ?_)
  intro ex A' G' a' w' R' hd' hk
  cases ex with
  |normal=>exact ihd (fun e he=>hlp e (by simp[bB,he])) hk R' (by rw[hd'];exact hK)
  |exit id=>exact hK _ A' G' a' w' R' hd' hk
  |ret=>exact hK _ A' G' a' w' R' hd' hk
  |panic v=>exact hK _ A' G' a' w' R' hd' hk
 |cond c t e iht ihe=>
  intro l x hlp G A a w K Q h Rl hK
  simp only[ev] at h
  have hc:=Rl.opd c
  split at h
  ·rename_i b e1
   rw[e1] at hc
   refine wp_cond (t:=b) hc ?_
   cases b with
   |true=>exact iht (fun e he=>hlp e (by simp[bB,he])) h Rl hK
   |false=>exact ihe (fun e he=>hlp e (by simp[bB,he])) h Rl hK
  ·cases h
 |block id b ih=>
  intro l x hlp G A a w K Q h Rl hK
  simp only[ev] at h
  refine wp_block (ih (fun e he=>hlp e (by simpa [bB] using he)) h Rl ?_)
  intro ex A' G' a' w' R' hd' hk
  cases ex with
  |normal=>exact hK .normal A' G' a' w' R' hd' hk
  |ret=>exact hK .ret A' G' a' w' R' hd' hk
  |panic v=>exact hK (.panic v) A' G' a' w' R' hd' hk
  |exit id'=>
   simp only at hk
   show (if id'=id then Q .normal a' w' else Q (.exit id') a' w')
   cases hi:id' == id with
   |true=>rw[hi] at hk;rw[if_pos (by simpa using hi)];exact hK .normal A' G' a' w' R' hd' hk
   |false=>rw[hi] at hk;rw[if_neg (by simpa using hi)];exact hK (.exit id') A' G' a' w' R' hd' hk
 |loop b ih=>
  intro l x hlp G A a w K Q h Rl hK
  simp only[ev] at h
  obtain ⟨G0,R0⟩:=Rl.canon (sj lr b 0 x) kb hkb
  split at h
  ·rename_i g hg
   exact hlp (sj lr b 0 x,b,x) (by simp[bB]) g hg R F cst r Q G0 _ a w K hkb h R0 hK
  ·cases h
 |rangeFunc f ps asg b _ _=>intro l x hlp G A a w K Q h;simp[ev] at h
 |scope b _=>intro l x hlp G A a w K Q h;simp[ev] at h
 |goto i=>intro l x hlp G A a w K Q h;simp[ev] at h
 |refuse s=>intro l x hlp G A a w K Q h;simp[ev] at h
theorem Cg (htt:cJ P tt)(hm:P.follows .mixedOrders=true){hd:Hd}(hh:lK P hd){okDraw:Dr}(hdr:ll P tt okDraw){lp:Lp}{R:Type}{F:Fra}{cst:List (Array Value)}{kb lr:Nat}(hkb:∀d,F.mu0 (kb+d)=none){r:R}
  {b:Code} {m:Nat} {x:List (Nat×Nat)} (hlp:∀e∈bB lr b m x,∀h,lp (cY e.2.1)=some h→tB P kb e.2.1 h) {n:Nat} {G:Gh} {A:AS} {a:Act} {w:World} {K:Ex→AS→Option R} {Q:Exit→Act→World→Prop}
  (h:uE m kb (fun A K=>ev tt hd okDraw lp kb lr b m x A K) n A K=some r) (Rl:Rel F G A a.tmps cst w) (hK:tC F cst a.defers r K Q):(Code.loop b).wp P Q a w:=by
 refine wp_loop_ghost (fun k a' w'=>∃G A,Rel F G A a'.tmps cst w'∧a'.defers=a.defers∧
  uE m kb (fun A K=>ev tt hd okDraw lp kb lr b m x A K) k A K=some r) n ⟨G,_,Rl,rfl,h⟩ ?_
 rintro k a1 w1 ⟨G1,A1,R1,hd1,h1⟩
 cases k with
 |zero=>simp[uE] at h1
 |succ k=>
  simp only[uE] at h1
  refine gn htt hm hh hdr hkb b hlp h1 R1 ?_
  intro ex A' G' a' w' R' hd' hk
  cases ex with
  |normal=>
   obtain ⟨G2,R2⟩:=R'.canon m kb hkb
   exact ⟨k,Nat.lt_succ_self k,G2,_,R2,hd'.trans hd1,hk⟩
  |exit id=>exact hK _ A' G' a' w' R' (hd'.trans hd1) hk
  |ret=>exact hK _ A' G' a' w' R' (hd'.trans hd1) hk
  |panic v=>exact hK _ A' G' a' w' R' (hd'.trans hd1) hk
end
end Go.Proofs.YthpcdhgpplmneaaGreatDoor.Sym
namespace Go.Proofs.YthpcdhgpplmneaaGreatDoor.Sym
open Go
noncomputable section
inductive Sh where
 |dat (t:Ty) (agg own:Bool)
 |ptr (n off:Nat)
 |fnc (f:Nat) (q:Bool) (ns:List Nat)
 |nil
@[reducible] def Sh.den:Sh→Type
 |.dat t _ _=>t.den
 |.ptr _ _=>Unit
 |.fnc _ _ _=>Unit
 |.nil=>Unit
@[reducible] def ng:List Sh→Type
 |[]=>Unit
 |s::ss=>s.den×ng ss
@[reducible] def sh:List (List Sh)→Type
 |[]=>Unit
 |o::os=>ng o×sh os
abbrev Bn:=List (Option Nat)
def Bn.at (β:Bn)(n:Nat):Option Nat:=β.getD n none
def Rm (β:Bn)(n key:Nat):Option Bn:=match β[n]? with
 |some none=>bif β.any (· == some key) then none else some (β.set n (some key))
 |some (some k)=>bif k == key then some β else none
 |none=>none
def A4 (β:Bn):List Nat→List Cp→Option Bn
 |[],[]=>some β
 |n::ns,.ptr k o::cs=>bif o == 0 then match Rm β n k with
  |some β'=>A4 β' ns cs
  |none=>none
  else none
 |_,_=>none
def Nw (β:Bn):List Nat→Option (List Cp)
 |[]=>some []
 |n::ns=>match β.at n,Nw β ns with
  |some k,some cs=>some (.ptr k 0::cs)
  |_,_=>none
def me:V→Nat
 |.one (.lst _ _ _ o)=>o
 |_=>0
def mV:(s:Sh)→V→Bn→Option (s.den×Bn)
 |.dat t agg own,v,β=>match fO t v with
  |some x=>bif (v.isAgg == agg)&&(!own || !(me v == 0)) then some (x,β) else none
  |none=>none
 |.ptr n off,v,β=>match v with
  |.one (.ptr k o)=>bif o == off then match Rm β n k with
   |some β'=>some ((),β')
   |none=>none
   else none
  |_=>none
 |.fnc f q ns,v,β=>match v with
  |.one (.fn f' q' caps)=>bif f' == f&&q' == q then match A4 β ns caps with
   |some β'=>some ((),β')
   |none=>none
   else none
  |_=>none
 |.nil,v,β=>match v with
  |.one .nilp=>some ((),β)
  |_=>none
def sk:(ss:List Sh)→List V→Bn→Option (ng ss×Bn)
 |[],[],β=>some ((),β)
 |s::ss,v::vs,β=>match mV s v β with
  |some (x,β')=>match sk ss vs β' with
   |some (xs,β'')=>some ((x,xs),β'')
   |none=>none
  |none=>none
 |_,_,_=>none
def JE (ob:List (Option (List C))):(os:List (List Sh))→(i:Nat)→Bn→Option (sh os×Bn)
 |[],_,β=>some ((),β)
 |o::os,i,β=>match β.at i with
  |some k=>match ob.getD k none with
   |some cs=>match sk o (cs.map .one) β with
    |some (x,β')=>match JE ob os (i+1) β' with
     |some (xs,β'')=>some ((x,xs),β'')
     |none=>none
    |none=>none
   |none=>none
  |none=>none
def QN:Sh→V→Nat→List (Nat×Nat)
 |.dat _ _ own,v,id=>bif own then [(id,me v)] else []
 |.ptr _ _,_,_=>[]
 |.fnc _ _ _,_,_=>[]
 |.nil,_,_=>[]
def ga (f:Nat→Nat):List Sh→List V→Nat→List (Nat×Nat)
 |s::ss,v::vs,i=>QN s v (f i)++ga f ss vs (i+1)
 |_,_,_=>[]
def li (ob:List (Option (List C)))(β β':Bn):List (List Sh)→Nat→List (Nat×Nat)
 |[],_=>[]
 |o::os,i=>match β.at i,β'.at i with
  |some k,some k'=>ga (cn k') o (((ob.getD k none).getD []).map .one) 0++li ob β β' os (i+1)
  |_,_=>[]
def Nr (β:Bn):(s:Sh)→s.den→Nat→V
 |.dat t agg own,x,id=>match own&&!agg,t,x with
  |true,.sl e t',x=>.one (.lst e t' x id)
  |_,t,x=>bif agg then .agg (qf t x) else match qf t x with
   |[c]=>.one c
   |_=>.any
 |.ptr n off,_,_=>match β.at n with
  |some k=>.one (.ptr k off)
  |none=>.any
 |.fnc f q ns,_,_=>match Nw β ns with
  |some cs=>.one (.fn f q cs)
  |none=>.any
 |.nil,_,_=>.one .nilp
def sn (β:Bn)(f:Nat→Nat):(ss:List Sh)→ng ss→Nat→List V
 |[],_,_=>[]
 |s::ss,x,i=>Nr β s x.1 (f i)::sn β f ss x.2 (i+1)
def CZ (β:Bn):(os:List (List Sh))→sh os→Nat→List (Option (List C))→List (Option (List C))
 |[],_,_,ob=>ob
 |o::os,x,i,ob=>match β.at i with
  |some k=>CZ β os x.2 (i+1) (ob.set k (some ((sn β (cn k) o x.1 0).flatMap V.cells)))
  |none=>ob
inductive Out (α β:Type) where
 |ret (a:α)
 |pan (b:β)
@[reducible] def yV:Option (Nat×Ty)→Type
 |some p=>p.2.den
 |none=>Empty
structure Io where
 args:List Sh
 obs:List (List Sh)
 nobs:List (List Sh)
 res:List Sh
 pan:Option (Nat×Ty)
abbrev Io.In (io:Io):Type:=ng io.args×sh io.obs
abbrev Io.Res (io:Io):Type:=Out (ng io.res×sh (io.obs++io.nobs)) (yV io.pan)
def lM (n m:Nat):Bn:=(List.range n).map some++List.replicate m none
def Io.start (io:Io)(nt:Nat)(d:io.In):AS:=
 ⟨sn (lM io.obs.length 0) (cV 0) io.args d.1 0++List.replicate (nt - io.args.length) .any,[],CZ (lM io.obs.length 0) io.obs d.2 0 (List.replicate io.obs.length none)⟩
def vW (tt:TT)(A:AS):ResultVar→V
 |.tmp t=>A.get t
 |.cell t ty=>match A.get t with
  |.one (.ptr k o)=>match A.ob[k]? with
   |some (some cs)=>bif !cs.any C.isItr&&decide (o+(tt.at ty).size≤cs.length) then (iG tt ty ((cs.drop o).take (tt.at ty).size)).getD .any else .any
   |_=>.any
  |_=>.any
def kf (tt:TT)(io:Io)(fn:Func)(A:AS):Option io.Res:=
 match sk io.res (fn.results.toList.map (vW tt A)) (lM io.obs.length io.nobs.length) with
 |some (r,β)=>match JE A.ob (io.obs++io.nobs) 0 β with
  |some (o,β')=>bif bv ((ga id io.res (fn.results.toList.map (vW tt A)) 0++li A.ob β' β' (io.obs++io.nobs) 0).map (·.2)) then some (.ret (r,o)) else none
  |none=>none
 |none=>none
def HA:(p:Option (Nat×Ty))→V→Option (yV p)
 |some (T,t),.one (.ifc T' t' x)=>if h:T'=T∧t'=t then some (h.2▸x) else none
 |_,_=>none
def Q6:(p:Option (Nat×Ty))→yV p→V
 |some (T,t),x=>.one (.ifc T t x)
 |none,x=>nomatch x
def Io.fin (tt:TT)(io:Io)(fn:Func)(ex:Ex)(A:AS):Option io.Res:=
 match ex with
 |.ret=>kf tt io fn A
 |.normal=>kf tt io fn A
 |.panic v=>match HA io.pan v with
  |some x=>some (.pan x)
  |none=>none
 |_=>none
def mb (fn:Func):Nat:=fn.results.toList.foldl (fun l r=>match r with | .tmp t=>l ||| 2 ^ t | .cell t _=>l ||| 2 ^ t) 0
def Io.run (tt:TT)(hd:Hd)(okDraw:Dr)(lp:Lp)(io:Io)(fn:Func)(d:io.In):Option io.Res:=
 match fn.body with
 |some c=>ev tt hd okDraw lp io.obs.length (mb fn) c (mb fn) [] (io.start fn.ntmps d) (io.fin tt fn)
 |none=>none
inductive Tr (α:Type) where
 |ret (a:α) | no | ite (c:Bool) (t e:Tr α)
def Tr.run {α R:Type}:Tr α→(α→Option R)→Option R
 |.ret a,K=>K a
 |.no,_=>none
 |.ite c t e,K=>bif c then t.run K else e.run K
def Tr.val {α:Type}(t:Tr α):Option α:=t.run some
theorem Tr.run_val {α R:Type}:∀{t:Tr α} {K:α→Option R} {r:R},t.run K=some r→∃a,t.val=some a∧K a=some r
 |.ret a,K,r,h=>⟨a,rfl,h⟩
 |.no,K,r,h=>by cases h
 |.ite c t e,K,r,h=>by
  cases c with
  |true=>exact Tr.run_val (t:=t) h
  |false=>exact Tr.run_val (t:=e) h
def C.strip (I Ks:List Nat)(c:C):C:=
 bif Ks.any fun k=>c.hasKey k then .top else match c with
  |.lst e t xs own=>bif I.any (· == own) then .lst e t xs 0 else .lst e t xs own
  |.ex e t lo xs i j=>bif I.any (· == i) || I.any (· == j) then .top else .ex e t lo xs i j
  |.eel t k x i j=>bif I.any (· == i) || I.any (· == j) then .top else .eel t k x i j
  |c=>c
def Qx:List V→V
 |[v]=>v
 |vs=>.tup (vs.map fun v=>(v.isAgg,v.cells))
def Q8 (β:Bn)(id:Nat)(ss:List Sh)(x:ng ss):V:=Qx (sn β (fun i=>id+1048576*i) ss x 0)
def j5 (f:Nat→Nat):List Sh→Nat→List Nat
 |.dat _ _ own::ss,i=>(bif own then [f i] else [])++j5 f ss (i+1)
 |.ptr _ _::ss,i=>j5 f ss (i+1)
 |.fnc _ _ _::ss,i=>j5 f ss (i+1)
 |.nil::ss,i=>j5 f ss (i+1)
 |[],_=>[]
def uR (β:Bn):List (List Sh)→Nat→List Nat
 |[],_=>[]
 |o::os,i=>match β.at i with
  |some k=>j5 (cn k) o 0++uR β os (i+1)
  |none=>[]
def Sh.cellB:Sh→Bool
 |.dat _ agg _=>!agg
 |.ptr _ _=>true
 |.fnc _ _ _=>true
 |.nil=>true
def Io.ok (io:Io):Bool:=(io.obs++io.nobs).all (·.all Sh.cellB)
def Qz {α:Type}:List Nat→List (Option α)→List (Option α)
 |[],ob=>ob
 |k::ks,ob=>Qz ks (ob.set k none)
def ah (io:Io)(F:io.In→Tr io.Res)(R:Type)(args:List V)(id:Nat)(A:AS)(K:Oc→AS→Option R):Option R:=
 match sk io.args args (List.replicate io.obs.length none) with
 |none=>none
 |some (a,β1)=>match JE A.ob io.obs 0 β1 with
  |none=>none
  |some (o,β)=>
   let ow:=ga (cV 0) io.args args 0++li A.ob β (lM io.obs.length 0) io.obs 0
   let us:=ow.map (·.2)
   bif bv us&&(bv (ow.map (·.1))&&io.ok) then (F (a,o)).run fun out=>match out with
    |.pan x=>
     let A':=A.map (C.strip us [])
     ({ A' with ob:=Qz (β.map (·.getD 0)) A'.ob }:AS).force (K (.pan (Q6 io.pan x)))
    |.ret (r,o')=>
     let base:=max (id / 2) A.ob.length
     let β':=β++(List.range io.nobs.length).map fun j=>some (base+j)
     let news:=(List.range io.nobs.length).map (base + ·)
     let ids:=j5 (fun i=>id+1048576*i) io.res 0++uR β' (io.obs++io.nobs) 0
     let A':=A.map (C.strip (us++ids) news)
     bif bv ids then (Q8 β' id io.res r).force fun v=>({ A' with ob:=CZ β' (io.obs++io.nobs) o' 0 (A'.ob++List.replicate (base+io.nobs.length - A'.ob.length) none) }:AS).force (K (.ret v (some (β.map (·.getD 0)++news)))) else none
   else none
end
end Go.Proofs.YthpcdhgpplmneaaGreatDoor.Sym
namespace Go.Proofs.YthpcdhgpplmneaaGreatDoor.Sym
open Go
def Dv (S:Nat→Nat→Prop)(w:World)(m:Nat→Option Nat):(s:Sh)→s.den→Value→Prop
 |.dat t agg _,x,u=>Rt S w t x u.cells.toList∧vE u=agg∧(agg=false→u.oneCell'=true)
 |.ptr n off,_,u=>∃b,m n=some b∧u=.pointer (some ⟨b,off,none⟩)
 |.fnc f q ns,_,u=>∃us,u=pg f q us∧All2 (fun n v=>∃b,m n=some b∧v=.pointer (some ⟨b,0,none⟩)) ns us.toList
 |.nil,_,u=>u=.pointer none
def Rk (S:Nat→Nat→Prop)(w:World)(m:Nat→Option Nat):(ss:List Sh)→ng ss→List Value→Prop
 |[],_,us=>us=[]
 |s::ss,x,us=>∃u us',us=u::us'∧Dv S w m s x.1 u∧Rk S w m ss x.2 us'
def Rq (S:Nat→Nat→Prop)(w:World)(m:Nat→Option Nat):(os:List (List Sh))→sh os→Nat→Prop
 |[],_,_=>True
 |o::os,x,i=>(∃b cur el,m i=some b∧w.heap[b]?=some (.cells cur el (0,0))∧Rk S w m o x.1 cur.toList)∧Rq S w m os x.2 (i+1)
def OwOne (G:Gh)(w:World)(id:Nat):Sh→Value→Prop
 |.dat (.sl _ t) false true,u=>∀A n cap,u=.slice A n cap→Own G w id n A cap t.size
 |_,_=>True
def QJ (G:Gh)(w:World)(f:Nat→Nat):List Sh→List Value→Nat→Prop
 |s::ss,u::us,i=>OwOne G w (f i) s u∧QJ G w f ss us (i+1)
 |_,_,_=>True
def OwV (G:Gh)(w:World):List Sh→List V→List Value→Prop
 |s::ss,v::vs,u::us=>(OwOne G w (me v) s u∧∀t agg,s=.dat t agg true→me v≠0)∧OwV G w ss vs us
 |_,_,_=>True
theorem Bn.at_set {β:Bn}{n k j:Nat}(h:β[n]?=some none):Bn.at (β.set n (some k)) j=if j=n then some k else β.at j:=by
 unfold Bn.at
 have hn:n<β.length:=(List.getElem?_eq_some_iff.1 h).1
 rw[List.getD_eq_getElem?_getD,List.getD_eq_getElem?_getD,List.getElem?_set]
 by_cases e:n=j
 ·subst e;simp[hn]
 ·simp[e,Ne.symm e]
def Bn.le (β β':Bn):Prop:=∀n k,β.at n=some k→β'.at n=some k
theorem Bn.le.refl (β:Bn):β.le β:=fun _ _ h=>h
theorem Bn.le.trans {β β' β'':Bn}(h:β.le β')(h':β'.le β''):β.le β'':=fun n k hk=>h' n k (h n k hk)
def Bn.inj (β:Bn):Prop:=∀i j k,β.at i=some k→β.at j=some k→i=j
theorem wi {β β':Bn}{n k:Nat}(h:Rm β n k=some β'):β.le β'∧β'.at n=some k∧(β.inj→β'.inj)∧β'.length=β.length:=by
 unfold Rm at h
 split at h
 ·rename_i hn
  cases ha:β.any (· == some k) with
  |true=>rw[ha] at h;cases h
  |false=>
   rw[ha] at h
   simp only[cond_false,zC] at h
   subst h
   have hno:∀j,β.at j≠some k:=by
    intro j hj
    unfold Bn.at at hj
    rw[List.getD_eq_getElem?_getD] at hj
    cases hg:β[j]? with
    |none=>rw[hg] at hj;cases hj
    |some y=>
     rw[hg] at hj
     simp only[Option.getD_some] at hj
     subst hj
     rw[List.any_eq_false] at ha
     exact ha _ (List.mem_of_getElem? hg) (by simp)
   refine ⟨fun j k' hj=>?_,by rw[Bn.at_set hn,if_pos rfl],fun hi i j k' h1 h2=>?_,by simp⟩
   ·rw[Bn.at_set hn]
    split
    ·rename_i e;subst e
     unfold Bn.at at hj;rw[List.getD_eq_getElem?_getD,hn] at hj;cases hj
    ·exact hj
   ·rw[Bn.at_set hn] at h1 h2
    split at h1 <;> split at h2
    ·rename_i e1 e2;exact e1.trans e2.symm
    ·cases h1;exact absurd h2 (hno j)
    ·cases h2;exact absurd h1 (hno i)
    ·exact hi i j k' h1 h2
 ·rename_i k' hn
  cases he:k' == k with
  |false=>rw[he] at h;cases h
  |true=>
   rw[he] at h
   simp only[cond_true,zC] at h
   subst h
   rw[beq_iff_eq] at he
   subst he
   refine ⟨.refl _,?_,id,rfl⟩
   unfold Bn.at;rw[List.getD_eq_getElem?_getD,hn];rfl
 ·cases h
theorem tD:∀{ns:List Nat} {cs:List Cp} {β β':Bn},A4 β ns cs=some β'→(β.le β'∧(β.inj→β'.inj)∧β'.length=β.length)∧All2 (fun n c=>∃k,c=Cp.ptr k 0∧β'.at n=some k) ns cs
 |[],[],β,β',h=>by
  simp only[A4,zC] at h
  subst h
  exact ⟨⟨.refl _,id,rfl⟩,trivial⟩
 |n::ns,.ptr k o::cs,β,β',h=>by
  simp only[A4] at h
  cases ho:o == 0 with
  |false=>rw[ho] at h;cases h
  |true=>
   rw[ho] at h
   simp only[cond_true] at h
   split at h
   ·rename_i β1 h1
    rw[beq_iff_eq] at ho
    subst ho
    obtain ⟨a1,a2,a3,a4⟩:=wi h1
    obtain ⟨⟨b1,b2,b3⟩,b4⟩:=tD h
    exact ⟨⟨a1.trans b1,fun h=>b2 (a3 h),b3.trans a4⟩,⟨k,rfl,b1 n k a2⟩,b4⟩
   ·cases h
 |[],_::_,_,_,h=>by simp[A4] at h
 |_::_,[],_,_,h=>by simp[A4] at h
 |_::_,.dat _ _::_,_,_,h=>by simp[A4] at h
theorem t6 {G:Gh}{w:World}{m:Nat→Option Nat}{β:Bn}(hm:∀n b,m n=some b→∃k,β.at n=some k∧G.mu k=some b):∀{ns:List Nat} {us:List Value},
  All2 (fun n v=>∃b,m n=some b∧v=.pointer (some ⟨b,0,none⟩)) ns us→∃cs,Nw β ns=some cs∧All2 (Rcp G w) cs us
 |[],[],_=>⟨[],rfl,trivial⟩
 |n::ns,u::us,⟨⟨b,hb,e⟩,h⟩=>by
  obtain ⟨k,hk,hmu⟩:=hm n b hb
  obtain ⟨cs,hc,h'⟩:=t6 hm h
  exact ⟨.ptr k 0::cs,by simp only[Nw,hk,hc],⟨b,hmu,e⟩,h'⟩
 |[],_::_,h=>h.elim
 |_::_,[],h=>h.elim
theorem QR {G:Gh}{w:World}{β:Bn}{βf:Bn}(hf:β.le βf):∀{ns:List Nat} {cs:List Cp} {us:List Value},All2 (fun n c=>∃k,c=Cp.ptr k 0∧β.at n=some k) ns cs→All2 (Rcp G w) cs us→
  All2 (fun n v=>∃b,(βf.at n).bind G.mu=some b∧v=.pointer (some ⟨b,0,none⟩)) ns us
 |[],[],[],_,_=>trivial
 |_::_,_::_,_::_,⟨⟨k,e,hk⟩,h⟩,⟨h1,h2⟩=>by
  subst e
  obtain ⟨b,hb,ev⟩:=h1
  exact ⟨⟨b,by simp[hf _ k hk,hb],ev⟩,QR hf h h2⟩
 |[],[],_::_,_,h=>h.elim
 |[],_::_,_,h,_=>h.elim
 |_::_,[],_,h,_=>h.elim
 |_::_,_::_,[],_,h=>h.elim
theorem mD {u:Value}(h:u.oneCell'=true):vE u=false:=by cases u <;> first | rfl | cases h
theorem Lw {G:Gh}{w:World}:∀{s:Sh} {v:V} {β β':Bn} {x:s.den} {u:Value},mV s v β=some (x,β')→Rv G w v u→
  (β.le β'∧(β.inj→β'.inj)∧β'.length=β.length)∧(∀βf:Bn,β'.le βf→Dv G.S w (fun n=>(βf.at n).bind G.mu) s x u)∧OwOne G w (me v) s u∧∀t agg,s=.dat t agg true→me v≠0:=by
 intro s v β β' x u h hr
 cases s with
 |dat t agg own=>
  simp only[mV] at h
  split at h
  ·rename_i y hy
   cases hb:(v.isAgg == agg)&&(!own || !(me v == 0)) with
   |false=>rw[hb] at h;cases h
   |true=>
    rw[hb] at h
    simp only[cond_true,zC,zD] at h
    obtain ⟨rfl,rfl⟩:=h
    simp only[zA,beq_iff_eq,Bool.or_eq_true,Bool.not_eq_true',beq_eq_false_iff_ne] at hb
    obtain ⟨hb1,hb2⟩:=hb
    have hrt:=gl hy hr
    have hown:∀t' agg',Sh.dat t agg own=.dat t' agg' true→me v≠0:=by
     intro t' agg' e
     cases e
     rcases hb2 with h | h
     ·cases h
     ·exact h
    refine ⟨⟨.refl _,id,rfl⟩,fun βf _=>⟨hrt,?_,?_⟩,?_,hown⟩
    ·rw[← hb1]
     cases v with
     |one c=>exact mD (Rc.cell hr)
     |agg cs=>obtain ⟨vs,rfl,_⟩:=hr;rfl
     |tup ps=>simp[fO] at hy
     |any=>simp[fO] at hy
    ·intro ha
     rw[ha] at hb1
     cases v with
     |one c=>exact Rc.cell hr
     |agg cs=>cases hb1
     |tup ps=>simp[fO] at hy
     |any=>simp[fO] at hy
    ·cases t <;> cases agg <;> cases own <;> simp only[OwOne]
     rename_i e t'
     intro A n cap eu
     have h0:=hown _ _ rfl
     cases v with
     |one c=>
      cases c <;> simp only[me] at h0 ⊢ <;> try (exact absurd rfl h0)
      rename_i e2 t2 xs2 o2
      obtain ⟨A2,cap2,eu2,_,_,_,ho⟩:=hr
      rw[eu] at eu2
      simp only[Value.slice.injEq] at eu2
      obtain ⟨rfl,rfl,rfl⟩:=eu2
      simp only[fO] at hy
      split at hy
      ·rename_i z hz
       simp only[bS] at hz
       split at hz
       ·rename_i z' hz'
        simp only[dC] at hz'
        split at hz'
        ·rename_i he;obtain ⟨_,rfl⟩:=he;exact ho
        ·cases hz'
       ·cases hz
      ·cases hy
     |agg cs=>cases hb1
     |tup ps=>simp[fO] at hy
     |any=>simp[fO] at hy
  ·cases h
 |ptr n off=>
  simp only[mV] at h
  split at h
  ·rename_i k o
   cases ho:o == off with
   |false=>rw[ho] at h;cases h
   |true=>
    rw[ho] at h
    simp only[cond_true] at h
    split at h
    ·rename_i β1 hβ
     simp only[zC,zD] at h
     obtain ⟨_,rfl⟩:=h
     rw[beq_iff_eq] at ho
     subst ho
     obtain ⟨h1,h2,h3,h4⟩:=wi hβ
     obtain ⟨b,hb,eu⟩:=hr
     refine ⟨⟨h1,h3,h4⟩,fun βf hf=>⟨b,by simp[hf n k h2,hb],eu⟩,trivial,fun t agg e=>by cases e⟩
    ·cases h
  ·cases h
 |fnc f q ns=>
  simp only[mV] at h
  split at h
  ·rename_i f' q' caps
   cases ho:f' == f&&q' == q with
   |false=>rw[ho] at h;cases h
   |true=>
    rw[ho] at h
    simp only[cond_true] at h
    split at h
    ·rename_i β1 hβ
     simp only[zC,zD] at h
     obtain ⟨_,rfl⟩:=h
     simp only[zA,beq_iff_eq] at ho
     obtain ⟨rfl,rfl⟩:=ho
     obtain ⟨h1,h2⟩:=tD hβ
     obtain ⟨us,eu,hus⟩:=hr
     exact ⟨h1,fun βf hf=>⟨us,eu,QR hf h2 hus⟩,trivial,fun t agg e=>by cases e⟩
    ·cases h
  ·cases h
 |nil=>
  simp only[mV] at h
  split at h
  ·simp only[zC,zD] at h
   obtain ⟨_,rfl⟩:=h
   exact ⟨⟨.refl _,id,rfl⟩,fun βf _=>hr,trivial,fun t agg e=>by cases e⟩
  ·cases h
theorem mZ {G:Gh}{w:World}:∀{ss:List Sh} {vs:List V} {β β':Bn} {x:ng ss} {us:List Value},sk ss vs β=some (x,β')→All2 (Rv G w) vs us→
  (β.le β'∧(β.inj→β'.inj)∧β'.length=β.length)∧(∀βf:Bn,β'.le βf→Rk G.S w (fun n=>(βf.at n).bind G.mu) ss x us)∧OwV G w ss vs us
 |[],[],β,β',x,[],h,_=>by
  simp only[sk,zC,zD] at h
  obtain ⟨_,rfl⟩:=h
  exact ⟨⟨.refl _,id,rfl⟩,fun _ _=>rfl,trivial⟩
 |s::ss,v::vs,β,β',x,u::us,h,hr=>by
  simp only[sk] at h
  split at h
  ·rename_i x1 β1 h1
   split at h
   ·rename_i xs β2 h2
    simp only[zC,zD] at h
    obtain ⟨rfl,rfl⟩:=h
    obtain ⟨⟨a1,a2,a3⟩,a4,a5,a6⟩:=Lw h1 hr.1
    obtain ⟨⟨b1,b2,b3⟩,b4,b5⟩:=mZ h2 hr.2
    exact ⟨⟨a1.trans b1,fun h=>b2 (a2 h),b3.trans a3⟩,fun βf hf=>⟨u,us,rfl,a4 βf (b1.trans hf),b4 βf hf⟩,⟨a5,a6⟩,b5⟩
   ·cases h
  ·cases h
 |[],_::_,_,_,_,_,h,_=>by simp[sk] at h
 |_::_,[],_,_,_,_,h,_=>by simp[sk] at h
 |_::_,_::_,_,_,_,[],_,hr=>hr.elim
 |[],[],_,_,_,_::_,_,hr=>hr.elim
theorem Own.to {G G':Gh}{w w':World}{o id n cap size:Nat}{A:Option Addr}(h:Own G w o n A cap size)(h0:o≠0)(hG:∀b l,G.ow o=some (b,l)→G'.ow id=some (b,l)∧w'.heap[b]?=w.heap[b]?):Own G' w' id n A cap size:=by
 rcases h with h | h | ⟨b,cur,el,e,h1,h2,h3⟩
 ·exact absurd h h0
 ·exact .inr (.inl h)
 ·obtain ⟨g1,g2⟩:=hG b _ h1
  exact .inr (.inr ⟨b,cur,el,e,g1,g2.trans h2,h3⟩)
theorem OwOne.to {G G':Gh}{w w':World}{o id:Nat}{s:Sh}{u:Value}(h:OwOne G w o s u)(h0:∀t agg,s=.dat t agg true→o≠0)
  (hG:∀t agg,s=.dat t agg true→∀b l,G.ow o=some (b,l)→G'.ow id=some (b,l)∧w'.heap[b]?=w.heap[b]?):OwOne G' w' id s u:=by
 cases s with
 |ptr n off=>trivial
 |fnc f q ns=>trivial
 |nil=>trivial
 |dat t agg own=>
  cases t <;> cases agg <;> cases own <;> simp only[OwOne] at h ⊢
  intro A n cap e
  exact (h A n cap e).to (h0 _ _ rfl) (hG _ _ rfl)
theorem OwV.to {G G':Gh}{w w':World}(f:Nat→Nat):∀{ss:List Sh} {vs:List V} {us:List Value} (i:Nat),OwV G w ss vs us→vs.length=us.length→
  (∀p∈ga f ss vs i,∀b l,G.ow p.2=some (b,l)→G'.ow p.1=some (b,l)∧w'.heap[b]?=w.heap[b]?)→QJ G' w' f ss us i
 |[],_,_,_,_,_,_=>trivial
 |_::_,_,[],_,_,_,_=>trivial
 |_::_,[],_::_,_,_,hl,_=>by simp at hl
 |s::ss,v::vs,u::us,i,h,hl,hG=>by
  refine ⟨h.1.1.to h.1.2 ?_,OwV.to f (i+1) h.2 (by simpa using hl) fun p hp=>hG p (by simp only[ga,List.mem_append];exact .inr hp)⟩
  rintro t agg rfl b l hb
  exact hG (f i,me v) (by simp[ga,QN]) b l hb
theorem Rt.single {S:Nat→Nat→Prop}{w:World}{t:Ty}{x:t.den}{u:Value}(h:Rt S w t x u.cells.toList)(hu:u.oneCell'=true){G:Gh}(hS:G.S=S):∃c,qf t x=[c]∧Rc G w c u:=by
 have hc:u.cells = #[u]:=by cases u <;> first | rfl | cases hu
 rw[hc] at h
 subst hS
 have hs:=cr (G:=G) (w:=w) t x [u] h
 cases ht:qf t x with
 |nil=>rw[ht] at hs;exact hs.elim
 |cons c cs=>
  rw[ht] at hs
  cases cs with
  |nil=>exact ⟨c,rfl,hs.1⟩
  |cons _ _=>exact hs.2.elim
theorem Iv {G:Gh}{w:World}{m:Nat→Option Nat}{β:Bn}{id:Nat}:∀{s:Sh} {x:s.den} {u:Value},Dv G.S w m s x u→(∀n b,m n=some b→∃k,β.at n=some k∧G.mu k=some b)→OwOne G w id s u→
  Rv G w (Nr β s x id) u∧(s.cellB=true→∃c,Nr β s x id=.one c)∧(Nr β s x id).solid=true∧(Nr β s x id).isAgg=vE u:=by
 intro s x u h hm ho
 cases s with
 |ptr n off=>
  obtain ⟨b,hb,eu⟩:=h
  obtain ⟨k,hk,hmu⟩:=hm n b hb
  simp only[Nr,hk]
  exact ⟨⟨b,hmu,eu⟩,fun _=>⟨_,rfl⟩,rfl,by rw[eu];rfl⟩
 |fnc f q ns=>
  obtain ⟨us,eu,hus⟩:=h
  obtain ⟨cs,hc,hcs⟩:=t6 (w:=w) hm hus
  simp only[Nr,hc]
  exact ⟨⟨us,eu,hcs⟩,fun _=>⟨_,rfl⟩,rfl,by rw[eu];cases q <;> rfl⟩
 |nil=>
  have eu:u=.pointer none:=h
  exact ⟨eu,fun _=>⟨_,rfl⟩,rfl,by rw[eu];rfl⟩
 |dat t agg own=>
  obtain ⟨hr,ha,hone⟩:=h
  cases hoa:own&&!agg with
  |true=>
   simp only[zA,Bool.not_eq_true'] at hoa
   obtain ⟨rfl,rfl⟩:=hoa
   have hu:=hone rfl
   obtain ⟨c,hc,hrc⟩:=hr.single hu (G:=G) rfl
   cases t with
   |sl e t'=>
    simp only[Nr,Bool.not_false,Bool.and_self]
    have hcells:u.cells = #[u]:=by cases u <;> first | rfl | cases hu
    rw[hcells] at hr
    obtain ⟨A,cap,eu,h1,h2,h3⟩:=hr
    simp only[List.cons.injEq,and_true] at eu
    exact ⟨⟨A,cap,eu,h1,h2,h3,ho A _ cap eu⟩,fun _=>⟨_,rfl⟩,rfl,by rw[eu];rfl⟩
   |_=>
    simp only[Nr,Bool.not_false,Bool.and_self,cond_false,hc]
    exact ⟨hrc,fun _=>⟨_,rfl⟩,rfl,by rw[mD hu];rfl⟩
  |false=>
   simp only[Nr,hoa]
   cases agg with
   |true=>
    simp only[cond_true]
    have hu:∃vs,u=.agg vs:=by cases u <;> simp[vE] at ha;exact ⟨_,rfl⟩
    obtain ⟨vs,rfl⟩:=hu
    exact ⟨⟨vs,rfl,cr t x _ hr⟩,fun h=>by simp[Sh.cellB] at h,rfl,rfl⟩
   |false=>
    simp only[cond_false]
    have hu:=hone rfl
    obtain ⟨c,hc,hrc⟩:=hr.single hu (G:=G) rfl
    rw[hc]
    exact ⟨hrc,fun _=>⟨c,rfl⟩,rfl,by rw[mD hu];rfl⟩
theorem kS {G:Gh}{w:World}{m:Nat→Option Nat}{β:Bn}(f:Nat→Nat):∀{ss:List Sh} {x:ng ss} {us:List Value} (i:Nat),Rk G.S w m ss x us→(∀n b,m n=some b→∃k,β.at n=some k∧G.mu k=some b)→QJ G w f ss us i→
  All2 (Rv G w) (sn β f ss x i) us∧(ss.all Sh.cellB=true→All2 (Rc G w) ((sn β f ss x i).flatMap V.cells) us)∧(∀v∈sn β f ss x i,v.solid=true)∧(sn β f ss x i).length=ss.length
 |[],_,us,_,h,_,_=>by
  have:us=[]:=h
  subst this
  exact ⟨trivial,fun _=>trivial,by simp[sn],rfl⟩
 |s::ss,x,us,i,h,hm,ho=>by
  obtain ⟨u,us',rfl,h1,h2⟩:=h
  obtain ⟨a1,a2,a3,_⟩:=Iv (β:=β) (id:=f i) h1 hm ho.1
  obtain ⟨b1,b2,b3,b4⟩:=kS f (i+1) h2 hm ho.2
  refine ⟨⟨a1,b1⟩,fun hc=>?_,?_,by simp[sn,b4]⟩
  ·simp only[List.all_cons,zA] at hc
   obtain ⟨c,ec⟩:=a2 hc.1
   simp only[sn,List.flatMap_cons]
   rw[ec] at a1 ⊢
   exact ⟨a1,b2 hc.2⟩
  ·intro v hv
   simp only[sn,List.mem_cons] at hv
   rcases hv with rfl | hv
   ·exact a3
   ·exact b3 v hv
end Go.Proofs.YthpcdhgpplmneaaGreatDoor.Sym
namespace Go.Proofs.YthpcdhgpplmneaaGreatDoor.Sym
open Go
def OwO (G:Gh)(w:World)(ob:List (Option (List C)))(β:Bn):List (List Sh)→Nat→Prop
 |[],_=>True
 |o::os,i=>(∃k cs b cur el,β.at i=some k∧ob.getD k none=some cs∧G.mu k=some b∧w.heap[b]?=some (.cells cur el (0,0))∧OwV G w o (cs.map .one) cur.toList∧cs.length=cur.toList.length)∧OwO G w ob β os (i+1)
def JU (G:Gh)(w:World)(m:Nat→Option Nat)(f:Nat→Nat→Nat):List (List Sh)→Nat→Prop
 |[],_=>True
 |o::os,i=>(∀b cur el,m i=some b→w.heap[b]?=some (.cells cur el (0,0))→QJ G w (f i) o cur.toList 0)∧JU G w m f os (i+1)
theorem Hz {G:Gh}{w:World}:∀{cs:List C} {us:List Value},All2 (Rc G w) cs us→All2 (Rv G w) (cs.map .one) us
 |[],[],_=>trivial
 |_::_,_::_,h=>⟨h.1,Hz h.2⟩
 |[],_::_,h=>h.elim
 |_::_,[],h=>h.elim
theorem kc (i:LI×Int):∀(t:Ty) {cs r:List C} {x:t.den},bS t cs=some (x,r)→C.itr i∈cs→C.itr i∈r
 |.unit,cs,r,x,h,hi=>by
  simp only[bS,zC,zD] at h
  obtain ⟨_,rfl⟩:=h
  exact hi
 |.prod a b,cs,r,x,h,hi=>by
  simp only[bS] at h
  split at h
  ·rename_i x1 r1 h1
   split at h
   ·rename_i y r2 h2
    simp only[zC,zD] at h
    obtain ⟨_,rfl⟩:=h
    exact kc i b h2 (kc i a h1 hi)
   ·cases h
  ·cases h
 |.tree a e,cs,r,x,h,hi=>by
  simp only[bS] at h
  split at h
  ·rename_i x1 c r1 h1
   split at h
   ·rename_i ks hk
    simp only[zC,zD] at h
    obtain ⟨_,rfl⟩:=h
    rcases List.mem_cons.1 (kc i a h1 hi) with rfl | hi'
    ·simp[dC] at hk
    ·exact hi'
   ·cases h
  ·cases h
 |.int k,[],r,x,h,hi=>by cases hi
 |.bool,[],r,x,h,hi=>by cases hi
 |.str,[],r,x,h,hi=>by cases hi
 |.sl e t,[],r,x,h,hi=>by cases hi
 |.int k,c::cs,r,x,h,hi=>by
  simp only[bS] at h
  split at h
  ·rename_i y hy
   simp only[zC,zD] at h
   obtain ⟨_,rfl⟩:=h
   rcases List.mem_cons.1 hi with rfl | hi
   ·simp[dC] at hy
   ·exact hi
  ·cases h
 |.bool,c::cs,r,x,h,hi=>by
  simp only[bS] at h
  split at h
  ·rename_i y hy
   simp only[zC,zD] at h
   obtain ⟨_,rfl⟩:=h
   rcases List.mem_cons.1 hi with rfl | hi
   ·simp[dC] at hy
   ·exact hi
  ·cases h
 |.str,c::cs,r,x,h,hi=>by
  simp only[bS] at h
  split at h
  ·rename_i y hy
   simp only[zC,zD] at h
   obtain ⟨_,rfl⟩:=h
   rcases List.mem_cons.1 hi with rfl | hi
   ·simp[dC] at hy
   ·exact hi
  ·cases h
 |.sl e t,c::cs,r,x,h,hi=>by
  simp only[bS] at h
  split at h
  ·rename_i y hy
   simp only[zC,zD] at h
   obtain ⟨_,rfl⟩:=h
   rcases List.mem_cons.1 hi with rfl | hi
   ·simp[dC] at hy
   ·exact hi
  ·cases h
theorem qU:∀{o:List Sh} {cs:List C} {β:Bn} {r:ng o×Bn},sk o (cs.map .one) β=some r→cs.any C.isItr=false
 |[],[],_,_,_=>rfl
 |[],_::_,_,_,h=>by simp[sk] at h
 |_::_,[],_,_,_=>rfl
 |s::ss,c::cs,β,r,h=>by
  simp only[zL,sk] at h
  split at h
  ·rename_i x1 β1 h1
   split at h
   ·rename_i xs β2 h2
    simp only[List.any_cons,qU h2,Bool.or_false]
    cases c with
    |itr i=>
     exfalso
     cases s with
     |dat t agg own=>
      simp only[mV] at h1
      split at h1
      ·rename_i y hy
       simp only[fO] at hy
       split at hy
       ·rename_i z hz
        have:=kc i t hz (by simp)
        cases this
       ·cases hy
      ·cases h1
     |ptr n off=>simp[mV] at h1
     |fnc f q ns=>simp[mV] at h1
     |nil=>simp[mV] at h1
    |_=>rfl
   ·cases h
  ·cases h
theorem mY {G:Gh}{w:World}{A:AS}(hob:ObOk G w A):∀{os:List (List Sh)} {i:Nat} {β β':Bn} {x:sh os},JE A.ob os i β=some (x,β')→
  (β.le β'∧(β.inj→β'.inj)∧β'.length=β.length)∧(∀βf:Bn,β'.le βf→Rq G.S w (fun n=>(βf.at n).bind G.mu) os x i)∧(∀βf:Bn,β'.le βf→OwO G w A.ob βf os i)∧(∀j,i≤j→j<i+os.length→∃k cs,β'.at j=some k∧A.ob[k]?=some (some cs))
 |[],i,β,β',x,h=>by
  simp only[JE,zC,zD] at h
  obtain ⟨_,rfl⟩:=h
  exact ⟨⟨.refl _,id,rfl⟩,fun _ _=>trivial,fun _ _=>trivial,fun j h1 h2=>by simp at h2;omega⟩
 |o::os,i,β,β',x,h=>by
  simp only[JE] at h
  split at h
  ·rename_i k hk
   split at h
   ·rename_i cs hcs
    split at h
    ·rename_i x1 β1 h1
     split at h
     ·rename_i xs β2 h2
      simp only[zC,zD] at h
      obtain ⟨rfl,rfl⟩:=h
      have hcs':A.ob[k]?=some (some cs):=by
       rw[List.getD_eq_getElem?_getD] at hcs
       cases hg:A.ob[k]? with
       |none=>rw[hg] at hcs;cases hcs
       |some y=>rw[hg] at hcs;simp only[Option.getD_some] at hcs;rw[hcs]
      obtain ⟨b,cur,el,hm,hh,hr⟩:=hob.cells hcs' (qU h1)
      obtain ⟨⟨a1,a2,a3⟩,a4,a5⟩:=mZ h1 (Hz hr)
      obtain ⟨⟨b1,b2,b3⟩,b4,b5,b6⟩:=mY hob h2
      refine ⟨⟨a1.trans b1,fun h=>b2 (a2 h),b3.trans a3⟩,fun βf hf=>⟨⟨b,cur,el,?_,hh,a4 βf (b1.trans hf)⟩,b4 βf hf⟩,fun βf hf=>⟨⟨k,cs,b,cur,el,(a1.trans (b1.trans hf)) i k hk,hcs,hm,hh,a5,hr.length⟩,b5 βf hf⟩,?_⟩
      ·simp[(a1.trans (b1.trans hf)) i k hk,hm]
      ·intro j h1 h2
       by_cases e:j=i
       ·subst e;exact ⟨k,cs,(a1.trans b1) j k hk,hcs'⟩
       ·exact b6 j (by omega) (by simp at h2;omega)
     ·cases h
    ·cases h
   ·cases h
  ·cases h
theorem OwO.to {G G':Gh}{w:World}{ob:List (Option (List C))}{β β':Bn}(m:Nat→Option Nat)(f:Nat→Nat→Nat):∀{os:List (List Sh)} (i:Nat),OwO G w ob β os i→(∀j k,β.at j=some k→m j=G.mu k)→
  (∀j,i≤j→j<i+os.length→∃k',β'.at j=some k'∧f j=cn k')→(∀p∈li ob β β' os i,∀b l,G.ow p.2=some (b,l)→G'.ow p.1=some (b,l))→JU G' w m f os i
 |[],_,_,_,_,_=>trivial
 |o::os,i,⟨⟨k,cs,b,cur,el,h1,h2,h3,h4,h5,h6⟩,h7⟩,hm,hb,hG=>by
  obtain ⟨k',hk',hf⟩:=hb i (Nat.le_refl _) (by simp)
  have hl:li ob β β' (o::os) i=ga (cn k') o (cs.map .one) 0++li ob β β' os (i+1):=by
   simp only[li,h1,hk',h2,Option.getD_some]
  refine ⟨fun b' cur' el' hb' hh'=>?_,OwO.to m f (i+1) h7 hm (fun j h1 h2=>hb j (by omega) (by simp;omega)) fun p hp=>hG p (by rw[hl];exact List.mem_append_right _ hp)⟩
  rw[hm i k h1,h3] at hb'
  cases hb'
  rw[h4] at hh'
  cases hh'
  rw[hf]
  exact h5.to (cn k') 0 (by rw[List.length_map];exact h6) fun p hp b l hbl=>⟨hG p (by rw[hl];exact List.mem_append_left _ hp) b l hbl,rfl⟩
theorem mp {G:Gh}{w:World}{m:Nat→Option Nat}{β:Bn}(hm:∀n b,m n=some b→∃k,β.at n=some k∧G.mu k=some b):∀{os:List (List Sh)} {x:sh os} (i:Nat) {ob:List (Option (List C))},
  Rq G.S w m os x i→JU G w m (fun j=>match β.at j with | some k=>cn k | none=>id) os i→os.all (·.all Sh.cellB)=true→
  (∀(k:Nat) (cs:List C),ob[k]?=some (some cs)→(∃b o,G.mu k=some b∧w.heap[b]?=some o∧ObjOk G w cs o)∨∃j,i≤j∧j<i+os.length∧β.at j=some k)→
  ∀(k:Nat) (cs:List C),(CZ β os x i ob)[k]?=some (some cs)→∃b o,G.mu k=some b∧w.heap[b]?=some o∧ObjOk G w cs o
 |[],x,i,ob,_,_,_,hob,k,cs,hk=>by
  rcases hob k cs hk with h | ⟨j,h1,h2,_⟩
  ·exact h
  ·simp at h2;omega
 |o::os,x,i,ob,⟨⟨b,cur,el,h1,h2,h3⟩,h4⟩,ho,hc,hob,k,cs,hk=>by
  obtain ⟨k0,hk0,hmu⟩:=hm i b h1
  simp only[CZ,hk0] at hk
  simp only[List.all_cons,zA] at hc
  have hl:=ho.1 b cur el h1 h2
  simp only[hk0] at hl
  obtain ⟨_,hcells,_⟩:=kS (β:=β) (cn k0) 0 h3 hm hl
  refine mp hm (i+1) h4 ho.2 hc.2 ?_ k cs hk
  intro k' cs' hk'
  rw[List.getElem?_set] at hk'
  split at hk'
  ·rename_i e
   split at hk'
   ·simp only[zC] at hk'
    subst e;subst hk'
    exact .inl ⟨b,_,hmu,h2,.inl ⟨cur,el,rfl,hcells hc.1⟩⟩
   ·cases hk'
  ·rename_i hne
   rcases hob k' cs' hk' with h | ⟨j,g1,g2,g3⟩
   ·exact .inl h
   ·by_cases e:j=i
    ·subst e;rw[hk0] at g3;cases g3;exact absurd rfl hne
    ·exact .inr ⟨j,by omega,by simp at g2;omega,g3⟩
def gE (G:Gh)(β:Bn)(ow:List (Nat×Nat)):Gh:=⟨G.S,fun j=>(β.at j).bind G.mu,fun j=>match ow.find? (·.1 == j) with | some p=>G.ow p.2 | none=>none⟩
def ld (G:Gh)(w:World)(β:Bn)(ow:List (Nat×Nat)):Fra:=
 ⟨w,fun b=>(∃j,(gE G β ow).mu j=some b)∨∃j l,(gE G β ow).ow j=some (b,l),G.S,(gE G β ow).mu⟩
theorem fo {G:Gh}{β:Bn}{ow:List (Nat×Nat)}{j b:Nat}(h:(gE G β ow).mu j=some b):∃k,β.at j=some k∧G.mu k=some b:=by
 simp only[gE] at h
 cases hk:β.at j with
 |none=>rw[hk] at h;cases h
 |some k=>rw[hk] at h;exact ⟨k,rfl,h⟩
theorem ki {G:Gh}{β:Bn}{ow:List (Nat×Nat)}{j b l:Nat}(h:(gE G β ow).ow j=some (b,l)):∃p∈ow,p.1=j∧G.ow p.2=some (b,l):=by
 simp only[gE] at h
 split at h
 ·rename_i p hp
  obtain ⟨h1,h2⟩:=lP hp
  exact ⟨p,h1,h2,h⟩
 ·cases h
theorem Ob {F:Fra}{G:Gh}{w:World}(h:GhOk F G w){β:Bn}{ow:List (Nat×Nat)}(hβ:β.inj)(hn:bv (ow.map (·.2))=true):GhOk (ld G w β ow) (gE G β ow) w where
 mu:=fun key b hb=>by
  obtain ⟨k,_,hk⟩:=fo hb
  exact ⟨.inr (.inl ⟨key,hb⟩),(h.mu k b hk).2.1,(h.mu k b hk).2.2⟩
 muI:=fun i j b hi hj=>by
  obtain ⟨k,h1,h2⟩:=fo hi
  obtain ⟨k',h3,h4⟩:=fo hj
  have:=h.muI _ _ _ h2 h4
  subst this
  exact hβ i j k h1 h3
 ow:=fun i b l hi=>by
  obtain ⟨p,hp,_,hb⟩:=ki hi
  obtain ⟨h1,_,h3,h4⟩:=h.ow _ _ _ hb
  exact ⟨h1,.inr (.inr ⟨i,l,hi⟩),h3,fun key hk=>by obtain ⟨k,_,hk'⟩:=fo hk;exact h4 k hk'⟩
 owI:=fun i j b l l' hi hj=>by
  obtain ⟨p,hp,rfl,hb⟩:=ki hi
  obtain ⟨q,hq,rfl,hb'⟩:=ki hj
  have e:=h.owI _ _ _ _ _ hb hb'
  rw[kT hn hp hq e]
 sB:=h.sB
 fr:=⟨rfl,rfl,rfl,Nat.le_refl _,fun _ _ _=>rfl⟩
 sub:=fun _ _ h=>h
 sup:=fun _ _ h=>.inl h
 keep:=fun _ _ _=>rfl
 fix_:=fun _ _ h=>h
 tab:=h.tabs
def co (G G':Gh)(I:List Nat)(OW:List (Nat×Nat))(base nn:Nat)(mn:Nat→Option Nat):Gh:=
 ⟨G'.S,fun k=>if base≤k∧k<base+nn then mn (k - base) else G.mu k,fun j=>match OW.find? (·.1 == j) with | some p=>G'.ow p.2 | none=>if j∈I then none else G.ow j⟩
section
variable {F:Fra} {G G':Gh} {w w':World} {β:Bn} {ow:List (Nat×Nat)}
theorem pD {b:Nat}(h:GhOk F G w)(hm:(ld G w β ow).mine b):F.mine b:=by
 rcases hm with hm | ⟨j,hm⟩ | ⟨j,l,hm⟩
 ·exact .inl (Nat.le_trans h.fr.size hm)
 ·obtain ⟨k,_,hk⟩:=fo hm;exact (h.mu k b hk).1
 ·obtain ⟨p,_,_,hb⟩:=ki hm;exact (h.ow _ _ _ hb).2.1
theorem pC (h:GhOk F G w){key b:Nat}(hk:G.mu key=some b)(hm:(ld G w β ow).mine b):∃j,(gE G β ow).mu j=some b:=by
 rcases hm with hm | hm | ⟨j,l,hm⟩
 ·have:=(h.mu key b hk).2.2;exact absurd hm (by show ¬ w.heap.size≤b;omega)
 ·exact hm
 ·obtain ⟨p,_,_,hb⟩:=ki hm;exact absurd hk ((h.ow _ _ _ hb).2.2.2 key)
theorem m0 (h:GhOk F G w){i b l:Nat}(hi:G.ow i=some (b,l))(hm:(ld G w β ow).mine b):∃p∈ow,p.2=i:=by
 rcases hm with hm | ⟨j,hm⟩ | ⟨j,l',hm⟩
 ·have:=(h.ow i b l hi).2.2.1;exact absurd hm (by show ¬ w.heap.size≤b;omega)
 ·obtain ⟨k,_,hk⟩:=fo hm;exact absurd hk ((h.ow _ _ _ hi).2.2.2 k)
 ·obtain ⟨p,hp,_,hb⟩:=ki hm;exact ⟨p,hp,h.owI _ _ _ _ _ hb hi⟩
theorem uQ {I:List Nat}{OW:List (Nat×Nat)}{base nn:Nat}{mn:Nat→Option Nat}{j b l:Nat}(hj:(co G G' I OW base nn mn).ow j=some (b,l)):
  (∃p∈OW,p.1=j∧OW.find? (·.1 == j)=some p∧G'.ow p.2=some (b,l))∨(OW.find? (·.1 == j)=none∧j ∉ I∧G.ow j=some (b,l)):=by
 simp only[co] at hj
 split at hj
 ·rename_i p hp
  obtain ⟨h1,h2⟩:=lP hp
  exact .inl ⟨p,h1,h2,hp,hj⟩
 ·rename_i hn
  split at hj
  ·cases hj
  ·rename_i hI;exact .inr ⟨hn,hI,hj⟩
theorem CQ (h:GhOk F G w)(h':GhOk (ld G w β ow) G' w'){I:List Nat}(hI:∀p∈ow,p.2∈I){OW:List (Nat×Nat)}(hO2:bv (OW.map (·.2))=true){base nn:Nat}{mn:Nat→Option Nat}
  (hbase:∀d,F.mu0 (base+d)=none) (hmn:∀j b,mn j=some b→(∀i,(gE G β ow).mu i≠some b)∧∃k,G'.mu k=some b) (hmi:∀i j b,mn i=some b→mn j=some b→i=j):
  GhOk F (co G G' I OW base nn mn) w':=by
 have hS:∀b o,G'.S b o→G.S b o∨(ld G w β ow).mine b:=fun b o hs=>h'.sup b o hs
 have hold:∀key b,G.mu key=some b→∀o,¬ G'.S b o:=by
  intro key b hk o hs
  rcases hS b o hs with hs | hm
  ·exact (h.mu key b hk).2.1 o hs
  ·obtain ⟨j,hj⟩:=pC h hk hm
   exact (h'.mu j b (h'.fix_ j b hj)).2.1 o hs
 have hsz:w.heap.size≤w'.heap.size:=h'.fr.size
 refine ⟨?_,?_,?_,?_,h'.sB,?_,?_,?_,?_,?_,?_⟩
 ·intro key b hb
  simp only[co] at hb
  split at hb
  ·obtain ⟨_,k,hk⟩:=hmn _ b hb
   obtain ⟨g1,g2,g3⟩:=h'.mu k b hk
   exact ⟨pD h g1,g2,g3⟩
  ·exact ⟨(h.mu key b hb).1,hold key b hb,by have:=(h.mu key b hb).2.2;omega⟩
 ·intro key key' b hk hk'
  simp only[co] at hk hk'
  split at hk <;> split at hk'
  ·rename_i e1 e2
   have:=hmi _ _ b hk hk'
   omega
  ·obtain ⟨g1,k,g2⟩:=hmn _ b hk
   obtain ⟨j,hj⟩:=pC h hk' (h'.mu k b g2).1
   exact absurd hj (g1 j)
  ·obtain ⟨g1,k,g2⟩:=hmn _ b hk'
   obtain ⟨j,hj⟩:=pC h hk (h'.mu k b g2).1
   exact absurd hj (g1 j)
  ·exact h.muI _ _ _ hk hk'
 ·intro i b l hi
  rcases uQ hi with ⟨p,hp,_,_,hb⟩ | ⟨_,hnI,hb⟩
  ·obtain ⟨g1,g2,g3,g4⟩:=h'.ow _ _ _ hb
   refine ⟨g1,pD h g2,g3,fun key hk=>?_⟩
   simp only[co] at hk
   split at hk
   ·obtain ⟨_,k,hk'⟩:=hmn _ b hk;exact g4 k hk'
   ·obtain ⟨j,hj⟩:=pC h hk g2;exact g4 j (h'.fix_ j b hj)
  ·obtain ⟨g1,g2,g3,g4⟩:=h.ow _ _ _ hb
   refine ⟨fun o ho hs=>?_,g2,by omega,fun key hk=>?_⟩
   ·rcases hS b o hs with hs | hm
    ·exact g1 o ho hs
    ·obtain ⟨p,hp,rfl⟩:=m0 h hb hm;exact hnI (hI p hp)
   ·simp only[co] at hk
    split at hk
    ·obtain ⟨_,k,hk'⟩:=hmn _ b hk
     obtain ⟨p,hp,rfl⟩:=m0 h hb (h'.mu k b hk').1
     exact hnI (hI p hp)
    ·exact g4 key hk
 ·intro i j b l l' hi hj
  rcases uQ hi with ⟨p,hp,rfl,hf,hb⟩ | ⟨_,hnI,hb⟩ <;> rcases uQ hj with ⟨q,hq,rfl,hf',hb'⟩ | ⟨_,hnI',hb'⟩
  ·rw[kT hO2 hp hq (h'.owI _ _ _ _ _ hb hb')]
  ·obtain ⟨r,hr,rfl⟩:=m0 h hb' (h'.ow _ _ _ hb).2.1
   exact absurd (hI r hr) hnI'
  ·obtain ⟨r,hr,rfl⟩:=m0 h hb (h'.ow _ _ _ hb').2.1
   exact absurd (hI r hr) hnI
  ·exact h.owI _ _ _ _ _ hb hb'
 ·refine ⟨h'.fr.os.trans h.fr.os,h'.fr.tape.trans h.fr.tape,h'.fr.output.trans h.fr.output,Nat.le_trans h.fr.size hsz,fun k hk hx=>?_⟩
  have hk':k<w.heap.size:=Nat.lt_of_lt_of_le hk h.fr.size
  rw[← h.fr.block k hk hx]
  refine h'.fr.block k hk' fun hX=>?_
  rcases pD (b:=k) h (.inr hX) with hm | hm
  ·omega
  ·exact hx hm
 ·exact fun b o hs=>h'.sub b o (h.sub b o hs)
 ·intro b o hs
  rcases hS b o hs with hs | hm
  ·exact h.sup b o hs
  ·exact .inr (pD h hm)
 ·exact fun b o hs=>(h'.keep b o (h.sub b o hs)).trans (h.keep b o hs)
 ·intro key b hb
  simp only[co]
  rw[if_neg]
  ·exact h.fix_ key b hb
  ·rintro ⟨h1,_⟩
   have:=hbase (key - base)
   rw[show base+(key - base)=key by omega,hb] at this
   cases this
 ·exact h.tab
theorem xW (h:GhOk F G w)(h':GhOk (ld G w β ow) G' w'){I:List Nat}(hI:∀p∈ow,p.2∈I){OW:List (Nat×Nat)}(hO1:∀p∈OW,p.1∈I){base nn:Nat}{mn:Nat→Option Nat}{c:C}{v:Value}(hc:Rc G w c v):
  Rc (co G G' I OW base nn mn) w' (c.strip I ((List.range nn).map (base + ·))) v:=by
 have hk:Kept G.S G'.S w w':=fun b o hs=>⟨h'.sub b o hs,h'.keep b o hs⟩
 unfold C.strip
 cases hKs:((List.range nn).map (base + ·)).any fun k=>c.hasKey k with
 |true=>exact hc.cell
 |false=>
  rw[List.any_eq_false] at hKs
  have hmu:∀key b,c.hasKey key=true→G.mu key=some b→(co G G' I OW base nn mn).mu key=some b:=by
   intro key b hh hb
   simp only[co]
   rw[if_neg]
   ·exact hb
   ·rintro ⟨h1,h2⟩
    exact absurd hh (by simpa using hKs key (List.mem_map.2 ⟨key - base,List.mem_range.2 (by omega),by omega⟩))
  simp only[cond_false]
  have hex:∀{t lo xs i j b cap},I.any (· == i)=false→I.any (· == j)=false→ExAt G w t lo xs i j b cap→ExAt (co G G' I OW base nn mn) w' t lo xs i j b cap:=by
   intro t lo xs i j b cap hi hj ⟨⟨n1,n2,ho⟩,cur,el,hh,g1,g2,g3,g4⟩
   have key:∀id,I.any (· == id)=false→G.ow id=some (b,0)→(co G G' I OW base nn mn).ow id=some (b,0)∧w'.heap[b]?=w.heap[b]?:=by
    intro id hid ho
    have hnI:id ∉ I:=by
     intro hm
     rw[List.any_eq_false] at hid
     exact hid id hm (by simp)
    have hfn:OW.find? (·.1 == id)=none:=by
     cases hf:OW.find? (·.1 == id) with
     |none=>rfl
     |some p=>obtain ⟨g1,rfl⟩:=lP hf;exact absurd (hO1 p g1) hnI
    refine ⟨by simp[co,hfn,hnI,ho],h'.fr.block b (h.ow _ _ _ ho).2.2.1 fun hX=>?_⟩
    obtain ⟨p,hp,rfl⟩:=m0 h ho (.inr hX)
    exact hnI (hI p hp)
   have hb:((co G G' I OW base nn mn).ow i=some (b,0)∨(co G G' I OW base nn mn).ow j=some (b,0))∧w'.heap[b]?=w.heap[b]?:=by
    rcases ho with ho | ho
    ·exact ⟨.inl (key i hi ho).1,(key i hi ho).2⟩
    ·exact ⟨.inr (key j hj ho).1,(key j hj ho).2⟩
   exact ⟨⟨n1,n2,hb.1⟩,cur,el,hb.2.trans hh,g1,g2,g3,fun k x hx=>let ⟨c,hc,hu⟩:=g4 k x hx;⟨c,Rt.kept hk t x c hc,hu⟩⟩
  have hcell:=hc.cell
  cases c with
  |ex e t lo xs i j=>
   simp only
   cases hi:I.any (· == i) || I.any (· == j) with
   |true=>exact hcell
   |false=>
    simp only[Bool.or_eq_false_iff] at hi
    rcases hc with hc | ⟨b,cap,e0,hc⟩
    ·exact .inl hc
    ·exact .inr ⟨b,cap,e0,hex hi.1 hi.2 hc⟩
  |eel t k x i j=>
   simp only
   cases hi:I.any (· == i) || I.any (· == j) with
   |true=>exact hcell
   |false=>
    simp only[Bool.or_eq_false_iff] at hi
    obtain ⟨b,cap,e0,hc⟩:=hc
    exact ⟨b,cap,e0,hex hi.1 hi.2 hc⟩
  |lst e t xs own=>
   simp only
   obtain ⟨A,cap,e1,h1,h2,h3,h4⟩:=hc
   cases hi:I.any (· == own) with
   |true=>exact ⟨A,cap,e1,h1,h2,h3.kept hk,.inl rfl⟩
   |false=>
    have hnI:own ∉ I:=by
     intro hm
     rw[List.any_eq_false] at hi
     exact hi own hm (by simp)
    refine ⟨A,cap,e1,h1,h2,h3.kept hk,?_⟩
    rcases h4 with h4 | h4 | ⟨b,cur,el,ea,ho,hh,hs⟩
    ·exact .inl h4
    ·exact .inr (.inl h4)
    ·have hfn:OW.find? (·.1 == own)=none:=by
      cases hf:OW.find? (·.1 == own) with
      |none=>rfl
      |some p=>obtain ⟨g1,rfl⟩:=lP hf;exact absurd (hO1 p g1) hnI
     refine .inr (.inr ⟨b,cur,el,ea,by simp[co,hfn,hnI,ho],?_,hs⟩)
     rw[← hh]
     refine h'.fr.block b (h.ow _ _ _ ho).2.2.1 fun hX=>?_
     obtain ⟨p,hp,rfl⟩:=m0 h ho (.inr hX)
     exact hnI (hI p hp)
  |ptr key off=>
   obtain ⟨b,hb,e⟩:=hc
   exact ⟨b,hmu key b (by simp[C.hasKey]) hb,e⟩
  |ro t x=>
   obtain ⟨b,o,cs,e,h1,h2⟩:=hc
   exact ⟨b,o,cs,e,Rt.kept hk t x cs h1,h2.kept hk⟩
  |fn f m caps=>
   obtain ⟨vs,e,hv⟩:=hc
   refine ⟨vs,e,hv.mono fun p hp u hu=>?_⟩
   cases p with
   |ptr key off=>
    obtain ⟨b,hb,e⟩:=hu
    exact ⟨b,hmu key b (by simp only[C.hasKey,List.any_eq_true];exact ⟨_,hp,by simp[Cp.hasKey]⟩) hb,e⟩
   |dat t x=>exact Rt.kept hk t x _ hu
  |ifc T t x=>
   obtain ⟨u,e,hu,hag⟩:=hc
   exact ⟨u,e,Rt.kept hk t x _ hu,hag⟩
  |pin v0 t x=>exact ⟨hc.1,Rt.kept hk t x _ hc.2⟩
  |_=>exact hc
theorem oA (h:GhOk F G w)(h':GhOk (ld G w β ow) G' w'){key b:Nat}(hk:G.mu key=some b)(hn:∀j,(gE G β ow).mu j≠some b):w'.heap[b]?=w.heap[b]?:=by
 refine h'.fr.block b (h.mu key b hk).2.2 fun hX=>?_
 obtain ⟨j,hj⟩:=pC h hk (.inr hX)
 exact hn j hj
end
end Go.Proofs.YthpcdhgpplmneaaGreatDoor.Sym
namespace Go.Proofs.YthpcdhgpplmneaaGreatDoor.Sym
open Go
theorem sA (n m j:Nat):(lM n m).at j=if j<n then some j else none:=by
 unfold lM Bn.at
 rw[List.getD_eq_getElem?_getD,List.getElem?_append]
 simp only[List.length_map,List.length_range,List.getElem?_map,List.getElem?_range]
 split
 ·rename_i h;simp[h]
 ·rw[List.getElem?_replicate];split <;> rfl
theorem J2 (n m:Nat):(lM n m).inj:=by
 intro i j k hi hj
 rw[sA] at hi hj
 split at hi <;> split at hj <;> simp_all
theorem Oi (n j:Nat):Bn.at (List.replicate n none) j=none:=by
 unfold Bn.at
 rw[List.getD_eq_getElem?_getD,List.getElem?_replicate]
 split <;> rfl
theorem Bn.at_lt {β:Bn}{j k:Nat}(h:β.at j=some k):j<β.length:=by
 unfold Bn.at at h
 rw[List.getD_eq_getElem?_getD] at h
 rcases Nat.lt_or_ge j β.length with h' | h'
 ·exact h'
 ·rw[List.getElem?_eq_none h'] at h;cases h
theorem Bn.at_mem {β:Bn}{j k:Nat}(h:β.at j=some k):some k∈β:=by
 have hl:=Bn.at_lt h
 unfold Bn.at at h
 rw[List.getD_eq_getElem?_getD,List.getElem?_eq_getElem hl] at h
 simp only[Option.getD_some] at h
 rw[← h];exact List.getElem_mem hl
theorem All2.replicate {α β:Type}{R:α→β→Prop}{a:α}{b:β}(h:R a b):∀n,All2 R (List.replicate n a) (List.replicate n b)
 |0=>trivial
 |n+1=>⟨h,All2.replicate h n⟩
section
variable {P:Program} {tt:TT}
theorem Ju {F:Fra}{G:Gh}{A:AS}{ts:Array Value}{cst:List (Array Value)}{w:World}(R:Rel F G A ts cst w)(io:Io){args:List V}{vals:Array Value}{a:ng io.args}{o:sh io.obs}{β1 β:Bn}
  (h1:sk io.args args (List.replicate io.obs.length none)=some (a,β1)) (h2:JE A.ob io.obs 0 β1=some (o,β)) (hv:All2 (Rv G w) args vals.toList)
  {ow:List (Nat×Nat)} (how:ow=ga (cV 0) io.args args 0++li A.ob β (lM io.obs.length 0) io.obs 0) (hn1:bv (ow.map (·.1))=true) (hn2:bv (ow.map (·.2))=true) (hok:io.ok=true) (nt:Nat):
  Rel (ld G w β ow) (gE G β ow) (io.start nt (a,o)) (vals++Array.replicate (nt - vals.size) undef) [] w∧β.inj∧β.length=io.obs.length∧∀j,j<io.obs.length→∃k cs,β.at j=some k∧A.ob[k]?=some (some cs):=by
 obtain ⟨⟨a1,a2,a3⟩,a4,a5⟩:=mZ h1 hv
 obtain ⟨⟨b1,b2,b3⟩,b4,b5,b6⟩:=mY R.ob h2
 have hinj:β.inj:=b2 (a2 fun i j k hi=>by rw[Oi] at hi;cases hi)
 have hlen:β.length=io.obs.length:=by rw[b3,a3,List.length_replicate]
 have hm:∀n b,((β.at n).bind G.mu)=some b→∃k,(lM io.obs.length 0).at n=some k∧(gE G β ow).mu k=some b:=by
  intro n b hb
  refine ⟨n,?_,hb⟩
  cases hk:β.at n with
  |none=>rw[hk] at hb;cases hb
  |some k=>rw[sA,if_pos (by rw[← hlen];exact Bn.at_lt hk)]
 have hfind:∀p∈ow,∀b l,G.ow p.2=some (b,l)→(gE G β ow).ow p.1=some (b,l):=by
  intro p hp b l hb
  simp only[gE,fi hn1 hp,hb]
 have hargs:=a4 β b1
 have hal:args.length=vals.toList.length:=hv.length
 have hao:QJ (gE G β ow) w (cV 0) io.args vals.toList 0:=a5.to (cV 0) 0 hal fun p hp b l hb=>⟨hfind p (by rw[how];exact List.mem_append_left _ hp) b l hb,rfl⟩
 obtain ⟨c1,_,_,c4⟩:=kS (G:=gE G β ow) (β:=lM io.obs.length 0) (cV 0) 0 hargs hm hao
 have hobs:JU (gE G β ow) w (fun n=>(β.at n).bind G.mu) (fun j=>match (lM io.obs.length 0).at j with | some k=>cn k | none=>id) io.obs 0:=by
  refine (b5 β (.refl _)).to _ _ 0 (fun j k hk=>by simp[hk]) (fun j _ hj=>?_) fun p hp b l hb=>hfind p (by rw[how];exact List.mem_append_right _ hp) b l hb
  have e:(lM io.obs.length 0).at j=some j:=by rw[sA,if_pos (by simpa using hj)]
  exact ⟨j,e,by rw[e]⟩
 have hokb:io.obs.all (·.all Sh.cellB)=true:=by
  unfold Io.ok at hok;rw[List.all_append,zA] at hok;exact hok.1
 refine ⟨⟨?_,trivial,?_,Ob R.gh hinj hn2⟩,hinj,hlen,fun j hj=>b6 j (Nat.zero_le _) (by simpa using hj)⟩
 ·have e:(vals++Array.replicate (nt - vals.size) undef).toList=vals.toList++List.replicate (nt - io.args.length) undef:=by
   have:vals.size=io.args.length:=by rw[← c4,c1.length];simp
   simp[this]
  rw[e]
  exact c1.append (All2.replicate Rv.any _)
 ·intro k cs hk
  exact mp (G:=gE G β ow) hm 0 (b4 β (.refl _)) hobs hokb (fun k cs hk=>by
   rw[List.getElem?_replicate] at hk
   split at hk
   ·cases hk
   ·cases hk) k cs hk
theorem pF {α β:Type}{w:World}(f:α→Sem β)(Q:α→β→Prop):∀l:List α,(∀x∈l,∃u,(f x).run P w=.ok u w∧Q x u)→∃us,(l.mapM f).run P w=.ok us w∧All2 Q l us
 |[],_=>⟨[],by simp,trivial⟩
 |x::l,h=>by
  obtain ⟨u,h1,h2⟩:=h x (by simp)
  obtain ⟨us,h3,h4⟩:=pF f Q l fun y hy=>h y (by simp[hy])
  exact ⟨u::us,by simp[List.mapM_cons,h1,h3],h2,h4⟩
theorem Is {s:Sh}{v:V}{β β':Bn}{x:s.den}(h:mV s v β=some (x,β')):v≠.any:=by
 rintro rfl
 cases s <;> simp[mV,fO] at h
theorem uI:∀{ss:List Sh} {vs:List V} {β β':Bn} {x:ng ss},sk ss vs β=some (x,β')→∀v∈vs,v≠.any
 |[],[],_,_,_,_,v,hv=>by simp at hv
 |s::ss,v::vs,β,β',x,h,u,hu=>by
  simp only[sk] at h
  split at h
  ·rename_i x1 β1 h1
   split at h
   ·rename_i xs β2 h2
    rcases List.mem_cons.1 hu with rfl | hu
    ·exact Is h1
    ·exact uI h2 u hu
   ·cases h
  ·cases h
 |[],_::_,_,_,_,h,_,_=>by simp[sk] at h
 |_::_,[],_,_,_,h,_,_=>by simp[sk] at h
def uZ (ts:Array Value):ResultVar→Sem Value
 |.tmp t=>pure (ts.getD t undef)
 |.cell a t=>do loadVar t (← asAddr (ts.getD a undef))
theorem Et (fn:Func)(ts:Array Value):results fn ts=(do let vs ← fn.results.mapM (uZ ts);pure (if h:vs.size=1 then vs[0] else .tuple vs)):=by
 unfold results
 congr 1
theorem Es (htt:cJ P tt){F:Fra}{G:Gh}{A:AS}{ts:Array Value}{cst:List (Array Value)}{w:World}(R:Rel F G A ts cst w)(rv:ResultVar)(h:vW tt A rv≠.any):
  ∃u,(uZ ts rv).run P w=.ok u w∧Rv G w (vW tt A rv) u:=by
 cases rv with
 |tmp t=>exact ⟨_,by simp[uZ],R.get t⟩
 |cell a t=>
  have ha:=R.get a
  simp only[vW] at h ⊢
  split at h
  ·rename_i k o e1
   rw[e1] at ha
   split at h
   ·rename_i cs hcs
    cases hb : !cs.any C.isItr&&decide (o+(tt.at t).size≤cs.length) with
    |false=>rw[hb] at h;exact absurd rfl h
    |true=>
     rw[hb] at h
     simp only[cond_true] at h ⊢
     cases hp:iG tt t ((cs.drop o).take (tt.at t).size) with
     |none=>rw[hp] at h;exact absurd rfl h
     |some v=>
      simp only[zA,Bool.not_eq_true',zB] at hb
      obtain ⟨hni,hb⟩:=hb
      obtain ⟨b,hm,eu⟩:=ha
      obtain ⟨b',cur,el,hm',hh,hr⟩:=R.ob.cells hcs hni
      rw[hm] at hm';cases hm'
      have hr':All2 (Rc G w) ((cs.drop o).take (tt.at t).size) ((cur.toList.drop o).take (tt.at t).size):=(hr.drop o).take _
      obtain ⟨u,hu,hru⟩:=mo (P:=P) (o:=o) htt hp hr' (by simp;omega) (fun j u hj=>by
       rw[gA hh]
       rw[List.getElem?_take] at hj
       split at hj
       ·rw[List.getElem?_drop] at hj;exact hj
       ·cases hj)
      refine ⟨u,by simp[uZ,eu,asAddr,hu],?_⟩
      exact hru
   ·exact absurd rfl h
  ·exact absurd rfl h
def u9 (us:List Value):Value:=if h:us.length=1 then us[0] else .tuple us.toArray
theorem CX (htt:cJ P tt){F:Fra}{G:Gh}{A:AS}{ts:Array Value}{cst:List (Array Value)}{w:World}(R:Rel F G A ts cst w)(fn:Func)(h:∀v∈fn.results.toList.map (vW tt A),v≠.any):
  ∃us,(results fn ts).run P w=.ok (u9 us) w∧All2 (Rv G w) (fn.results.toList.map (vW tt A)) us:=by
 obtain ⟨us,h1,h2⟩:=pF (P:=P) (w:=w) (uZ ts) (fun rv u=>Rv G w (vW tt A rv) u) fn.results.toList fun rv hrv=>Es htt R rv (h _ (List.mem_map.2 ⟨rv,hrv,rfl⟩))
 refine ⟨us,?_,h2.map_left _ fun a b h=>h⟩
 rw[Et]
 simp only[Sem.run_bind]
 rw[Array.mapM_eq_mapM_toList]
 simp only[map_eq_pure_bind,Sem.run_bind,h1,Result.andThen_ok,Sem.run_pure]
 congr 1
theorem JV {G:Gh}{w:World}{v:V}{u:Value}(h:Rv G w v u)(hs:v.solid=true):RcOne G w (v.isAgg,v.cells) u:=by
 cases v with
 |one c=>exact .inr ⟨rfl,c,rfl,h⟩
 |agg cs=>exact .inl ⟨rfl,h⟩
 |tup ps=>cases hs
 |any=>cases hs
theorem CW {G:Gh}{w:World}{vs:List V}{us:List Value}(h:All2 (Rv G w) vs us)(hs:∀v∈vs,v.solid=true):
  Rv G w (Qx vs) (u9 us):=by
 have hl:=h.length
 have tup:us.length≠1→Rv G w (.tup (vs.map fun v=>(v.isAgg,v.cells))) (u9 us):=by
  intro hne
  refine ⟨us.toArray,by simp[u9,hne],?_⟩
  show All2 _ _ us
  clear hl hne
  induction vs generalizing us with
  |nil=>cases us with
   |nil=>trivial
   |cons _ _=>exact h.elim
  |cons v vs ih=>cases us with
   |nil=>exact h.elim
   |cons u us=>exact ⟨JV h.1 (hs v (by simp)),ih h.2 fun v hv=>hs v (by simp[hv])⟩
 cases vs with
 |nil=>exact tup (by simp at hl;omega)
 |cons v vs=>
  cases vs with
  |nil=>
   cases us with
   |nil=>exact h.elim
   |cons u us=>
    cases us with
    |nil=>simpa [u9,Qx] using h.1
    |cons _ _=>exact h.2.elim
  |cons v2 vs=>exact tup (by simp at hl;omega)
theorem uU (f g:Nat→Nat):∀(ss:List Sh) (vs:List V) (i j:Nat),(ga f ss vs i).map (·.2)=(ga g ss vs j).map (·.2)
 |[],_,_,_=>rfl
 |_::_,[],_,_=>rfl
 |s::ss,v::vs,i,j=>by
  simp only[ga,List.map_append,uU f g ss vs (i+1) (j+1)]
  congr 1
  cases s with
  |dat t agg own=>cases own <;> rfl
  |ptr n off=>rfl
  |fnc f q ns=>rfl
  |nil=>rfl
theorem CS (ob:List (Option (List C)))(β β' β'':Bn):∀(os:List (List Sh)) (i:Nat),(∀j,i≤j→j<i+os.length→∃k,β'.at j=some k)→(∀j,i≤j→j<i+os.length→∃k,β''.at j=some k)→(li ob β β' os i).map (·.2)=(li ob β β'' os i).map (·.2)
 |[],_,_,_=>rfl
 |o::os,i,h,h'=>by
  obtain ⟨k,hk⟩:=h i (Nat.le_refl _) (by simp)
  obtain ⟨k',hk'⟩:=h' i (Nat.le_refl _) (by simp)
  have ih:=CS ob β β' β'' os (i+1) (fun j h1 h2=>h j (by omega) (by simp;omega)) (fun j h1 h2=>h' j (by omega) (by simp;omega))
  simp only[li,hk,hk']
  cases β.at i with
  |none=>rfl
  |some k0=>
   simp only[List.map_append,ih]
   rw[uU (cn k) (cn k') o _ 0 0]
theorem uS (f:Nat→Nat):∀(ss:List Sh) (vs:List V) (i:Nat),vs.length=ss.length→(ga f ss vs i).map (·.1)=j5 f ss i
 |[],_,_,_=>by simp[ga,j5]
 |_::_,[],_,h=>by simp at h
 |s::ss,v::vs,i,h=>by
  have ih:=uS f ss vs (i+1) (by simpa using h)
  cases s with
  |dat t agg own=>cases own <;> simp[ga,QN,j5,ih]
  |ptr n off=>simp[ga,QN,j5,ih]
  |fnc f q ns=>simp[ga,QN,j5,ih]
  |nil=>simp[ga,QN,j5,ih]
theorem Ag:∀{ss:List Sh} {vs:List V} {β β':Bn} {x:ng ss},sk ss vs β=some (x,β')→vs.length=ss.length
 |[],[],_,_,_,_=>rfl
 |s::ss,v::vs,β,β',x,h=>by
  simp only[sk] at h
  split at h
  ·split at h
   ·rename_i h2;simp[Ag h2]
   ·cases h
  ·cases h
 |[],_::_,_,_,_,h=>by simp[sk] at h
 |_::_,[],_,_,_,h=>by simp[sk] at h
theorem CR {G:Gh}{w:World}(ob:List (Option (List C)))(β β':Bn):∀(os:List (List Sh)) (i:Nat),OwO G w ob β os i→(∀j,i≤j→j<i+os.length→∃k,β'.at j=some k)→
  (∀(j k:Nat) (o:List Sh) (cs:List C),os[j]?=some o→β.at (i+j)=some k→ob.getD k none=some cs→cs.length=o.length)→(li ob β β' os i).map (·.1)=uR β' os i
 |[],_,_,_,_=>rfl
 |o::os,i,⟨⟨k,cs,b,cur,el,h1,h2,h3,h4,h5,h6⟩,h7⟩,hb,hl=>by
  obtain ⟨k',hk'⟩:=hb i (Nat.le_refl _) (by simp)
  have ih:=CR ob β β' os (i+1) h7 (fun j h1 h2=>hb j (by omega) (by simp;omega)) fun j k o' cs' g1 g2 g3=>hl (j+1) k o' cs' (by simpa using g1) (by rw[← g2];congr 1;omega) g3
  have hlen:=hl 0 k o cs rfl h1 h2
  simp only[li,uR,h1,hk',h2,Option.getD_some,List.map_append,ih]
  rw[uS (cn k') o (cs.map .one) 0 (by rw[List.length_map];exact hlen)]
end
end Go.Proofs.YthpcdhgpplmneaaGreatDoor.Sym
namespace Go.Proofs.YthpcdhgpplmneaaGreatDoor.Sym
open Go
def HcOk (P:Program)(f:Nat)(hc:(R:Type)→List V→Nat→AS→(Oc→AS→Option R)→Option R):Prop:=
 ∀(R:Type) (args:List V) (id:Nat) (A:AS) (K:Oc→AS→Option R) (r:R) (F:Fra) (G:Gh) (ts:Array Value) (cst:List (Array Value)) (w:World) (vals:Array Value),
  (∀d,F.mu0 (id / 2+d)=none)→hc R args id A K=some r→Rel F G A ts cst w→All2 (Rv G w) args vals.toList→FnOk P f∧
  Calls P f vals w fun e w'=>∃G' A' v u,Rel F G' A' ts cst w'∧Rv G' w' v u∧
   ((e=.returned u∧∃ks,Unt G G' (Od ks) w w'∧K (.ret v ks) A'=some r)∨(e=.panicked [{ v:=u,recovered:=false }]∧K (.pan v) A'=some r))
section
variable {P:Program} {tt:TT}
theorem He {G:Gh}{w:World}{A:AS}(hob:ObOk G w A):∀{os:List (List Sh)} {i:Nat} {β β':Bn} {x:sh os},JE A.ob os i β=some (x,β')→
  ∀βf:Bn,β'.le βf→∀(j k:Nat) (o:List Sh) (cs:List C),os[j]?=some o→βf.at (i+j)=some k→A.ob.getD k none=some cs→cs.length=o.length
 |[],i,β,β',x,h,βf,hf,j,k,o,cs,h1,_,_=>by simp at h1
 |o::os,i,β,β',x,h,βf,hf,j,k,o',cs,h1,h2,h3=>by
  have hs:=mY hob h
  simp only[JE] at h
  split at h
  ·rename_i k0 hk
   split at h
   ·rename_i cs0 hcs
    split at h
    ·rename_i x1 β1 g1
     split at h
     ·rename_i xs β2 g2
      simp only[zC,zD] at h
      obtain ⟨_,rfl⟩:=h
      cases j with
      |zero=>
       simp only[List.getElem?_cons_zero,zC] at h1
       subst h1
       rw[Nat.add_zero,hf i k0 (hs.1.1 i k0 hk)] at h2
       cases h2
       rw[hcs] at h3
       cases h3
       have:=Ag g1
       simpa using this
      |succ j=>exact He hob g2 βf hf j k o' cs (by simpa using h1) (by rw[← h2];congr 1;omega) h3
     ·cases h
    ·cases h
   ·cases h
  ·cases h
theorem CT:∀{p:Option (Nat×Ty)} {v:V} {x:yV p},HA p v=some x→Q6 p x=v∧∃T t d,v=.one (.ifc T t d)
 |some (T,t),v,x,h=>by
  cases v with
  |one c=>
   cases c <;> simp only[HA] at h <;> try cases h
   rename_i T' t' d
   split at h
   ·rename_i e
    obtain ⟨rfl,rfl⟩:=e
    cases h
    exact ⟨rfl,_,_,_,rfl⟩
   ·cases h
  |_=>simp[HA] at h
 |none,v,x,_=>nomatch x
theorem Dp {α:Type}:∀(ks:List Nat) (ob:List (Option α)) (k:Nat) (x:α),(Qz ks ob)[k]?=some (some x)→ob[k]?=some (some x)∧k ∉ ks
 |[],_,_,_,h=>⟨h,by simp⟩
 |k0::ks,ob,k,x,h=>by
  obtain ⟨h1,h2⟩:=Dp ks _ k x h
  rw[List.getElem?_set] at h1
  split at h1
  ·split at h1 <;> cases h1
  ·rename_i hne
   exact ⟨h1,by simp only[List.mem_cons,not_or];exact ⟨Ne.symm hne,h2⟩⟩
inductive Tre.Wf {α:Type} (P:α→Prop):Tre α→Prop where
 |mk (t:Tre α) (hl:P t.lab) (hk:t.kids.length≤maxLen) (h:∀k∈t.kids,Tre.Wf P k):Tre.Wf P t
def Ty.wf:(t:Ty)→t.den→Prop
 |.int k,n=>bH k n
 |.bool,_=>True
 |.str,s=>byteR s∧s.length≤maxLen
 |.sl _ t,xs=>xs.length≤maxLen∧∀x∈xs,t.wf x
 |.unit,_=>True
 |.prod a b,x=>a.wf x.1∧b.wf x.2
 |.tree a _,x=>Tre.Wf a.wf x
theorem RtTr.wf {S:Nat→Nat→Prop}{w:World}{α:Type}{P:α→List Value→Prop}{Q:α→Prop}(hP:∀l c,P l c→Q l){sz:Nat}:∀(n:Nat) (t:Tre α) (cs:List Value),RtTr S w P sz n t cs→Tre.Wf Q t
 |0,_,_,h=>h.elim
 |n+1,t,cs,⟨c1,A,cap,_,h1,h2,h3,h4⟩=>.mk t (hP _ _ h1) (Nat.le_trans h2 h3) fun k hk=>by
   obtain ⟨b,o,_,hh⟩:=h4 (List.ne_nil_of_mem hk)
   obtain ⟨i,hi⟩:=List.getElem?_of_mem hk
   obtain ⟨c,hc,_⟩:=hh i k hi
   exact RtTr.wf hP n k c hc
theorem Rt.wf {S:Nat→Nat→Prop}{w:World}:∀(t:Ty) (x:t.den) (cs:List Value),Rt S w t x cs→t.wf x
 |.int _,_,_,h=>h.2
 |.bool,_,_,_=>trivial
 |.str,_,_,h=>h.2
 |.sl _ t,xs,_,⟨A,cap,_,h1,h2,h3⟩=>⟨Nat.le_trans h1 h2,fun x hx=>by
   obtain ⟨b,o,_,hh⟩:=h3 (List.ne_nil_of_mem hx)
   obtain ⟨i,hi⟩:=List.getElem?_of_mem hx
   obtain ⟨c,hc,_⟩:=hh i x hi
   exact Rt.wf t x c hc⟩
 |.unit,_,_,_=>trivial
 |.prod a b,x,_,⟨c1,c2,_,h1,h2⟩=>⟨Rt.wf a _ _ h1,Rt.wf b _ _ h2⟩
 |.tree a _,x,_,⟨n,h⟩=>RtTr.wf (fun l c h=>Rt.wf a l c h) n _ _ h
def Sh.wf:(s:Sh)→s.den→Prop
 |.dat t _ _,x=>t.wf x
 |.ptr _ _,_=>True
 |.fnc _ _ _,_=>True
 |.nil,_=>True
def Rp:(ss:List Sh)→ng ss→Prop
 |[],_=>True
 |s::ss,x=>s.wf x.1∧Rp ss x.2
def RD:(os:List (List Sh))→sh os→Prop
 |[],_=>True
 |o::os,x=>Rp o x.1∧RD os x.2
def Io.wf (io:Io)(d:io.In):Prop:=Rp io.args d.1∧RD io.obs d.2
theorem Q3 {G:Gh}{w:World}{s:Sh}{v:V}{β β':Bn}{x:s.den}{u:Value}(h:mV s v β=some (x,β'))(hv:Rv G w v u):s.wf x:=by
 cases s with
 |dat t agg own=>
  simp only[mV] at h
  split at h
  ·rename_i y hy
   cases hb:(v.isAgg == agg)&&(!own || !(me v == 0)) with
   |false=>rw[hb] at h;cases h
   |true=>
    rw[hb] at h
    simp only[cond_true,zC,zD] at h
    obtain ⟨rfl,_⟩:=h
    exact Rt.wf t _ _ (gl hy hv)
  ·cases h
 |ptr n off=>trivial
 |fnc f q ns=>trivial
 |nil=>trivial
theorem Ah {G:Gh}{w:World}:∀{ss:List Sh} {vs:List V} {us:List Value} {β β':Bn} {x:ng ss},sk ss vs β=some (x,β')→All2 (Rv G w) vs us→Rp ss x
 |[],_,_,_,_,_,_,_=>trivial
 |s::ss,[],_,_,_,_,h,_=>by simp[sk] at h
 |s::ss,v::vs,[],_,_,_,_,h=>h.elim
 |s::ss,v::vs,u::us,β,β',x,h,hv=>by
  simp only[sk] at h
  split at h
  ·rename_i y β1 g1
   split at h
   ·rename_i ys β2 g2
    simp only[zC,zD] at h
    obtain ⟨rfl,_⟩:=h
    exact ⟨Q3 g1 hv.1,Ah g2 hv.2⟩
   ·cases h
  ·cases h
theorem Eo {G:Gh}{w:World}{A:AS}(hob:ObOk G w A):∀{os:List (List Sh)} {i:Nat} {β β':Bn} {x:sh os},JE A.ob os i β=some (x,β')→RD os x
 |[],_,_,_,_,_=>trivial
 |o::os,i,β,β',x,h=>by
  simp only[JE] at h
  split at h
  ·rename_i k hk
   split at h
   ·rename_i cs hcs
    split at h
    ·rename_i x1 β1 g1
     split at h
     ·rename_i xs β2 g2
      simp only[zC,zD] at h
      obtain ⟨rfl,_⟩:=h
      have hcs':A.ob[k]?=some (some cs):=by
       rw[List.getD_eq_getElem?_getD] at hcs
       cases e:A.ob[k]? with
       |none=>rw[e] at hcs;cases hcs
       |some y=>rw[e] at hcs;simp only[Option.getD_some] at hcs;rw[hcs]
      obtain ⟨b,cur,el,_,_,hr⟩:=hob.cells hcs' (qU g1)
      exact ⟨Ah g1 (us:=cur.toList) (hr.map_left _ fun a v h=>h),Eo hob g2⟩
     ·cases h
    ·cases h
   ·cases h
  ·cases h
theorem yh (I Ks:List Nat)(x:LI×Int):C.strip I Ks (.itr x)=.itr x:=by
 have:(Ks.any fun k=>(C.itr x).hasKey k)=false:=by simp[C.hasKey]
 unfold C.strip
 rw[this]
 rfl
def QO (P:Program)(fn:Func)(R:Ending→World→Prop)(ex:Ex)(G:Gh)(a:Act)(w:World):Prop:=
 match ex with
 |.normal=>∃v,(results fn a.tmps).run P w=.ok v w∧R (.returned v) w
 |.ret=>∃v,(results fn a.tmps).run P w=.ok v w∧R (.returned v) w
 |.panic v=>∀u,Rv G w v u→R (.panicked [{ v:=u,recovered:=false }]) w
 |.exit _=>False
def Sh.quiet:Sh→Bool
 |.dat _ _ own=>!own
 |_=>false
def Io.quiet (io:Io):Bool:=io.obs.isEmpty&&io.args.all Sh.quiet
theorem uT (f:Nat→Nat):∀(ss:List Sh) (vs:List V) (i:Nat),ss.all Sh.quiet=true→ga f ss vs i=[]
 |[],_,_,_=>by simp[ga]
 |_::_,[],_,_=>by simp[ga]
 |s::ss,v::vs,i,h=>by
  simp only[List.all_cons,zA] at h
  simp only[ga,uT f ss vs (i+1) h.2,List.append_nil]
  cases s with
  |dat t agg own=>cases own <;> first | rfl | cases h.1
  |ptr n off=>rfl
  |fnc f q ns=>rfl
  |nil=>rfl
def PL (P:Program)(tt:TT)(f:Nat)(fn:Func)(io:Io)(d:io.In)(out:io.Res):Prop:=
 ∀(F:Fra) (G:Gh) (cst:List (Array Value)) (w:World) (vals:Array Value) (R:Ending→World→Prop),
  Rel F G (io.start fn.ntmps d) (vals++Array.replicate (fn.ntmps - vals.size) undef) cst w→(∀d,F.mu0 (io.obs.length+d)=none)→(io.quiet=true→F.w0=w∧∀b,¬ F.X b)→
  (∀ex A' G' a' w',Rel F G' A' a'.tmps cst w'→io.fin tt fn ex A'=some out→QO P fn R ex G' a' w')→Calls P f vals w R
theorem qG (htt:cJ P tt){f:Nat}{fn:Func}(hf:P.funcs[f]?=some fn)
  (hname:(fn.name == "runtime.NumGoroutine")=false) (io:Io)
  (Fn:io.In→Tr io.Res) (hF:∀d out,io.wf d→(Fn d).val=some out→PL P tt f fn io d out) (hbody:fn.body.isNone=false):HcOk P f (ah io Fn):=by
 intro R args id A K r F G ts cst w vals hid h Rl hv
 refine ⟨⟨fn,hf,hname,hbody⟩,?_⟩
 unfold ah at h
 split at h
 ·cases h
 ·rename_i a β1 h1
  split at h
  ·cases h
  ·rename_i o β h2
   generalize how:ga (cV 0) io.args args 0++li A.ob β (lM io.obs.length 0) io.obs 0=ow at h
   simp only at h
   cases hck:bv (ow.map (·.2))&&(bv (ow.map (·.1))&&io.ok) with
   |false=>rw[hck] at h;cases h
   |true=>
    rw[hck] at h
    simp only[zA] at hck
    obtain ⟨hn2,hn1,hok⟩:=hck
    simp only[cond_true] at h
    obtain ⟨Rs,hinj,hlen,himp⟩:=Ju Rl io h1 h2 hv how.symm hn1 hn2 hok fn.ntmps
    obtain ⟨out,hout,h⟩:=Tr.run_val h
    have hrun:=hF _ _ ⟨Ah h1 hv,Eo Rl.ob h2⟩ hout
    have hkb:∀d,(ld G w β ow).mu0 (io.obs.length+d)=none:=by
     intro d
     show (gE G β ow).mu _=none
     simp only[gE]
     cases hk:β.at (io.obs.length+d) with
     |none=>rfl
     |some k=>have:=Bn.at_lt hk;omega
    have hI:∀p∈ow,p.2∈ow.map (·.2):=fun p hp=>List.mem_map.2 ⟨p,hp,rfl⟩
    have hqt:io.quiet=true→(ld G w β ow).w0=w∧∀b,¬(ld G w β ow).X b:=by
     intro hq
     unfold Io.quiet at hq
     simp only[zA,List.isEmpty_iff] at hq
     have e1:β=[]:=List.length_eq_zero_iff.1 (by rw[hlen,hq.1];rfl)
     have e2:ow=[]:=by
      rw[← how,uT _ _ _ _ hq.2,hq.1]
      rfl
     refine ⟨rfl,fun b hb=>?_⟩
     subst e1 e2
     rcases hb with ⟨j,hj⟩ | ⟨j,l,hj⟩
     ·obtain ⟨k,hk,_⟩:=fo hj
      simp[Bn.at] at hk
     ·obtain ⟨p,hp,_⟩:=ki hj
      cases hp
    refine hrun _ _ _ _ _ _ Rs hkb hqt ?_
    intro ex A' G' a' w' R' hk
    have ret:kf tt io fn A'=some out→QO P fn (fun e w'=>∃G' A' v u,Rel F G' A' ts cst w'∧Rv G' w' v u∧
      ((e=.returned u∧∃ks,Unt G G' (Od ks) w w'∧K (.ret v ks) A'=some r)∨(e=.panicked [{ v:=u,recovered:=false }]∧K (.pan v) A'=some r))) .ret G' a' w':=by
     intro hfin
     unfold kf at hfin
     split at hfin
     ·rename_i rr βr g1
      split at hfin
      ·rename_i o' βf g2
       cases hnd:bv ((ga _root_.id io.res (fn.results.toList.map (vW tt A')) 0++li A'.ob βf βf (io.obs++io.nobs) 0).map (·.2)) with
       |false=>rw[hnd] at hfin;cases hfin
       |true=>
        rw[hnd] at hfin
        simp only[cond_true,zC] at hfin
        subst hfin
        simp only[AS.force_eq,V.force_eq] at h
        obtain ⟨us,hres,hus⟩:=CX htt R' fn (uI g1)
        obtain ⟨⟨a1,a2,a3⟩,a4,a5⟩:=mZ g1 hus
        obtain ⟨⟨b1,b2,b3⟩,b4,b5,b6⟩:=mY R'.ob g2
        have hfinj:βf.inj:=b2 (a2 (J2 _ _))
        have hfle:(lM io.obs.length io.nobs.length).le βf:=a1.trans b1
        have hflen:βf.length=io.obs.length+io.nobs.length:=by rw[b3,a3];simp[lM]
        generalize hbase:max (id / 2) A.ob.length=base at h
        generalize hβ':β++(List.range io.nobs.length).map (fun j=>some (base+j))=β' at h
        generalize hids:j5 (fun i=>id+1048576*i) io.res 0++uR β' (io.obs++io.nobs) 0=ids at h
        cases hni:bv ids with
        |false=>rw[hni] at h;cases h
        |true=>
         rw[hni] at h
         simp only[cond_true] at h
         have hb1:id / 2≤base:=by rw[← hbase];exact Nat.le_max_left _ _
         have hb2:A.ob.length≤base:=by rw[← hbase];exact Nat.le_max_right _ _
         have hβlt:∀j,j<io.obs.length→β'.at j=β.at j:=by
          intro j hj
          rw[← hβ']
          unfold Bn.at
          rw[List.getD_eq_getElem?_getD,List.getD_eq_getElem?_getD,List.getElem?_append_left (by rw[hlen];exact hj)]
         have hβge:∀j,j<io.nobs.length→β'.at (io.obs.length+j)=some (base+j):=by
          intro j hj
          rw[← hβ']
          unfold Bn.at
          rw[List.getD_eq_getElem?_getD,List.getElem?_append_right (by rw[hlen];omega),hlen,List.getElem?_map,Nat.add_sub_cancel_left,List.getElem?_range hj]
          rfl
         have hβall:∀j,0≤j→j<0+(io.obs++io.nobs).length→∃k,β'.at j=some k:=by
          intro j _ hj
          rw[Nat.zero_add,zH] at hj
          rcases Nat.lt_or_ge j io.obs.length with h' | h'
          ·obtain ⟨k,cs,hk,_⟩:=himp j h'
           exact ⟨k,by rw[hβlt j h',hk]⟩
          ·exact ⟨base+(j - io.obs.length),by have:=hβge (j - io.obs.length) (by omega);rwa [show io.obs.length+(j - io.obs.length)=j by omega] at this⟩
         have hfall:∀j,0≤j→j<0+(io.obs++io.nobs).length→∃k,βf.at j=some k:=fun j h1 h2=>let ⟨k,_,hk,_⟩:=b6 j h1 h2;⟨k,hk⟩
         generalize hOW:ga (fun i=>id+1048576*i) io.res (fn.results.toList.map (vW tt A')) 0++li A'.ob βf β' (io.obs++io.nobs) 0=OW
         have hO2:bv (OW.map (·.2))=true:=by
          rw[← hOW,List.map_append,uU (fun i=>id+1048576*i) _root_.id io.res _ 0 0,CS A'.ob βf β' βf (io.obs++io.nobs) 0 hβall hfall,← List.map_append]
          exact hnd
         have hOfst:OW.map (·.1)=ids:=by
          rw[← hOW,List.map_append,uS _ _ _ _ (Ag g1),CR A'.ob βf β' _ _ (b5 βf (.refl _)) hβall (fun j k o cs e1 e2 e3=>He R'.ob g2 βf (.refl _) j k o cs e1 e2 e3),hids]
         have hO1n:bv (OW.map (·.1))=true:=by rw[hOfst];exact hni
         have hO1:∀p∈OW,p.1∈ow.map (·.2)++ids:=fun p hp=>List.mem_append_right _ (by rw[← hOfst];exact List.mem_map.2 ⟨p,hp,rfl⟩)
         have hI':∀p∈ow,p.2∈ow.map (·.2)++ids:=fun p hp=>List.mem_append_left _ (hI p hp)
         let m':Nat→Option Nat:=fun n=>(βf.at n).bind G'.mu
         let mn:Nat→Option Nat:=fun j=>m' (io.obs.length+j)
         have hm'at:∀n b,m' n=some b→∃k,βf.at n=some k∧G'.mu k=some b:=by
          intro n b hb
          simp only[m'] at hb
          cases hk:βf.at n with
          |none=>rw[hk] at hb;cases hb
          |some k=>rw[hk] at hb;exact ⟨k,rfl,hb⟩
         have hself:∀i,i<io.obs.length→βf.at i=some i:=fun i hi=>hfle i i (by rw[sA,if_pos hi])
         have hmn:∀j b,mn j=some b→(∀i,(gE G β ow).mu i≠some b)∧∃k,G'.mu k=some b:=by
          intro j b hb
          obtain ⟨k,hk1,hk2⟩:=hm'at _ b hb
          refine ⟨fun i hi=>?_,k,hk2⟩
          have hi':=R'.gh.fix_ i b hi
          have e:=R'.gh.muI _ _ _ hk2 hi'
          subst e
          obtain ⟨k0,hk0,_⟩:=fo hi
          have hil:k<io.obs.length:=by rw[← hlen];exact Bn.at_lt hk0
          have:=hfinj _ _ _ hk1 (hself k hil)
          omega
         have hmi:∀i j b,mn i=some b→mn j=some b→i=j:=by
          intro i j b hi hj
          obtain ⟨k,hk1,hk2⟩:=hm'at _ b hi
          obtain ⟨k',hk3,hk4⟩:=hm'at _ b hj
          have e:=R'.gh.muI _ _ _ hk2 hk4
          subst e
          have:=hfinj _ _ _ hk1 hk3
          omega
         have hbs:∀d,F.mu0 (base+d)=none:=fun d=>by
          have:=hid (base - id / 2+d)
          rw[show id / 2+(base - id / 2+d)=base+d by omega] at this
          exact this
         have hgh:=CQ (I:=ow.map (·.2)++ids) (OW:=OW) (nn:=io.nobs.length) Rl.gh R'.gh hI' hO2 hbs hmn hmi
         have hval:∀c v,Rc G w c v→Rc (co G G' (ow.map (·.2)++ids) OW base io.nobs.length mn) w' (c.strip (ow.map (·.2)++ids) ((List.range io.nobs.length).map (base + ·))) v:=fun c v hc=>xW Rl.gh R'.gh hI' hO1 hc
         have hm':∀n b,m' n=some b→∃k,β'.at n=some k∧(co G G' (ow.map (·.2)++ids) OW base io.nobs.length mn).mu k=some b:=by
          intro n b hb
          obtain ⟨k,hk1,hk2⟩:=hm'at n b hb
          have hnl:n<io.obs.length+io.nobs.length:=by rw[← hflen];exact Bn.at_lt hk1
          rcases Nat.lt_or_ge n io.obs.length with hn | hn
          ·obtain ⟨k0,cs0,hk0,hcs0⟩:=himp n hn
           obtain ⟨b0,o0,hm0,_,_⟩:=Rl.ob k0 cs0 hcs0
           have hin:(gE G β ow).mu n=some b0:=by simp only[gE,hk0,Option.bind_some,hm0]
           have hfx:=R'.gh.fix_ n b0 hin
           rw[hself n hn] at hk1
           cases hk1
           rw[hfx] at hk2
           cases hk2
           refine ⟨k0,by rw[hβlt n hn,hk0],?_⟩
           have hlt:k0<A.ob.length:=(List.getElem?_eq_some_iff.1 hcs0).1
           simp only[co]
           rw[if_neg (by omega)]
           exact hm0
          ·refine ⟨base+(n - io.obs.length),?_,?_⟩
           ·have:=hβge (n - io.obs.length) (by omega)
            rw[show io.obs.length+(n - io.obs.length)=n by omega] at this
            exact this
           ·simp only[co]
            rw[if_pos (by omega)]
            simp only[mn]
            rw[show io.obs.length+(base+(n - io.obs.length) - base)=n by omega]
            exact hb
         have hfind:∀p∈OW,∀b l,G'.ow p.2=some (b,l)→(co G G' (ow.map (·.2)++ids) OW base io.nobs.length mn).ow p.1=some (b,l):=by
          intro p hp b l hb
          simp only[co,fi hO1n hp,hb]
         have hokb:(io.obs++io.nobs).all (·.all Sh.cellB)=true:=hok
         have hobs:JU (co G G' (ow.map (·.2)++ids) OW base io.nobs.length mn) w' m' (fun j=>match β'.at j with | some k=>cn k | none=>_root_.id) (io.obs++io.nobs) 0:=by
          refine (b5 βf (.refl _)).to (β':=β') m' _ 0 (fun j k hk=>by simp only[m',hk,Option.bind_some]) (fun j h1 h2=>?_) fun p hp b l hb=>hfind p (by rw[← hOW];exact List.mem_append_right _ hp) b l hb
          obtain ⟨k,hk⟩:=hβall j h1 h2
          exact ⟨k,hk,by rw[hk]⟩
         have hro:QJ (co G G' (ow.map (·.2)++ids) OW base io.nobs.length mn) w' (fun i=>id+1048576*i) io.res us 0:=a5.to _ 0 hus.length fun p hp b l hb=>⟨hfind p (by rw[← hOW];exact List.mem_append_left _ hp) b l hb,rfl⟩
         obtain ⟨c1,_,c3,_⟩:=kS (G:=co G G' (ow.map (·.2)++ids) OW base io.nobs.length mn) (β:=β') (fun i=>id+1048576*i) 0 (a4 βf b1) hm' hro
         refine ⟨_,hres,_,_,_,_,⟨?_,?_,?_,hgh⟩,CW c1 c3,.inl ⟨rfl,_,⟨fun b o hs=>⟨R'.gh.sub b o hs,R'.gh.keep b o hs⟩,fun key b hx hb=>?_⟩,h⟩⟩
         ·exact Rl.tm.map_left _ fun a b h=>Rv.map hval h
         ·exact Rl.stk.map_left _ fun a b h=>h.map_left _ fun a b h=>Rv.map hval h
         ·intro k cs hk
          refine mp (G:=co G G' (ow.map (·.2)++ids) OW base io.nobs.length mn) hm' 0 (b4 βf (.refl _)) hobs hokb ?_ k cs hk
          intro k cs hk
          rw[List.getElem?_append] at hk
          split at hk
          ·obtain ⟨cs0,hcs0,rfl⟩:=AS.map_ob hk
           obtain ⟨b,oo,hmk,hhk,hrk⟩:=Rl.ob k cs0 hcs0
           have hlt:k<A.ob.length:=(List.getElem?_eq_some_iff.1 hcs0).1
           by_cases himpk:∃j,β.at j=some k
           ·obtain ⟨j,hj⟩:=himpk
            have hjl:j<io.obs.length:=by rw[← hlen];exact Bn.at_lt hj
            exact .inr ⟨j,Nat.zero_le _,by rw[zH];omega,by rw[hβlt j hjl];exact hj⟩
           ·refine .inl ⟨b,oo,?_,?_,hrk.map hval (yh _ _)⟩
            ·simp only[co]
             rw[if_neg (by omega)]
             exact hmk
            ·rw[oA Rl.gh R'.gh hmk,hhk]
             intro j hj
             obtain ⟨k',hk1,hk2⟩:=fo hj
             have e:=Rl.gh.muI _ _ _ hk2 hmk
             subst e
             exact himpk ⟨j,hk1⟩
          ·rw[List.getElem?_replicate] at hk
           split at hk <;> cases hk
         ·have hx1:key ∉ β.map (·.getD 0)++(List.range io.nobs.length).map (base + ·):=fun hin=>hx fun l hl=>by cases hl;exact hin
          rw[List.mem_append,not_or] at hx1
          refine ⟨?_,oA Rl.gh R'.gh hb fun j hj=>?_⟩
          ·simp only[co]
           rw[if_neg]
           ·exact hb
           ·intro hr
            exact hx1.2 (List.mem_map.2 ⟨key - base,List.mem_range.2 (by omega),by omega⟩)
          ·obtain ⟨k',hk1,hk2⟩:=fo hj
           have e:=Rl.gh.muI _ _ _ hk2 hb
           subst e
           exact hx1.1 (List.mem_map.2 ⟨some k',Bn.at_mem hk1,rfl⟩)
      ·cases hfin
     ·cases hfin
    cases ex with
    |normal=>exact ret hk
    |ret=>exact ret hk
    |exit i=>simp[Io.fin] at hk
    |panic v=>
     intro u hu
     simp only[Io.fin] at hk
     split at hk
     ·rename_i x hx
      simp only[zC] at hk
      subst hk
      simp only[AS.force_eq,V.force_eq] at h
      obtain ⟨hpv,T,t,d,rfl⟩:=CT hx
      have hgh:=CQ (I:=ow.map (·.2)) (OW:=[]) (base:=id / 2) (nn:=0) (mn:=fun _=>none) Rl.gh R'.gh hI rfl hid (by simp) (by simp)
      have hval:∀c v,Rc G w c v→Rc (co G G' (ow.map (·.2)) [] (id / 2) 0 fun _=>none) w' (c.strip (ow.map (·.2)) []) v:=fun c v hc=>xW (OW:=[]) (base:=id / 2) (nn:=0) (mn:=fun _=>none) Rl.gh R'.gh hI (by simp) hc
      refine ⟨_,_,_,u,⟨?_,?_,?_,hgh⟩,?_,.inr ⟨rfl,h⟩⟩
      ·exact Rl.tm.map_left _ fun a b h=>Rv.map hval h
      ·exact Rl.stk.map_left _ fun a b h=>h.map_left _ fun a b h=>Rv.map hval h
      ·intro k cs hk
       obtain ⟨hk1,hk2⟩:=Dp _ _ k cs hk
       obtain ⟨cs0,hcs0,rfl⟩:=AS.map_ob hk1
       obtain ⟨b,oo,hmk,hhk,hrk⟩:=Rl.ob k cs0 hcs0
       refine ⟨b,oo,?_,?_,hrk.map hval (yh _ _)⟩
       ·simp only[co]
        rw[if_neg (by omega)]
        exact hmk
       ·rw[oA Rl.gh R'.gh hmk,hhk]
        intro j hj
        obtain ⟨k',hk3,hk4⟩:=fo hj
        have e:=Rl.gh.muI _ _ _ hk4 hmk
        subst e
        exact hk2 (List.mem_map.2 ⟨some k',Bn.at_mem hk3,rfl⟩)
      ·rw[hpv]
       obtain ⟨u',e,hu'⟩:=hu
       exact ⟨u',e,hu'⟩
     ·cases hk
theorem Ce (htt:cJ P tt)(hm:P.follows .mixedOrders=true){hd:Hd}(hh:lK P hd){okDraw:Dr}(hdr:ll P tt okDraw){f:Nat}{fn:Func}(hf:P.funcs[f]?=some fn)
  (hname:(fn.name == "runtime.NumGoroutine")=false) (io:Io) (lp:Lp) (hlp:∀c,fn.body=some c→∀e∈bB (mb fn) c (mb fn) [],∀h,lp (cY e.2.1)=some h→tB P io.obs.length e.2.1 h)
  (Fn:io.In→Tr io.Res) (hF:∀d out,io.wf d→(Fn d).val=some out→io.run tt hd okDraw lp fn d=some out) (hbody:fn.body.isNone=false):HcOk P f (ah io Fn):=by
 refine qG htt hf hname io Fn (fun d out hd hout F G cst w vals R Rl hkb _ hend=>?_) hbody
 obtain ⟨c,hc⟩:∃c,fn.body=some c:=by
  cases hb:fn.body with
  |none=>rw[hb] at hbody;cases hbody
  |some c=>exact ⟨c,rfl⟩
 have hrun:=hF d out hd hout
 simp only[Io.run,hc] at hrun
 refine calls_of_wp hf hc (gn htt hm hh hdr hkb c (hlp c hc) hrun Rl ?_)
 intro ex A' G' a' w' R' hdf hk
 have:=hend ex A' G' a' w' R' hk
 cases ex with
 |normal=>exact ⟨hdf,this⟩
 |ret=>exact ⟨hdf,this⟩
 |exit i=>exact this.elim
 |panic v=>exact fun u hu=>⟨hdf,this u hu⟩
end
end Go.Proofs.YthpcdhgpplmneaaGreatDoor.Sym
