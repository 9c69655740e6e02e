/- leatref01.Fits, Digits, Number. -/
import Derived.Test.YthpcdhgpplmneaaGreatDoorQ4

set_option linter.unusedVariables false
set_option linter.unusedSimpArgs false
namespace Go.Proofs.YthpcdhgpplmneaaGreatDoor.Sym
open Go
open Go.IntKind (i8 i16 i32 i64 u8 u16 u32 u64)
noncomputable section
abbrev fm:Io:=⟨[cO,dI],[],[],[dO],none⟩
def pa (d:fm.In):Tr fm.Res:=.ite (decide ((0:Int)≤d.1.2.1)&&decide (d.1.2.1≤(8:Int))) (.ret (.ret ((aU d.1.1 d.1.2.1.toNat,()),()))) .no
abbrev mZ:List (Nat×Hc):=[]
def qV:Hd:=bB mZ
abbrev cw:Lo:=⟨⟨(.one hI::.one hI::.any::bi (.one (.onl 5 (Ty.int u8) 11)::.one hI::.any::ah (ah (bv (bi []))))),[]⟩,[(.exit 0,⟨(.any::.one hI::.any::bi (.one (.onl 5 (Ty.int u8) 11)::ah (ah (cN [])))),[]⟩)]⟩
abbrev cb:Lo:=⟨⟨(.any::bv (.one (.onl 5 (Ty.int u8) 11)::bi (.one (.onl 5 (Ty.int u8) 17)::.one hI::ah (ah (bv []))))),[]⟩,[(.exit 2,⟨(cN (.one (.onl 5 (Ty.int u8) 17)::.any::ah (ah (bv [])))),[]⟩)]⟩
def fp (v:Int):Nat→LI
 |0=>[]
 |n+1=>v % 256::fp (v / 256) n
def ii (d:cw.st.den):Tr (ao cw.xs):=
 .ite (decide (d.1.2.2.1.length=0)&&(decide (d.1.2.2.2.1=0)&&(decide ((0:Int)≤d.1.2.1)&&decide (d.1.2.1≤(8:Int))))) (.ret (.ret ((),((d.1.2.1,(fp d.1.1 d.1.2.1.toNat,())),())))) .no
def fi (d:cb.st.den):Tr (ao cb.xs):=
 .ite (decide (d.1.2.1.length=0)&&(decide (d.1.2.2.1=(d.1.1.length:Int) - 1)&&decide (d.1.1.length≤8))) (.ret (.ret ((),((d.1.1.reverse,()),())))) .no
def gW:Lp:=bP [(4,aA cw ii),(13,aA cb fi)]
def nQ {R:Type}(h2 h3:Int)(h4:LI)(h5:Int)(next:Int→Int→LI→Int→Option R)(out:ao cw.xs→Option R):Option R:=bif decide (h5<h3) then bif decide (i64.wrap (h2.tmod 256)<0) then bif decide (h4.length+[u8.wrap (i64.wrap (i64.wrap (h2.tmod 256)+256))].length≤4294967296) then next (i64.wrap ((i64.wrap (h2 - i64.wrap (i64.wrap (h2.tmod 256)+256))).tdiv 256)) (h3) (h4++[u8.wrap (i64.wrap (i64.wrap (h2.tmod 256)+256))]) (i64.wrap (h5+1)) else none else bif decide (h4.length+[u8.wrap (i64.wrap (h2.tmod 256))].length≤4294967296) then next (i64.wrap ((i64.wrap (h2 - i64.wrap (h2.tmod 256))).tdiv 256)) (h3) (h4++[u8.wrap (i64.wrap (h2.tmod 256))]) (i64.wrap (h5+1)) else none else out (.ret ((),((h3,(h4,())),())))
def jw (n:Nat)(h2 h3:Int)(h4:LI)(h5:Int):Option (ao cw.xs):=fH tt qV dr gW 0 Tryz.f85 (bI Tryz.f85 0) n (cw.st.mk' ((h2,(h3,(h4,(h5,())))),())) (bo cw.xs)
theorem DB (n:Nat)(h2 h3:Int)(h4:LI)(h5:Int):jw (n+1) h2 h3 h4 h5=nQ h2 h3 h4 h5 (jw n) some:=by kernel_rfl
def iY {R:Type}(h18 h19:LI)(h20:Int)(next:LI→LI→Int→Option R)(out:ao cb.xs→Option R):Option R:=bif decide (0≤h20) then bif decide (0≤h20)&&decide (h20<(↑h18.length:Int)) then bif decide (h19.length+[h18.getD h20.toNat 0].length≤4294967296) then next (h18) (h19++[h18.getD h20.toNat 0]) (i64.wrap (h20 - 1)) else none else none else out (.ret ((),((h19,()),())))
def lb (n:Nat)(h18 h19:LI)(h20:Int):Option (ao cb.xs):=fH tt qV dr gW 0 Tryz.f85 (bI Tryz.f85 1) n (cb.st.mk' ((h18,(h19,(h20,()))),())) (bo cb.xs)
theorem pZ (n:Nat)(h18 h19:LI)(h20:Int):lb (n+1) h18 h19 h20=iY h18 h19 h20 (lb n) some:=by kernel_rfl
theorem Od (v:Int):(v.tmod 256<0→v.tmod 256+256=v % 256)∧(¬ v.tmod 256<0→v.tmod 256=v % 256):=by
 by_cases h:0≤v
 ·rw[Int.tmod_eq_emod_of_nonneg h];omega
 ·obtain ⟨u,rfl⟩:∃u,v = -u:=⟨-v,by omega⟩
  rw[Int.neg_tmod,Int.tmod_eq_emod_of_nonneg (by omega)];omega
theorem N9 (v:Int):(v - v % 256).tdiv 256=v / 256:=by
 have e:v - v % 256=v / 256*256:=by omega
 rw[e,Int.mul_tdiv_cancel _ (by decide)]
theorem Qr {n:Int}(h0:0≤n)(h1:n<256):u8.wrap n=n:=bN (by simp[bC,IntKind.min,IntKind.max,IntKind.signed,IntKind.bits];omega)
theorem ww {m:Nat}(hm:m≤8):∀(k j:Nat) (v:Int) (acc:LI),m<j+k→j≤m→acc.length=j→-9223372036854775808≤v→v≤9223372036854775807→
  jw k v (m:Int) acc j=some (.ret ((),(((m:Int),(acc++fp v (m - j),())),()))):=by
 intro k
 induction k with
 |zero=>intro j v acc h;omega
 |succ k ih=>
  intro j v acc h1 h2 h3 h4 h5
  rw[DB]
  unfold nQ
  by_cases hj:j<m
  ·refine bT (decide_eq_true (show (j:Int)<(m:Int) by omega)) ?_
   have ht:=Od v
   have hd:∀x:Int,x=v % 256→jw k (i64.wrap ((i64.wrap (v - x)).tdiv 256)) (m:Int) (acc++[u8.wrap x]) (i64.wrap ((j:Int)+1))=some (.ret ((),(((m:Int),(acc++fp v (m - j),())),()))):=by
    rintro x rfl
    rw[ae (n:=v - v % 256) (by omega) (by omega),N9,ae (n:=v / 256) (by omega) (by omega),ae (n:=(j:Int)+1) (by omega) (by omega),Qr (n:=v % 256) (by omega) (by omega)]
    refine (ih (j+1) (v / 256) (acc++[v % 256]) (by omega) (by omega) (by simp[h3]) (by omega) (by omega)).trans ?_
    obtain ⟨q,hq⟩:∃q,m - j=q+1:=⟨m - j - 1,by omega⟩
    rw[hq,show m - (j+1)=q by omega,fp]
    simp
   have hr : -256≤v.tmod 256∧v.tmod 256<256:=by
    by_cases h:v.tmod 256<0
    ·have:=ht.1 h;omega
    ·have:=ht.2 h;omega
   rw[ae (n:=v.tmod 256) (by omega) (by omega),ae (n:=v.tmod 256+256) (by omega) (by omega)]
   by_cases hn:v.tmod 256<0
   ·refine bT (by simpa using hn) ?_
    refine bT (decide_eq_true (show acc.length+1≤4294967296 by omega)) ?_
    exact hd _ (ht.1 hn)
   ·refine bF (by simpa using hn) ?_
    refine bT (decide_eq_true (show acc.length+1≤4294967296 by omega)) ?_
    exact hd _ (ht.2 hn)
  ·refine bF (decide_eq_false (show ¬(j:Int)<(m:Int) by omega)) ?_
   rw[show m - j=0 by omega,fp]
   simp
theorem vj {low:LI}(hl:low.length≤8):∀(j:Nat) (acc:LI),j≤low.length→acc.length+j≤8→
  lb (j+1) low acc ((j:Int) - 1)=some (.ret ((),((acc++(low.take j).reverse,()),()))):=by
 intro j
 induction j with
 |zero=>
  intro acc h1 h2
  rw[pZ]
  unfold iY
  refine bF (by decide) ?_
  simp
 |succ j ih=>
  intro acc h1 h2
  rw[pZ]
  unfold iY
  rw[show ((j+1:Nat):Int) - 1=(j:Int) by omega]
  have hg:List.getD low j (0:Int)=low[j]'(by omega):=aB (by omega)
  refine bT (by simp) ?_
  refine bT (by simp;omega) ?_
  simp only[zG,hg]
  refine bT (decide_eq_true (show acc.length+1≤4294967296 by omega)) ?_
  rw[ae (n:=(j:Int) - 1) (by omega) (by omega)]
  refine (ih (acc++[low[j]'(by omega)]) (by omega) (by simp;omega)).trans ?_
  rw[List.take_succ_eq_append_getElem (by omega),List.reverse_append,List.reverse_singleton,zK]
theorem J6 (v:Int):∀n,(fp v n).length=n:=by
 intro n
 induction n generalizing v with
 |zero=>rfl
 |succ n ih=>rw[fp,zN,ih]
theorem vW:∀(n:Nat) (v:Int),fp v (n+1)=fp v n++[(v / 256 ^ n) % 256]
 |0,v=>by simp[fp]
 |n+1,v=>by
  rw[fp,vW n (v / 256),fp]
  have e:v / 256 / 256 ^ n=v / 256 ^ (n+1):=by
   rw[Int.pow_succ,Int.mul_comm,Int.ediv_ediv_of_nonneg (by decide)]
  rw[e];rfl
theorem yG (v:Int):∀n,(fp v n).reverse=aU v n
 |0=>rfl
 |n+1=>by rw[vW,List.reverse_append,yG v n];rfl
def rP (a0 a1:Int):Option fm.Res:=(ii ((a0,(a1,([],(0,())))),())).run fun y=>match y with | .ret ((),((x16,x17,()),()))=>((fi ((x17,([],(i64.wrap (x16 - 1),()))),())).run fun y=>match y with | .ret ((),((x25,()),()))=>(oR ((x25,()),())))
theorem Fc (a0 a1:Int):Io.run tt qV dr gW fm Tryz.f85 ((a0,a1,()),())=rP a0 a1:=by kernel_rfl
theorem yy:HcOk prog 85 (ai fm pa):=by
 refine bQ (cs:=mZ) HcsOk.nil (lp:=gW) (fn:=Tryz.f85) fm (.step (h0:=aA cw ii) (by kernel_rfl) (fR (cs:=mZ) HcsOk.nil (lp:=gW) (fn:=Tryz.f85) (.done (by kernel_rfl)) cw ii ?_) (.step (h0:=aA cb fi) (by kernel_rfl) (fR (cs:=mZ) HcsOk.nil (lp:=gW) (fn:=Tryz.f85) (.done (by kernel_rfl)) cb fi ?_) (.done (by kernel_rfl)))) pa ?_
 ·rintro ⟨⟨(v:Int),(m:Int),(acc:LI),(i:Int),⟨⟩⟩,⟨⟩⟩ y hw hy
  obtain ⟨hg,hy⟩:=Tr.guard hy
  simp only[zA,zB] at hg
  obtain ⟨h1,h2,h3,h4⟩:=hg
  have h1:acc=[]:=zF h1
  have h2:i=0:=h2
  have h3:(0:Int)≤m:=h3
  have h4:m≤(8:Int):=h4
  subst h1
  subst h2
  obtain ⟨m,rfl⟩:=au h3
  have hv:bC .i64 v:=hw.1.1
  simp only[bC,IntKind.min,IntKind.max,IntKind.signed,IntKind.bits] at hv
  simp at hv
  refine ⟨m+1,(ww (m:=m) (by omega) (m+1) 0 v [] (by omega) (by omega) rfl (by omega) (by omega)).trans ?_⟩
  rw[← hy];rfl
 ·rintro ⟨⟨(low:LI),(acc:LI),(i:Int),⟨⟩⟩,⟨⟩⟩ y hw hy
  obtain ⟨hg,hy⟩:=Tr.guard hy
  simp only[zA,zB] at hg
  obtain ⟨h1,h2,h3⟩:=hg
  have h1:acc=[]:=zF h1
  have h2:i=(low.length:Int) - 1:=h2
  have h3:low.length≤8:=h3
  subst h1
  subst h2
  refine ⟨low.length+1,(vj h3 low.length [] (by omega) (by simpa using h3)).trans ?_⟩
  rw[← hy,List.take_length];rfl
 ·rintro ⟨⟨(v:Int),(m:Int),⟨⟩⟩,⟨⟩⟩ out hw ho
  obtain ⟨hg,ho⟩:=Tr.guard ho
  simp only[zA,zB] at hg
  obtain ⟨h5,h6⟩:=hg
  have h5:(0:Int)≤m:=h5
  have h6:m≤(8:Int):=h6
  cases ho
  refine (Fc v m).trans ?_
  unfold rP
  have c1:(decide (([]:LI).length=0)&&(decide ((0:Int)=0)&&(decide ((0:Int)≤m)&&decide (m≤(8:Int)))))=true:=by simp;omega
  have e1:ii ((v,(m,([],(0,())))),())=.ite true (.ret (.ret ((),((m,(fp v m.toNat,())),())))) .no:=congrArg (fun c=>Tr.ite c _ _) c1
  rw[e1]
  show (fi ((fp v m.toNat,([],(i64.wrap (m - 1),()))),())).run _=_
  rw[ae (n:=m - 1) (by omega) (by omega)]
  have c2:(decide (([]:LI).length=0)&&(decide (m - 1=((fp v m.toNat).length:Int) - 1)&&decide ((fp v m.toNat).length≤8)))=true:=by
   rw[J6];simp;omega
  have e2:fi ((fp v m.toNat,([],(m - 1,()))),())=.ite true (.ret (.ret ((),(((fp v m.toNat).reverse,()),())))) .no:=congrArg (fun c=>Tr.ite c _ _) c2
  rw[e2,yG]
  rfl
def cl (l:LI):Int:=match l with
 |[]=>0
 |c::l=>l.foldl (fun v c=>v*256+c) (if 128≤c then c - 256 else c)
def am (b:LI)(at_ n:Int):Int×Bool:=if at_<0∨(b.length:Int)<at_∨(b.length:Int) - at_<n then (0,false) else (cl ((b.drop at_.toNat).take n.toNat),true)
abbrev f7:Io:=⟨[dL,dI,dI],[],[],[cO,dB],none⟩
def tO (d:f7.In):Tr f7.Res:=.ite (decide ((0:Int)≤d.1.2.2.1)&&decide (d.1.2.2.1≤(8:Int))) (.ret (.ret (((am d.1.1 d.1.2.1 d.1.2.2.1).1,((am d.1.1 d.1.2.1 d.1.2.2.1).2,())),()))) .no
abbrev qN:List (Nat×Hc):=[]
def yi:Hd:=bB qN
abbrev cx:Lo:=⟨⟨(.one (.hol (.sl 5 (Ty.int u8)))::.one hI::.one hI::.any::bv (.one hI::.one hI::ah (ah (cN (bi []))))),[]⟩,[(.exit 0,⟨(cN (.one hI::.any::ah (ah (cN (bi []))))),[]⟩)]⟩
def ij (d:cx.st.den):Tr (ao cx.xs):=
 .ite (decide (d.1.2.2.2.1=0)&&(decide (d.1.2.2.2.2.1=0)&&((decide ((0:Int)≤d.1.2.1)&&decide (d.1.2.1+d.1.2.2.1≤(d.1.1.length:Int)))&&(decide ((0:Int)≤d.1.2.2.1)&&decide (d.1.2.2.1≤(8:Int)))))) (.ret (.ret ((),((cl ((d.1.1.drop d.1.2.1.toNat).take d.1.2.2.1.toNat),()),())))) .no
def nf:Lp:=bP [(6,aA cx ij)]
def nR {R:Type}(h3:LI)(h4 h5 h6 h7:Int)(next:LI→Int→Int→Int→Int→Option R)(out:ao cx.xs→Option R):Option R:=bif decide (h7<h5) then bif decide (0≤i64.wrap (h4+h7))&&decide (i64.wrap (h4+h7)<(↑h3.length:Int)) then bif h7 == 0 then bif decide (128≤i64.wrap (h3.getD (i64.wrap (h4+h7)).toNat 0)) then next (h3) (h4) (h5) (i64.wrap (i64.wrap (h6*256)+i64.wrap (i64.wrap (h3.getD (i64.wrap (h4+h7)).toNat 0) - 256))) (i64.wrap (h7+1)) else next (h3) (h4) (h5) (i64.wrap (i64.wrap (h6*256)+i64.wrap (h3.getD (i64.wrap (h4+h7)).toNat 0))) (i64.wrap (h7+1)) else next (h3) (h4) (h5) (i64.wrap (i64.wrap (h6*256)+i64.wrap (h3.getD (i64.wrap (h4+h7)).toNat 0))) (i64.wrap (h7+1)) else none else out (.ret ((),((h6,()),())))
def mr (n:Nat)(h3:LI)(h4 h5 h6 h7:Int):Option (ao cx.xs):=fH tt yi dr nf 0 Tryz.f133 (bI Tryz.f133 0) n (cx.st.mk' ((h3,(h4,(h5,(h6,(h7,()))))),())) (bo cx.xs)
theorem DC (n:Nat)(h3:LI)(h4 h5 h6 h7:Int):mr (n+1) h3 h4 h5 h6 h7=nR h3 h4 h5 h6 h7 (mr n) some:=by kernel_rfl
theorem FL (l:LI)(c:Int):cl (l++[c])=if l=[] then (if 128≤c then c - 256 else c) else cl l*256+c:=by
 cases l with
 |nil=>simp[cl]
 |cons x l=>simp[cl,List.foldl_append]
theorem DR:∀(l:LI) (v B:Int),(∀c∈l,0≤c∧c<256)→-B≤v→v<B→-(B*256 ^ l.length)≤l.foldl (fun v c=>v*256+c) v∧l.foldl (fun v c=>v*256+c) v<B*256 ^ l.length
 |[],v,B,_,h1,h2=>by simp;omega
 |c::l,v,B,hc,h1,h2=>by
  have h:=hc c (by simp)
  have ih:=DR l (v*256+c) (B*256) (fun x hx=>hc x (by simp[hx])) (by omega) (by omega)
  have e:B*256*256 ^ l.length=B*256 ^ (c::l).length:=by rw[zN,Int.pow_succ,Int.mul_assoc,Int.mul_comm 256]
  rw[e] at ih
  exact ih
theorem NZ {l:LI}(hc:∀c∈l,0≤c∧c<256)(hl:l.length≤7) : -36028797018963968≤cl l∧cl l<36028797018963968:=by
 cases l with
 |nil=>simp[cl]
 |cons c l=>
  have h:=hc c (by simp)
  have h':=DR l (if 128≤c then c - 256 else c) 128 (fun x hx=>hc x (by simp[hx])) (by split <;> omega) (by split <;> omega)
  have hp:(256:Int) ^ l.length≤256 ^ 6:=by
   have:=Nat.pow_le_pow_right (show 0<256 by decide) (show l.length≤6 by simpa using hl)
   have e:((256 ^ l.length:Nat):Int)=(256:Int) ^ l.length:=by simp
   have e2:((256 ^ 6:Nat):Int)=(256:Int) ^ 6:=by simp
   omega
  have e6:(256:Int) ^ 6=281474976710656:=by decide
  show -36028797018963968≤l.foldl _ _∧l.foldl _ _<36028797018963968
  omega
theorem CV {b:LI}(hb:∀c∈b,0≤c∧c<256)(hl:b.length≤maxLen){a m:Nat}(h1:a+m≤b.length)(h2:m≤8):∀(k j:Nat),m<j+k→j≤m→
  mr k b (a:Int) (m:Int) (cl ((b.drop a).take j)) j=some (.ret ((),((cl ((b.drop a).take m),()),()))):=by
 intro k
 induction k with
 |zero=>intro j h;omega
 |succ k ih=>
  intro j h3 h4
  rw[DC]
  unfold nR
  by_cases hj:j<m
  ·have hm:=aG
   rw[hm] at hl
   refine bT (decide_eq_true (show (j:Int)<(m:Int) by omega)) ?_
   have ej:((a:Int)+(j:Int))=((a+j:Nat):Int):=by omega
   have hget:List.getD b (a+j) (0:Int)=b[a+j]'(by omega):=aB (by omega)
   have hc:=hb (b[a+j]'(by omega)) (List.getElem_mem _)
   have e:(b.drop a).take (j+1)=(b.drop a).take j++[b[a+j]'(by omega)]:=by
    rw[List.take_succ_eq_append_getElem (by simp;omega)];simp
   have hs:=NZ (l:=(b.drop a).take j) (fun c hc=>hb c (List.mem_of_mem_drop (List.mem_of_mem_take hc))) (by simp;omega)
   have he:=FL ((b.drop a).take j) (b[a+j]'(by omega))
   rw[← e] at he
   rw[ej,ae (n:=((a+j:Nat):Int)) (by omega) (by omega)]
   refine bT (by simp;omega) ?_
   simp only[zG,hget]
   have ih':=ih (j+1) (by omega) (by omega)
   rw[he] at ih'
   have hv0:j=0→cl ((b.drop a).take j)=0:=by rintro rfl;simp[cl]
   have ht:(b.drop a).take j=[]↔j=0:=by
    constructor
    ·intro h
     have:=congrArg List.length h
     simp at this
     omega
    ·rintro rfl;simp
   generalize b[a+j]'(by omega)=c at hc ih' ⊢
   generalize cl ((b.drop a).take j)=v at hs ih' hv0 ⊢
   rw[ae (n:=c) (by omega) (by omega),ae (n:=v*256) (by omega) (by omega),ae (n:=(j:Int)+1) (by omega) (by omega),ae (n:=v*256+c) (by omega) (by omega),ae (n:=c - 256) (by omega) (by omega)]
   by_cases h0:j=0
   ·have hv:=hv0 h0
    rw[if_pos (ht.2 h0)] at ih'
    refine bT (by simp[h0]) ?_
    by_cases h128:128≤c
    ·rw[if_pos h128] at ih'
     refine bT (by simpa using h128) ?_
     rw[show v*256+(c - 256)=c - 256 by omega,ae (n:=c - 256) (by omega) (by omega)]
     exact ih'
    ·rw[if_neg h128] at ih'
     refine bF (by simpa using h128) ?_
     rw[show v*256+c=c by omega]
     exact ih'
   ·rw[if_neg (fun h=>h0 (ht.1 h))] at ih'
    refine bF (by simpa using h0) ?_
    exact ih'
  ·refine bF (by simpa using hj) ?_
   rw[show j=m by omega]
def rQ (a0:LI)(a1 a2:Int):Option f7.Res:=bif decide (a1<0) then oR ((0,false,()),()) else bif decide ((↑a0.length:Int)<a1) then oR ((0,false,()),()) else bif decide (i64.wrap ((↑a0.length:Int) - a1)<a2) then oR ((0,false,()),()) else (ij ((a0,(a1,(a2,(0,(0,()))))),())).run fun y=>match y with | .ret ((),((x24,()),()))=>(oR ((x24,true,()),()))
theorem Fd (a0:LI)(a1 a2:Int):Io.run tt yi dr nf f7 Tryz.f133 ((a0,a1,a2,()),())=rQ a0 a1 a2:=by kernel_rfl
theorem Jf:HcOk prog 133 (ai f7 tO):=by
 refine bQ (cs:=qN) HcsOk.nil (lp:=nf) (fn:=Tryz.f133) f7 (.step (h0:=aA cx ij) (by kernel_rfl) (fR (cs:=qN) HcsOk.nil (lp:=nf) (fn:=Tryz.f133) (.done (by kernel_rfl)) cx ij ?_) (.done (by kernel_rfl))) tO ?_
 ·rintro ⟨⟨(b:LI),(a:Int),(m:Int),(v:Int),(i:Int),⟨⟩⟩,⟨⟩⟩ y hw hy
  obtain ⟨hg,hy⟩:=Tr.guard hy
  simp only[zA,zB] at hg
  obtain ⟨h1,h2,⟨h3,h4⟩,h5,h6⟩:=hg
  have h1:v=0:=h1
  have h2:i=0:=h2
  have h3:(0:Int)≤a:=h3
  have h4:a+m≤(b.length:Int):=h4
  have h5:(0:Int)≤m:=h5
  have h6:m≤(8:Int):=h6
  subst h1
  subst h2
  obtain ⟨a,rfl⟩:=au h3
  obtain ⟨m,rfl⟩:=au h5
  have hb:∀c∈b,0≤c∧c<256:=fun c hc=>by
   have h:=hw.1.1.2 c hc
   simp only[Ty.wf,bC,IntKind.min,IntKind.max,IntKind.signed,IntKind.bits] at h
   simp at h
   omega
  refine ⟨m+1,(CV hb hw.1.1.1 (a:=a) (m:=m) (by omega) (by omega) (m+1) 0 (by omega) (by omega)).trans ?_⟩
  rw[← hy];rfl
 ·rintro ⟨⟨(b:LI),(a:Int),(m:Int),⟨⟩⟩,⟨⟩⟩ out hw ho
  obtain ⟨hg,ho⟩:=Tr.guard ho
  simp only[zA,zB] at hg
  obtain ⟨h5,h6⟩:=hg
  have h5:(0:Int)≤m:=h5
  have h6:m≤(8:Int):=h6
  cases ho
  refine (Fd b a m).trans ?_
  unfold rQ
  show _=oR (((am b a m).1,((am b a m).2,())),())
  unfold am
  have hl:b.length≤maxLen:=hw.1.1.1
  rw[aG] at hl
  by_cases h1:a<0
  ·rw[if_pos (.inl h1)]
   exact aa (by simpa using h1) _ _
  ·refine bF (by simpa using h1) ?_
   by_cases h2:(b.length:Int)<a
   ·rw[if_pos (.inr (.inl h2))]
    exact aa (by simpa using h2) _ _
   ·refine bF (by simpa using h2) ?_
    rw[ae (n:=(b.length:Int) - a) (by omega) (by omega)]
    by_cases h3:(b.length:Int) - a<m
    ·rw[if_pos (.inr (.inr h3))]
     exact aa (by simpa using h3) _ _
    ·rw[if_neg (by omega)]
     refine bF (by simpa using h3) ?_
     have c1:(decide ((0:Int)=0)&&(decide ((0:Int)=0)&&((decide ((0:Int)≤a)&&decide (a+m≤(b.length:Int)))&&(decide ((0:Int)≤m)&&decide (m≤(8:Int))))))=true:=by simp;omega
     have e1:ij ((b,(a,(m,(0,(0,()))))),())=.ite true (.ret (.ret ((),((cl ((b.drop a.toNat).take m.toNat),()),())))) .no:=congrArg (fun c=>Tr.ite c _ _) c1
     rw[e1]
     rfl
abbrev Cl:Sh:=.dat (.int .u32) false false
def iX (s:Nat):Nat:=if s % 2=1 then (s / 2) ^^^ 2197175160 else s / 2
theorem qm {s:Nat}(h:s<4294967296):iX s<4294967296:=by
 unfold iX
 split
 ·exact Nat.xor_lt_two_pow (n:=32) (by omega) (by omega)
 ·omega
theorem Oi (a b p:Nat):(a ^^^ p) ^^^ (b ^^^ p)=a ^^^ b:=by
 rw[Nat.xor_assoc,← Nat.xor_assoc p b p,Nat.xor_comm p b,Nat.xor_assoc b p p,Nat.xor_self,Nat.xor_zero]
theorem nv (a b:Nat):iX (a ^^^ b)=iX a ^^^ iX b:=by
 have h1:(a ^^^ b) / 2=a / 2 ^^^ b / 2:=Nat.xor_div_two
 have h2:(a ^^^ b) % 2=1↔¬(a % 2=1↔b % 2=1):=Nat.xor_mod_two_eq_one
 unfold iX
 rw[h1]
 by_cases ha:a % 2=1
 ·by_cases hb:b % 2=1
  ·rw[if_neg (by rw[h2];simp[ha,hb]),if_pos ha,if_pos hb,Oi]
  ·rw[if_pos (by rw[h2];simp[ha,hb]),if_pos ha,if_neg hb,Nat.xor_assoc,Nat.xor_comm (b / 2),← Nat.xor_assoc]
 ·by_cases hb:b % 2=1
  ·rw[if_pos (by rw[h2];simp[ha,hb]),if_neg ha,if_pos hb,Nat.xor_assoc]
  ·rw[if_neg (by rw[h2];simp[ha,hb]),if_neg ha,if_neg hb]
theorem nu (m:Nat):iX (2*m)=m:=by
 unfold iX
 rw[if_neg (by omega)]
 omega
def jE (s:Nat):Nat:=iX (iX (iX (iX s)))
theorem Ke (a b:Nat):jE (a ^^^ b)=jE a ^^^ jE b:=by unfold jE;rw[nv,nv,nv,nv]
theorem N4 (q:Nat):jE (16*q)=q:=by
 unfold jE
 rw[show 16*q=2*(2*(2*(2*q))) by omega,nu,nu,nu,nu]
theorem qj {s:Nat}(h:s<4294967296):jE s<4294967296:=qm (qm (qm (qm h)))
theorem Qm (s:Nat):s=(16*(s / 16)) ^^^ (s % 16):=by
 refine Nat.eq_of_testBit_eq fun i=>?_
 rw[Nat.testBit_xor,show 16*(s / 16)=2 ^ 4*(s / 2 ^ 4) by rfl,Nat.testBit_two_pow_mul,Nat.testBit_div_two_pow,show s % 16=s % 2 ^ 4 by rfl,Nat.testBit_mod_two_pow]
 by_cases h:4≤i
 ·have h':¬ i<4:=by omega
  simp[h,h',show i - 4+4=i by omega]
 ·have h':i<4:=by omega
  simp[h,h']
theorem N5 (s:Nat):jE s=(s / 16) ^^^ jE (s % 16):=by
 conv=>lhs;rw[Qm s]
 rw[Ke,N4]
def DU (s:Nat):Nat:=jE (jE s)
theorem DV {s:Nat}(h:s<4294967296):DU s<4294967296:=qj (qj h)
def Ox:LI→Nat→Nat
 |[],s=>s
 |x::l,s=>Ox l (DU (s ^^^ x.toNat))
theorem mU {s:Nat}(h:s<4294967296){x:Int}(hx:x≤255):s ^^^ x.toNat<4294967296:=Nat.xor_lt_two_pow (n:=32) h (by omega)
theorem sZ:∀{l:LI} {s:Nat},(∀c∈l,0≤c∧c≤255)→s<4294967296→Ox l s<4294967296
 |[],_,_,h=>h
 |x::l,_,hl,h=>sZ (l:=l) (fun c hc=>hl c (by simp[hc])) (DV (mU h (hl x (by simp)).2))
@[irreducible] def cC (c:Int)(b:LI):Int:=((Ox b (c.toNat ^^^ 4294967295) ^^^ 4294967295:Nat):Int)
@[irreducible] def jC (b:LI)(s:Int):Int:=((Ox b s.toNat:Nat):Int)
@[irreducible] def rD (s:Int):Int:=(iX s.toNat:Int)
def nr:Nat→Int→Int
 |0,s=>s
 |n+1,s=>nr n (rD s)
theorem v7 (s:Nat):rD (s:Int)=(iX s:Int):=by unfold rD;rw[zG]
theorem N0 (s:Nat):nr 8 (s:Int)=(DU s:Int):=by
 simp only[nr,v7]
 rfl
theorem nx {x y:Nat}(hx:x<4294967296)(hy:y<4294967296):bZ .u32 (x:Int) (y:Int)=((x ^^^ y:Nat):Int):=by
 have e1:(BitVec.ofInt 32 (x:Int)).toNat=x:=by rw[BitVec.toNat_ofInt];omega
 have e2:(BitVec.ofInt 32 (y:Int)).toNat=y:=by rw[BitVec.toNat_ofInt];omega
 show IntKind.wrap .u32 ((BitVec.ofInt 32 (x:Int) ^^^ BitVec.ofInt 32 (y:Int)).toNat:Int)=_
 rw[BitVec.toNat_xor,e1,e2]
 have:=Nat.xor_lt_two_pow (n:=32) hx hy
 exact bN (k:=.u32) (by simp[bC,IntKind.min,IntKind.max,IntKind.signed,IntKind.bits];omega)
theorem HX {x:Nat}(hx:x<4294967296):vZ .u32 (x:Int)=((x ^^^ 4294967295:Nat):Int):=by
 have:=nx (x:=4294967295) (y:=x) (by omega) hx
 rw[Nat.xor_comm] at this
 exact this
theorem qG {x:Nat}(hx:x<4294967296):ew .u32 (x:Int) 15=((x % 16:Nat):Int):=by
 have e1:(BitVec.ofInt 32 (x:Int)).toNat=x:=by rw[BitVec.toNat_ofInt];omega
 show IntKind.wrap .u32 ((BitVec.ofInt 32 (x:Int) &&& BitVec.ofInt 32 15).toNat:Int)=_
 rw[BitVec.toNat_and,e1,show (BitVec.ofInt 32 15).toNat=2 ^ 4 - 1 by decide,Nat.and_two_pow_sub_one_eq_mod]
 exact bN (k:=.u32) (by simp[bC,IntKind.min,IntKind.max,IntKind.signed,IntKind.bits];omega)
theorem ND {x:Nat}(hx:x<4294967296):fY .u32 (x:Int) 4=((x / 16:Nat):Int):=by
 show IntKind.wrap .u32 ((x:Int).fdiv (2 ^ 4))=_
 rw[Int.fdiv_eq_ediv_of_nonneg _ (by decide)]
 rw[show (x:Int) / 2 ^ 4=((x / 16:Nat):Int) by omega]
 exact bN (k:=.u32) (by simp[bC,IntKind.min,IntKind.max,IntKind.signed,IntKind.bits];omega)
theorem Kh {r:Nat}(h:r<16):fc (r:Int)=(jE r:Int):=
 (show ∀r:Nat,r<16→fc (r:Int)=(jE r:Int) by decide +kernel) r h
theorem zw {b:LI}(h:Ty.wf bs b):∀c∈b,0≤c∧c≤255:=fun c hc=>by
 have:=h.2 c hc
 simpa [Ty.wf,bC,IntKind.min,IntKind.max,IntKind.signed,IntKind.bits] using this
theorem qC {s:Int}(h:bC .u32 s):∃n:Nat,s=(n:Int)∧n<4294967296:=by
 simp[bC,IntKind.min,IntKind.max,IntKind.signed,IntKind.bits] at h
 exact ⟨s.toNat,by omega,by omega⟩
theorem DX {s:Nat}(hs:s<4294967296):bZ .u32 (fY .u32 (s:Int) 4) (fc (ew .u32 (s:Int) 15))=(jE s:Int):=by
 have hr:s % 16<16:=by omega
 rw[qG hs,ND hs,Kh hr,nx (by omega) (qj (by omega)),← N5]
abbrev ix:Io:=⟨[Cl],[],[],[Cl],none⟩
def yO (d:ix.In):Tr ix.Res:=.ret (.ret ((rD d.1.1,()),()))
abbrev B5:List (Nat×Hc):=[]
def LB:Hd:=bB B5
def C6:Lp:=bP []
def uh (a0:Int):Option ix.Res:=bif u32.wrap (a0.tmod 2) == 1 then oR ((bZ u32 (u32.wrap (a0.tdiv 2)) 2197175160,()),()) else oR ((u32.wrap (a0.tdiv 2),()),())
theorem Jt (a0:Int):Io.run tt LB dr C6 ix Tryz.f159 ((a0,()),())=uh a0:=by kernel_rfl
theorem Mp:HcOk prog 159 (ai ix yO):=by
 refine bQ (cs:=B5) HcsOk.nil (lp:=C6) (fn:=Tryz.f159) ix (.done (by kernel_rfl)) yO ?_
 rintro ⟨⟨(s:Int),⟨⟩⟩,⟨⟩⟩ out hw ho
 cases ho
 refine (Jt s).trans ?_
 unfold uh
 obtain ⟨n,rfl,hn⟩:=qC hw.1.1
 have e1:u32.wrap ((n:Int).tmod 2)=((n % 2:Nat):Int):=by
  rw[Int.tmod_eq_emod_of_nonneg (by omega)]
  exact (bN (k:=.u32) (by simp[bC,IntKind.min,IntKind.max,IntKind.signed,IntKind.bits];omega)).trans (by omega)
 have e2:u32.wrap ((n:Int).tdiv 2)=((n / 2:Nat):Int):=by
  rw[Int.tdiv_eq_ediv_of_nonneg (by omega)]
  exact (bN (k:=.u32) (by simp[bC,IntKind.min,IntKind.max,IntKind.signed,IntKind.bits];omega)).trans (by omega)
 show _=oR ((rD (n:Int),()),())
 rw[e1,e2,v7]
 unfold iX
 by_cases h:n % 2=1
 ·refine bT (by rw[h];rfl) ?_
  rw[if_pos h,← nx (by omega) (by omega)]
  rfl
 ·refine bF (by simp;omega) ?_
  rw[if_neg h]
abbrev kC:Io:=⟨[Cl,dL],[],[],[Cl],none⟩
def D8 (d:kC.In):Tr kC.Res:=.ret (.ret ((cC d.1.1 d.1.2.1,()),()))
abbrev Gd:List (Nat×Hc):=[(159,ai ix yO)]
def zW:Hd:=bB Gd
abbrev dP:Lo:=⟨⟨(.any::.one (.hol (.sl 5 (Ty.int u8)))::.any::bi (.one (.hol (.int u32))::.one hI::.one hI::.any::ah (bv (bi [])))),[]⟩,[(.exit 2,⟨(.any::.one (.hol (.sl 5 (Ty.int u8)))::.any::bi (.one (.hol (.int u32))::.one hI::ah (cN []))),[]⟩)]⟩
abbrev dN:Lo:=⟨⟨(.any::.one (.hol (.sl 5 (Ty.int u8)))::.any::bi (.one (.hol (.int u32))::.one hI::ah (cN []))),[]⟩,[(.exit 0,⟨(.any::bv (.one (.hol (.int u32))::.any::ah (cN []))),[]⟩)]⟩
def lO (d:dP.st.den):Tr (ao dP.xs):=.ite (decide (d.1.2.2.2.1=0)) (.ret (.ret ((),((d.1.1,(nr 8 d.1.2.1,(d.1.2.2.1,()))),())))) .no
def lN (d:dN.st.den):Tr (ao dN.xs):=.ite (decide (d.1.2.2.1=0)) (.ret (.ret ((),((jC d.1.1 d.1.2.1,()),())))) .no
def nc:Lp:=bP [(4,aA dN lN),(8,aA dP lO)]
def sx {R:Type}(h5:LI)(h6 h7 h8:Int)(next:LI→Int→Int→Int→Option R)(out:ao dP.xs→Option R):Option R:=bif decide (h8<8) then next (h5) (rD h6) (h7) (i64.wrap (h8+1)) else out (.ret ((),((h5,(h6,(h7,()))),())))
def rc (n:Nat)(h5:LI)(h6 h7 h8:Int):Option (ao dP.xs):=fH tt zW dr nc 0 Tryz.f123 (Kg Tryz.f123 (bI Tryz.f123 0) 0) n (dP.st.mk' ((h5,(h6,(h7,(h8,())))),())) (bo dP.xs)
theorem JT (n:Nat)(h5:LI)(h6 h7 h8:Int):rc (n+1) h5 h6 h7 h8=sx h5 h6 h7 h8 (rc n) some:=by kernel_rfl
def sw {R:Type}(h2:LI)(h3 h4:Int)(next:LI→Int→Int→Option R)(out:ao dN.xs→Option R):Option R:=bif decide (h4<(↑h2.length:Int)) then bif decide (0≤h4)&&decide (h4<(↑h2.length:Int)) then (lO ((h2,(bZ u32 h3 (u32.wrap (h2.getD h4.toNat 0)),(h4,(0,())))),())).run fun y=>match y with | .ret ((),((x16,x17,x18,()),()))=>(next (x16) (x17) (i64.wrap (x18+1))) else none else out (.ret ((),((h3,()),())))
def m8 (n:Nat)(h2:LI)(h3 h4:Int):Option (ao dN.xs):=fH tt zW dr nc 0 Tryz.f123 (bI Tryz.f123 0) n (dN.st.mk' ((h2,(h3,(h4,()))),())) (bo dN.xs)
theorem JS (n:Nat)(h2:LI)(h3 h4:Int):m8 (n+1) h2 h3 h4=sw h2 h3 h4 (m8 n) some:=by kernel_rfl
theorem CT (b:LI)(i:Int):∀(k j:Nat) (s:Int),8<j+k→j≤8→rc k b s i j=some (.ret ((),((b,(nr (8 - j) s,(i,()))),()))):=by
 intro k
 induction k with
 |zero=>intro j s h;omega
 |succ k ih=>
  intro j s h1 h2
  rw[JT]
  unfold sx
  by_cases hj:j<8
  ·refine bT (by simp;omega) ?_
   rw[ae (n:=(j:Int)+1) (by omega) (by omega),show (8 - j)=(8 - (j+1))+1 by omega]
   exact ih (j+1) _ (by omega) (by omega)
  ·refine bF (by simp;omega) ?_
   rw[show 8 - j=0 by omega]
   rfl
theorem v6 {b:LI}(hb:∀c∈b,0≤c∧c≤255){i:Nat}(h:i<b.length){n:Nat}(hn:n<4294967296):jC (b.drop i) (n:Int)=jC (b.drop (i+1)) ((DU (n ^^^ (b[i]).toNat):Nat):Int)∧DU (n ^^^ (b[i]).toNat)<4294967296:=by
 refine ⟨?_,DV (mU hn (hb b[i] (List.getElem_mem h)).2)⟩
 rw[zE h]
 unfold jC
 rw[zG,zG]
 rfl
theorem Oj {b:LI}(hb:∀c∈b,0≤c∧c≤255){i:Nat}(h:i<b.length){n:Nat}(hn:n<4294967296):bZ .u32 (n:Int) (u32.wrap (List.getD b (i:Int).toNat 0))=((n ^^^ (b[i]).toNat:Nat):Int):=by
 have hc:=hb b[i] (List.getElem_mem h)
 have e:List.getD b (i:Int).toNat 0=((b[i].toNat:Nat):Int):=by
  rw[zG,aB h]
  omega
 rw[e,bN (k:=.u32) (by simp[bC,IntKind.min,IntKind.max,IntKind.signed,IntKind.bits];omega)]
 exact nx hn (by omega)
theorem CS {b:LI}(hb:∀c∈b,0≤c∧c≤255)(hl:b.length≤maxLen):∀(k i n:Nat),b.length<i+k→i≤b.length→n<4294967296→m8 k b n i=some (.ret ((),((jC (b.drop i) n,()),()))):=by
 intro k
 induction k with
 |zero=>intro i n h;omega
 |succ k ih=>
  intro i n h1 h2 h3
  rw[JS]
  unfold sw
  by_cases hi:i<b.length
  ·refine bT (by simpa using hi) ?_
   refine bT (by simpa using hi) ?_
   obtain ⟨e1,e2⟩:=v6 hb hi h3
   rw[Oj hb hi h3,e1]
   unfold lO
   refine bT (by simp) ?_
   show m8 k b (nr 8 _) (i64.wrap ((i:Int)+1))=_
   rw[N0,bb hi hl]
   exact ih (i+1) _ (by omega) (by omega) e2
  ·refine bF (by simp;omega) ?_
   rw[zI (by omega)]
   unfold jC
   rw[zG]
   rfl
theorem NM {c:Nat}(hc:c<4294967296){b:LI}(hb:∀x∈b,0≤x∧x≤255):bZ .u32 (jC b ((c ^^^ 4294967295:Nat):Int)) 4294967295=cC (c:Int) b:=by
 have h1:=Nat.xor_lt_two_pow (n:=32) hc (show 4294967295<2 ^ 32 by decide)
 have h2:=sZ hb h1
 unfold jC cC
 rw[zG,zG]
 exact nx h2 (by decide)
def wU (a0:Int)(a1:LI):Option kC.Res:=(lN ((a1,(bZ u32 a0 4294967295,(0,()))),())).run fun y=>match y with | .ret ((),((x23,()),()))=>(oR ((bZ u32 x23 4294967295,()),()))
theorem MW (a0:Int)(a1:LI):Io.run tt zW dr nc kC Tryz.f123 ((a0,a1,()),())=wU a0 a1:=by kernel_rfl
theorem qS:HcsOk prog Gd:=.cons Mp .nil
theorem Pn:HcOk prog 123 (ai kC D8):=by
 refine bQ qS (lp:=nc) (fn:=Tryz.f123) kC (.step (h0:=aA dN lN) (by kernel_rfl) (fR qS (lp:=nc) (fn:=Tryz.f123) (.step (h0:=aA dP lO) (by kernel_rfl) (fR qS (lp:=nc) (fn:=Tryz.f123) (.done (by kernel_rfl)) dP lO ?_) (.done (by kernel_rfl))) dN lN ?_) (.done (by kernel_rfl))) D8 ?_
 ·rintro ⟨⟨(b:LI),(s:Int),(i:Int),(j:Int),⟨⟩⟩,⟨⟩⟩ y hw hy
  obtain ⟨hg,hy⟩:=Tr.guard hy
  have hg:j=0:=by simpa using hg
  subst hg
  refine ⟨9,(CT b i 9 0 s (by omega) (by omega)).trans ?_⟩
  rw[← hy];rfl
 ·rintro ⟨⟨(b:LI),(s:Int),(i:Int),⟨⟩⟩,⟨⟩⟩ y hw hy
  obtain ⟨hg,hy⟩:=Tr.guard hy
  have hg:i=0:=by simpa using hg
  subst hg
  obtain ⟨n,rfl,hn⟩:=qC hw.1.2.1
  refine ⟨b.length+1,(CS (zw hw.1.1) hw.1.1.1 (b.length+1) 0 n (show b.length<0+(b.length+1) by omega) (Nat.zero_le _) hn).trans ?_⟩
  rw[← hy];rfl
 ·rintro ⟨⟨(c:Int),(b:LI),⟨⟩⟩,⟨⟩⟩ out hw ho
  cases ho
  refine (MW c b).trans ?_
  obtain ⟨n,rfl,hn⟩:=qC hw.1.1
  unfold wU lN
  refine bT (by simp) ?_
  show oR ((bZ .u32 (jC b (bZ .u32 (n:Int) 4294967295)) 4294967295,()),())=oR ((cC (n:Int) b,()),())
  rw[show (4294967295:Int)=((4294967295:Nat):Int) from rfl,nx hn (by decide),show ((4294967295:Nat):Int)=4294967295 from rfl,NM hn (zw hw.1.2.1)]
abbrev gu:Io:=⟨[dL],[],[],[Cl],none⟩
def sS (d:gu.In):Tr gu.Res:=.ret (.ret ((cC 0 d.1.1,()),()))
abbrev B4:List (Nat×Hc):=[(123,ai kC D8)]
def LA:Hd:=bB B4
def C5:Lp:=bP []
def EB (a0:LI):Option gu.Res:=oR ((cC 0 a0,()),())
theorem Js (a0:LI):Io.run tt LA dr C5 gu Tryz.f86 ((a0,()),())=EB a0:=by kernel_rfl
theorem Di:HcOk prog 86 (ai gu sS):=by
 refine bQ (cs:=B4) (.cons Pn .nil) (lp:=C5) (fn:=Tryz.f86) gu (.done (by kernel_rfl)) sS ?_
 rintro ⟨⟨(b:LI),⟨⟩⟩,⟨⟩⟩ out hw ho
 cases ho
 exact Js b
abbrev oh:Io:=⟨[Cl,dL],[],[],[Cl],none⟩
def Ko (d:oh.In):Tr oh.Res:=.ret (.ret ((cC d.1.1 d.1.2.1,()),()))
abbrev EG:List (Nat×Hc):=[]
def LC:Hd:=bB EG
abbrev fC:Lo:=⟨⟨(.any::bv (.one (.hol (.int u32))::bv (.one (.hol (.sl 5 (Ty.int u8)))::.one hI::.one hI::ah (cN [])))),[]⟩,[(.exit 0,⟨(.any::bv (.one (.hol (.int u32))::.any::ah (cN (bv (bi []))))),[]⟩)]⟩
def o8 (d:fC.st.den):Tr (ao fC.xs):=.ite (decide (d.1.2.2.2.1=0)&&decide (d.1.2.2.1=(d.1.2.1.length:Int))) (.ret (.ret ((),((jC d.1.2.1 d.1.1,()),())))) .no
def AE:Lp:=bP [(4,aA fC o8)]
def wc {R:Type}(h2:Int)(h3:LI)(h4 h5:Int)(next:Int→LI→Int→Int→Option R)(out:ao fC.xs→Option R):Option R:=bif decide (h5<h4) then bif decide (0≤h5)&&decide (h5<(↑h3.length:Int)) then bif decide (0≤ew u32 (bZ u32 h2 (u32.wrap (h3.getD h5.toNat 0))) 15)&&decide (ew u32 (bZ u32 h2 (u32.wrap (h3.getD h5.toNat 0))) 15<(↑16:Int)) then bif decide (0≤ew u32 (bZ u32 (fY u32 (bZ u32 h2 (u32.wrap (h3.getD h5.toNat 0))) 4) (fc (ew u32 (bZ u32 h2 (u32.wrap (h3.getD h5.toNat 0))) 15))) 15)&&decide (ew u32 (bZ u32 (fY u32 (bZ u32 h2 (u32.wrap (h3.getD h5.toNat 0))) 4) (fc (ew u32 (bZ u32 h2 (u32.wrap (h3.getD h5.toNat 0))) 15))) 15<(↑16:Int)) then next (bZ u32 (fY u32 (bZ u32 (fY u32 (bZ u32 h2 (u32.wrap (h3.getD h5.toNat 0))) 4) (fc (ew u32 (bZ u32 h2 (u32.wrap (h3.getD h5.toNat 0))) 15))) 4) (fc (ew u32 (bZ u32 (fY u32 (bZ u32 h2 (u32.wrap (h3.getD h5.toNat 0))) 4) (fc (ew u32 (bZ u32 h2 (u32.wrap (h3.getD h5.toNat 0))) 15))) 15))) (h3) (h4) (i64.wrap (h5+1)) else none else none else none else out (.ret ((),((h2,()),())))
def vf (n:Nat)(h2:Int)(h3:LI)(h4 h5:Int):Option (ao fC.xs):=fH tt LC dr AE 0 Tryz.f131 (bI Tryz.f131 0) n (fC.st.mk' ((h2,(h3,(h4,(h5,())))),())) (bo fC.xs)
theorem NH (n:Nat)(h2:Int)(h3:LI)(h4 h5:Int):vf (n+1) h2 h3 h4 h5=wc h2 h3 h4 h5 (vf n) some:=by kernel_rfl
theorem EX {b:LI}(hb:∀c∈b,0≤c∧c≤255)(hl:b.length≤maxLen):∀(k i n:Nat),b.length<i+k→i≤b.length→n<4294967296→vf k n b (b.length:Int) i=some (.ret ((),((jC (b.drop i) n,()),()))):=by
 intro k
 induction k with
 |zero=>intro i n h;omega
 |succ k ih=>
  intro i n h1 h2 h3
  rw[NH]
  unfold wc
  by_cases hi:i<b.length
  ·refine bT (by simpa using hi) ?_
   refine bT (by simpa using hi) ?_
   obtain ⟨e1,e2⟩:=v6 hb hi h3
   have h4:=mU h3 (hb b[i] (List.getElem_mem hi)).2
   have h5:=qj h4
   rw[Oj hb hi h3,e1]
   refine (aa ?_ _ _).trans ?_
   ·rw[qG h4];simp;omega
   rw[DX h4]
   refine (aa ?_ _ _).trans ?_
   ·rw[qG h5];simp;omega
   rw[DX h5,bb hi hl]
   exact ih (i+1) _ (by omega) (by omega) e2
  ·refine bF (by simp;omega) ?_
   rw[zI (by omega)]
   unfold jC
   rw[zG]
   rfl
def BG (a0:Int)(a1:LI):Option oh.Res:=(o8 ((vZ u32 a0,(a1,((↑a1.length:Int),(0,())))),())).run fun y=>match y with | .ret ((),((x11,()),()))=>(oR ((vZ u32 x11,()),()))
theorem PU (a0:Int)(a1:LI):Io.run tt LC dr AE oh Tryz.f131 ((a0,a1,()),())=BG a0 a1:=by kernel_rfl
theorem Q7:HcOk prog 131 (ai oh Ko):=by
 refine bQ (cs:=EG) HcsOk.nil (lp:=AE) (fn:=Tryz.f131) oh (.step (h0:=aA fC o8) (by kernel_rfl) (fR (cs:=EG) HcsOk.nil (lp:=AE) (fn:=Tryz.f131) (.done (by kernel_rfl)) fC o8 ?_) (.done (by kernel_rfl))) Ko ?_
 ·rintro ⟨⟨(s:Int),(b:LI),(m:Int),(i:Int),⟨⟩⟩,⟨⟩⟩ y hw hy
  obtain ⟨hg,hy⟩:=Tr.guard hy
  simp only[zA,zB] at hg
  obtain ⟨rfl,rfl⟩:=hg
  obtain ⟨n,rfl,hn⟩:=qC hw.1.1
  refine ⟨b.length+1,(EX (zw hw.1.2.1) hw.1.2.1.1 (b.length+1) 0 n (show b.length<0+(b.length+1) by omega) (Nat.zero_le _) hn).trans ?_⟩
  rw[← hy];rfl
 ·rintro ⟨⟨(c:Int),(b:LI),⟨⟩⟩,⟨⟩⟩ out hw ho
  cases ho
  refine (PU c b).trans ?_
  obtain ⟨n,rfl,hn⟩:=qC hw.1.1
  unfold BG o8
  refine bT (by simp) ?_
  show oR ((vZ .u32 (jC b (vZ .u32 (n:Int))),()),())=oR ((cC (n:Int) b,()),())
  have h1:=Nat.xor_lt_two_pow (n:=32) hn (show 4294967295<2 ^ 32 by decide)
  have h2:=sZ (zw hw.1.2.1) h1
  rw[HX hn]
  unfold jC cC
  rw[zG,zG,HX h2]
def vU:List (LI)→Int→Int
 |[],c=>c
 |p::ps,c=>vU ps (cC c p)
abbrev kD:Io:=⟨[.dat (.sl 22 bs) false false],[],[],[Cl],none⟩
def D9 (d:kD.In):Tr kD.Res:=.ret (.ret ((vU d.1.1 0,()),()))
abbrev Ge:List (Nat×Hc):=[(131,ai oh Ko)]
def G4:Hd:=bB Ge
abbrev dQ:Lo:=⟨⟨(.any::bi (.one (.hol (.int u32))::bi (.one (.hol (.sl 22 (Ty.sl 5 (Ty.int u8))))::.one hI::.one hI::cN []))),[]⟩,[(.exit 0,⟨(.any::bi (.one (.hol (.int u32))::.any::cN (bv []))),[]⟩)]⟩
def lP (d:dQ.st.den):Tr (ao dQ.xs):=.ite (decide (d.1.2.2.2.1=0)&&decide (d.1.2.2.1=(d.1.2.1.length:Int))) (.ret (.ret ((),((vU d.1.2.1 d.1.1,()),())))) .no
def te:Lp:=bP [(4,aA dQ lP)]
def sy {R:Type}(h1:Int)(h2:List bs.den)(h3 h4:Int)(next:Int→List bs.den→Int→Int→Option R)(out:ao dQ.xs→Option R):Option R:=bif decide (h4<h3) then bif decide (0≤h4)&&decide (h4<(↑h2.length:Int)) then next (cC h1 (h2.getD h4.toNat [])) (h2) (h3) (i64.wrap (h4+1)) else none else out (.ret ((),((h1,()),())))
def re (n:Nat)(h1:Int)(h2:List bs.den)(h3 h4:Int):Option (ao dQ.xs):=fH tt G4 dr te 0 Tryz.f96 (bI Tryz.f96 0) n (dQ.st.mk' ((h1,(h2,(h3,(h4,())))),())) (bo dQ.xs)
theorem JU (n:Nat)(h1:Int)(h2:List bs.den)(h3 h4:Int):re (n+1) h1 h2 h3 h4=sy h1 h2 h3 h4 (re n) some:=by kernel_rfl
theorem CU (ps:List (LI))(hl:ps.length≤maxLen):∀(k i:Nat) (c:Int),ps.length<i+k→i≤ps.length→re k c ps (ps.length:Int) i=some (.ret ((),((vU (ps.drop i) c,()),()))):=by
 intro k
 induction k with
 |zero=>intro i c h;omega
 |succ k ih=>
  intro i c h1 h2
  rw[JU]
  unfold sy
  by_cases hi:i<ps.length
  ·refine bT (by simpa using hi) ?_
   refine bT (by simpa using hi) ?_
   have e:List.getD ps (i:Int).toNat []=ps[i]:=by simp only[zG,aB hi]
   rw[e,bb hi hl,zE hi]
   exact ih (i+1) _ (by omega) (by omega)
  ·refine bF (by simp;omega) ?_
   rw[zI (by omega)]
   rfl
def wV (a0:List bs.den):Option kD.Res:=(lP ((0,(a0,((↑a0.length:Int),(0,())))),())).run fun y=>match y with | .ret ((),((x10,()),()))=>(oR ((x10,()),()))
theorem MX (a0:List bs.den):Io.run tt G4 dr te kD Tryz.f96 ((a0,()),())=wV a0:=by kernel_rfl
theorem xY:HcsOk prog Ge:=.cons Q7 .nil
theorem Po:HcOk prog 96 (ai kD D9):=by
 refine bQ xY (lp:=te) (fn:=Tryz.f96) kD (.step (h0:=aA dQ lP) (by kernel_rfl) (fR xY (lp:=te) (fn:=Tryz.f96) (.done (by kernel_rfl)) dQ lP ?_) (.done (by kernel_rfl))) D9 ?_
 ·rintro ⟨⟨(c:Int),(ps:List (LI)),(m:Int),(i:Int),⟨⟩⟩,⟨⟩⟩ y hw hy
  obtain ⟨hg,hy⟩:=Tr.guard hy
  simp only[zA,zB] at hg
  obtain ⟨rfl,rfl⟩:=hg
  refine ⟨ps.length+1,(CU ps hw.1.2.1.1 (ps.length+1) 0 c (by omega) (by omega)).trans ?_⟩
  rw[← hy];rfl
 ·rintro ⟨⟨(ps:List (LI)),⟨⟩⟩,⟨⟩⟩ out hw ho
  cases ho
  refine (MX ps).trans ?_
  unfold wV lP
  refine bT (by simp) ?_
  rfl
abbrev dH:Ty:=.prod bs (.prod (.int .i64) (.prod (.int .i64) .unit))
abbrev Co:Sh:=.dat dH true false
abbrev gB:Type:=LI×Int×Int×Unit
def eo:gB:=([],0,0,())
def aM (b:LI):gB×Int×Int:=
 if b.getD 0 0<128 then (if (b.length:Int)<b.getD 0 0+2 then (eo,0,1) else (((b.drop 1).take (b.getD 0 0+1).toNat,0,0,()),b.getD 0 0+2,0))
 else if (b.length:Int)<3 then (eo,0,1)
 else if b.getD 1 0*256+b.getD 2 0<1∨4096<b.getD 1 0*256+b.getD 2 0 then (eo,0,50)
 else (([],b.getD 1 0*256+b.getD 2 0,b.getD 0 0 - 124,()),3,0)
def iS (t:gB):Bool:=if t.2.1≠0 then true else decide (t.2.2.1≠0)
def fL (t:gB):Bool:=
 if iS t=true then decide (0<t.1.length) || (decide (t.2.1<1) || (decide (4096<t.2.1) || (decide (t.2.2.1<4) || decide (131<t.2.2.1))))
 else decide (t.1.length<1) || decide (128<t.1.length)
def cg (d:Nat):Nat→LI→LI
 |0,out=>out
 |n+1,out=>cg d n (out++[out.getD (out.length - d) 0])
def aX (out:LI)(t:gB)(most:Int):LI×Int:=
 if fL t=true∨(out.length:Int)<t.2.1 then ([],50)
 else if most<(out.length:Int)+t.1.length+t.2.2.1 then ([],4)
 else (cg t.2.1.toNat t.2.2.1.toNat (out++t.1),0)
def bk:Nat→LI→LI→Int→LI×Int
 |0,_,out,_=>(out,0)
 |k+1,b,out,m=>
  if b=[] then (out,0)
  else if (aM b).2.2≠0 then ([],(aM b).2.2)
  else if (aX out (aM b).1 m).2≠0 then ([],(aX out (aM b).1 m).2)
  else bk k (b.drop (aM b).2.1.toNat) (aX out (aM b).1 m).1 m
def ay (m:Int):Int:=qe (co m 0) 32768
def aq (b:LI)(most:Int):LI×Int:=if b=[] then ([],0) else bk (b.length+1) b [] (ay most)
theorem DN {b:LI}(hb:∀c∈b,0≤c∧c≤255)(h:(aM b).2.2=0)(hne:b≠[]):2≤(aM b).2.1∧(aM b).2.1≤b.length:=by
 have h0:0≤b.getD 0 0:=by
  cases b with
  |nil=>exact absurd rfl hne
  |cons x l=>exact (hb x (by simp)).1
 unfold aM at h ⊢
 split
 ·rename_i h1
  rw[if_pos h1] at h
  split
  ·rename_i h2;rw[if_pos h2] at h;cases h
  ·simp only;omega
 ·rename_i h1
  rw[if_neg h1] at h
  split
  ·rename_i h2;rw[if_pos h2] at h;cases h
  ·rename_i h2
   rw[if_neg h2] at h
   split
   ·rename_i h3;rw[if_pos h3] at h;cases h
   ·simp only;omega
theorem uD {b:LI}(h:Ty.wf bs b)(i:Nat):0≤b.getD i 0∧b.getD i 0≤255:=by
 rw[List.getD_eq_getElem?_getD]
 cases e:b[i]? with
 |none=>exact ⟨by decide,by decide⟩
 |some x=>exact dA h x (List.mem_of_getElem? e)
theorem Rr {v c:Int}(h0:0≤v)(h1:v≤255)(h2:0≤c)(h3:c≤255):nz .i64 (fX .i64 v 8) c=v*256+c:=by
 have e1:fX .i64 v 8=v*256:=by
  show IntKind.wrap .i64 (v*2 ^ 8)=_
  rw[show v*2 ^ 8=v*256 by omega]
  exact ae (by omega) (by omega)
 rw[e1]
 obtain ⟨v,rfl⟩:=au h0
 obtain ⟨c,rfl⟩:=au h2
 have e4:=Nat.two_pow_add_eq_or_of_lt (show c<2 ^ 8 by omega) v
 show IntKind.wrap .i64 ((BitVec.ofInt 64 ((v:Int)*256) ||| BitVec.ofInt 64 (c:Int)).toNat:Int)=_
 have e2:(BitVec.ofInt 64 (c:Int)).toNat=c:=by rw[BitVec.toNat_ofInt];omega
 have e3:(BitVec.ofInt 64 ((v:Int)*256)).toNat=2 ^ 8*v:=by rw[BitVec.toNat_ofInt];omega
 rw[BitVec.toNat_or,e2,e3,← e4]
 rw[ae (by omega) (by omega)]
 omega
theorem LR {lit:LI}{d len:Int}(h:fL (lit,d,len,())=false):(0≤len∧len≤131∧lit.length≤128)∧(len=0∧d=0∧1≤lit.length∨lit.length=0∧1≤d∧d≤4096∧4≤len):=by
 have e:fL (lit,d,len,())=if iS (lit,d,len,())=true then decide (0<lit.length) || (decide (d<1) || (decide (4096<d) || (decide (len<4) || decide (131<len)))) else decide (lit.length<1) || decide (128<lit.length):=rfl
 have e2:iS (lit,d,len,())=if d≠0 then true else decide (len≠0):=rfl
 rw[e] at h
 split at h
 ·simp only[Bool.or_eq_false_iff,decide_eq_false_iff_not] at h
  omega
 ·rename_i h2
  rw[e2] at h2
  simp only[Bool.or_eq_false_iff,decide_eq_false_iff_not] at h
  split at h2
  ·exact absurd rfl h2
  ·rename_i h3
   simp only[zB] at h2
   omega
theorem lz (d:Nat):∀(n:Nat) (out:LI),(cg d n out).length=out.length+n
 |0,_=>rfl
 |n+1,out=>by rw[cg,lz d n];simp;omega
theorem yH (b:LI):(aM b).1.1.length≤b.length:=by
 unfold aM
 split
 ·split
  ·simp[eo]
  ·simp;omega
 ·split
  ·simp[eo]
  ·split
   ·simp[eo]
   ·simp
theorem oW (m:Int):0≤ay m∧ay m≤32768:=by
 unfold ay qe co
 split <;> split <;> omega
theorem oX {out:LI}{t:gB}{m:Int}(h:(aX out t m).2=0):((aX out t m).1.length:Int)≤m:=by
 obtain ⟨lit,d,len,⟨⟩⟩:=t
 unfold aX at h ⊢
 split
 ·rename_i h1;rw[if_pos h1] at h;cases h
 ·rename_i h1
  rw[if_neg h1] at h
  have hi:fL (lit,d,len,())=false:=by
   cases e:fL (lit,d,len,()) with
   |false=>rfl
   |true=>exact absurd (.inl e) h1
  obtain ⟨i1,i2⟩:=LR hi
  split
  ·rename_i h2;rw[if_pos h2] at h;cases h
  ·rename_i h2
   have h2:¬ m<(out.length:Int)+lit.length+len:=h2
   show ((cg d.toNat len.toNat (out++lit)).length:Int)≤m
   rw[lz,zH]
   omega
theorem iT:∀(k:Nat) (b out:LI) (m:Int),(bk k b out m).2≠0→(bk k b out m).1=[]
 |0,_,_,_,h=>absurd rfl h
 |k+1,b,out,m,h=>by
  unfold bk at h ⊢
  split
  ·rename_i h1;rw[if_pos h1] at h;exact absurd rfl h
  ·rename_i h1
   rw[if_neg h1] at h
   split
   ·rfl
   ·rename_i h2
    rw[if_neg h2] at h
    split
    ·rfl
    ·rename_i h3
     rw[if_neg h3] at h
     exact iT k _ _ _ h
theorem yC:∀(k:Nat) (b out:LI) (m:Int),(out.length:Int)≤m→((bk k b out m).1.length:Int)≤m
 |0,_,_,_,h=>h
 |k+1,b,out,m,h=>by
  have h0:((([]:LI),(0:Int)).1.length:Int)≤m:=by simp;omega
  unfold bk
  split
  ·exact h
  ·split
   ·simp;omega
   ·split
    ·simp;omega
    ·rename_i h3
     exact yC k _ _ _ (oX (by simpa using h3))
theorem dE (b:LI)(m:Int):aq b m=bk (b.length+1) b [] (ay m):=by
 unfold aq
 split
 ·rename_i h
  subst h
  rfl
 ·rfl
def aY (b:LI):LI×Int:=
 if (ab 10 1 b 0).2.2≠0 then ([],(ab 10 1 b 0).2.2)
 else if al (ab 10 1 b 0).1<0 then ([],5)
 else if 32768<al (ab 10 1 b 0).1 then ([],4)
 else if (aq (b.drop (ab 10 1 b 0).2.1.toNat) (al (ab 10 1 b 0).1)).2=4∨(aq (b.drop (ab 10 1 b 0).2.1.toNat) (al (ab 10 1 b 0).1)).2=0∧((aq (b.drop (ab 10 1 b 0).2.1.toNat) (al (ab 10 1 b 0).1)).1.length:Int)<al (ab 10 1 b 0).1 then ([],60)
 else if (aq (b.drop (ab 10 1 b 0).2.1.toNat) (al (ab 10 1 b 0).1)).2≠0 then ([],(aq (b.drop (ab 10 1 b 0).2.1.toNat) (al (ab 10 1 b 0).1)).2)
 else ((aq (b.drop (ab 10 1 b 0).2.1.toNat) (al (ab 10 1 b 0).1)).1,0)
abbrev kR:Io:=⟨[Co],[],[],[dB],none⟩
def En (d:kR.In):Tr kR.Res:=.ret (.ret ((iS d.1.1,()),()))
abbrev GC:List (Nat×Hc):=[]
def O1:Hd:=bB GC
def HK:Lp:=bP []
def xq (a0:LI)(a1 a2:Int):Option kR.Res:=bif a1 != 0 then oR ((true,()),()) else oR ((a2 != 0,()),())
theorem Nn (a0:LI)(a1 a2:Int):Io.run tt O1 dr HK kR Tryz.f165 (((a0,a1,a2,()),()),())=xq a0 a1 a2:=by kernel_rfl
theorem PH:HcOk prog 165 (ai kR En):=by
 refine bQ (cs:=GC) HcsOk.nil (lp:=HK) (fn:=Tryz.f165) kR (.done (by kernel_rfl)) En ?_
 rintro ⟨⟨⟨(a0:LI),(a1:Int),(a2:Int),⟨⟩⟩,⟨⟩⟩,⟨⟩⟩ out hw ho
 cases ho
 refine (Nn a0 a1 a2).trans ?_
 show _=oR ((iS (a0,a1,a2,()),()),())
 unfold xq
 show _=oR (((if a1≠0 then true else decide (a2≠0)),()),())
 by_cases h1:a1=0
 ·refine bF (by simp[h1]) ?_
  rw[if_neg (by simp[h1])]
  by_cases h2:a2=0 <;> simp[h2]
 ·refine bT (by simp[h1]) ?_
  rw[if_pos h1]
abbrev jq:Io:=⟨[Co],[],[],[dB],none⟩
def zj (d:jq.In):Tr jq.Res:=.ret (.ret ((fL d.1.1,()),()))
abbrev GE:List (Nat×Hc):=[(165,ai kR En)]
def O2:Hd:=bB GE
def HL:Lp:=bP []
def xt (a0:LI)(a1 a2:Int):Option jq.Res:=bif !iS (a0,a1,a2,()) then bif decide ((↑a0.length:Int)<1) then oR ((true,()),()) else oR ((decide (128<(↑a0.length:Int)),()),()) else bif decide (0<(↑a0.length:Int)) then oR ((true,()),()) else bif decide (a1<1) then oR ((true,()),()) else bif decide (4096<a1) then oR ((true,()),()) else bif decide (a2<4) then oR ((true,()),()) else oR ((decide (131<a2),()),())
theorem Np (a0:LI)(a1 a2:Int):Io.run tt O2 dr HL jq Tryz.f164 (((a0,a1,a2,()),()),())=xt a0 a1 a2:=by kernel_rfl
theorem H7:HcOk prog 164 (ai jq zj):=by
 refine bQ (cs:=GE) (.cons PH .nil) (lp:=HL) (fn:=Tryz.f164) jq (.done (by kernel_rfl)) zj ?_
 rintro ⟨⟨⟨(a0:LI),(a1:Int),(a2:Int),⟨⟩⟩,⟨⟩⟩,⟨⟩⟩ out hw ho
 cases ho
 refine (Np a0 a1 a2).trans ?_
 show _=oR ((fL (a0,a1,a2,()),()),())
 unfold xt
 have e:fL (a0,a1,a2,())=if iS (a0,a1,a2,())=true then decide (0<a0.length) || (decide (a1<1) || (decide (4096<a1) || (decide (a2<4) || decide (131<a2)))) else decide (a0.length<1) || decide (128<a0.length):=rfl
 rw[e]
 cases iS (a0,a1,a2,()) with
 |false=>
  refine (aa rfl _ _).trans ?_
  rw[if_neg (by decide)]
  by_cases h:a0.length<1
  ·refine bT (by simp;omega) ?_
   simp[h]
  ·refine bF (decide_eq_false (show ¬((a0.length:Int)<1) by omega)) ?_
   have e2:decide (128<(a0.length:Int))=decide (128<a0.length):=by by_cases h2:128<a0.length <;> simp[h2] <;> omega
   simp only[h,decide_false,Bool.false_or,e2]
 |true=>
  refine (af rfl _ _).trans ?_
  rw[if_pos rfl]
  by_cases h:0<a0.length
  ·refine bT (by simp;omega) ?_
   simp[h]
  ·refine bF (decide_eq_false (show ¬(0<(a0.length:Int)) by omega)) ?_
   by_cases h1:a1<1
   ·refine bT (by simpa using h1) ?_
    simp[h1]
   ·refine bF (by simpa using h1) ?_
    by_cases h2:4096<a1
    ·refine bT (by simpa using h2) ?_
     simp[h2]
    ·refine bF (by simpa using h2) ?_
     by_cases h3:a2<4
     ·refine bT (by simpa using h3) ?_
      simp[h3]
     ·refine bF (by simpa using h3) ?_
      simp only[h,h1,h2,h3,decide_false,Bool.false_or]
abbrev kT:Io:=⟨[dL],[],[],[Co,dI,dI],none⟩
def Ep (d:kT.In):Tr kT.Res:=.ite (decide (1≤d.1.1.length)) (.ret (.ret (((aM d.1.1).1,(aM d.1.1).2.1,(aM d.1.1).2.2,()),()))) .no
abbrev GF:List (Nat×Hc):=[(164,ai jq zj)]
def O3:Hd:=bB GF
def HM:Lp:=bP []
def xu (a0:LI):Option kT.Res:=bif decide (0≤0)&&decide (0<(↑a0.length:Int)) then bif decide (i64.wrap (a0.getD (Int.toNat 0) 0)<128) then bif decide ((↑a0.length:Int)<i64.wrap (i64.wrap (a0.getD (Int.toNat 0) 0)+2)) then oR ((([],0,0,()),0,1,()),()) else bif decide (0≤1)&&(decide (1≤i64.wrap (i64.wrap (a0.getD (Int.toNat 0) 0)+2))&&decide (i64.wrap (i64.wrap (a0.getD (Int.toNat 0) 0)+2)≤(↑a0.length:Int))) then oR (((List.drop (Int.toNat 1) (List.take (i64.wrap (i64.wrap (a0.getD (Int.toNat 0) 0)+2)).toNat a0),0,0,()),i64.wrap (i64.wrap (a0.getD (Int.toNat 0) 0)+2),0,()),()) else none else bif decide ((↑a0.length:Int)<3) then oR ((([],0,0,()),0,1,()),()) else bif decide (0≤1)&&decide (1<(↑a0.length:Int)) then bif decide (0≤2)&&decide (2<(↑a0.length:Int)) then bif fL ([],nz i64 (fX i64 (i64.wrap (a0.getD (Int.toNat 1) 0)) 8) (i64.wrap (a0.getD (Int.toNat 2) 0)),i64.wrap (i64.wrap (i64.wrap (a0.getD (Int.toNat 0) 0) - 128)+4),()) then oR ((([],0,0,()),0,50,()),()) else oR ((([],nz i64 (fX i64 (i64.wrap (a0.getD (Int.toNat 1) 0)) 8) (i64.wrap (a0.getD (Int.toNat 2) 0)),i64.wrap (i64.wrap (i64.wrap (a0.getD (Int.toNat 0) 0) - 128)+4),()),3,0,()),()) else none else none else none
theorem Nq (a0:LI):Io.run tt O3 dr HM kT Tryz.f167 ((a0,()),())=xu a0:=by kernel_rfl
theorem PJ:HcOk prog 167 (ai kT Ep):=by
 refine bQ (cs:=GF) (.cons H7 .nil) (lp:=HM) (fn:=Tryz.f167) kT (.done (by kernel_rfl)) Ep ?_
 rintro ⟨⟨(b:LI),⟨⟩⟩,⟨⟩⟩ out hw ho
 obtain ⟨hg,ho⟩:=Tr.guard ho
 have hg:1≤b.length:=of_decide_eq_true hg
 cases ho
 refine (Nq b).trans ?_
 show _=oR (((aM b).1,(aM b).2.1,(aM b).2.2,()),())
 have hb:Ty.wf bs b:=hw.1.1
 have hbl:b.length≤maxLen:=hb.1
 rw[aG] at hbl
 have c0:=uD hb 0
 have c1:=uD hb 1
 have c2:=uD hb 2
 unfold xu
 simp only[show Int.toNat 0=0 from rfl,show Int.toNat 1=1 from rfl,show Int.toNat 2=2 from rfl]
 refine bT (by simp;omega) ?_
 have w0:i64.wrap (b.getD 0 0)=b.getD 0 0:=ae (by omega) (by omega)
 have w1:i64.wrap (b.getD 1 0)=b.getD 1 0:=ae (by omega) (by omega)
 have w2:i64.wrap (b.getD 2 0)=b.getD 2 0:=ae (by omega) (by omega)
 rw[w0,w1,w2,Rr c1.1 c1.2 c2.1 c2.2,ae (n:=b.getD 0 0+2) (by omega) (by omega),ae (n:=b.getD 0 0 - 128) (by omega) (by omega),ae (n:=b.getD 0 0 - 128+4) (by omega) (by omega),show b.getD 0 0 - 128+4=b.getD 0 0 - 124 by omega]
 unfold aM
 generalize b.getD 0 0=c at *
 generalize b.getD 1 0=x at *
 generalize b.getD 2 0=y at *
 by_cases h1:c<128
 ·refine bT (by simpa using h1) ?_
  rw[if_pos h1]
  by_cases h2:(b.length:Int)<c+2
  ·refine bT (by simpa using h2) ?_
   rw[if_pos h2]
   rfl
  ·refine bF (by simpa using h2) ?_
   refine bT (by simp;omega) ?_
   rw[if_neg h2,List.drop_take,show (c+2).toNat - 1=(c+1).toNat by omega]
 ·refine bF (by simpa using h1) ?_
  rw[if_neg h1]
  by_cases h2:(b.length:Int)<3
  ·refine bT (by simpa using h2) ?_
   rw[if_pos h2]
   rfl
  ·refine bF (by simpa using h2) ?_
   refine bT (by simp;omega) ?_
   refine bT (by simp;omega) ?_
   rw[if_neg h2]
   have hi:fL ([],x*256+y,c - 124,())=decide (x*256+y<1∨4096<x*256+y):=by
    have hc:iS ([],x*256+y,c - 124,())=true:=by
     show (if x*256+y≠0 then true else decide (c - 124≠0))=true
     split
     ·rfl
     ·exact decide_eq_true (by omega)
    show (if iS ([],x*256+y,c - 124,())=true then decide (0<0) || (decide (x*256+y<1) || (decide (4096<x*256+y) || (decide (c - 124<4) || decide (131<c - 124)))) else _)=_
    rw[if_pos hc]
    have g1:decide (c - 124<4)=false:=decide_eq_false (by omega)
    have g2:decide (131<c - 124)=false:=decide_eq_false (by omega)
    rw[g1,g2]
    simp
   by_cases h3:x*256+y<1∨4096<x*256+y
   ·refine bT (by rw[hi];exact decide_eq_true h3) ?_
    rw[if_pos h3]
    rfl
   ·refine bF (by rw[hi];exact decide_eq_false h3) ?_
    rw[if_neg h3]
abbrev gb:Io:=⟨[dO,Co,dI],[],[],[dO,dI],none⟩
def tT (d:gb.In):Tr gb.Res:=.ite (decide (d.1.1.length≤4294960000)&&(decide (d.1.2.1.1.length≤4294960000)&&decide ((d.1.2.2.1:Int)≤(32768:Int)))) (.ret (.ret (((aX d.1.1 d.1.2.1 d.1.2.2.1).1,(aX d.1.1 d.1.2.1 d.1.2.2.1).2,()),()))) .no
abbrev xP:List (Nat×Hc):=[(164,ai jq zj)]
def yj:Hd:=bB xP
abbrev cz:Lo:=⟨⟨(.one (.onl 5 (Ty.int u8) 1)::.any::bi (.one (.ptr 4 0)::ah (cN (bv (.one hI::.one hI::cN (bv (bi []))))))),[none,none,none,none,some [.hol (.sl 5 (Ty.int u8)),hI,hI]]⟩,[(.exit 0,⟨(.one (.onl 5 (Ty.int u8) 1)::ah (ah (ah []))),[]⟩)]⟩
def ik (d:cz.st.den):Tr (ao cz.xs):=
 .ite (decide (d.1.2.2.1=0)&&(decide ((0:Int)≤d.1.2.1)&&((decide (d.1.2.1=0) || (decide ((1:Int)≤d.2.1.2.1)&&decide (d.2.1.2.1≤(d.1.1.length:Int))))&&decide ((d.1.1.length:Int)+d.1.2.1≤4294967296)))) (.ret (.ret ((),((cg d.2.1.2.1.toNat d.1.2.1.toNat d.1.1,()),())))) .no
def ng:Lp:=bP [(8,aA cz ik)]
def gm {R:Type}(h5:LI)(h6 h7:Int)(h8:LI)(h9 h10:Int)(next:LI→Int→Int→LI→Int→Int→Option R)(out:ao cz.xs→Option R):Option R:=bif decide (h7<h6) then bif decide (0≤i64.wrap ((↑h5.length:Int) - h9))&&decide (i64.wrap ((↑h5.length:Int) - h9)<(↑h5.length:Int)) then bif decide (h5.length+1≤4294967296) then next (h5++[h5.getD (i64.wrap ((↑h5.length:Int) - h9)).toNat 0]) (h6) (i64.wrap (h7+1)) (h8) (h9) (h10) else none else none else out (.ret ((),((h5,()),())))
def jx (n:Nat)(h5:LI)(h6 h7:Int)(h8:LI)(h9 h10:Int):Option (ao cz.xs):=fH tt yj dr ng 0 Tryz.f168 (bI Tryz.f168 0) n (cz.st.mk' ((h5,(h6,(h7,()))),((h8,(h9,(h10,()))),()))) (bo cz.xs)
theorem mI (n:Nat)(h5:LI)(h6 h7:Int)(h8:LI)(h9 h10:Int):jx (n+1) h5 h6 h7 h8 h9 h10=gm h5 h6 h7 h8 h9 h10 (jx n) some:=by kernel_rfl
theorem wx (lit:LI)(len:Int){d:Nat}:∀(m k i:Nat) (out:LI),m<k→(m=0∨1≤d∧d≤out.length)→out.length+m≤4294967296→i+m≤4294967296→
  jx k out ((i+m:Nat):Int) i lit d len=some (.ret ((),((cg d m out,()),()))):=by
 intro m
 induction m with
 |zero=>
  intro k i out h1 h2 h3 h4
  obtain ⟨k,rfl⟩:∃j,k=j+1:=⟨k - 1,by omega⟩
  rw[mI]
  unfold gm
  refine bF (by simp) ?_
  rfl
 |succ m ih=>
  intro k i out h1 h2 h3 h4
  obtain ⟨k,rfl⟩:∃j,k=j+1:=⟨k - 1,by omega⟩
  rw[mI]
  unfold gm
  have h2:1≤d∧d≤out.length:=by rcases h2 with h | h;omega;exact h
  rw[ae (n:=(out.length:Int) - (d:Int)) (by omega) (by omega),ae (n:=(i:Int)+1) (by omega) (by omega),show ((out.length:Int) - (d:Int)).toNat=out.length - d by omega]
  refine bT (by simp;omega) ?_
  refine bT (by simp;omega) ?_
  refine bT (by simp;omega) ?_
  have:=ih k (i+1) (out++[out.getD (out.length - d) 0]) (by omega) (.inr ⟨h2.1,by simp;omega⟩) (by simp;omega) (by omega)
  rw[show ((i+1+m:Nat):Int)=((i+(m+1):Nat):Int) by omega] at this
  exact this
def rT (a0 a1:LI)(a2 a3 a4:Int):Option gb.Res:=bif fL (a1,a2,a3,()) then oR (([],50,()),()) else bif decide ((↑a0.length:Int)<a2) then oR (([],50,()),()) else bif decide (a4<i64.wrap (i64.wrap ((↑a0.length:Int)+(↑a1.length:Int))+a3)) then oR (([],4,()),()) else bif decide (a0.length+a1.length≤4294967296) then (ik ((a0++a1,(a3,(0,()))),((a1,(a2,(a3,()))),()))).run fun y=>match y with | .ret ((),((x18,()),()))=>(oR ((x18,0,()),())) else none
theorem Fh (a0 a1:LI)(a2 a3 a4:Int):Io.run tt yj dr ng gb Tryz.f168 ((a0,(a1,a2,a3,()),a4,()),())=rT a0 a1 a2 a3 a4:=by kernel_rfl
theorem sc:HcsOk prog xP:=.cons H7 .nil
theorem Jj:HcOk prog 168 (ai gb tT):=by
 refine bQ sc (lp:=ng) (fn:=Tryz.f168) gb (.step (h0:=aA cz ik) (by kernel_rfl) (fR sc (lp:=ng) (fn:=Tryz.f168) (.done (by kernel_rfl)) cz ik ?_) (.done (by kernel_rfl))) tT ?_
 ·rintro ⟨⟨(out:LI),(n:Int),(i:Int),⟨⟩⟩,⟨⟨(lit:LI),(d:Int),(len:Int),⟨⟩⟩,⟨⟩⟩⟩ y hw hy
  obtain ⟨hg,hy⟩:=Tr.guard hy
  simp only[zA,Bool.or_eq_true,zB] at hg
  obtain ⟨h1,h2,h3,h4⟩:=hg
  have h1:i=0:=h1
  have h2:0≤n:=h2
  have h3:n=0∨1≤d∧d≤(out.length:Int):=h3
  have h4:(out.length:Int)+n≤4294967296:=h4
  subst h1
  obtain ⟨m,rfl⟩:=au h2
  rcases h3 with h3 | h3
  ·have h3:m=0:=by omega
   subst h3
   refine ⟨1,?_⟩
   rw[← hy]
   show jx (0+1) out ((0:Nat):Int) 0 lit d len=_
   rw[mI]
   unfold gm
   exact af (by simp) _ _
  ·obtain ⟨d,rfl⟩:=au (show 0≤d by omega)
   have:=wx lit len (d:=d) m (m+1) 0 out (by omega) (.inr ⟨by omega,by omega⟩) (by omega) (by omega)
   rw[Nat.zero_add] at this
   refine ⟨m+1,this.trans ?_⟩
   rw[← hy];rfl
 ·rintro ⟨⟨(out:LI),⟨(lit:LI),(d:Int),(len:Int),⟨⟩⟩,(m:Int),⟨⟩⟩,⟨⟩⟩ o hw ho
  obtain ⟨hg,ho⟩:=Tr.guard ho
  simp only[zA,zB] at hg
  obtain ⟨h1,h2,h3⟩:=hg
  have h1:out.length≤4294960000:=h1
  have h2:lit.length≤4294960000:=h2
  have h3:m≤(32768:Int):=h3
  cases ho
  refine (Fh out lit d len m).trans ?_
  show _=oR (((aX out (lit,d,len,()) m).1,(aX out (lit,d,len,()) m).2,()),())
  unfold rT aX
  cases hi:fL (lit,d,len,()) with
  |true=>
   refine (aa rfl _ _).trans ?_
   rw[if_pos (.inl rfl)]
  |false=>
   obtain ⟨i1,i2⟩:=LR hi
   refine (af rfl _ _).trans ?_
   by_cases h4:(out.length:Int)<d
   ·refine bT (by simpa using h4) ?_
    rw[if_pos (.inr h4)]
   ·refine bF (by simpa using h4) ?_
    rw[if_neg (by rintro (h | h);cases h;exact h4 h),ae (n:=(out.length:Int)+(lit.length:Int)) (by omega) (by omega),ae (n:=(out.length:Int)+(lit.length:Int)+len) (by omega) (by omega)]
    by_cases h5:m<(out.length:Int)+(lit.length:Int)+len
    ·refine bT (by simpa using h5) ?_
     rw[if_pos h5]
    ·refine bF (by simpa using h5) ?_
     refine bT (by simp;omega) ?_
     rw[if_neg h5]
     have hg:(decide ((0:Int)=0)&&(decide ((0:Int)≤len)&&((decide (len=0) || (decide ((1:Int)≤d)&&decide (d≤((out++lit).length:Int))))&&decide (((out++lit).length:Int)+len≤4294967296))))=true:=by
      simp only[zA,Bool.or_eq_true,zB,zH]
      refine ⟨trivial,i1.1,?_,by omega⟩
      rcases i2 with h | h
      ·exact .inl h.1
      ·exact .inr ⟨h.2.1,by omega⟩
     have e:ik ((out++lit,(len,(0,()))),((lit,(d,(len,()))),()))=.ite true (.ret (.ret ((),((cg d.toNat len.toNat (out++lit),()),())))) .no:=congrArg (fun c=>Tr.ite c _ _) hg
     rw[e]
     rfl
abbrev ga:Io:=⟨[dI],[],[],[dI],none⟩
def tS (d:ga.In):Tr ga.Res:=.ret (.ret ((ay d.1.1,()),()))
abbrev xO:List (Nat×Hc):=[]
def IY:Hd:=bB xO
def yp:Lp:=bP []
def BT (a0:Int):Option ga.Res:=oR ((qe (co a0 0) 32768,()),())
theorem Fg (a0:Int):Io.run tt IY dr yp ga Tryz.f169 ((a0,()),())=BT a0:=by kernel_rfl
theorem Ji:HcOk prog 169 (ai ga tS):=by
 refine bQ (cs:=xO) HcsOk.nil (lp:=yp) (fn:=Tryz.f169) ga (.done (by kernel_rfl)) tS ?_
 rintro ⟨⟨(m:Int),⟨⟩⟩,⟨⟩⟩ out hw ho
 cases ho
 exact Fg m
abbrev kS:Io:=⟨[dL,dI],[],[],[dO,dI],none⟩
def Eo (d:kS.In):Tr kS.Res:=.ite (decide (d.1.1.length≤4294960000)) (.ret (.ret (((aq d.1.1 d.1.2.1).1,(aq d.1.1 d.1.2.1).2,()),()))) .no
abbrev GD:List (Nat×Hc):=[(167,ai kT Ep),(169,ai ga tS),(168,ai gb tT)]
def Hb:Hd:=bB GD
abbrev dZ:Lo:=⟨⟨(.one (.hol (.sl 5 (Ty.int u8)))::.one hI::bv (.one (.onl 5 (Ty.int u8) 13)::.any::ah (cN (bv (bi []))))),[]⟩,[(.ret,⟨(bv (.one (.onl 5 (Ty.int u8) 9)::.one hI::ah (ah ([])))),[]⟩),(.exit 0,⟨(bv (bi (.one (.onl 5 (Ty.int u8) 13)::.any::ah (cN (bv (bi [])))))),[]⟩)]⟩
def lY (d:dZ.st.den):Tr (ao dZ.xs):=
 .ite (decide (d.1.1.length≤4294960000)&&decide (d.1.2.2.1.length≤32768)) (.ite (decide ((bk (d.1.1.length+1) d.1.1 d.1.2.2.1 (ay d.1.2.1)).2=0)) (.ret (.pan (.ret ((),(((bk (d.1.1.length+1) d.1.1 d.1.2.2.1 (ay d.1.2.1)).1,()),()))))) (.ret (.ret ((),(([],(bk (d.1.1.length+1) d.1.1 d.1.2.2.1 (ay d.1.2.1)).2,()),()))))) .no
def tn:Lp:=bP [(3,aA dZ lY)]
def sH {R:Type}(h2:LI)(h3:Int)(h4:LI)(next:LI→Int→LI→Option R)(out:ao dZ.xs→Option R):Option R:=bif decide (0<(↑h2.length:Int)) then bif decide (1≤h2.length) then bif (aM h2).2.2 != 0 then out (.ret ((),(([],((aM h2).2.2,())),()))) else bif decide (h4.length≤4294960000)&&(decide (List.length (aM h2).1.1≤4294960000)&&decide (ay h3≤32768)) then bif (aX h4 (aM h2).1 (ay h3)).2 != 0 then out (.ret ((),(([],((aX h4 (aM h2).1 (ay h3)).2,())),()))) else bif decide (0≤(aM h2).2.1)&&(decide ((aM h2).2.1≤(↑h2.length:Int))&&decide ((↑h2.length:Int)≤(↑h2.length:Int))) then next (List.drop (aM h2).2.1.toNat (List.take (↑h2.length:Int).toNat h2)) (h3) ((aX h4 (aM h2).1 (ay h3)).1) else none else none else none else out (.pan (.ret ((),((h4,()),()))))
def rk (n:Nat)(h2:LI)(h3:Int)(h4:LI):Option (ao dZ.xs):=fH tt Hb dr tn 0 Tryz.f136 (bI Tryz.f136 0) n (dZ.st.mk' ((h2,(h3,(h4,()))),())) (bo dZ.xs)
theorem J1 (n:Nat)(h2:LI)(h3:Int)(h4:LI):rk (n+1) h2 h3 h4=sH h2 h3 h4 (rk n) some:=by kernel_rfl
theorem CZ (m:Int):∀(k:Nat) (b out:LI),(∀c∈b,0≤c∧c≤255)→b.length<k→b.length≤4294960000→out.length≤32768→
  rk k b m out=if (bk k b out (ay m)).2=0 then some (.pan (.ret ((),(((bk k b out (ay m)).1,()),())))) else some (.ret ((),(([],((bk k b out (ay m)).2,())),()))):=by
 intro k
 induction k with
 |zero=>intro b out _ h;omega
 |succ k ih=>
  intro b out hb h1 h2 h3
  rw[J1]
  unfold sH
  by_cases hne:b=[]
  ·subst hne
   refine (af rfl _ _).trans ?_
   rfl
  ·have hp:0<b.length:=List.length_pos_iff.2 hne
   have e:bk (k+1) b out (ay m)=if (aM b).2.2≠0 then ([],(aM b).2.2) else if (aX out (aM b).1 (ay m)).2≠0 then ([],(aX out (aM b).1 (ay m)).2) else bk k (b.drop (aM b).2.1.toNat) (aX out (aM b).1 (ay m)).1 (ay m):=by
    rw[bk,if_neg hne]
   have hlit:=yH b
   have hbd:=oW m
   refine bT (by simpa using hp) ?_
   refine bT (by simp;omega) ?_
   rw[e]
   by_cases h4:(aM b).2.2=0
   ·have ho:=DN hb h4 hne
    refine bF (by simpa using h4) ?_
    refine bT (by simp only[zA,zB];omega) ?_
    rw[if_neg (az h4)]
    by_cases h5:(aX out (aM b).1 (ay m)).2=0
    ·have hle:=oX h5
     refine bF (by simpa using h5) ?_
     refine bT (by simp only[zA,zB];omega) ?_
     rw[if_neg (az h5),zG,List.take_length]
     exact ih _ _ (fun c hc=>hb c (List.mem_of_mem_drop hc)) (by simp;omega) (by simp;omega) (by omega)
    ·refine bT (by simpa using h5) ?_
     rw[if_pos h5,if_neg h5]
   ·refine bT (by simpa using h4) ?_
    rw[if_pos h4,if_neg h4]
def xr (a0:LI)(a1:Int):Option kS.Res:=(lY ((a0,(a1,([],()))),())).run fun y=>match y with | .ret ((),((x13,x14,()),()))=>(oR ((x13,x14,()),())) | .pan (.ret ((),((x15,()),())))=>(oR ((x15,0,()),()))
theorem No (a0:LI)(a1:Int):Io.run tt Hb dr tn kS Tryz.f136 ((a0,a1,()),())=xr a0 a1:=by kernel_rfl
theorem yc:HcsOk prog GD:=.cons PJ (.cons Ji (.cons Jj .nil))
theorem PI:HcOk prog 136 (ai kS Eo):=by
 refine bQ yc (lp:=tn) (fn:=Tryz.f136) kS (.step (h0:=aA dZ lY) (by kernel_rfl) (fR yc (lp:=tn) (fn:=Tryz.f136) (.done (by kernel_rfl)) dZ lY ?_) (.done (by kernel_rfl))) Eo ?_
 ·rintro ⟨⟨(b:LI),(m:Int),(out:LI),⟨⟩⟩,⟨⟩⟩ y hw hy
  obtain ⟨hg,hy⟩:=Tr.guard hy
  simp only[zA,zB] at hg
  refine ⟨b.length+1,(CZ m (b.length+1) b out (dA hw.1.1) (by omega) hg.1 hg.2).trans ?_⟩
  rw[← hy]
  simp only[Tr.val_ite,zB,Tr.val_ret]
 ·rintro ⟨⟨(b:LI),(m:Int),⟨⟩⟩,⟨⟩⟩ o hw ho
  obtain ⟨hg,ho⟩:=Tr.guard ho
  have hg:b.length≤4294960000:=of_decide_eq_true hg
  cases ho
  refine (No b m).trans ?_
  show _=oR (((aq b m).1,(aq b m).2,()),())
  unfold xr lY
  rw[dE]
  refine bT (by simp only[zA,zB];exact ⟨hg,by simp⟩) ?_
  by_cases h:(bk (b.length+1) b [] (ay m)).2=0
  ·refine bT (decide_eq_true h) ?_
   rw[h]
   rfl
  ·refine bF (decide_eq_false h) ?_
   rw[iT _ _ _ _ h]
   rfl
def kk (t:gB):Bool:=if t.2.1=0∧t.2.2.1=0∧0<t.1.length∧t.1.length≤128 then true else false
def fK (t:gB):Bool:=if t.1.length=0∧1≤t.2.1∧t.2.1≤4096∧4≤t.2.2.1∧t.2.2.1≤131 then true else false
def dp (b:LI)(p:Int):gB×Int×Int:=
 if p<0∨(b.length:Int)≤p then (eo,0,1)
 else if (aM (b.drop p.toNat)).2.2≠0 then (eo,0,(aM (b.drop p.toNat)).2.2)
 else ((aM (b.drop p.toNat)).1,p+(aM (b.drop p.toNat)).2.1,0)
abbrev jr:Io:=⟨[Co],[],[],[dB],none⟩
def zk (d:jr.In):Tr jr.Res:=.ret (.ret ((kk d.1.1,()),()))
abbrev GI:List (Nat×Hc):=[]
def O5:Hd:=bB GI
def HO:Lp:=bP []
def xy (a0:LI)(a1 a2:Int):Option jr.Res:=bif a1 == 0 then bif a2 == 0 then bif decide (0<(↑a0.length:Int)) then oR ((decide ((↑a0.length:Int)≤128),()),()) else oR ((false,()),()) else oR ((false,()),()) else oR ((false,()),())
theorem Nt (a0:LI)(a1 a2:Int):Io.run tt O5 dr HO jr Tryz.f157 (((a0,a1,a2,()),()),())=xy a0 a1 a2:=by kernel_rfl
theorem H8:HcOk prog 157 (ai jr zk):=by
 refine bQ (cs:=GI) HcsOk.nil (lp:=HO) (fn:=Tryz.f157) jr (.done (by kernel_rfl)) zk ?_
 rintro ⟨⟨⟨(a0:LI),(a1:Int),(a2:Int),⟨⟩⟩,⟨⟩⟩,⟨⟩⟩ out hw ho
 cases ho
 refine (Nt a0 a1 a2).trans ?_
 show _=oR (((if a1=0∧a2=0∧0<a0.length∧a0.length≤128 then true else false),()),())
 unfold xy
 by_cases h1:a1=0
 ·refine bT (by simp[h1]) ?_
  by_cases h2:a2=0
  ·refine bT (by simp[h2]) ?_
   by_cases h3:0<a0.length
   ·refine bT (decide_eq_true (show 0<(a0.length:Int) by omega)) ?_
    by_cases h4:a0.length≤128
    ·rw[if_pos ⟨h1,h2,h3,h4⟩,show decide ((a0.length:Int)≤128)=true from decide_eq_true (by omega)]
    ·rw[if_neg (fun h=>h4 h.2.2.2),show decide ((a0.length:Int)≤128)=false from decide_eq_false (by omega)]
   ·refine bF (decide_eq_false (show ¬ 0<(a0.length:Int) by omega)) ?_
    rw[if_neg (fun h=>h3 h.2.2.1)]
  ·refine bF (by simp[h2]) ?_
   rw[if_neg (fun h=>h2 h.2.1)]
 ·refine bF (by simp[h1]) ?_
  rw[if_neg (fun h=>h1 h.1)]
abbrev gO:Io:=⟨[Co],[],[],[dB],none⟩
def tW (d:gO.In):Tr gO.Res:=.ret (.ret ((fK d.1.1,()),()))
abbrev GG:List (Nat×Hc):=[]
def O4:Hd:=bB GG
def HN:Lp:=bP []
def xw (a0:LI)(a1 a2:Int):Option gO.Res:=bif decide (0<(↑a0.length:Int)) then oR ((false,()),()) else bif decide (a1<1) then oR ((false,()),()) else bif decide (4096<a1) then oR ((false,()),()) else bif decide (4≤a2) then oR ((decide (a2≤131),()),()) else oR ((false,()),())
theorem Nr (a0:LI)(a1 a2:Int):Io.run tt O4 dr HN gO Tryz.f158 (((a0,a1,a2,()),()),())=xw a0 a1 a2:=by kernel_rfl
theorem AX:HcOk prog 158 (ai gO tW):=by
 refine bQ (cs:=GG) HcsOk.nil (lp:=HN) (fn:=Tryz.f158) gO (.done (by kernel_rfl)) tW ?_
 rintro ⟨⟨⟨(a0:LI),(a1:Int),(a2:Int),⟨⟩⟩,⟨⟩⟩,⟨⟩⟩ out hw ho
 cases ho
 refine (Nr a0 a1 a2).trans ?_
 show _=oR (((if a0.length=0∧1≤a1∧a1≤4096∧4≤a2∧a2≤131 then true else false),()),())
 unfold xw
 by_cases h0:a0.length=0
 ·refine bF (decide_eq_false (show ¬ 0<(a0.length:Int) by omega)) ?_
  by_cases h1:a1<1
  ·refine bT (decide_eq_true h1) ?_
   rw[if_neg (by omega)]
  ·refine bF (decide_eq_false h1) ?_
   by_cases h2:4096<a1
   ·refine bT (decide_eq_true h2) ?_
    rw[if_neg (by omega)]
   ·refine bF (decide_eq_false h2) ?_
    by_cases h3:4≤a2
    ·refine bT (decide_eq_true h3) ?_
     by_cases h4:a2≤131
     ·rw[if_pos (by omega),decide_eq_true h4]
     ·rw[if_neg (by omega),decide_eq_false h4]
    ·refine bF (decide_eq_false h3) ?_
     rw[if_neg (by omega)]
 ·refine bT (decide_eq_true (show 0<(a0.length:Int) by omega)) ?_
  rw[if_neg (by omega)]
abbrev kV:Io:=⟨[dL,dI],[],[],[Co,dI,dI],none⟩
def Er (d:kV.In):Tr kV.Res:=.ite (decide (d.1.1.length≤4294960000)) (.ret (.ret (((dp d.1.1 d.1.2.1).1,(dp d.1.1 d.1.2.1).2.1,(dp d.1.1 d.1.2.1).2.2,()),()))) .no
abbrev GJ:List (Nat×Hc):=[(158,ai gO tW)]
def Hf:Hd:=bB GJ
abbrev dj:Lo:=⟨⟨(.one (.hol (.sl 5 (Ty.int u8)))::.one hI::bi (.one (.ptr 4 0)::bi (.one hI::.one (.onl 5 (Ty.int u8) 17)::.one hI::ah (ah (ah (ah (cN (bv (bi []))))))))),[none,none,none,none,some [.onl 5 (Ty.int u8) 2050,hI,hI]]⟩,[(.exit 0,⟨(.any::.one hI::bi (.one (.ptr 4 0)::bi (.one hI::.one (.onl 5 (Ty.int u8) 17)::.any::ah (ah (ah (ah (cN (bv (bi []))))))))),[none,none,none,none,some [.onl 5 (Ty.int u8) 2050,hI,hI]]⟩)]⟩
def gU (d:dj.st.den):Tr (ao dj.xs):=
 .ite (decide (d.1.2.2.2.2.1=0)&&(decide (d.1.2.2.2.1.length=0)&&((decide ((0:Int)≤d.1.2.1)&&decide (d.1.1.length≤4294960000))&&(decide ((0:Int)≤d.1.2.2.1)&&decide (d.1.2.1+d.1.2.2.1+2≤(d.1.1.length:Int))))))
  (.ret (.ret ((),((d.1.2.1,d.1.2.2.1,(d.1.1.drop (d.1.2.1+1).toNat).take (d.1.2.2.1+1).toNat,()),(d.2.1,()))))) .no
def tq:Lp:=bP [(10,aA dj gU)]
def qy {R:Type}(h2:LI)(h3 h4:Int)(h5:LI)(h6:Int)(h7:LI)(h8 h9:Int)(next:LI→Int→Int→LI→Int→LI→Int→Int→Option R)(out:ao dj.xs→Option R):Option R:=bif decide (h6≤h4) then bif decide (0≤i64.wrap (i64.wrap (h3+1)+h6))&&decide (i64.wrap (i64.wrap (h3+1)+h6)<(↑h2.length:Int)) then bif decide (h5.length+1≤4294967296) then next (h2) (h3) (h4) (h5++[h2.getD (i64.wrap (i64.wrap (h3+1)+h6)).toNat 0]) (i64.wrap (h6+1)) (h7) (h8) (h9) else none else none else out (.ret ((),((h3,(h4,(h5,()))),((h7,(h8,(h9,()))),()))))
def oO (n:Nat)(h2:LI)(h3 h4:Int)(h5:LI)(h6:Int)(h7:LI)(h8 h9:Int):Option (ao dj.xs):=fH tt Hf dr tq 0 Tryz.f147 (bI Tryz.f147 0) n (dj.st.mk' ((h2,(h3,(h4,(h5,(h6,()))))),((h7,(h8,(h9,()))),()))) (bo dj.xs)
theorem FC (n:Nat)(h2:LI)(h3 h4:Int)(h5:LI)(h6:Int)(h7:LI)(h8 h9:Int):oO (n+1) h2 h3 h4 h5 h6 h7 h8 h9=qy h2 h3 h4 h5 h6 h7 h8 h9 (oO n) some:=by kernel_rfl
theorem qR (b:LI)(p i:Nat):(b.drop p).getD i 0=b.getD (p+i) 0:=by rw[List.getD_eq_getElem?_getD,List.getD_eq_getElem?_getD,List.getElem?_drop]
theorem Ax (b g:LI)(u v:Int){p c:Nat}(h0:p+c+2≤b.length)(hl:b.length≤4294960000):∀(k j:Nat) (lit:LI),c+1<j+k→j≤c+1→lit.length=j→
  oO k b p c lit j g u v=some (.ret ((),(((p:Int),((c:Int),(lit++(b.drop (p+1+j)).take (c+1 - j),()))),((g,(u,(v,()))),())))):=by
 intro k
 induction k with
 |zero=>intro j lit h;omega
 |succ k ih=>
  intro j lit h1 h2 h3
  rw[FC]
  unfold qy
  by_cases hj:j≤c
  ·rw[ae (n:=(p:Int)+1) (by omega) (by omega),ae (n:=(p:Int)+1+(j:Int)) (by omega) (by omega),ae (n:=(j:Int)+1) (by omega) (by omega)]
   refine bT (by simpa using hj) ?_
   refine bT (by simp only[zA,zB];omega) ?_
   refine bT (by simp;omega) ?_
   have hlt:p+1+j<b.length:=by omega
   have e:b.getD ((p:Int)+1+(j:Int)).toNat 0=b[p+1+j]:=by rw[show ((p:Int)+1+(j:Int)).toNat=p+1+j by omega,aB hlt]
   rw[e]
   refine (ih (j+1) _ (by omega) (by omega) (by simp[h3])).trans ?_
   rw[zK,zE hlt,show c+1 - j=(c+1 - (j+1))+1 by omega,List.take_succ_cons]
   rfl
  ·refine bF (by simp;omega) ?_
   rw[show c+1 - j=0 by omega,List.take_zero,List.append_nil]
def xz (a0:LI)(a1:Int):Option kV.Res:=bif decide (a1<0) then oR ((([],0,0,()),0,1,()),()) else bif decide ((↑a0.length:Int)≤a1) then oR ((([],0,0,()),0,1,()),()) else bif decide (0≤a1)&&decide (a1<(↑a0.length:Int)) then bif decide (i64.wrap (a0.getD a1.toNat 0)<128) then bif decide (i64.wrap (i64.wrap ((↑a0.length:Int) - a1) - 1)<i64.wrap (i64.wrap (a0.getD a1.toNat 0)+1)) then oR ((([],0,0,()),0,1,()),()) else (gU ((a0,(a1,(i64.wrap (a0.getD a1.toNat 0),([],(0,()))))),(([],(0,(0,()))),()))).run fun y=>match y with | .ret ((),((x24,x25,x26,()),(x27,x28,x29,()),()))=>(oR (((x26,0,0,()),i64.wrap (i64.wrap (x24+x25)+2),0,()),())) else bif decide (i64.wrap ((↑a0.length:Int) - a1)<3) then oR ((([],0,0,()),0,1,()),()) else bif decide (0≤i64.wrap (a1+1))&&decide (i64.wrap (a1+1)<(↑a0.length:Int)) then bif decide (0≤i64.wrap (a1+2))&&decide (i64.wrap (a1+2)<(↑a0.length:Int)) then bif !fK ([],i64.wrap (i64.wrap (i64.wrap (a0.getD (i64.wrap (a1+1)).toNat 0)*256)+i64.wrap (a0.getD (i64.wrap (a1+2)).toNat 0)),i64.wrap (i64.wrap (a0.getD a1.toNat 0) - 124),()) then oR ((([],0,0,()),0,50,()),()) else oR ((([],i64.wrap (i64.wrap (i64.wrap (a0.getD (i64.wrap (a1+1)).toNat 0)*256)+i64.wrap (a0.getD (i64.wrap (a1+2)).toNat 0)),i64.wrap (i64.wrap (a0.getD a1.toNat 0) - 124),()),i64.wrap (a1+3),0,()),()) else none else none else none
theorem Nu (a0:LI)(a1:Int):Io.run tt Hf dr tq kV Tryz.f147 ((a0,a1,()),())=xz a0 a1:=by kernel_rfl
theorem yf:HcsOk prog GJ:=.cons AX .nil
theorem PL:HcOk prog 147 (ai kV Er):=by
 refine bQ yf (lp:=tq) (fn:=Tryz.f147) kV (.step (h0:=aA dj gU) (by kernel_rfl) (fR yf (lp:=tq) (fn:=Tryz.f147) (.done (by kernel_rfl)) dj gU ?_) (.done (by kernel_rfl))) Er ?_
 ·rintro ⟨⟨(b:LI),(p:Int),(c:Int),(lit:LI),(j:Int),⟨⟩⟩,⟨⟨(g:LI),(u:Int),(v:Int),⟨⟩⟩,⟨⟩⟩⟩ y hw hy
  obtain ⟨hg,hy⟩:=Tr.guard hy
  simp only[zA,zB] at hg
  obtain ⟨h1,h2,⟨h3,h4⟩,h5,h6⟩:=hg
  have h1:j=0:=h1
  have h2:lit.length=0:=h2
  have h3:0≤p:=h3
  have h4:b.length≤4294960000:=h4
  have h5:0≤c:=h5
  have h6:p+c+2≤(b.length:Int):=h6
  have h2:lit=[]:=List.length_eq_zero_iff.1 h2
  subst h1 h2
  obtain ⟨p,rfl⟩:=au h3
  obtain ⟨c,rfl⟩:=au h5
  refine ⟨c+2,(Ax b g u v (p:=p) (c:=c) (by omega) h4 (c+2) 0 [] (by omega) (by omega) rfl).trans ?_⟩
  rw[← hy]
  show _=some _
  rw[show ((p:Int)+1).toNat=p+1 by omega,show ((c:Int)+1).toNat=c+1 by omega]
  rfl
 ·rintro ⟨⟨(b:LI),(p:Int),⟨⟩⟩,⟨⟩⟩ o hw ho
  obtain ⟨hg,ho⟩:=Tr.guard ho
  have hg2:b.length≤4294960000:=of_decide_eq_true hg
  clear hg
  cases ho
  refine (Nu b p).trans ?_
  show _=oR (((dp b p).1,(dp b p).2.1,(dp b p).2.2,()),())
  have hb:Ty.wf bs b:=hw.1.1
  unfold xz
  by_cases h1:p<0
  ·refine bT (decide_eq_true h1) ?_
   unfold dp
   rw[if_pos (.inl h1)]
   rfl
  refine bF (decide_eq_false h1) ?_
  by_cases h2:(b.length:Int)≤p
  ·refine bT (decide_eq_true h2) ?_
   unfold dp
   rw[if_pos (.inr h2)]
   rfl
  refine bF (decide_eq_false h2) ?_
  obtain ⟨p,rfl⟩:=au (show 0≤p by omega)
  have eR:dp b p=if (aM (b.drop p)).2.2≠0 then (eo,0,(aM (b.drop p)).2.2) else ((aM (b.drop p)).1,(p:Int)+(aM (b.drop p)).2.1,0):=by
   unfold dp
   rw[if_neg (by omega),zG]
  have c0:=uD hb p
  have c1:=uD hb (p+1)
  have c2:=uD hb (p+2)
  have e0:(b.drop p).getD 0 0=b.getD p 0:=qR b p 0
  have e1:(b.drop p).getD 1 0=b.getD (p+1) 0:=qR b p 1
  have e2:(b.drop p).getD 2 0=b.getD (p+2) 0:=qR b p 2
  have el:((b.drop p).length:Int)=(b.length:Int) - p:=by simp;omega
  have eO:aM (b.drop p)=if b.getD p 0<128 then (if (b.length:Int) - p<b.getD p 0+2 then (eo,0,1) else (((b.drop (p+1)).take (b.getD p 0+1).toNat,0,0,()),b.getD p 0+2,0))
    else if (b.length:Int) - p<3 then (eo,0,1)
    else if b.getD (p+1) 0*256+b.getD (p+2) 0<1∨4096<b.getD (p+1) 0*256+b.getD (p+2) 0 then (eo,0,50)
    else (([],b.getD (p+1) 0*256+b.getD (p+2) 0,b.getD p 0 - 124,()),3,0):=by
   unfold aM
   rw[e0,e1,e2,el,List.drop_drop]
  rw[ae (n:=(p:Int)+1) (by omega) (by omega),ae (n:=(p:Int)+2) (by omega) (by omega),show ((p:Int)+1).toNat=p+1 by omega,show ((p:Int)+2).toNat=p+2 by omega,zG]
  rw[ae (n:=b.getD p 0) (by omega) (by omega),ae (n:=b.getD (p+1) 0) (by omega) (by omega),ae (n:=b.getD (p+2) 0) (by omega) (by omega)]
  generalize hd:(b.drop (p+1)).take (b.getD p 0+1).toNat=L at *
  have hF:∀lit:LI,b.getD p 0<128→(p:Int)+b.getD p 0+2≤(b.length:Int)→gU ((b,((p:Int),(b.getD p 0,([],(0,()))))),(([],(0,(0,()))),()))=.ite true (.ret (.ret ((),(((p:Int),b.getD p 0,L,()),(([],(0,(0,()))),()))))) .no:=by
   intro _ _ hlt
   have hc:(decide ((0:Int)=0)&&(decide (([]:LI).length=0)&&((decide ((0:Int)≤(p:Int))&&decide (b.length≤4294960000))&&(decide ((0:Int)≤b.getD p 0)&&decide ((p:Int)+b.getD p 0+2≤(b.length:Int))))))=true:=by
    simp only[zA,zB]
    exact ⟨trivial,rfl,⟨by omega,hg2⟩,c0.1,hlt⟩
   have:gU ((b,((p:Int),(b.getD p 0,([],(0,()))))),(([],(0,(0,()))),()))=.ite true (.ret (.ret ((),(((p:Int),b.getD p 0,(b.drop ((p:Int)+1).toNat).take (b.getD p 0+1).toNat,()),(([],(0,(0,()))),()))))) .no:=congrArg (fun c=>Tr.ite c _ _) hc
   rw[this,show ((p:Int)+1).toNat=p+1 by omega,hd]
  rw[eR,eO]
  clear eR eO e0 e1 e2 el hd
  generalize b.getD p 0=c at *
  generalize b.getD (p+1) 0=x at *
  generalize b.getD (p+2) 0=y at *
  refine bT (by simp only[zA,zB];omega) ?_
  rw[ae (n:=(b.length:Int) - p) (by omega) (by omega),ae (n:=(b.length:Int) - p - 1) (by omega) (by omega),ae (n:=c+1) (by omega) (by omega)]
  by_cases h3:c<128
  ·refine bT (decide_eq_true h3) ?_
   rw[if_pos h3]
   by_cases h4:(b.length:Int) - p<c+2
   ·refine bT (decide_eq_true (by omega)) ?_
    rw[if_pos h4,if_pos (by decide)]
    rfl
   ·refine bF (decide_eq_false (by omega)) ?_
    rw[hF [] h3 (by omega),if_neg h4,if_neg (az rfl)]
    show oR (((L,0,0,()),i64.wrap (i64.wrap ((p:Int)+c)+2),0,()),())=_
    rw[ae (n:=(p:Int)+c) (by omega) (by omega),ae (n:=(p:Int)+c+2) (by omega) (by omega),Int.add_assoc]
  ·refine bF (decide_eq_false h3) ?_
   rw[if_neg h3]
   by_cases h4:(b.length:Int) - p<3
   ·refine bT (decide_eq_true h4) ?_
    rw[if_pos h4,if_pos (by decide)]
    rfl
   ·refine bF (decide_eq_false h4) ?_
    refine bT (by simp only[zA,zB];omega) ?_
    refine bT (by simp only[zA,zB];omega) ?_
    rw[ae (n:=x*256) (by omega) (by omega),ae (n:=x*256+y) (by omega) (by omega),ae (n:=c - 124) (by omega) (by omega),ae (n:=(p:Int)+3) (by omega) (by omega),if_neg h4]
    have hi:fK ([],x*256+y,c - 124,()) = !decide (x*256+y<1∨4096<x*256+y):=by
     show (if ([]:LI).length=0∧1≤x*256+y∧x*256+y≤4096∧4≤c - 124∧c - 124≤131 then true else false)=_
     by_cases h5:x*256+y<1∨4096<x*256+y
     ·rw[if_neg (by omega),decide_eq_true h5];rfl
     ·rw[if_pos ⟨rfl,by omega⟩,decide_eq_false h5];rfl
    by_cases h5:x*256+y<1∨4096<x*256+y
    ·refine bT (by rw[hi,decide_eq_true h5];rfl) ?_
     rw[if_pos h5,if_pos (by decide)]
     rfl
    ·refine bF (by rw[hi,decide_eq_false h5];rfl) ?_
     rw[if_neg h5,if_neg (az rfl)]
abbrev gd:Io:=⟨[dI],[],[],[dI],none⟩
def tU (d:gd.In):Tr gd.Res:=.ret (.ret ((ay d.1.1,()),()))
abbrev xQ:List (Nat×Hc):=[]
def IZ:Hd:=bB xQ
def yq:Lp:=bP []
def rU (a0:Int):Option gd.Res:=bif decide (a0<0) then oR ((0,()),()) else bif decide (32768<a0) then oR ((32768,()),()) else oR ((a0,()),())
theorem Fi (a0:Int):Io.run tt IZ dr yq gd Tryz.f149 ((a0,()),())=rU a0:=by kernel_rfl
theorem Jk:HcOk prog 149 (ai gd tU):=by
 refine bQ (cs:=xQ) HcsOk.nil (lp:=yq) (fn:=Tryz.f149) gd (.done (by kernel_rfl)) tU ?_
 rintro ⟨⟨(m:Int),⟨⟩⟩,⟨⟩⟩ out hw ho
 cases ho
 refine (Fi m).trans ?_
 show _=oR ((ay m,()),())
 unfold rU
 have e1:m<0→co m 0=0:=fun h=>by unfold co;exact if_pos h
 have e2:¬ m<0→co m 0=m:=fun h=>by unfold co;exact if_neg (by omega)
 unfold ay qe
 by_cases h1:m<0
 ·refine bT (decide_eq_true h1) ?_
  rw[e1 h1,if_neg (by decide)]
 ·refine bF (decide_eq_false h1) ?_
  rw[e2 h1]
  by_cases h2:32768<m
  ·refine bT (decide_eq_true h2) ?_
   rw[if_pos h2]
  ·refine bF (decide_eq_false h2) ?_
   rw[if_neg h2]
abbrev ge:Io:=⟨[dO,Co,dI],[],[],[dO,dI],none⟩
def tV (d:ge.In):Tr ge.Res:=.ite (decide (d.1.1.length≤4294960000)&&(decide (d.1.2.1.1.length≤4294960000)&&(decide ((0:Int)≤d.1.2.2.1)&&decide ((d.1.2.2.1:Int)≤(32768:Int))))) (.ret (.ret (((aX d.1.1 d.1.2.1 d.1.2.2.1).1,(aX d.1.1 d.1.2.1 d.1.2.2.1).2,()),()))) .no
abbrev xR:List (Nat×Hc):=[(157,ai jr zk),(158,ai gO tW)]
def qW:Hd:=bB xR
abbrev cA:Lo:=⟨⟨(.one (.onl 5 (Ty.int u8) 1)::.any::bi (.one (.ptr 4 0)::.any::bi (.one hI::.any::ah (ah (ah (ah (bv []))))))),[none,none,none,none,some [.hol (.sl 5 (Ty.int u8)),hI,hI]]⟩,[(.exit 0,⟨(.one (.onl 5 (Ty.int u8) 1)::.any::ah (ah (ah (ah (cN (bv [])))))),[]⟩)]⟩
abbrev cd:Lo:=⟨⟨(.one (.onl 5 (Ty.int u8) 1)::.any::bi (.one (.ptr 4 0)::bv (.one hI::.one hI::.any::ah (ah (ah (ah (bi []))))))),[none,none,none,none,some [.hol (.sl 5 (Ty.int u8)),hI,hI]]⟩,[(.exit 2,⟨(.one (.onl 5 (Ty.int u8) 1)::.any::ah (ah (ah (ah (cN (bv [])))))),[]⟩)]⟩
def il (d:cA.st.den):Tr (ao cA.xs):=
 .ite (decide (d.1.2.1=0)&&decide (d.1.1.length+d.2.1.1.length≤4294967296)) (.ret (.ret ((),((d.1.1++d.2.1.1,()),())))) .no
def gp (d:cd.st.den):Tr (ao cd.xs):=
 .ite (decide (d.1.2.2.1=0)&&((decide (d.1.2.1=(d.1.1.length:Int) - d.2.1.2.1)&&decide ((0:Int)≤d.2.1.2.2.1))&&((decide ((1:Int)≤d.2.1.2.1)&&decide (d.2.1.2.1≤(d.1.1.length:Int)))&&decide ((d.1.1.length:Int)+d.2.1.2.2.1≤4294967296)))) (.ret (.ret ((),((cg d.2.1.2.1.toNat d.2.1.2.2.1.toNat d.1.1,()),())))) .no
def gX:Lp:=bP [(6,aA cA il),(16,aA cd gp)]
def nT {R:Type}(h5:LI)(h6:Int)(h7:LI)(h8 h9:Int)(next:LI→Int→LI→Int→Int→Option R)(out:ao cA.xs→Option R):Option R:=bif decide (h6<(↑h7.length:Int)) then bif decide (0≤h6)&&decide (h6<(↑h7.length:Int)) then bif decide (h5.length+1≤4294967296) then next (h5++[h7.getD h6.toNat 0]) (i64.wrap (h6+1)) (h7) (h8) (h9) else none else none else out (.ret ((),((h5,()),())))
def mw (n:Nat)(h5:LI)(h6:Int)(h7:LI)(h8 h9:Int):Option (ao cA.xs):=fH tt qW dr gX 0 Tryz.f148 (bI Tryz.f148 0) n (cA.st.mk' ((h5,(h6,())),((h7,(h8,(h9,()))),()))) (bo cA.xs)
theorem DF (n:Nat)(h5:LI)(h6:Int)(h7:LI)(h8 h9:Int):mw (n+1) h5 h6 h7 h8 h9=nT h5 h6 h7 h8 h9 (mw n) some:=by kernel_rfl
def iZ {R:Type}(h17:LI)(h18 h19:Int)(h20:LI)(h21 h22:Int)(next:LI→Int→Int→LI→Int→Int→Option R)(out:ao cd.xs→Option R):Option R:=bif decide (h19<h22) then bif decide (h21≠0) then bif decide (0≤i64.wrap (h18+i64.wrap (h19.tmod h21)))&&decide (i64.wrap (h18+i64.wrap (h19.tmod h21))<(↑h17.length:Int)) then bif decide (h17.length+1≤4294967296) then next (h17++[h17.getD (i64.wrap (h18+i64.wrap (h19.tmod h21))).toNat 0]) (h18) (i64.wrap (h19+1)) (h20) (h21) (h22) else none else none else none else out (.ret ((),((h17,()),())))
def lf (n:Nat)(h17:LI)(h18 h19:Int)(h20:LI)(h21 h22:Int):Option (ao cd.xs):=fH tt qW dr gX 0 Tryz.f148 (bI Tryz.f148 1) n (cd.st.mk' ((h17,(h18,(h19,()))),((h20,(h21,(h22,()))),()))) (bo cd.xs)
theorem p3 (n:Nat)(h17:LI)(h18 h19:Int)(h20:LI)(h21 h22:Int):lf (n+1) h17 h18 h19 h20 h21 h22=iZ h17 h18 h19 h20 h21 h22 (lf n) some:=by kernel_rfl
theorem wy (lit:LI)(u v:Int)(hl:lit.length≤maxLen):∀(k i:Nat) (out:LI),lit.length<i+k→i≤lit.length→out.length+(lit.length - i)≤4294967296→
  mw k out i lit u v=some (.ret ((),((out++lit.drop i,()),()))):=by
 intro k
 induction k with
 |zero=>intro i out h;omega
 |succ k ih=>
  intro i out h1 h2 h3
  rw[DF]
  unfold nT
  by_cases hi:i<lit.length
  ·refine bT (by simpa using hi) ?_
   refine bT (by simpa using hi) ?_
   refine bT (by simp;omega) ?_
   have e:lit.getD (i:Int).toNat 0=lit[i]:=by rw[zG,aB hi]
   rw[e,bb hi hl]
   refine (ih (i+1) _ (by omega) (by omega) (by simp;omega)).trans ?_
   rw[zK,zE hi]
   rfl
  ·refine bF (by simp;omega) ?_
   rw[zI (by omega),List.append_nil]
def Rep (L d:Nat)(out:LI):Prop:=∀q,L≤q→q<out.length→out.getD q 0=out.getD (q - d) 0
theorem Rep.mod {L d:Nat}{out:LI}(h:Rep L d out)(h1:1≤d)(h2:d≤L):∀i,L - d+i<out.length→out.getD (L - d+i) 0=out.getD (L - d+i % d) 0:=by
 intro i
 induction i using Nat.strongRecOn with
 |ind i ih=>
  intro hi
  by_cases hd:i<d
  ·rw[Nat.mod_eq_of_lt hd]
  ·rw[h (L - d+i) (by omega) hi,show L - d+i - d=L - d+(i - d) by omega,ih (i - d) (by omega) (by omega),Nat.mod_eq_sub_mod (by omega:i ≥ d)]
theorem uR {out:LI}{x:Int}{q:Nat}(h:q<out.length):(out++[x]).getD q 0=out.getD q 0:=by
 rw[List.getD_eq_getElem?_getD,List.getD_eq_getElem?_getD,List.getElem?_append_left h]
theorem Rep.snoc {L d:Nat}{out:LI}(h:Rep L d out)(h1:1≤d)(h2:L≤out.length)(h3:d≤L):Rep L d (out++[out.getD (out.length - d) 0]):=by
 intro q g1 g2
 rw[zH,List.length_singleton] at g2
 by_cases hq:q<out.length
 ·rw[uR hq,uR (by omega),h q g1 hq]
 ·have:q=out.length:=by omega
  subst this
  rw[uR (q:=out.length - d) (by omega)]
  rw[List.getD_eq_getElem?_getD,List.getElem?_append_right (Nat.le_refl _),Nat.sub_self]
  rfl
theorem vk (lit:LI){L d:Nat}(h1:1≤d)(h2:d≤L):∀(m k i:Nat) (out:LI),m<k→out.length=L+i→Rep L d out→out.length+m≤4294967296→
  lf k out ((L - d:Nat):Int) i lit d ((i+m:Nat):Int)=some (.ret ((),((cg d m out,()),()))):=by
 intro m
 induction m with
 |zero=>
  intro k i out g1 g2 g3 g4
  obtain ⟨k,rfl⟩:∃j,k=j+1:=⟨k - 1,by omega⟩
  rw[p3]
  unfold iZ
  refine bF (by simp) ?_
  rfl
 |succ m ih=>
  intro k i out g1 g2 g3 g4
  obtain ⟨k,rfl⟩:∃j,k=j+1:=⟨k - 1,by omega⟩
  rw[p3]
  unfold iZ
  have hm:i % d<d:=Nat.mod_lt _ (by omega)
  have e1:i64.wrap ((i:Int).tmod (d:Int))=((i % d:Nat):Int):=by
   rw[Int.tmod_eq_emod_of_nonneg (by omega)]
   exact (ae (by omega) (by omega)).trans (by omega)
  have e2:i64.wrap (((L - d:Nat):Int)+((i % d:Nat):Int))=((L - d+i % d:Nat):Int):=(ae (by omega) (by omega)).trans (by omega)
  rw[e1,e2,ae (n:=(i:Int)+1) (by omega) (by omega),zG]
  refine bT (by simp;omega) ?_
  refine bT (by simp;omega) ?_
  refine bT (by simp only[zA,zB];omega) ?_
  refine bT (by simp;omega) ?_
  have e3:out.getD (L - d+i % d) 0=out.getD (out.length - d) 0:=by
   rw[← g3.mod h1 h2 i (by omega),show out.length - d=L - d+i by omega]
  rw[e3]
  have:=ih k (i+1) (out++[out.getD (out.length - d) 0]) (by omega) (by simp;omega) (g3.snoc h1 (by omega) h2) (by simp;omega)
  rw[show ((i+1+m:Nat):Int)=((i+(m+1):Nat):Int) by omega] at this
  exact this
theorem NQ (lit:LI)(d len:Int):fL (lit,d,len,()) = !(kk (lit,d,len,()) || fK (lit,d,len,())):=by
 have e:fL (lit,d,len,())=if iS (lit,d,len,())=true then decide (0<lit.length) || (decide (d<1) || (decide (4096<d) || (decide (len<4) || decide (131<len)))) else decide (lit.length<1) || decide (128<lit.length):=rfl
 have e2:iS (lit,d,len,())=if d≠0 then true else decide (len≠0):=rfl
 have e3:kk (lit,d,len,())=if d=0∧len=0∧0<lit.length∧lit.length≤128 then true else false:=rfl
 have e4:fK (lit,d,len,())=if lit.length=0∧1≤d∧d≤4096∧4≤len∧len≤131 then true else false:=rfl
 have h1:iS (lit,d,len,())=true↔(d≠0∨len≠0):=by
  rw[e2]
  by_cases h:d=0
  ·rw[if_neg (az h)];simp[h]
  ·rw[if_pos h];simp[h]
 cases hl:kk (lit,d,len,()) with
 |true=>
  rw[e3] at hl
  split at hl
  ·rename_i h
   rw[e,if_neg (by rw[h1];omega),decide_eq_false (show ¬ lit.length<1 by omega),decide_eq_false (show ¬ 128<lit.length by omega)]
   rfl
  ·cases hl
 |false=>
  rw[e3] at hl
  split at hl
  ·cases hl
  ·rename_i hn
   cases hc:fK (lit,d,len,()) with
   |true=>
    rw[e4] at hc
    split at hc
    ·rename_i h
     rw[e,if_pos (by rw[h1];omega),decide_eq_false (show ¬ 0<lit.length by omega),decide_eq_false (show ¬ d<1 by omega),decide_eq_false (show ¬ 4096<d by omega),decide_eq_false (show ¬ len<4 by omega),decide_eq_false (show ¬ 131<len by omega)]
     rfl
    ·cases hc
   |false=>
    rw[e4] at hc
    split at hc
    ·cases hc
    ·rename_i hm
     rw[e]
     split
     ·rename_i h;rw[h1] at h
      simp only[Bool.or_false,Bool.not_false,Bool.or_eq_true,zB];omega
     ·rename_i h;rw[h1] at h
      simp only[Bool.or_false,Bool.not_false,Bool.or_eq_true,zB];omega
def rV (a0 a1:LI)(a2 a3 a4:Int):Option ge.Res:=bif kk (a1,a2,a3,()) then bif decide (i64.wrap (a4 - (↑a0.length:Int))<(↑a1.length:Int)) then oR (([],4,()),()) else (il ((a0,(0,())),((a1,(a2,(a3,()))),()))).run fun y=>match y with | .ret ((),((x16,()),()))=>(oR ((x16,0,()),())) else bif !fK (a1,a2,a3,()) then oR (([],50,()),()) else bif decide ((↑a0.length:Int)<a2) then oR (([],50,()),()) else bif decide (i64.wrap (a4 - (↑a0.length:Int))<a3) then oR (([],4,()),()) else (gp ((a0,(i64.wrap ((↑a0.length:Int) - a2),(0,()))),((a1,(a2,(a3,()))),()))).run fun y=>match y with | .ret ((),((x30,()),()))=>(oR ((x30,0,()),()))
theorem Fj (a0 a1:LI)(a2 a3 a4:Int):Io.run tt qW dr gX ge Tryz.f148 ((a0,(a1,a2,a3,()),a4,()),())=rV a0 a1 a2 a3 a4:=by kernel_rfl
theorem mf:HcsOk prog xR:=.cons H8 (.cons AX .nil)
theorem Jl:HcOk prog 148 (ai ge tV):=by
 refine bQ mf (lp:=gX) (fn:=Tryz.f148) ge (.step (h0:=aA cA il) (by kernel_rfl) (fR mf (lp:=gX) (fn:=Tryz.f148) (.done (by kernel_rfl)) cA il ?_) (.step (h0:=aA cd gp) (by kernel_rfl) (fR mf (lp:=gX) (fn:=Tryz.f148) (.done (by kernel_rfl)) cd gp ?_) (.done (by kernel_rfl)))) tV ?_
 ·rintro ⟨⟨(out:LI),(i:Int),⟨⟩⟩,⟨⟨(lit:LI),(u:Int),(v:Int),⟨⟩⟩,⟨⟩⟩⟩ y hw hy
  obtain ⟨hg,hy⟩:=Tr.guard hy
  simp only[zA,zB] at hg
  obtain ⟨h1,h2⟩:=hg
  have h1:i=0:=h1
  have h2:out.length+lit.length≤4294967296:=h2
  subst h1
  refine ⟨lit.length+1,(wy lit u v hw.2.1.1.1 (lit.length+1) 0 out (by omega) (by omega) (by omega)).trans ?_⟩
  rw[← hy];rfl
 ·rintro ⟨⟨(out:LI),(f:Int),(i:Int),⟨⟩⟩,⟨⟨(lit:LI),(d:Int),(len:Int),⟨⟩⟩,⟨⟩⟩⟩ y hw hy
  obtain ⟨hg,hy⟩:=Tr.guard hy
  simp only[zA,zB] at hg
  obtain ⟨h1,⟨h2,h3⟩,⟨h4,h5⟩,h6⟩:=hg
  have h1:i=0:=h1
  have h2:f=(out.length:Int) - d:=h2
  have h3:0≤len:=h3
  have h4:1≤d:=h4
  have h5:d≤(out.length:Int):=h5
  have h6:(out.length:Int)+len≤4294967296:=h6
  subst h1
  obtain ⟨d,rfl⟩:=au (show 0≤d by omega)
  obtain ⟨n,rfl⟩:=au h3
  have e:f=((out.length - d:Nat):Int):=by omega
  subst e
  have:=vk lit (L:=out.length) (d:=d) (by omega) (by omega) n (n+1) 0 out (by omega) rfl (fun q g1 g2=>by omega) (by omega)
  rw[Nat.zero_add] at this
  refine ⟨n+1,this.trans ?_⟩
  rw[← hy];rfl
 ·rintro ⟨⟨(out:LI),⟨(lit:LI),(d:Int),(len:Int),⟨⟩⟩,(m:Int),⟨⟩⟩,⟨⟩⟩ o hw ho
  obtain ⟨hg,ho⟩:=Tr.guard ho
  simp only[zA,zB] at hg
  obtain ⟨h1,h2,h0,h3⟩:=hg
  have h1:out.length≤4294960000:=h1
  have h2:lit.length≤4294960000:=h2
  have h0:(0:Int)≤m:=h0
  have h3:m≤(32768:Int):=h3
  cases ho
  refine (Fj out lit d len m).trans ?_
  show _=oR (((aX out (lit,d,len,()) m).1,(aX out (lit,d,len,()) m).2,()),())
  have hi:=NQ lit d len
  unfold rV aX
  cases hl:kk (lit,d,len,()) with
  |true=>
   rw[hl] at hi
   have hi:fL (lit,d,len,())=false:=hi
   have e3:kk (lit,d,len,())=if d=0∧len=0∧0<lit.length∧lit.length≤128 then true else false:=rfl
   rw[e3] at hl
   have hl:d=0∧len=0∧0<lit.length∧lit.length≤128:=by split at hl;assumption;cases hl
   obtain ⟨rfl,rfl,l3,l4⟩:=hl
   refine (aa rfl _ _).trans ?_
   rw[if_neg (by rintro (h | h);rw[hi] at h;cases h;have h:(out.length:Int)<0:=h;omega)]
   rw[ae (n:=m - (out.length:Int)) (by omega) (by omega)]
   by_cases h5:m<(out.length:Int)+(lit.length:Int)+0
   ·refine bT (decide_eq_true (by omega)) ?_
    rw[if_pos h5]
   ·refine bF (decide_eq_false (by omega)) ?_
    rw[if_neg h5]
    have e:il ((out,(0,())),((lit,((0:Int),((0:Int),()))),()))=.ite true (.ret (.ret ((),((out++lit,()),())))) .no:=congrArg (fun c=>Tr.ite c _ _) (show (decide ((0:Int)=0)&&decide (out.length+lit.length≤4294967296))=true by simp only[zA,zB];exact ⟨trivial,by omega⟩)
    rw[e]
    rfl
  |false=>
   refine (af rfl _ _).trans ?_
   cases hc:fK (lit,d,len,()) with
   |false=>
    rw[hl,hc] at hi
    have hi:fL (lit,d,len,())=true:=hi
    refine (aa rfl _ _).trans ?_
    rw[if_pos (.inl hi)]
   |true=>
    rw[hl,hc] at hi
    have hi:fL (lit,d,len,())=false:=hi
    have e4:fK (lit,d,len,())=if lit.length=0∧1≤d∧d≤4096∧4≤len∧len≤131 then true else false:=rfl
    rw[e4] at hc
    have hc:lit.length=0∧1≤d∧d≤4096∧4≤len∧len≤131:=by split at hc;assumption;cases hc
    obtain ⟨l1,l2,l3,l4,l5⟩:=hc
    have l1:lit=[]:=List.length_eq_zero_iff.1 l1
    subst l1
    refine (af rfl _ _).trans ?_
    by_cases h4:(out.length:Int)<d
    ·refine bT (decide_eq_true h4) ?_
     rw[if_pos (.inr h4)]
    ·refine bF (decide_eq_false h4) ?_
     rw[if_neg (by rintro (h | h);rw[hi] at h;cases h;exact h4 h)]
     rw[ae (n:=m - (out.length:Int)) (by omega) (by omega),ae (n:=(out.length:Int) - d) (by omega) (by omega)]
     by_cases h5:m<(out.length:Int)+(([]:LI).length:Int)+len
     ·refine bT (decide_eq_true (by simp at h5;omega)) ?_
      rw[if_pos h5]
     ·refine bF (decide_eq_false (by simp at h5;omega)) ?_
      rw[if_neg h5]
      simp at h5
      have e:gp ((out,((out.length:Int) - d,(0,()))),(([],(d,(len,()))),()))=.ite true (.ret (.ret ((),((cg d.toNat len.toNat out,()),())))) .no:=congrArg (fun c=>Tr.ite c _ _) (show (decide ((0:Int)=0)&&((decide ((out.length:Int) - d=(out.length:Int) - d)&&decide ((0:Int)≤len))&&((decide ((1:Int)≤d)&&decide (d≤(out.length:Int)))&&decide ((out.length:Int)+len≤4294967296))))=true by simp only[zA,zB];exact ⟨trivial,⟨trivial,by omega⟩,⟨by omega,by omega⟩,by omega⟩)
      rw[e]
      show oR ((cg d.toNat len.toNat out,0,()),())=oR ((cg d.toNat len.toNat (out++[]),0,()),())
      rw[List.append_nil]
abbrev kU:Io:=⟨[dL,dI],[],[],[dO,dI],none⟩
def Eq (d:kU.In):Tr kU.Res:=.ite (decide (d.1.1.length≤4294960000)) (.ret (.ret (((aq d.1.1 d.1.2.1).1,(aq d.1.1 d.1.2.1).2,()),()))) .no
abbrev GH:List (Nat×Hc):=[(147,ai kV Er),(149,ai gd tU),(148,ai ge tV)]
def He:Hd:=bB GH
abbrev d0:Lo:=⟨⟨(.one (.hol (.sl 5 (Ty.int u8)))::.one hI::bv (.one (.onl 5 (Ty.int u8) 13)::.one hI::ah (ah (bi [])))),[]⟩,[(.ret,⟨(bv (.one (.onl 5 (Ty.int u8) 9)::.one hI::ah (ah (bv [])))),[]⟩),(.exit 0,⟨(bv (bi (.one (.onl 5 (Ty.int u8) 13)::.any::ah (ah (bi []))))),[]⟩)]⟩
def lZ (d:d0.st.den):Tr (ao d0.xs):=
 .ite (decide (d.1.1.length≤4294960000)&&(decide (d.1.2.2.1.length≤32768)&&decide (d.1.2.2.2.1=0))) (.ite (decide ((bk (d.1.1.length+1) d.1.1 d.1.2.2.1 (ay d.1.2.1)).2=0)) (.ret (.pan (.ret ((),(((bk (d.1.1.length+1) d.1.1 d.1.2.2.1 (ay d.1.2.1)).1,()),()))))) (.ret (.ret ((),(([],(bk (d.1.1.length+1) d.1.1 d.1.2.2.1 (ay d.1.2.1)).2,()),()))))) .no
def tp:Lp:=bP [(4,aA d0 lZ)]
def sI {R:Type}(h2:LI)(h3:Int)(h4:LI)(h5:Int)(next:LI→Int→LI→Int→Option R)(out:ao d0.xs→Option R):Option R:=bif decide (h5<(↑h2.length:Int)) then bif decide (h2.length≤4294960000) then bif (dp h2 h5).2.2 != 0 then out (.ret ((),(([],((dp h2 h5).2.2,())),()))) else bif decide (h4.length≤4294960000)&&(decide (List.length (dp h2 h5).1.1≤4294960000)&&(decide (0≤ay h3)&&decide (ay h3≤32768))) then bif (aX h4 (dp h2 h5).1 (ay h3)).2 != 0 then out (.ret ((),(([],((aX h4 (dp h2 h5).1 (ay h3)).2,())),()))) else next (h2) (h3) ((aX h4 (dp h2 h5).1 (ay h3)).1) ((dp h2 h5).2.1) else none else none else out (.pan (.ret ((),((h4,()),()))))
def rl (n:Nat)(h2:LI)(h3:Int)(h4:LI)(h5:Int):Option (ao d0.xs):=fH tt He dr tp 0 Tryz.f114 (bI Tryz.f114 0) n (d0.st.mk' ((h2,(h3,(h4,(h5,())))),())) (bo d0.xs)
theorem J2 (n:Nat)(h2:LI)(h3:Int)(h4:LI)(h5:Int):rl (n+1) h2 h3 h4 h5=sI h2 h3 h4 h5 (rl n) some:=by kernel_rfl
theorem C0 (m:Int){b:LI}(hb:∀c∈b,0≤c∧c≤255)(hl:b.length≤4294960000):∀(k p:Nat) (out:LI),p≤b.length→b.length - p<k→out.length≤32768→
  rl k b m out p=if (bk k (b.drop p) out (ay m)).2=0 then some (.pan (.ret ((),(((bk k (b.drop p) out (ay m)).1,()),())))) else some (.ret ((),(([],((bk k (b.drop p) out (ay m)).2,())),()))):=by
 intro k
 induction k with
 |zero=>intro p out h h';omega
 |succ k ih=>
  intro p out h0 h1 h3
  rw[J2]
  unfold sI
  by_cases hp:p<b.length
  ·have hne:b.drop p≠[]:=by intro h;have:=congrArg List.length h;simp at this;omega
   have hbd:∀c∈b.drop p,0≤c∧c≤255:=fun c hc=>hb c (List.mem_of_mem_drop hc)
   have e:bk (k+1) (b.drop p) out (ay m)=if (aM (b.drop p)).2.2≠0 then ([],(aM (b.drop p)).2.2) else if (aX out (aM (b.drop p)).1 (ay m)).2≠0 then ([],(aX out (aM (b.drop p)).1 (ay m)).2) else bk k ((b.drop p).drop (aM (b.drop p)).2.1.toNat) (aX out (aM (b.drop p)).1 (ay m)).1 (ay m):=by
    rw[bk,if_neg hne]
   have eR:dp b p=if (aM (b.drop p)).2.2≠0 then (eo,0,(aM (b.drop p)).2.2) else ((aM (b.drop p)).1,(p:Int)+(aM (b.drop p)).2.1,0):=by
    unfold dp
    rw[if_neg (by omega),zG]
   have hlit:=yH (b.drop p)
   rw[List.length_drop] at hlit
   have hbm:=oW m
   refine bT (by simpa using hp) ?_
   refine bT (decide_eq_true hl) ?_
   rw[e,eR]
   by_cases h4:(aM (b.drop p)).2.2=0
   ·have ho:=DN hbd h4 hne
    rw[List.length_drop] at ho
    rw[if_neg (az h4),if_neg (az h4)]
    refine (af rfl _ _).trans ?_
    refine bT (by simp only[zA,zB];omega) ?_
    by_cases h5:(aX out (aM (b.drop p)).1 (ay m)).2=0
    ·have hle:=oX h5
     refine bF (by simpa using h5) ?_
     rw[if_neg (az h5)]
     obtain ⟨n,hn⟩:=au (show 0≤(aM (b.drop p)).2.1 by omega)
     rw[hn] at ho ⊢
     have:=ih (p+n) (aX out (aM (b.drop p)).1 (ay m)).1 (by omega) (by omega) (by omega)
     rw[List.drop_drop,zG]
     exact this
    ·refine bT (by simpa using h5) ?_
     rw[if_pos h5,if_neg h5]
   ·rw[if_pos h4,if_pos h4]
    refine bT (by simpa using h4) ?_
    rw[if_neg h4]
  ·refine bF (by simp;omega) ?_
   rw[zI (by omega)]
   rfl
def xx (a0:LI)(a1:Int):Option kU.Res:=(lZ ((a0,(a1,([],(0,())))),())).run fun y=>match y with | .ret ((),((x15,x16,()),()))=>(oR ((x15,x16,()),())) | .pan (.ret ((),((x17,()),())))=>(oR ((x17,0,()),()))
theorem Ns (a0:LI)(a1:Int):Io.run tt He dr tp kU Tryz.f114 ((a0,a1,()),())=xx a0 a1:=by kernel_rfl
theorem yd:HcsOk prog GH:=.cons PL (.cons Jk (.cons Jl .nil))
theorem PK:HcOk prog 114 (ai kU Eq):=by
 refine bQ yd (lp:=tp) (fn:=Tryz.f114) kU (.step (h0:=aA d0 lZ) (by kernel_rfl) (fR yd (lp:=tp) (fn:=Tryz.f114) (.done (by kernel_rfl)) d0 lZ ?_) (.done (by kernel_rfl))) Eq ?_
 ·rintro ⟨⟨(b:LI),(m:Int),(out:LI),(p:Int),⟨⟩⟩,⟨⟩⟩ y hw hy
  obtain ⟨hg,hy⟩:=Tr.guard hy
  simp only[zA,zB] at hg
  obtain ⟨h1,h2,h3⟩:=hg
  have h3:p=0:=h3
  subst h3
  refine ⟨b.length+1,(C0 m (dA hw.1.1) h1 (b.length+1) 0 out (Nat.zero_le _) (show b.length - 0<b.length+1 by omega) h2).trans ?_⟩
  rw[← hy]
  simp only[Tr.val_ite,zB,Tr.val_ret,List.drop_zero]
 ·rintro ⟨⟨(b:LI),(m:Int),⟨⟩⟩,⟨⟩⟩ o hw ho
  obtain ⟨hg,ho⟩:=Tr.guard ho
  have hg:b.length≤4294960000:=of_decide_eq_true hg
  cases ho
  refine (Ns b m).trans ?_
  show _=oR (((aq b m).1,(aq b m).2,()),())
  unfold xx lZ
  rw[dE]
  refine bT (by simp only[zA,zB];exact ⟨hg,by simp,trivial⟩) ?_
  by_cases h:(bk (b.length+1) b [] (ay m)).2=0
  ·refine bT (decide_eq_true h) ?_
   rw[h]
   rfl
  ·refine bF (decide_eq_false h) ?_
   rw[iT _ _ _ _ h]
   rfl
abbrev Pe:Io:=iJ
abbrev kG:Io:=⟨[dL,dI],[],[],[dO,dI],none⟩
def Ec (d:kG.In):Tr kG.Res:=.ite (decide ((d.1.2.1:Int)=(32768:Int))&&decide (d.1.1.length≤4294960000)) (.ret (.ret (((aY d.1.1).1,(aY d.1.1).2,()),()))) .no
abbrev Gn:List (Nat×Hc):=[(135,ai mi FX),(136,ai kS Eo)]
def OO:Hd:=bB Gn
def Hy:Lp:=bP []
def xc (a0:LI)(a1:Int):Option kG.Res:=bif (ab 10 1 a0 0).2.2 != 0 then oR (([],(ab 10 1 a0 0).2.2,()),()) else bif decide (al (ab 10 1 a0 0).1<0) then oR (([],5,()),()) else bif decide (co a1 0<al (ab 10 1 a0 0).1) then oR (([],4,()),()) else bif decide (32768<al (ab 10 1 a0 0).1) then oR (([],4,()),()) else bif decide (0≤(ab 10 1 a0 0).2.1)&&(decide ((ab 10 1 a0 0).2.1≤(↑a0.length:Int))&&decide ((↑a0.length:Int)≤(↑a0.length:Int))) then bif decide ((List.drop (ab 10 1 a0 0).2.1.toNat (List.take (↑a0.length:Int).toNat a0)).length≤4294960000) then bif (aq (List.drop (ab 10 1 a0 0).2.1.toNat (List.take (↑a0.length:Int).toNat a0)) (al (ab 10 1 a0 0).1)).2 == 4 then bif (aq (List.drop (ab 10 1 a0 0).2.1.toNat (List.take (↑a0.length:Int).toNat a0)) (al (ab 10 1 a0 0).1)).2 == 4 then oR (([],60,()),()) else bif (aq (List.drop (ab 10 1 a0 0).2.1.toNat (List.take (↑a0.length:Int).toNat a0)) (al (ab 10 1 a0 0).1)).2 != 0 then oR (([],(aq (List.drop (ab 10 1 a0 0).2.1.toNat (List.take (↑a0.length:Int).toNat a0)) (al (ab 10 1 a0 0).1)).2,()),()) else oR (((aq (List.drop (ab 10 1 a0 0).2.1.toNat (List.take (↑a0.length:Int).toNat a0)) (al (ab 10 1 a0 0).1)).1,0,()),()) else bif (aq (List.drop (ab 10 1 a0 0).2.1.toNat (List.take (↑a0.length:Int).toNat a0)) (al (ab 10 1 a0 0).1)).2 == 0 then bif decide ((↑(aq (List.drop (ab 10 1 a0 0).2.1.toNat (List.take (↑a0.length:Int).toNat a0)) (al (ab 10 1 a0 0).1)).1.length:Int)<al (ab 10 1 a0 0).1) then oR (([],60,()),()) else bif (aq (List.drop (ab 10 1 a0 0).2.1.toNat (List.take (↑a0.length:Int).toNat a0)) (al (ab 10 1 a0 0).1)).2 != 0 then oR (([],(aq (List.drop (ab 10 1 a0 0).2.1.toNat (List.take (↑a0.length:Int).toNat a0)) (al (ab 10 1 a0 0).1)).2,()),()) else oR (((aq (List.drop (ab 10 1 a0 0).2.1.toNat (List.take (↑a0.length:Int).toNat a0)) (al (ab 10 1 a0 0).1)).1,0,()),()) else bif (aq (List.drop (ab 10 1 a0 0).2.1.toNat (List.take (↑a0.length:Int).toNat a0)) (al (ab 10 1 a0 0).1)).2 != 0 then oR (([],(aq (List.drop (ab 10 1 a0 0).2.1.toNat (List.take (↑a0.length:Int).toNat a0)) (al (ab 10 1 a0 0).1)).2,()),()) else oR (((aq (List.drop (ab 10 1 a0 0).2.1.toNat (List.take (↑a0.length:Int).toNat a0)) (al (ab 10 1 a0 0).1)).1,0,()),()) else none else none
theorem M5 (a0:LI)(a1:Int):Io.run tt OO dr Hy kG Tryz.f109 ((a0,a1,()),())=xc a0 a1:=by kernel_rfl
theorem Pu:HcOk prog 109 (ai kG Ec):=by
 refine bQ (cs:=Gn) (.cons Mv (.cons PI .nil)) (lp:=Hy) (fn:=Tryz.f109) kG (.done (by kernel_rfl)) Ec ?_
 rintro ⟨⟨(b:LI),(most:Int),⟨⟩⟩,⟨⟩⟩ o hw ho
 obtain ⟨hg,ho⟩:=Tr.guard ho
 simp only[zA,zB] at hg
 obtain ⟨h0,hl⟩:=hg
 have h0:most=32768:=h0
 have hl:b.length≤4294960000:=hl
 subst h0
 cases ho
 refine (M5 b 32768).trans ?_
 show _=oR (((aY b).1,(aY b).2,()),())
 unfold xc aY
 have hk:=@mK 10 1 b 0
 generalize hge:ab 10 1 b 0=g at *
 obtain ⟨u,q,e⟩:=g
 simp only at hk ⊢
 by_cases h1:e=0
 rotate_left
 ·refine bT (by simpa using h1) ?_
  rw[if_pos h1]
 subst h1
 have hk:=hk rfl
 obtain ⟨q,rfl⟩:=au (show 0≤q by omega)
 refine (af rfl _ _).trans ?_
 rw[if_neg (az rfl)]
 generalize al u=n
 by_cases h2:n<0
 ·refine bT (decide_eq_true h2) ?_
  rw[if_pos h2]
 refine bF (decide_eq_false h2) ?_
 rw[if_neg h2]
 by_cases h3:32768<n
 ·refine bT (decide_eq_true (show co 32768 0<n from h3)) ?_
  rw[if_pos h3]
 refine bF (decide_eq_false (show ¬ co 32768 0<n from h3)) ?_
 refine bF (decide_eq_false h3) ?_
 rw[if_neg h3]
 have hx:=dE (b.drop q) n
 rw[zG,zG,List.take_length]
 refine bT (by simp only[zA,zB];omega) ?_
 refine bT (decide_eq_true (by simp;omega)) ?_
 have hx1:(aq (b.drop q) n).2≠0→(aq (b.drop q) n).1=[]:=by rw[hx];exact iT _ _ _ _
 clear hx
 generalize aq (b.drop q) n=x at *
 obtain ⟨o,f⟩:=x
 simp only at hx1 ⊢
 by_cases h4:f=4
 ·subst h4
  refine (aa rfl _ _).trans ?_
  rw[if_pos (.inl rfl)]
  all_goals rfl
 refine bF (by simpa using h4) ?_
 by_cases h5:f=0
 ·subst h5
  refine (aa rfl _ _).trans ?_
  by_cases h6:(o.length:Int)<n
  ·refine bT (decide_eq_true h6) ?_
   rw[if_pos (.inr ⟨rfl,h6⟩)]
  ·refine bF (decide_eq_false h6) ?_
   rw[if_neg (by rintro (h | h);cases h;exact h6 h.2),if_neg (az rfl)]
   all_goals rfl
 ·refine bF (by simpa using h5) ?_
  rw[if_neg (by rintro (h | h);exact h4 h;exact h5 h.1),if_pos h5]
  exact aa (by simpa using h5) _ _
abbrev kJ:Io:=⟨[dL,dI],[],[],[dO,dI],none⟩
def Ef (d:kJ.In):Tr kJ.Res:=.ite (decide ((d.1.2.1:Int)=(32768:Int))&&decide (d.1.1.length≤4294960000)) (.ret (.ret (((aY d.1.1).1,(aY d.1.1).2,()),()))) .no
abbrev Gp:List (Nat×Hc):=[(113,ai Pe za),(114,ai kU Eq)]
def OP:Hd:=bB Gp
def Hz:Lp:=bP []
def xf (a0:LI)(a1:Int):Option kJ.Res:=bif (ab 10 1 a0 0).2.2 != 0 then oR (([],(ab 10 1 a0 0).2.2,()),()) else bif decide (al (ab 10 1 a0 0).1<0) then oR (([],5,()),()) else bif decide (32768<al (ab 10 1 a0 0).1) then oR (([],4,()),()) else bif decide (a1<al (ab 10 1 a0 0).1) then bif decide (0≤a1) then oR (([],4,()),()) else bif decide (0<al (ab 10 1 a0 0).1) then oR (([],4,()),()) else bif decide (0≤(ab 10 1 a0 0).2.1)&&(decide ((ab 10 1 a0 0).2.1≤(↑a0.length:Int))&&decide ((↑a0.length:Int)≤(↑a0.length:Int))) then bif decide ((List.drop (ab 10 1 a0 0).2.1.toNat (List.take (↑a0.length:Int).toNat a0)).length≤4294960000) then bif (aq (List.drop (ab 10 1 a0 0).2.1.toNat (List.take (↑a0.length:Int).toNat a0)) (al (ab 10 1 a0 0).1)).2 == 4 then oR (([],60,()),()) else bif (aq (List.drop (ab 10 1 a0 0).2.1.toNat (List.take (↑a0.length:Int).toNat a0)) (al (ab 10 1 a0 0).1)).2 == 0 then bif decide ((↑(aq (List.drop (ab 10 1 a0 0).2.1.toNat (List.take (↑a0.length:Int).toNat a0)) (al (ab 10 1 a0 0).1)).1.length:Int)<al (ab 10 1 a0 0).1) then oR (([],60,()),()) else bif (aq (List.drop (ab 10 1 a0 0).2.1.toNat (List.take (↑a0.length:Int).toNat a0)) (al (ab 10 1 a0 0).1)).2 != 0 then oR (([],(aq (List.drop (ab 10 1 a0 0).2.1.toNat (List.take (↑a0.length:Int).toNat a0)) (al (ab 10 1 a0 0).1)).2,()),()) else oR (((aq (List.drop (ab 10 1 a0 0).2.1.toNat (List.take (↑a0.length:Int).toNat a0)) (al (ab 10 1 a0 0).1)).1,0,()),()) else bif (aq (List.drop (ab 10 1 a0 0).2.1.toNat (List.take (↑a0.length:Int).toNat a0)) (al (ab 10 1 a0 0).1)).2 != 0 then oR (([],(aq (List.drop (ab 10 1 a0 0).2.1.toNat (List.take (↑a0.length:Int).toNat a0)) (al (ab 10 1 a0 0).1)).2,()),()) else oR (((aq (List.drop (ab 10 1 a0 0).2.1.toNat (List.take (↑a0.length:Int).toNat a0)) (al (ab 10 1 a0 0).1)).1,0,()),()) else none else none else bif decide (0≤(ab 10 1 a0 0).2.1)&&(decide ((ab 10 1 a0 0).2.1≤(↑a0.length:Int))&&decide ((↑a0.length:Int)≤(↑a0.length:Int))) then bif decide ((List.drop (ab 10 1 a0 0).2.1.toNat (List.take (↑a0.length:Int).toNat a0)).length≤4294960000) then bif (aq (List.drop (ab 10 1 a0 0).2.1.toNat (List.take (↑a0.length:Int).toNat a0)) (al (ab 10 1 a0 0).1)).2 == 4 then oR (([],60,()),()) else bif (aq (List.drop (ab 10 1 a0 0).2.1.toNat (List.take (↑a0.length:Int).toNat a0)) (al (ab 10 1 a0 0).1)).2 == 0 then bif decide ((↑(aq (List.drop (ab 10 1 a0 0).2.1.toNat (List.take (↑a0.length:Int).toNat a0)) (al (ab 10 1 a0 0).1)).1.length:Int)<al (ab 10 1 a0 0).1) then oR (([],60,()),()) else bif (aq (List.drop (ab 10 1 a0 0).2.1.toNat (List.take (↑a0.length:Int).toNat a0)) (al (ab 10 1 a0 0).1)).2 != 0 then oR (([],(aq (List.drop (ab 10 1 a0 0).2.1.toNat (List.take (↑a0.length:Int).toNat a0)) (al (ab 10 1 a0 0).1)).2,()),()) else oR (((aq (List.drop (ab 10 1 a0 0).2.1.toNat (List.take (↑a0.length:Int).toNat a0)) (al (ab 10 1 a0 0).1)).1,0,()),()) else bif (aq (List.drop (ab 10 1 a0 0).2.1.toNat (List.take (↑a0.length:Int).toNat a0)) (al (ab 10 1 a0 0).1)).2 != 0 then oR (([],(aq (List.drop (ab 10 1 a0 0).2.1.toNat (List.take (↑a0.length:Int).toNat a0)) (al (ab 10 1 a0 0).1)).2,()),()) else oR (((aq (List.drop (ab 10 1 a0 0).2.1.toNat (List.take (↑a0.length:Int).toNat a0)) (al (ab 10 1 a0 0).1)).1,0,()),()) else none else none
theorem M8 (a0:LI)(a1:Int):Io.run tt OP dr Hz kJ Tryz.f79 ((a0,a1,()),())=xf a0 a1:=by kernel_rfl
theorem Pw:HcOk prog 79 (ai kJ Ef):=by
 refine bQ (cs:=Gp) (.cons H2 (.cons PK .nil)) (lp:=Hz) (fn:=Tryz.f79) kJ (.done (by kernel_rfl)) Ef ?_
 rintro ⟨⟨(b:LI),(most:Int),⟨⟩⟩,⟨⟩⟩ o hw ho
 obtain ⟨hg,ho⟩:=Tr.guard ho
 simp only[zA,zB] at hg
 obtain ⟨h0,hl⟩:=hg
 have h0:most=32768:=h0
 have hl:b.length≤4294960000:=hl
 subst h0
 cases ho
 refine (M8 b 32768).trans ?_
 show _=oR (((aY b).1,(aY b).2,()),())
 unfold xf aY
 have hk:=@mK 10 1 b 0
 generalize hge:ab 10 1 b 0=g at *
 obtain ⟨u,q,e⟩:=g
 simp only at hk ⊢
 by_cases h1:e=0
 rotate_left
 ·refine bT (by simpa using h1) ?_
  rw[if_pos h1]
 subst h1
 have hk:=hk rfl
 obtain ⟨q,rfl⟩:=au (show 0≤q by omega)
 refine (af rfl _ _).trans ?_
 rw[if_neg (az rfl)]
 generalize al u=n
 by_cases h2:n<0
 ·refine bT (decide_eq_true h2) ?_
  rw[if_pos h2]
 refine bF (decide_eq_false h2) ?_
 rw[if_neg h2]
 by_cases h3:32768<n
 ·refine bT (decide_eq_true h3) ?_
  rw[if_pos h3]
 refine bF (decide_eq_false h3) ?_
 refine bF (decide_eq_false h3) ?_
 rw[if_neg h3]
 have hx:=dE (b.drop q) n
 rw[zG,zG,List.take_length]
 refine bT (by simp only[zA,zB];omega) ?_
 refine bT (decide_eq_true (by simp;omega)) ?_
 have hx1:(aq (b.drop q) n).2≠0→(aq (b.drop q) n).1=[]:=by rw[hx];exact iT _ _ _ _
 clear hx
 generalize aq (b.drop q) n=x at *
 obtain ⟨o,f⟩:=x
 simp only at hx1 ⊢
 by_cases h4:f=4
 ·subst h4
  refine (aa rfl _ _).trans ?_
  rw[if_pos (.inl rfl)]
  all_goals rfl
 refine bF (by simpa using h4) ?_
 by_cases h5:f=0
 ·subst h5
  refine (aa rfl _ _).trans ?_
  by_cases h6:(o.length:Int)<n
  ·refine bT (decide_eq_true h6) ?_
   rw[if_pos (.inr ⟨rfl,h6⟩)]
  ·refine bF (decide_eq_false h6) ?_
   rw[if_neg (by rintro (h | h);cases h;exact h6 h.2),if_neg (az rfl)]
   all_goals rfl
 ·refine bF (by simpa using h5) ?_
  rw[if_neg (by rintro (h | h);exact h4 h;exact h5 h.1),if_pos h5]
  exact aa (by simpa using h5) _ _
abbrev aR:Ty:=.prod (.int .i64) (.prod yI (.prod yI (.prod FO .unit)))
abbrev QI:Ty:=.sl 91 aR
abbrev mS:Ty:=.prod (.int .i64) (.prod (.int .i32) (.prod (.int .i64) (.prod (.int .i16) (.prod (.int .i32) (.prod QI .unit)))))
abbrev Sr:Ty:=.prod (.int .i64) (.prod (.int .i64) (.prod (.int .i32) (.prod .bool (.prod (.int .i64) (.prod (.int .i64) (.prod (.int .i64) (.prod (.int .i64) (.prod (.int .i16) (.prod (.int .i32) .unit)))))))))
abbrev bq:Type:=Int×Bx×Bx×List ez×Unit
abbrev cM:Type:=Int×Int×Int×Int×Int×List bq×Unit
abbrev wJ:Type:=Int×Int×Int×Bool×Int×Int×Int×Int×Int×Int×Unit
abbrev SM:Sh:=.dat aR true false
abbrev La:Sh:=.dat QI false false
abbrev Cm:Sh:=.dat mS true false
abbrev K9:Sh:=.dat Sr true false
def tB:cM:=(0,0,0,0,0,[],())
def br:wJ:=(0,0,0,false,0,0,0,0,0,0,())
def tC:bq:=(0,(false,[],()),(false,[],()),[],())
def bg (base:Int):Bool:=decide (base<0) || decide (4611686018427387648<base)
def aW (pid ep sq:Int):Bool:=if pid = -1∧ep = -1∧sq = -1∨0≤pid∧0≤ep∧0≤sq then false else true
def aP (n:Int):Bool:=if -9223372036854775808≤n∧n≤9223372036854775807 then true else false
def aK (rs:List bq):Int:=match rs with
 |[]=>0
 |r::_=>r.1
def cD (f:Int)(i:Nat)(r:bq):pl:=(r.1 - f,(i:Int),r.2.1,r.2.2.1,r.2.2.2.1,())
def bn (f:Int):List bq→Nat→LI→LI×Int
 |[],_,out=>(out,0)
 |r::rs,i,out=>
  if aP (r.1 - f)=false then ([],86)
  else if bh (cD f i r)≠0 then ([],bh (cD f i r))
  else bn f rs (i+1) (out++(ci (cD f i r)).1)
def ey (rs:List bq):LI×Int:=
 if (bn (aK rs) rs 0 []).2≠0 then ([],(bn (aK rs) rs 0 []).2)
 else if 32768<((bn (aK rs) rs 0 []).1.length:Int) then ([],4)
 else ((bn (aK rs) rs 0 []).1,0)
def dq (b:cM):Int:=
 if bg b.1=true then 80
 else if aW b.2.2.1 b.2.2.2.1 b.2.2.2.2.1=true then 84
 else if b.2.2.2.2.2.1=[] then 85
 else if 256<(b.2.2.2.2.2.1.length:Int) then 9
 else (ey b.2.2.2.2.2.1).2
def bu:List bq→Int→Int
 |[],t=>t
 |r::rs,t=>bu rs (co t r.1)
def ch (rs:List bq):Int:=match rs with
 |[]=>-9223372036854775808
 |r::rs=>bu rs r.1
def en (b:cM)(attrs:Int)(blk:LI):LI:=
 aU attrs 2++(aU ((b.2.2.2.2.2.1.length:Int) - 1) 4++(aU (aK b.2.2.2.2.2.1) 8++(aU (ch b.2.2.2.2.2.1) 8++(aU b.2.2.1 8++(aU b.2.2.2.1 2++(aU b.2.2.2.2.1 4++(aU (b.2.2.2.2.2.1.length:Int) 4++blk)))))))
def rz (b:cM)(attrs:Int)(blk:LI):LI:=
 aU b.1 8++(aU (49+(blk.length:Int)) 4++(aU b.2.1 4++([2]++(aU (cC 0 (en b attrs blk)) 4++en b attrs blk))))
def ar (b:LI)(p n:Nat):Int:=cl ((b.drop p).take n)
def aj (b:LI)(p:Int):Int×Int:=
 if p<0∨(b.length:Int)<p then (0,3)
 else if (b.length:Int) - p<12 then (0,1)
 else if ar b (p.toNat+8) 4<49 then (0,5)
 else if 35988<ar b (p.toNat+8) 4 then (0,4)
 else if (b.length:Int) - p - 12<ar b (p.toNat+8) 4 then (0,1)
 else (ar b (p.toNat+8) 4+12,0)
def eU (b:LI):Bool:=if (b.drop 17).take 4=aU (cC 0 (b.drop 21)) 4 then true else false
def iV (b:LI):wJ:=(ar b 0 8,(b.length:Int),ar b 12 4,decide (b.getD 22 0=1),ar b 57 4,ar b 27 8,ar b 35 8,ar b 43 8,ar b 51 2,ar b 53 4,())
def bc (b:LI)(summing:Bool):Int:=
 if (b.length:Int)<61 then 1
 else if (aj b 0).2≠0 then (aj b 0).2
 else if (aj b 0).1<(b.length:Int) then 2
 else if b.getD 16 0≠2 then 81
 else if summing=true∧eU b=false then 82
 else if bg (ar b 0 8)=true then 80
 else if b.getD 21 0≠0∨1<b.getD 22 0 then 83
 else if aW (ar b 43 8) (ar b 51 2) (ar b 53 4)=true then 84
 else if ar b 57 4<1 then 85
 else if 256<ar b 57 4 then 9
 else if ar b 23 4≠ar b 57 4 - 1 then 72
 else 0
def ak (b:LI)(summing:Bool):wJ×Int:=if bc b summing≠0 then (br,bc b summing) else (iV b,0)
def aD (blk:LI)(f:Int):Nat→Nat→Int→List bq→List bq×Int×Int
 |0,_,p,out=>(out,p,0)
 |n+1,i,p,out=>
  if (an blk p).2.2≠0 then ([],0,(an blk p).2.2)
  else if (an blk p).1.2.1≠(i:Int) then ([],0,72)
  else if i=0∧(an blk p).1.1≠0∨aP (f+(an blk p).1.1)=false then ([],0,86)
  else aD blk f n (i+1) (an blk p).2.1 (out++[(f+(an blk p).1.1,(an blk p).1.2.2.1,(an blk p).1.2.2.2.1,(an blk p).1.2.2.2.2.1,())])
def cK (blk:LI)(f l:Int)(n:Nat):List bq×Int:=
 if (aD blk f n 0 0 []).2.2≠0 then ([],(aD blk f n 0 0 []).2.2)
 else if (aD blk f n 0 0 []).2.1<(blk.length:Int) then ([],2)
 else if ch (aD blk f n 0 0 []).1≠l then ([],86)
 else ((aD blk f n 0 0 []).1,0)
def aN (b:LI)(packed:Bool):LI×Int:=
 if packed=true then aY (b.drop 61) else if 32768<((b.drop 61).length:Int) then ([],4) else (b.drop 61,0)
def fa (b:LI):List bq×Int:=
 if bc b true≠0 then ([],bc b true)
 else if (aN b (decide (b.getD 22 0=1))).2≠0 then ([],(aN b (decide (b.getD 22 0=1))).2)
 else cK (aN b (decide (b.getD 22 0=1))).1 (ar b 27 8) (ar b 35 8) (ar b 57 4).toNat
def ap (b:LI):cM×Int:=
 if (fa b).2≠0 then (tB,(fa b).2) else ((ar b 0 8,ar b 12 4,ar b 43 8,ar b 51 2,ar b 53 4,(fa b).1,()),0)
abbrev d8:Sh:=.dat (.int .i8) false false
abbrev oz:Io:=⟨[.ptr 0 0],[QE],[],[d8,dI],none⟩
def F1 (d:oz.In):Tr oz.Res:=
 .ite (cL d.2.1.1 d.2.1.2.1) (.ret (.ret ((i8.wrap (bK d.2.1.1 d.2.1.2.1 1).1,((bK d.2.1.1 d.2.1.2.1 1).2.2,())),((d.2.1.1,((bK d.2.1.1 d.2.1.2.1 1).2.1,())),())))) .no
abbrev K3:List (Nat×Hc):=[(132,ai cG gT)]
def Q0:Hd:=bB K3
def Mb:Lp:=bP []
def BQ (a0:LI)(a1:Int):Option oz.Res:=bif cL a0 a1&&(decide (0≤1)&&decide (1≤8)) then oR ((i8.wrap (bK a0 a1 (Int.toNat 1)).1,(bK a0 a1 (Int.toNat 1)).2.2,()),(a0,(bK a0 a1 (Int.toNat 1)).2.1,()),()) else none
theorem P7 (a0:LI)(a1:Int):Io.run tt Q0 dr Mb oz Tryz.f106 (((),()),(a0,a1,()),())=BQ a0 a1:=by kernel_rfl
theorem Rk:HcOk prog 106 (ai oz F1):=by
 refine bQ (cs:=K3) (.cons lm .nil) (lp:=Mb) (fn:=Tryz.f106) oz (.done (by kernel_rfl)) F1 ?_
 rintro ⟨⟨⟨⟩,⟨⟩⟩,⟨⟨(b:LI),(p:Int),⟨⟩⟩,⟨⟩⟩⟩ out hw ho
 obtain ⟨hg,ho⟩:=Tr.guard ho
 have hg:cL b p=true:=hg
 cases ho
 refine (P7 b p).trans ?_
 unfold BQ
 rw[aa (by simp[hg])]
 rfl
theorem jJ {n:Int}(h:bC .i64 n) : -9223372036854775808≤n∧n≤9223372036854775807:=by
 simpa [bC,IntKind.min,IntKind.max,IntKind.signed,IntKind.bits] using h
theorem EQ {n:Int}(h:bC .i32 n) : -2147483648≤n∧n≤2147483647:=by
 simpa [bC,IntKind.min,IntKind.max,IntKind.signed,IntKind.bits] using h
theorem RI {n:Int}(h1:9223372036854775807<n)(h2:n≤18446744073709551615):i64.wrap n=n - 18446744073709551616:=by
 simp[IntKind.wrap,IntKind.signed,IntKind.bits] <;> (try split) <;> omega
theorem RJ {n:Int}(h1:n < -9223372036854775808)(h2 : -18446744073709551616≤n):i64.wrap n=n+18446744073709551616:=by
 simp[IntKind.wrap,IntKind.signed,IntKind.bits] <;> (try split) <;> omega
theorem Ln {n:Int}(h1 : -9223372036854775808≤n)(h2:n≤9223372036854775807):aP n=true:=by unfold aP;rw[if_pos ⟨h1,h2⟩]
theorem xV {n:Int}(h:¬(-9223372036854775808≤n∧n≤9223372036854775807)):aP n=false:=by unfold aP;rw[if_neg h]
theorem fv {n:Int}:aP n=true↔-9223372036854775808≤n∧n≤9223372036854775807:=by
 unfold aP
 split
 ·rename_i h;exact ⟨fun _=>h,fun _=>rfl⟩
 ·rename_i h;exact ⟨fun h'=>Bool.noConfusion h',fun h'=>absurd h' h⟩
theorem OC {d f:Int}(hd:bC .i64 d)(hf:bC .i64 f):(decide (i64.wrap (f+d)<f) == decide (d<0))=aP (f+d):=by
 have h1:=jJ hd
 have h2:=jJ hf
 by_cases a : -9223372036854775808≤f+d
 ·by_cases b:f+d≤9223372036854775807
  ·rw[Ln a b,ae a b]
   by_cases c:d<0
   ·rw[decide_eq_true c,decide_eq_true (show f+d<f by omega)];rfl
   ·rw[decide_eq_false c,decide_eq_false (show ¬ f+d<f by omega)];rfl
  ·rw[xV (fun h=>b h.2),RI (by omega) (by omega),decide_eq_true (show f+d - 18446744073709551616<f by omega),decide_eq_false (show ¬ d<0 by omega)];rfl
 ·rw[xV (fun h=>a h.1),RJ (by omega) (by omega),decide_eq_false (show ¬ f+d+18446744073709551616<f by omega),decide_eq_true (show d<0 by omega)];rfl
theorem Ry:∀{l:LI},(∀c∈l,0≤c∧c≤255)→l.length=1→i8.wrap (aS l)=cl l
 |[a],h,_=>by
  have ha:=h a (by simp)
  simp only[aS,cl,List.foldl_cons,List.foldl_nil]
  simp[IntKind.wrap,IntKind.signed,IntKind.bits] <;> (try split) <;> omega
theorem tz:∀{l:LI},(∀c∈l,0≤c∧c≤255)→l.length=2→i16.wrap (aS l)=cl l
 |[a,b],h,_=>by
  have ha:=h a (by simp)
  have hb:=h b (by simp)
  simp only[aS,cl,List.foldl_cons,List.foldl_nil]
  simp[IntKind.wrap,IntKind.signed,IntKind.bits] <;> (try split) <;> omega
theorem nm:∀{l:LI},(∀c∈l,0≤c∧c≤255)→l.length=4→i32.wrap (aS l)=cl l
 |[a,b,c,d],h,_=>by
  have ha:=h a (by simp)
  have hb:=h b (by simp)
  have hc:=h c (by simp)
  have hd:=h d (by simp)
  simp only[aS,cl,List.foldl_cons,List.foldl_nil]
  simp[IntKind.wrap,IntKind.signed,IntKind.bits] <;> (try split) <;> omega
theorem Bd:∀{l:LI},(∀c∈l,0≤c∧c≤255)→l.length=8→i64.wrap (aS l)=cl l
 |[a,b,c,d,e,f,g,i],h,_=>by
  have ha:=h a (by simp)
  have hb:=h b (by simp)
  have hc:=h c (by simp)
  have hd:=h d (by simp)
  have he:=h e (by simp)
  have hf:=h f (by simp)
  have hg:=h g (by simp)
  have hi:=h i (by simp)
  simp only[aS,cl,List.foldl_cons,List.foldl_nil]
  simp[IntKind.wrap,IntKind.signed,IntKind.bits] <;> (try split) <;> omega
theorem NC:∀{l:LI},(∀c∈l,0≤c∧c≤255)→l.length=4→-2147483648≤cl l∧cl l≤2147483647:=fun h hl=>by
 rw[← nm h hl]
 exact EQ (bO _ _)
theorem dy {b:LI}(hb:∀c∈b,0≤c∧c≤255)(p n:Nat):∀c∈(b.drop p).take n,0≤c∧c≤255:=fun c hc=>hb c (List.mem_of_mem_drop (List.mem_of_mem_take hc))
theorem cE {b:LI}{p n:Nat}(h:p+n≤b.length):((b.drop p).take n).length=n:=by simp;omega
abbrev kz:Io:=⟨[cO],[],[],[dB],none⟩
def D4 (d:kz.In):Tr kz.Res:=.ret (.ret ((bg d.1.1,()),()))
abbrev F9:List (Nat×Hc):=[]
def OE:Hd:=bB F9
def Ho:Lp:=bP []
def wP (a0:Int):Option kz.Res:=bif decide (a0<0) then oR ((true,()),()) else oR ((decide (4611686018427387648<a0),()),())
theorem MR (a0:Int):Io.run tt OE dr Ho kz Tryz.f100 ((a0,()),())=wP a0:=by kernel_rfl
theorem Pj:HcOk prog 100 (ai kz D4):=by
 refine bQ (cs:=F9) HcsOk.nil (lp:=Ho) (fn:=Tryz.f100) kz (.done (by kernel_rfl)) D4 ?_
 rintro ⟨⟨(b:Int),⟨⟩⟩,⟨⟩⟩ out hw ho
 cases ho
 refine (MR b).trans ?_
 show _=oR ((decide (b<0) || decide (4611686018427387648<b),()),())
 unfold wP
 by_cases h:b<0
 ·refine bT (decide_eq_true h) ?_
  rw[decide_eq_true h];rfl
 ·refine bF (decide_eq_false h) ?_
  rw[decide_eq_false h];rfl
abbrev jf:Io:=⟨[cO,SJ,QP],[],[],[dB],none⟩
def D7 (d:jf.In):Tr jf.Res:=.ret (.ret ((aW d.1.1 d.1.2.1 d.1.2.2.1,()),()))
abbrev Gc:List (Nat×Hc):=[]
def OH:Hd:=bB Gc
def Hr:Lp:=bP []
def wT (a0 a1 a2:Int):Option jf.Res:=bif a0 == -1 then bif a1 == -1 then bif decide (0≤a0) then bif decide (0≤a1) then bif !a2 == -1 then oR ((!decide (0≤a2),()),()) else oR ((false,()),()) else bif !a2 == -1 then oR ((true,()),()) else oR ((false,()),()) else bif !a2 == -1 then oR ((true,()),()) else oR ((false,()),()) else bif decide (0≤a0) then bif decide (0≤a1) then oR ((!decide (0≤a2),()),()) else oR ((true,()),()) else oR ((true,()),()) else bif decide (0≤a0) then bif decide (0≤a1) then oR ((!decide (0≤a2),()),()) else oR ((true,()),()) else oR ((true,()),())
theorem MV (a0 a1 a2:Int):Io.run tt OH dr Hr jf Tryz.f108 ((a0,a1,a2,()),())=wT a0 a1 a2:=by kernel_rfl
theorem Pm:HcOk prog 108 (ai jf D7):=by
 refine bQ (cs:=Gc) HcsOk.nil (lp:=Hr) (fn:=Tryz.f108) jf (.done (by kernel_rfl)) D7 ?_
 rintro ⟨⟨(pid:Int),(ep:Int),(sq:Int),⟨⟩⟩,⟨⟩⟩ out hw ho
 cases ho
 refine (MV pid ep sq).trans ?_
 show _=oR (((if pid = -1∧ep = -1∧sq = -1∨0≤pid∧0≤ep∧0≤sq then false else true),()),())
 have hs:(!decide (0≤sq))=if 0≤sq then false else true:=by by_cases h:0≤sq <;> simp[h]
 have key:∀c:Prop,[Decidable c]→∀b:Bool,(b=false↔c)→some (Out.ret ((b,()),()):jf.Res)=oR (((if c then false else true),()),()):=by
  intro c _ b h
  by_cases hc:c
  ·rw[if_pos hc,h.2 hc]
  ·rw[if_neg hc]
   cases b with
   |true=>rfl
   |false=>exact absurd (h.1 rfl) hc
 unfold wT
 by_cases h1:pid = -1
 ·refine bT (by simp[h1]) ?_
  by_cases h2:ep = -1
  ·refine bT (by simp[h2]) ?_
   refine bF (decide_eq_false (by omega)) ?_
   by_cases h3:sq = -1
   ·refine bF (by simp[h3]) ?_
    exact key _ _ (by simp;omega)
   ·refine bT (by simp[h3]) ?_
    exact key _ _ (by simp;omega)
  ·refine bF (by simp[h2]) ?_
   refine bF (decide_eq_false (by omega)) ?_
   exact key _ _ (by simp;omega)
 ·refine bF (by simp[h1]) ?_
  by_cases h2:0≤pid
  ·refine bT (decide_eq_true h2) ?_
   by_cases h3:0≤ep
   ·refine bT (decide_eq_true h3) ?_
    exact key _ _ (by simp;omega)
   ·refine bF (decide_eq_false h3) ?_
    exact key _ _ (by simp;omega)
  ·refine bF (decide_eq_false h2) ?_
   exact key _ _ (by simp;omega)
def cp (f:Int):List bq→Nat→Bool
 |[],_=>true
 |r::rs,i=>gj (cD f i r)&&cp f rs (i+1)
theorem J8 {r:pl}(h:bh r=0):(ci r).2=0∧(ci r).1.length≤16400:=by
 have e:ci r=(aF (aC (cf r).length)++cf r,0):=by unfold ci;rw[if_pos h]
 rw[e]
 refine ⟨rfl,?_⟩
 have hs:(cf r).length≤16384:=by
  unfold bh at h
  split at h
  ·rename_i h1;exact absurd h h1
  ·split at h
   ·cases h
   ·omega
 have:=np (aC (cf r).length)
 simp only[zH]
 omega
theorem v5 {r:pl}(h:bh r≠0):(ci r).2=bh r:=by unfold ci;rw[if_neg h]
abbrev kB:Io:=⟨[La],[],[],[cO],none⟩
def D6 (d:kB.In):Tr kB.Res:=.ite (decide (1≤d.1.1.length)) (.ret (.ret ((ch d.1.1,()),()))) .no
abbrev zy:List (Nat×Hc):=[]
def GZ:Hd:=bB zy
abbrev dM:Lo:=⟨⟨(.any::bi (.one hI::bv (bi (.one (.hol (.sl 91 aR))::.one hI::.one hI::.any::cN [])))),[]⟩,[(.exit 0,⟨(.any::bi (.one hI::ah (bi []))),[]⟩)]⟩
def lM (d:dM.st.den):Tr (ao dM.xs):=.ite (decide (d.1.2.2.2.1=0)&&decide (d.1.2.2.1=(d.1.2.1.length:Int))) (.ret (.ret ((),((bu d.1.2.1 d.1.1,()),())))) .no
def td:Lp:=bP [(4,aA dM lM)]
def su {R:Type}(h1:Int)(h2:List aR.den)(h3 h4:Int)(next:Int→List aR.den→Int→Int→Option R)(out:ao dM.xs→Option R):Option R:=bif decide (h4<h3) then bif decide (0≤h4)&&decide (h4<(↑h2.length:Int)) then next (co h1 (h2.getD h4.toNat (0,(false,[],()),(false,[],()),[],())).1) (h2) (h3) (i64.wrap (h4+1)) else none else out (.ret ((),((h1,()),())))
def q9 (n:Nat)(h1:Int)(h2:List aR.den)(h3 h4:Int):Option (ao dM.xs):=fH tt GZ dr td 0 Tryz.f77 (bI Tryz.f77 0) n (dM.st.mk' ((h1,(h2,(h3,(h4,())))),())) (bo dM.xs)
theorem JR (n:Nat)(h1:Int)(h2:List aR.den)(h3 h4:Int):q9 (n+1) h1 h2 h3 h4=su h1 h2 h3 h4 (q9 n) some:=by kernel_rfl
theorem CR (rs:List bq)(hl:rs.length≤maxLen):∀(k i:Nat) (t:Int),rs.length<i+k→i≤rs.length→q9 k t rs (rs.length:Int) i=some (.ret ((),((bu (rs.drop i) t,()),()))):=by
 intro k
 induction k with
 |zero=>intro i t h;omega
 |succ k ih=>
  intro i t h1 h2
  rw[JR]
  unfold su
  by_cases hi:i<rs.length
  ·refine bT (by simpa using hi) ?_
   refine bT (by simpa using hi) ?_
   have e:List.getD rs (i:Int).toNat (0,(false,[],()),(false,[],()),[],())=rs[i]:=by simp only[zG,aB hi]
   rw[e,bb hi hl,zE hi]
   exact ih (i+1) _ (by omega) (by omega)
  ·refine bF (by simp;omega) ?_
   rw[zI (by omega)]
   rfl
def wR (a0:List aR.den):Option kB.Res:=bif decide (0≤0)&&decide (0<(↑a0.length:Int)) then (lM (((a0.getD (Int.toNat 0) (0,(false,[],()),(false,[],()),[],())).1,(a0,((↑a0.length:Int),(0,())))),())).run fun y=>match y with | .ret ((),((x10,()),()))=>(oR ((x10,()),())) else none
theorem MT (a0:List aR.den):Io.run tt GZ dr td kB Tryz.f77 ((a0,()),())=wR a0:=by kernel_rfl
theorem Pl:HcOk prog 77 (ai kB D6):=by
 refine bQ (cs:=zy) HcsOk.nil (lp:=td) (fn:=Tryz.f77) kB (.step (h0:=aA dM lM) (by kernel_rfl) (fR (cs:=zy) HcsOk.nil (lp:=td) (fn:=Tryz.f77) (.done (by kernel_rfl)) dM lM ?_) (.done (by kernel_rfl))) D6 ?_
 ·rintro ⟨⟨(t:Int),(rs:List bq),(m:Int),(i:Int),⟨⟩⟩,⟨⟩⟩ y hw hy
  obtain ⟨hg,hy⟩:=Tr.guard hy
  simp only[zA,zB] at hg
  obtain ⟨h1,h2⟩:=hg
  have h1:i=0:=h1
  have h2:m=(rs.length:Int):=h2
  subst h1 h2
  refine ⟨rs.length+1,(CR rs hw.1.2.1.1 (rs.length+1) 0 t (by omega) (by omega)).trans ?_⟩
  rw[← hy];rfl
 ·rintro ⟨⟨(rs:List bq),⟨⟩⟩,⟨⟩⟩ out hw ho
  obtain ⟨hg,ho⟩:=Tr.guard ho
  have hg:1≤rs.length:=of_decide_eq_true hg
  cases ho
  refine (MT rs).trans ?_
  show _=oR ((ch rs,()),())
  unfold wR lM
  refine bT (by simp;omega) ?_
  refine bT (by simp) ?_
  cases rs with
  |nil=>simp at hg
  |cons r rs=>
   have e:bu (r::rs) r.1=bu rs r.1:=by
    show bu rs (co r.1 r.1)=_
    unfold co
    rw[if_neg (by omega)]
   exact congrArg (fun x=>oR ((x,()),())) e
abbrev gM:Io:=⟨[dL,dI],[],[],[dI,dI],none⟩
def tJ (d:gM.In):Tr gM.Res:=.ite (decide (d.1.1.length≤4294960000)) (.ret (.ret (((aj d.1.1 d.1.2.1).1,(aj d.1.1 d.1.2.1).2,()),()))) .no
abbrev Gb:List (Nat×Hc):=[(98,ai jo ze),(99,ai jn tP)]
def OG:Hd:=bB Gb
def Hq:Lp:=bP []
def wS (a0:LI)(a1:Int):Option gM.Res:=bif decide (a1<0) then oR ((0,3,()),()) else bif decide ((↑a0.length:Int)<a1) then oR ((0,3,()),()) else bif decide (i64.wrap ((↑a0.length:Int) - a1)<12) then oR ((0,1,()),()) else bif decide (0≤i64.wrap (a1+8))&&(decide (i64.wrap (a1+8)≤i64.wrap (a1+12))&&decide (i64.wrap (a1+12)≤(↑a0.length:Int))) then bif decide ((List.drop (i64.wrap (a1+8)).toNat (List.take (i64.wrap (a1+12)).toNat a0)).length≤4294967296) then bif cL (List.drop (i64.wrap (a1+8)).toNat (List.take (i64.wrap (a1+12)).toNat a0)) 0 then bif decide (i32.wrap (bK (List.drop (i64.wrap (a1+8)).toNat (List.take (i64.wrap (a1+12)).toNat a0)) 0 4).1<49) then oR ((0,5,()),()) else bif decide (35988<i32.wrap (bK (List.drop (i64.wrap (a1+8)).toNat (List.take (i64.wrap (a1+12)).toNat a0)) 0 4).1) then oR ((0,4,()),()) else bif decide (i64.wrap (i64.wrap ((↑a0.length:Int) - a1) - 12)<i64.wrap (i32.wrap (bK (List.drop (i64.wrap (a1+8)).toNat (List.take (i64.wrap (a1+12)).toNat a0)) 0 4).1)) then oR ((0,1,()),()) else oR ((i64.wrap (12+i64.wrap (i32.wrap (bK (List.drop (i64.wrap (a1+8)).toNat (List.take (i64.wrap (a1+12)).toNat a0)) 0 4).1)),0,()),()) else none else none else none
theorem MU (a0:LI)(a1:Int):Io.run tt OG dr Hq gM Tryz.f67 ((a0,a1,()),())=wS a0 a1:=by kernel_rfl
theorem AT:HcOk prog 67 (ai gM tJ):=by
 refine bQ (cs:=Gb) (.cons H5 (.cons H4 .nil)) (lp:=Hq) (fn:=Tryz.f67) gM (.done (by kernel_rfl)) tJ ?_
 rintro ⟨⟨(b:LI),(p:Int),⟨⟩⟩,⟨⟩⟩ out hw ho
 obtain ⟨hg,ho⟩:=Tr.guard ho
 have hg2:b.length≤4294960000:=of_decide_eq_true hg
 clear hg
 cases ho
 have hb:=dA hw.1.1
 refine (MU b p).trans ?_
 show _=oR (((aj b p).1,(aj b p).2,()),())
 unfold wS aj
 by_cases h1:p<0
 ·refine bT (decide_eq_true h1) ?_
  rw[if_pos (.inl h1)]
 refine bF (decide_eq_false h1) ?_
 by_cases h2:(b.length:Int)<p
 ·refine bT (decide_eq_true h2) ?_
  rw[if_pos (.inr h2)]
 refine bF (decide_eq_false h2) ?_
 rw[if_neg (by omega)]
 obtain ⟨p,rfl⟩:=au (show 0≤p by omega)
 rw[ae (n:=(b.length:Int) - p) (by omega) (by omega),ae (n:=(p:Int)+8) (by omega) (by omega),ae (n:=(p:Int)+12) (by omega) (by omega),ae (n:=(b.length:Int) - p - 12) (by omega) (by omega)]
 by_cases h3:(b.length:Int) - p<12
 ·refine bT (decide_eq_true h3) ?_
  rw[if_pos h3]
 refine bF (decide_eq_false h3) ?_
 rw[if_neg h3]
 refine bT (by simp only[zA,zB];omega) ?_
 have eL:List.drop ((p:Int)+8).toNat (List.take ((p:Int)+12).toNat b)=(b.drop (p+8)).take 4:=by
  rw[List.drop_take,show ((p:Int)+8).toNat=p+8 by omega,show ((p:Int)+12).toNat - (p+8)=4 by omega]
 rw[eL]
 have hL:=cE (b:=b) (p:=p+8) (n:=4) (by omega)
 have hLr:=dy hb (p+8) 4
 have eI:ar b (((p:Nat):Int).toNat+8) 4=cl ((b.drop (p+8)).take 4):=by rw[zG];rfl
 have eR:i32.wrap (bK ((b.drop (p+8)).take 4) 0 4).1=cl ((b.drop (p+8)).take 4):=by
  unfold bK
  rw[if_neg (by rw[hL];decide)]
  show i32.wrap (aS ((((b.drop (p+8)).take 4).drop 0).take 4))=_
  rw[List.drop_zero,List.take_of_length_le (by rw[hL];exact Nat.le_refl 4)]
  exact nm hLr hL
 have hbd:=NC hLr hL
 rw[eI,eR]
 refine bT (decide_eq_true (by rw[hL];omega)) ?_
 refine bT (by unfold cL;simp only[zA,zB,hL];omega) ?_
 generalize cl ((b.drop (p+8)).take 4)=n at *
 by_cases h4:n<49
 ·refine bT (decide_eq_true h4) ?_
  rw[if_pos h4]
 refine bF (decide_eq_false h4) ?_
 rw[if_neg h4]
 by_cases h5:35988<n
 ·refine bT (decide_eq_true h5) ?_
  rw[if_pos h5]
 refine bF (decide_eq_false h5) ?_
 rw[if_neg h5,ae (n:=n) (by omega) (by omega),ae (n:=12+n) (by omega) (by omega)]
 by_cases h6:(b.length:Int) - p - 12<n
 ·refine bT (decide_eq_true h6) ?_
  rw[if_pos h6]
 refine bF (decide_eq_false h6) ?_
 rw[if_neg h6,Int.add_comm]
def bx (g:pl)(i f:Int):bq×Int:=
 if g.2.1≠i then (tC,72)
 else if i=0∧g.1≠0∨aP (f+g.1)=false then (tC,86)
 else ((f+g.1,g.2.2.1,g.2.2.2.1,g.2.2.2.2.1,()),0)
abbrev f4:Io:=⟨[Cn,dI,cO],[],[],[SM,dI],none⟩
def tK (d:f4.In):Tr f4.Res:=.ret (.ret (((bx d.1.1 d.1.2.1 d.1.2.2.1).1,(bx d.1.1 d.1.2.1 d.1.2.2.1).2,()),()))
abbrev xI:List (Nat×Hc):=[]
def IT:Hd:=bB xI
def yk:Lp:=bP []
def rL (a0 a1:Int)(a2:Bool)(a3:LI)(a4:Bool)(a5:LI)(a6:List fZ.den)(a7 a8:Int):Option f4.Res:=bif i64.wrap a1 != a7 then oR (((0,(false,[],()),(false,[],()),[],()),72,()),()) else bif a7 == 0 then bif a0 != 0 then oR (((0,(false,[],()),(false,[],()),[],()),86,()),()) else bif !decide (i64.wrap (a8+a0)<a8) == decide (a0<0) then oR (((0,(false,[],()),(false,[],()),[],()),86,()),()) else oR (((i64.wrap (a8+a0),(a2,a3,()),(a4,a5,()),a6,()),0,()),()) else bif !decide (i64.wrap (a8+a0)<a8) == decide (a0<0) then oR (((0,(false,[],()),(false,[],()),[],()),86,()),()) else oR (((i64.wrap (a8+a0),(a2,a3,()),(a4,a5,()),a6,()),0,()),())
theorem E8 (a0 a1:Int)(a2:Bool)(a3:LI)(a4:Bool)(a5:LI)(a6:List fZ.den)(a7 a8:Int):Io.run tt IT dr yk f4 Tryz.f76 (((a0,a1,(a2,a3,()),(a4,a5,()),a6,()),a7,a8,()),())=rL a0 a1 a2 a3 a4 a5 a6 a7 a8:=by kernel_rfl
theorem Jc:HcOk prog 76 (ai f4 tK):=by
 refine bQ (cs:=xI) HcsOk.nil (lp:=yk) (fn:=Tryz.f76) f4 (.done (by kernel_rfl)) tK ?_
 rintro ⟨⟨⟨(a0:Int),(a1:Int),⟨(a2:Bool),(a3:LI),⟨⟩⟩,⟨(a4:Bool),(a5:LI),⟨⟩⟩,(a6:List ez),⟨⟩⟩,(i:Int),(f:Int),⟨⟩⟩,⟨⟩⟩ out hw ho
 cases ho
 refine (E8 a0 a1 a2 a3 a4 a5 a6 i f).trans ?_
 have h0:bC .i64 a0:=hw.1.1.1
 have h1:bC .i32 a1:=hw.1.1.2.1
 have hf:bC .i64 f:=hw.1.2.2.1
 have b1:=EQ h1
 show _=oR (((bx (a0,a1,(a2,a3,()),(a4,a5,()),a6,()) i f).1,(bx (a0,a1,(a2,a3,()),(a4,a5,()),a6,()) i f).2,()),())
 unfold rL bx
 simp only
 rw[ae (n:=a1) (by omega) (by omega),OC h0 hf]
 have hfit:aP (f+a0)=true→i64.wrap (f+a0)=f+a0:=fun h=>ae (fv.1 h).1 (fv.1 h).2
 by_cases c1:a1=i
 rotate_left
 ·refine bT (by simpa using c1) ?_
  rw[if_pos c1]
  rfl
 refine bF (by simpa using c1) ?_
 rw[if_neg (az c1)]
 by_cases c2:i=0
 ·refine bT (by simpa using c2) ?_
  by_cases c3:a0=0
  ·refine bF (by simpa using c3) ?_
   cases c4:aP (f+a0) with
   |false=>
    refine (aa rfl _ _).trans ?_
    rw[if_pos (.inr rfl)]
    rfl
   |true=>
    refine (af rfl _ _).trans ?_
    rw[if_neg (by rintro (h | h);exact h.2 c3;cases h),hfit c4]
  ·refine bT (by simpa using c3) ?_
   rw[if_pos (.inl ⟨c2,c3⟩)]
   rfl
 ·refine bF (by simpa using c2) ?_
  cases c4:aP (f+a0) with
  |false=>
   refine (aa rfl _ _).trans ?_
   rw[if_pos (.inr rfl)]
   rfl
  |true=>
   refine (af rfl _ _).trans ?_
   rw[if_neg (by rintro (h | h);exact c2 h.1;cases h),hfit c4]
abbrev iw:Io:=⟨[dL,dB],[],[],[dL,dI],none⟩
def yN (d:iw.In):Tr iw.Res:=.ite (decide (61≤d.1.1.length)&&decide (d.1.1.length≤4294960000)) (.ret (.ret (((aN d.1.1 d.1.2.1).1,(aN d.1.1 d.1.2.1).2,()),()))) .no
abbrev B3:List (Nat×Hc):=[(109,ai kG Ec)]
def Ly:Hd:=bB B3
def C4:Lp:=bP []
def ug (a0:LI)(a1:Bool):Option iw.Res:=bif decide (0≤61)&&(decide (61≤(↑a0.length:Int))&&decide ((↑a0.length:Int)≤(↑a0.length:Int))) then bif a1 then bif decide (32768=32768)&&decide ((List.drop (Int.toNat 61) (List.take (↑a0.length:Int).toNat a0)).length≤4294960000) then oR (((aY (List.drop (Int.toNat 61) (List.take (↑a0.length:Int).toNat a0))).1,(aY (List.drop (Int.toNat 61) (List.take (↑a0.length:Int).toNat a0))).2,()),()) else none else bif decide (32768<(↑(List.drop (Int.toNat 61) (List.take (↑a0.length:Int).toNat a0)).length:Int)) then oR (([],4,()),()) else oR ((List.drop (Int.toNat 61) (List.take (↑a0.length:Int).toNat a0),0,()),()) else none
theorem Jr (a0:LI)(a1:Bool):Io.run tt Ly dr C4 iw Tryz.f74 ((a0,a1,()),())=ug a0 a1:=by kernel_rfl
theorem Mn:HcOk prog 74 (ai iw yN):=by
 refine bQ (cs:=B3) (.cons Pu .nil) (lp:=C4) (fn:=Tryz.f74) iw (.done (by kernel_rfl)) yN ?_
 rintro ⟨⟨(b:LI),(packed:Bool),⟨⟩⟩,⟨⟩⟩ out hw ho
 obtain ⟨hg,ho⟩:=Tr.guard ho
 simp only[zA,zB] at hg
 have h1:61≤b.length:=hg.1
 have h2:b.length≤4294960000:=hg.2
 cases ho
 refine (Jr b packed).trans ?_
 show _=oR (((aN b packed).1,(aN b packed).2,()),())
 unfold ug aN
 rw[zG,List.take_length,show Int.toNat 61=61 from rfl]
 refine bT (by simp only[zA,zB];omega) ?_
 cases packed with
 |true=>
  refine (aa rfl _ _).trans ?_
  refine bT (by simp;omega) ?_
  rfl
 |false=>
  refine (af rfl _ _).trans ?_
  by_cases h3:32768<((b.drop 61).length:Int)
  ·refine bT (decide_eq_true h3) ?_
   rw[if_neg (by decide),if_pos h3]
  ·refine bF (decide_eq_false h3) ?_
   rw[if_neg (by decide),if_neg h3]
theorem HcOk.weakB {f:Nat}{io:Io}{Fn Fn':io.In→Tr io.Res}(h:HcOk prog f (ai io Fn))(hF:∀d y,io.wf d→(Fn' d).val=some y→(Fn d).val=some y):HcOk prog f (ai io Fn'):=by
 intro R args id A K r F G ts cst w vals hid hc Rl hv
 unfold ai at hc
 cases h1:sQ io.args args (List.replicate io.obs.length Option.none) with
 |none=>rw[h1] at hc;cases hc
 |some p=>
  obtain ⟨a,β1⟩:=p
  rw[h1] at hc
  simp only at hc
  cases h2:Km A.ob io.obs 0 β1 with
  |none=>rw[h2] at hc;cases hc
  |some q=>
   obtain ⟨o,β⟩:=q
   rw[h2] at hc
   simp only at hc
   have hn:=fun y=>hF (a,o) y ⟨AL h1 hv,E1 Rl.ob h2⟩
   refine h R args id A K r F G ts cst w vals hid ?_ Rl hv
   unfold ai
   rw[h1]
   simp only[h2]
   revert hc
   cases bj ((fS (cP 0) io.args args 0++lu A.ob β (l8 io.obs.length 0) io.obs 0).map (·.2))&&(bj ((fS (cP 0) io.args args 0++lu A.ob β (l8 io.obs.length 0) io.obs 0).map (·.1))&&io.ok) with
   |false=>intro hc;cases hc
   |true=>
    intro hc
    obtain ⟨out,ho,hk⟩:=Tr.run_val hc
    exact (Tr.run_of_val (hn out ho)).trans hk
@[irreducible] def aV (b:LI)(p:Int)(n:Nat):Int:=cl ((b.drop p.toNat).take n)
theorem kj (b:LI)(p n:Nat):aV b (p:Int) n=ar b p n:=by unfold aV ar;rw[zG]
def jc (b:LI)(p n:Int):Bool:=decide (b.length≤4294960000)&&(decide (0≤p)&&decide (p+n≤(b.length:Int)))
theorem mM {b:LI}{p n:Int}(h:jc b p n=true):b.length≤4294960000∧0≤p∧p+n≤(b.length:Int):=by
 simpa [jc] using h
abbrev Af:Io:=kP
def Qw (d:Af.In):Tr Af.Res:=
 .ite (jc d.2.1.1 d.2.1.2.1 8) (.ret (.ret ((aV d.2.1.1 d.2.1.2.1 8,(0,())),((d.2.1.1,(d.2.1.2.1+8,())),())))) .no
theorem Ra:HcOk prog 104 (ai Af Qw):=by
 refine HcOk.weakB PE ?_
 rintro ⟨⟨⟨⟩,⟨⟩⟩,⟨⟨(b:LI),(p:Int),⟨⟩⟩,⟨⟩⟩⟩ y hw hy
 obtain ⟨hg,hy⟩:=Tr.guard hy
 obtain ⟨h1,h2,h3⟩:=mM (b:=b) (p:=p) (n:=8) hg
 rw[← hy]
 obtain ⟨p,rfl⟩:=au h2
 have hb:=dA hw.2.1.1
 have hL:=cE (b:=b) (p:=p) (n:=8) (by omega)
 have hk:cL b p=true:=by unfold cL;simp only[zA,zB];omega
 have e:bK b (p:Int) 8=(aS ((b.drop p).take 8),((p:Int)+8,0)):=by unfold bK;rw[if_neg (by omega),zG];rfl
 have e2:i64.wrap (aS ((b.drop p).take 8))=aV b (p:Int) 8:=by rw[kj];exact Bd (dy hb p 8) hL
 show (zd (((),()),((b,((p:Int),())),()))).val=some (.ret ((aV b (p:Int) 8,(0,())),((b,((p:Int)+8,())),())))
 unfold zd
 rw[Tr.val_ite,if_pos hk,Tr.val_ret]
 show oR ((i64.wrap (bK b (p:Int) 8).1,((bK b (p:Int) 8).2.2,())),((b,((bK b (p:Int) 8).2.1,())),()))=_
 rw[e,← e2]
abbrev Ac:Io:=jn
def Qv (d:Ac.In):Tr Ac.Res:=
 .ite (jc d.2.1.1 d.2.1.2.1 4) (.ret (.ret ((aV d.2.1.1 d.2.1.2.1 4,(0,())),((d.2.1.1,(d.2.1.2.1+4,())),())))) .no
theorem Q9:HcOk prog 99 (ai Ac Qv):=by
 refine HcOk.weakB H4 ?_
 rintro ⟨⟨⟨⟩,⟨⟩⟩,⟨⟨(b:LI),(p:Int),⟨⟩⟩,⟨⟩⟩⟩ y hw hy
 obtain ⟨hg,hy⟩:=Tr.guard hy
 obtain ⟨h1,h2,h3⟩:=mM (b:=b) (p:=p) (n:=4) hg
 rw[← hy]
 obtain ⟨p,rfl⟩:=au h2
 have hb:=dA hw.2.1.1
 have hL:=cE (b:=b) (p:=p) (n:=4) (by omega)
 have hk:cL b p=true:=by unfold cL;simp only[zA,zB];omega
 have e:bK b (p:Int) 4=(aS ((b.drop p).take 4),((p:Int)+4,0)):=by unfold bK;rw[if_neg (by omega),zG];rfl
 have e2:i32.wrap (aS ((b.drop p).take 4))=aV b (p:Int) 4:=by rw[kj];exact nm (dy hb p 4) hL
 show (tP (((),()),((b,((p:Int),())),()))).val=some (.ret ((aV b (p:Int) 4,(0,())),((b,((p:Int)+4,())),())))
 unfold tP
 rw[Tr.val_ite,if_pos hk,Tr.val_ret]
 show oR ((i32.wrap (bK b (p:Int) 4).1,((bK b (p:Int) 4).2.2,())),((b,((bK b (p:Int) 4).2.1,())),()))=_
 rw[e,← e2]
abbrev Ab:Io:=kO
def Qu (d:Ab.In):Tr Ab.Res:=
 .ite (jc d.2.1.1 d.2.1.2.1 2) (.ret (.ret ((aV d.2.1.1 d.2.1.2.1 2,(0,())),((d.2.1.1,(d.2.1.2.1+2,())),())))) .no
theorem Q8:HcOk prog 107 (ai Ab Qu):=by
 refine HcOk.weakB PD ?_
 rintro ⟨⟨⟨⟩,⟨⟩⟩,⟨⟨(b:LI),(p:Int),⟨⟩⟩,⟨⟩⟩⟩ y hw hy
 obtain ⟨hg,hy⟩:=Tr.guard hy
 obtain ⟨h1,h2,h3⟩:=mM (b:=b) (p:=p) (n:=2) hg
 rw[← hy]
 obtain ⟨p,rfl⟩:=au h2
 have hb:=dA hw.2.1.1
 have hL:=cE (b:=b) (p:=p) (n:=2) (by omega)
 have hk:cL b p=true:=by unfold cL;simp only[zA,zB];omega
 have e:bK b (p:Int) 2=(aS ((b.drop p).take 2),((p:Int)+2,0)):=by unfold bK;rw[if_neg (by omega),zG];rfl
 have e2:i16.wrap (aS ((b.drop p).take 2))=aV b (p:Int) 2:=by rw[kj];exact tz (dy hb p 2) hL
 show (zc (((),()),((b,((p:Int),())),()))).val=some (.ret ((aV b (p:Int) 2,(0,())),((b,((p:Int)+2,())),())))
 unfold zc
 rw[Tr.val_ite,if_pos hk,Tr.val_ret]
 show oR ((i16.wrap (bK b (p:Int) 2).1,((bK b (p:Int) 2).2.2,())),((b,((bK b (p:Int) 2).2.1,())),()))=_
 rw[e,← e2]
abbrev Hl:Io:=oz
def RW (d:Hl.In):Tr Hl.Res:=
 .ite (jc d.2.1.1 d.2.1.2.1 1) (.ret (.ret ((aV d.2.1.1 d.2.1.2.1 1,(0,())),((d.2.1.1,(d.2.1.2.1+1,())),())))) .no
theorem Sl:HcOk prog 106 (ai Hl RW):=by
 refine HcOk.weakB Rk ?_
 rintro ⟨⟨⟨⟩,⟨⟩⟩,⟨⟨(b:LI),(p:Int),⟨⟩⟩,⟨⟩⟩⟩ y hw hy
 obtain ⟨hg,hy⟩:=Tr.guard hy
 obtain ⟨h1,h2,h3⟩:=mM (b:=b) (p:=p) (n:=1) hg
 rw[← hy]
 obtain ⟨p,rfl⟩:=au h2
 have hb:=dA hw.2.1.1
 have hL:=cE (b:=b) (p:=p) (n:=1) (by omega)
 have hk:cL b p=true:=by unfold cL;simp only[zA,zB];omega
 have e:bK b (p:Int) 1=(aS ((b.drop p).take 1),((p:Int)+1,0)):=by unfold bK;rw[if_neg (by omega),zG];rfl
 have e2:i8.wrap (aS ((b.drop p).take 1))=aV b (p:Int) 1:=by rw[kj];exact Ry (dy hb p 1) hL
 show (F1 (((),()),((b,((p:Int),())),()))).val=some (.ret ((aV b (p:Int) 1,(0,())),((b,((p:Int)+1,())),())))
 unfold F1
 rw[Tr.val_ite,if_pos hk,Tr.val_ret]
 show oR ((i8.wrap (bK b (p:Int) 1).1,((bK b (p:Int) 1).2.2,())),((b,((bK b (p:Int) 1).2.1,())),()))=_
 rw[e,← e2]
abbrev s9:Io:=iK
def Kp (d:s9.In):Tr s9.Res:=
 .ite (jc d.2.1.1 d.2.1.2.1 d.1.2.1&&decide (0≤d.1.2.1)) (.ret (.ret ((0,()),((d.2.1.1,(d.2.1.2.1+d.1.2.1,())),())))) .no
theorem Pq:HcOk prog 105 (ai s9 Kp):=by
 refine HcOk.weakB MG ?_
 rintro ⟨⟨⟨⟩,(n:Int),⟨⟩⟩,⟨⟨(b:LI),(p:Int),⟨⟩⟩,⟨⟩⟩⟩ y hw hy
 obtain ⟨hg,hy⟩:=Tr.guard hy
 simp only[zA,zB] at hg
 obtain ⟨h1,h2,h3⟩:=mM (b:=b) (p:=p) (n:=n) hg.1
 have h4:0≤n:=hg.2
 rw[← hy]
 have hk:cL b p=true:=by unfold cL;simp only[zA,zB];omega
 have e:oY b p n=(p+n,0):=by unfold oY;rw[if_neg (by omega),if_neg (by omega)]
 show (sW (((),(n,())),((b,(p,())),()))).val=some (.ret ((0,()),((b,(p+n,())),())))
 unfold sW
 rw[Tr.val_ite,if_pos hk,Tr.val_ret]
 show oR (((oY b p n).2,()),((b,((oY b p n).1,())),()))=_
 rw[e]
def Ey (a0:LI):Option (Out ((wJ×Int×Unit)×Unit) Empty):=bif bg (aV (a0.take 61) 0 8) then oR (((0,0,0,false,0,0,0,0,0,0,()),80,()),()) else bif aV (a0.take 61) (0+8+4+4+1+4) 2 != 0&&!aV (a0.take 61) (0+8+4+4+1+4) 2 == 1 then oR (((0,0,0,false,0,0,0,0,0,0,()),83,()),()) else bif aW (aV (a0.take 61) (0+8+4+4+1+4+2+4+8+8) 8) (aV (a0.take 61) (0+8+4+4+1+4+2+4+8+8+8) 2) (aV (a0.take 61) (0+8+4+4+1+4+2+4+8+8+8+2) 4) then oR (((0,0,0,false,0,0,0,0,0,0,()),84,()),()) else bif decide (aV (a0.take 61) (0+8+4+4+1+4+2+4+8+8+8+2+4) 4<1) then oR (((0,0,0,false,0,0,0,0,0,0,()),85,()),()) else bif decide (256<aV (a0.take 61) (0+8+4+4+1+4+2+4+8+8+8+2+4) 4) then oR (((0,0,0,false,0,0,0,0,0,0,()),9,()),()) else bif aV (a0.take 61) (0+8+4+4+1+4+2) 4 != i32.wrap (aV (a0.take 61) (0+8+4+4+1+4+2+4+8+8+8+2+4) 4 - 1) then oR (((0,0,0,false,0,0,0,0,0,0,()),72,()),()) else bif (aj a0 0).2 != 0 then oR (((0,0,0,false,0,0,0,0,0,0,()),(aj a0 0).2,()),()) else oR (((aV (a0.take 61) 0 8,(aj a0 0).1,aV (a0.take 61) (0+8+4) 4,aV (a0.take 61) (0+8+4+4+1+4) 2 == 1,i64.wrap (aV (a0.take 61) (0+8+4+4+1+4+2+4+8+8+8+2+4) 4),aV (a0.take 61) (0+8+4+4+1+4+2+4) 8,aV (a0.take 61) (0+8+4+4+1+4+2+4+8) 8,aV (a0.take 61) (0+8+4+4+1+4+2+4+8+8) 8,aV (a0.take 61) (0+8+4+4+1+4+2+4+8+8+8) 2,aV (a0.take 61) (0+8+4+4+1+4+2+4+8+8+8+2) 4,()),0,()),())
theorem N8 {b:LI}{p:Nat}(h:p<b.length):(b.drop p).take 1=[b.getD p 0]:=by
 rw[zE h,List.take_succ_cons,List.take_zero,aB h]
theorem QL {b:LI}{p:Nat}(h:p+1<b.length):(b.drop p).take 2=[b.getD p 0,b.getD (p+1) 0]:=by
 rw[zE (show p<b.length by omega),List.take_succ_cons,N8 h,aB (show p<b.length by omega)]
theorem Sp {b:LI}{p:Nat}(h:p<b.length):ar b p 1=if 128≤b.getD p 0 then b.getD p 0 - 256 else b.getD p 0:=by
 unfold ar;rw[N8 h];rfl
theorem Sq {b:LI}{p:Nat}(h:p+1<b.length):ar b p 2=(if 128≤b.getD p 0 then b.getD p 0 - 256 else b.getD p 0)*256+b.getD (p+1) 0:=by
 unfold ar;rw[QL h];rfl
theorem Qq:∀{l:LI},(∀c∈l,0≤c∧c≤255)→l.length=4→u32.wrap (cl l)=aS l
 |[a,b,c,d],h,_=>by
  have ha:=h a (by simp)
  have hb:=h b (by simp)
  have hc:=h c (by simp)
  have hd:=h d (by simp)
  simp only[aS,cl,List.foldl_cons,List.foldl_nil]
  simp[IntKind.wrap,IntKind.signed,IntKind.bits] <;> (try split) <;> omega
theorem F6:∀{l:LI},(∀c∈l,0≤c∧c≤255)→l.length=4→∀{x:Int},0≤x→x<4294967296→(l=aU x 4↔aS l=x)
 |[a,b,c,d],h,_,x,h0,h1=>by
  have ha:=h a (by simp)
  have hb:=h b (by simp)
  have hc:=h c (by simp)
  have hd:=h d (by simp)
  simp only[aS,aU,List.foldl_cons,List.foldl_nil,List.cons.injEq,and_true]
  constructor
  ·rintro ⟨rfl,rfl,rfl,rfl⟩
   omega
  ·intro h
   omega
theorem DJ (c:Int){b:LI}(hc:0≤c∧c<4294967296)(hb:∀x∈b,0≤x∧x≤255):0≤cC c b∧cC c b<4294967296:=by
 unfold cC
 have h1:=Nat.xor_lt_two_pow (n:=32) (show c.toNat<2 ^ 32 by omega) (show 4294967295<2 ^ 32 by decide)
 have h2:=Nat.xor_lt_two_pow (n:=32) (sZ hb h1) (show 4294967295<2 ^ 32 by decide)
 omega
theorem hY {b:LI}{p:Int}(h:(aj b p).2=0):61≤(aj b p).1∧(aj b p).1≤36000∧p+(aj b p).1≤(b.length:Int)∧0≤p:=by
 unfold aj at h ⊢
 split
 ·rename_i h1;rw[if_pos h1] at h;cases h
 rename_i h1;rw[if_neg h1] at h
 split
 ·rename_i h2;rw[if_pos h2] at h;cases h
 rename_i h2;rw[if_neg h2] at h
 split
 ·rename_i h3;rw[if_pos h3] at h;cases h
 rename_i h3;rw[if_neg h3] at h
 split
 ·rename_i h4;rw[if_pos h4] at h;cases h
 rename_i h4;rw[if_neg h4] at h
 split
 ·rename_i h5;rw[if_pos h5] at h;cases h
 simp only
 omega
theorem IF {b:LI}(hb:∀c∈b,0≤c∧c≤255)(hl:61≤b.length)(h0:(aj b 0).2=0)(h1:¬(aj b 0).1<(b.length:Int)):
  Ey b=some (.ret ((if bg (ar b 0 8)=true then (br,(80,())) else if b.getD 21 0≠0∨1<b.getD 22 0 then (br,(83,())) else if aW (ar b 43 8) (ar b 51 2) (ar b 53 4)=true then (br,(84,())) else if ar b 57 4<1 then (br,(85,())) else if 256<ar b 57 4 then (br,(9,())) else if ar b 23 4≠ar b 57 4 - 1 then (br,(72,())) else (iV b,(0,()))),())):=by
 have hz:∀p n:Nat,p+n≤61→aV (b.take 61) (p:Int) n=ar b p n:=by
  intro p n h
  rw[kj]
  unfold ar
  rw[List.drop_take,List.take_take,Nat.min_eq_left (by omega)]
 have z0:aV (b.take 61) 0 8=ar b 0 8:=hz 0 8 (by decide)
 have z12:aV (b.take 61) (0+8+4) 4=ar b 12 4:=hz 12 4 (by decide)
 have z21:aV (b.take 61) (0+8+4+4+1+4) 2=ar b 21 2:=hz 21 2 (by decide)
 have z23:aV (b.take 61) (0+8+4+4+1+4+2) 4=ar b 23 4:=hz 23 4 (by decide)
 have z27:aV (b.take 61) (0+8+4+4+1+4+2+4) 8=ar b 27 8:=hz 27 8 (by decide)
 have z35:aV (b.take 61) (0+8+4+4+1+4+2+4+8) 8=ar b 35 8:=hz 35 8 (by decide)
 have z43:aV (b.take 61) (0+8+4+4+1+4+2+4+8+8) 8=ar b 43 8:=hz 43 8 (by decide)
 have z51:aV (b.take 61) (0+8+4+4+1+4+2+4+8+8+8) 2=ar b 51 2:=hz 51 2 (by decide)
 have z53:aV (b.take 61) (0+8+4+4+1+4+2+4+8+8+8+2) 4=ar b 53 4:=hz 53 4 (by decide)
 have z57:aV (b.take 61) (0+8+4+4+1+4+2+4+8+8+8+2+4) 4=ar b 57 4:=hz 57 4 (by decide)
 have a21:=Sq (b:=b) (p:=21) (by omega)
 have hat:∀i,0≤b.getD i 0∧b.getD i 0≤255:=fun i=>by
  rw[List.getD_eq_getElem?_getD]
  cases e:b[i]? with
  |none=>exact ⟨by decide,by decide⟩
  |some x=>exact hb x (List.mem_of_getElem? e)
 have g21:=hat 21
 have g22:=hat 22
 have hm:=hY h0
 have hsz:(aj b 0).1=(b.length:Int):=by omega
 unfold Ey
 rw[z0,z12,z21,z23,z27,z35,z43,z51,z53,z57,h0,hsz]
 have hI:iV b=(ar b 0 8,(b.length:Int),ar b 12 4,decide (b.getD 22 0=1),ar b 57 4,ar b 27 8,ar b 35 8,ar b 43 8,ar b 51 2,ar b 53 4,()):=rfl
 rw[hI,a21]
 generalize b.getD 21 0=x at *
 generalize b.getD (21+1) 0=y at *
 generalize ar b 0 8=base at *
 generalize ar b 57 4=cnt at *
 generalize ar b 23 4=mst at *
 cases c1:bg base with
 |true=>exact (aa rfl _ _)
 |false=>
 refine (af rfl _ _).trans ?_
 rw[if_neg (show ¬ false=true by decide)]
 by_cases c2:x≠0∨1<y
 ·refine (aa ?_ _ _).trans ?_
  ·simp only[zA,Bool.not_eq_true',bne_iff_ne,beq_eq_false_iff_ne]
   split <;> omega
  ·rw[if_pos c2]
   rfl
 refine (af ?_ _ _).trans ?_
 ·by_cases hy:y=0
  ·rw[show (if 128≤x then x - 256 else x)*256+y=0 by rw[if_neg (by omega)];omega]
   rfl
  ·rw[show (if 128≤x then x - 256 else x)*256+y=1 by rw[if_neg (by omega)];omega]
   rfl
 rw[if_neg c2]
 have hx:x=0:=by omega
 have hxy:((if 128≤x then x - 256 else x)*256+y == 1)=decide (y=1):=by
  subst hx
  rw[if_neg (by decide),show (0:Int)*256+y=y by omega]
  by_cases h:y=1 <;> simp[h]
 rw[hxy]
 cases c3:aW (ar b 43 8) (ar b 51 2) (ar b 53 4) with
 |true=>exact (aa rfl _ _)
 |false=>
 refine (af rfl _ _).trans ?_
 rw[if_neg (show ¬ false=true by decide)]
 by_cases c4:cnt<1
 ·refine bT (decide_eq_true c4) ?_
  rw[if_pos c4]
  rfl
 refine bF (decide_eq_false c4) ?_
 rw[if_neg c4]
 by_cases c5:256<cnt
 ·refine bT (decide_eq_true c5) ?_
  rw[if_pos c5]
  rfl
 refine bF (decide_eq_false c5) ?_
 rw[if_neg c5,bN (k:=.i32) (n:=cnt - 1) (by simp[bC,IntKind.min,IntKind.max,IntKind.signed,IntKind.bits];omega),ae (n:=cnt) (by omega) (by omega)]
 by_cases c6:mst=cnt - 1
 ·refine bF (by simpa using c6) ?_
  rw[if_neg (az c6)]
  exact af rfl _ _
 ·refine bT (by simpa using c6) ?_
  rw[if_pos c6]
  rfl
abbrev je:Io:=⟨[dL,dB],[],[],[K9,dI],none⟩
def D5 (d:je.In):Tr je.Res:=.ite (decide (d.1.1.length≤4294960000)) (.ret (.ret (((ak d.1.1 d.1.2.1).1,(ak d.1.1 d.1.2.1).2,()),()))) .no
abbrev Ga:List (Nat×Hc):=[(67,ai gM tJ),(98,ai jo ze),(104,ai Af Qw),(105,ai s9 Kp),(99,ai Ac Qv),(106,ai Hl RW),(107,ai Ab Qu),(96,ai kD D9),(100,ai kz D4),(108,ai jf D7)]
def OF:Hd:=bB Ga
def Hp:Lp:=bP []
def wQ (a0:LI)(a1:Bool):Option je.Res:=bif decide ((↑a0.length:Int)<61) then oR (((0,0,0,false,0,0,0,0,0,0,()),1,()),()) else bif decide (a0.length≤4294960000) then bif (aj a0 0).2 != 0 then oR (((0,0,0,false,0,0,0,0,0,0,()),(aj a0 0).2,()),()) else bif decide ((aj a0 0).1<(↑a0.length:Int)) then oR (((0,0,0,false,0,0,0,0,0,0,()),2,()),()) else bif decide (0≤0)&&(decide (0≤61)&&decide (61≤(↑a0.length:Int))) then bif decide ((List.drop (Int.toNat 0) (List.take (Int.toNat 61) a0)).length≤4294967296) then bif jc (List.drop (Int.toNat 0) (List.take (Int.toNat 61) a0)) 0 8 then bif jc (List.drop (Int.toNat 0) (List.take (Int.toNat 61) a0)) (0+8) 4&&decide (0≤4) then bif jc (List.drop (Int.toNat 0) (List.take (Int.toNat 61) a0)) (0+8+4) 4 then bif jc (List.drop (Int.toNat 0) (List.take (Int.toNat 61) a0)) (0+8+4+4) 1 then bif jc (List.drop (Int.toNat 0) (List.take (Int.toNat 61) a0)) (0+8+4+4+1) 4 then bif jc (List.drop (Int.toNat 0) (List.take (Int.toNat 61) a0)) (0+8+4+4+1+4) 2 then bif jc (List.drop (Int.toNat 0) (List.take (Int.toNat 61) a0)) (0+8+4+4+1+4+2) 4 then bif jc (List.drop (Int.toNat 0) (List.take (Int.toNat 61) a0)) (0+8+4+4+1+4+2+4) 8 then bif jc (List.drop (Int.toNat 0) (List.take (Int.toNat 61) a0)) (0+8+4+4+1+4+2+4+8) 8 then bif jc (List.drop (Int.toNat 0) (List.take (Int.toNat 61) a0)) (0+8+4+4+1+4+2+4+8+8) 8 then bif jc (List.drop (Int.toNat 0) (List.take (Int.toNat 61) a0)) (0+8+4+4+1+4+2+4+8+8+8) 2 then bif jc (List.drop (Int.toNat 0) (List.take (Int.toNat 61) a0)) (0+8+4+4+1+4+2+4+8+8+8+2) 4 then bif jc (List.drop (Int.toNat 0) (List.take (Int.toNat 61) a0)) (0+8+4+4+1+4+2+4+8+8+8+2+4) 4 then bif aV (List.drop (Int.toNat 0) (List.take (Int.toNat 61) a0)) (0+8+4+4) 1 != 2 then oR (((0,0,0,false,0,0,0,0,0,0,()),81,()),()) else bif a1 then bif decide (0≤21)&&(decide (21≤(↑a0.length:Int))&&decide ((↑a0.length:Int)≤(↑a0.length:Int))) then bif u32.wrap (aV (List.drop (Int.toNat 0) (List.take (Int.toNat 61) a0)) (0+8+4+4+1) 4) != vU [List.drop (Int.toNat 21) (List.take (↑a0.length:Int).toNat a0)] 0 then oR (((0,0,0,false,0,0,0,0,0,0,()),82,()),()) else bif bg (aV (List.drop (Int.toNat 0) (List.take (Int.toNat 61) a0)) 0 8) then oR (((0,0,0,false,0,0,0,0,0,0,()),80,()),()) else bif aV (List.drop (Int.toNat 0) (List.take (Int.toNat 61) a0)) (0+8+4+4+1+4) 2 != 0&&!aV (List.drop (Int.toNat 0) (List.take (Int.toNat 61) a0)) (0+8+4+4+1+4) 2 == 1 then oR (((0,0,0,false,0,0,0,0,0,0,()),83,()),()) else bif aW (aV (List.drop (Int.toNat 0) (List.take (Int.toNat 61) a0)) (0+8+4+4+1+4+2+4+8+8) 8) (aV (List.drop (Int.toNat 0) (List.take (Int.toNat 61) a0)) (0+8+4+4+1+4+2+4+8+8+8) 2) (aV (List.drop (Int.toNat 0) (List.take (Int.toNat 61) a0)) (0+8+4+4+1+4+2+4+8+8+8+2) 4) then oR (((0,0,0,false,0,0,0,0,0,0,()),84,()),()) else bif decide (aV (List.drop (Int.toNat 0) (List.take (Int.toNat 61) a0)) (0+8+4+4+1+4+2+4+8+8+8+2+4) 4<1) then oR (((0,0,0,false,0,0,0,0,0,0,()),85,()),()) else bif decide (256<aV (List.drop (Int.toNat 0) (List.take (Int.toNat 61) a0)) (0+8+4+4+1+4+2+4+8+8+8+2+4) 4) then oR (((0,0,0,false,0,0,0,0,0,0,()),9,()),()) else bif aV (List.drop (Int.toNat 0) (List.take (Int.toNat 61) a0)) (0+8+4+4+1+4+2) 4 != i32.wrap (aV (List.drop (Int.toNat 0) (List.take (Int.toNat 61) a0)) (0+8+4+4+1+4+2+4+8+8+8+2+4) 4 - 1) then oR (((0,0,0,false,0,0,0,0,0,0,()),72,()),()) else bif (aj a0 0).2 != 0 then oR (((0,0,0,false,0,0,0,0,0,0,()),(aj a0 0).2,()),()) else oR (((aV (List.drop (Int.toNat 0) (List.take (Int.toNat 61) a0)) 0 8,(aj a0 0).1,aV (List.drop (Int.toNat 0) (List.take (Int.toNat 61) a0)) (0+8+4) 4,aV (List.drop (Int.toNat 0) (List.take (Int.toNat 61) a0)) (0+8+4+4+1+4) 2 == 1,i64.wrap (aV (List.drop (Int.toNat 0) (List.take (Int.toNat 61) a0)) (0+8+4+4+1+4+2+4+8+8+8+2+4) 4),aV (List.drop (Int.toNat 0) (List.take (Int.toNat 61) a0)) (0+8+4+4+1+4+2+4) 8,aV (List.drop (Int.toNat 0) (List.take (Int.toNat 61) a0)) (0+8+4+4+1+4+2+4+8) 8,aV (List.drop (Int.toNat 0) (List.take (Int.toNat 61) a0)) (0+8+4+4+1+4+2+4+8+8) 8,aV (List.drop (Int.toNat 0) (List.take (Int.toNat 61) a0)) (0+8+4+4+1+4+2+4+8+8+8) 2,aV (List.drop (Int.toNat 0) (List.take (Int.toNat 61) a0)) (0+8+4+4+1+4+2+4+8+8+8+2) 4,()),0,()),()) else none else bif bg (aV (List.drop (Int.toNat 0) (List.take (Int.toNat 61) a0)) 0 8) then oR (((0,0,0,false,0,0,0,0,0,0,()),80,()),()) else bif aV (List.drop (Int.toNat 0) (List.take (Int.toNat 61) a0)) (0+8+4+4+1+4) 2 != 0&&!aV (List.drop (Int.toNat 0) (List.take (Int.toNat 61) a0)) (0+8+4+4+1+4) 2 == 1 then oR (((0,0,0,false,0,0,0,0,0,0,()),83,()),()) else bif aW (aV (List.drop (Int.toNat 0) (List.take (Int.toNat 61) a0)) (0+8+4+4+1+4+2+4+8+8) 8) (aV (List.drop (Int.toNat 0) (List.take (Int.toNat 61) a0)) (0+8+4+4+1+4+2+4+8+8+8) 2) (aV (List.drop (Int.toNat 0) (List.take (Int.toNat 61) a0)) (0+8+4+4+1+4+2+4+8+8+8+2) 4) then oR (((0,0,0,false,0,0,0,0,0,0,()),84,()),()) else bif decide (aV (List.drop (Int.toNat 0) (List.take (Int.toNat 61) a0)) (0+8+4+4+1+4+2+4+8+8+8+2+4) 4<1) then oR (((0,0,0,false,0,0,0,0,0,0,()),85,()),()) else bif decide (256<aV (List.drop (Int.toNat 0) (List.take (Int.toNat 61) a0)) (0+8+4+4+1+4+2+4+8+8+8+2+4) 4) then oR (((0,0,0,false,0,0,0,0,0,0,()),9,()),()) else bif aV (List.drop (Int.toNat 0) (List.take (Int.toNat 61) a0)) (0+8+4+4+1+4+2) 4 != i32.wrap (aV (List.drop (Int.toNat 0) (List.take (Int.toNat 61) a0)) (0+8+4+4+1+4+2+4+8+8+8+2+4) 4 - 1) then oR (((0,0,0,false,0,0,0,0,0,0,()),72,()),()) else bif (aj a0 0).2 != 0 then oR (((0,0,0,false,0,0,0,0,0,0,()),(aj a0 0).2,()),()) else oR (((aV (List.drop (Int.toNat 0) (List.take (Int.toNat 61) a0)) 0 8,(aj a0 0).1,aV (List.drop (Int.toNat 0) (List.take (Int.toNat 61) a0)) (0+8+4) 4,aV (List.drop (Int.toNat 0) (List.take (Int.toNat 61) a0)) (0+8+4+4+1+4) 2 == 1,i64.wrap (aV (List.drop (Int.toNat 0) (List.take (Int.toNat 61) a0)) (0+8+4+4+1+4+2+4+8+8+8+2+4) 4),aV (List.drop (Int.toNat 0) (List.take (Int.toNat 61) a0)) (0+8+4+4+1+4+2+4) 8,aV (List.drop (Int.toNat 0) (List.take (Int.toNat 61) a0)) (0+8+4+4+1+4+2+4+8) 8,aV (List.drop (Int.toNat 0) (List.take (Int.toNat 61) a0)) (0+8+4+4+1+4+2+4+8+8) 8,aV (List.drop (Int.toNat 0) (List.take (Int.toNat 61) a0)) (0+8+4+4+1+4+2+4+8+8+8) 2,aV (List.drop (Int.toNat 0) (List.take (Int.toNat 61) a0)) (0+8+4+4+1+4+2+4+8+8+8+2) 4,()),0,()),()) else none else none else none else none else none else none else none else none else none else none else none else none else none else none else none else none
theorem MS (a0:LI)(a1:Bool):Io.run tt OF Tb Hp je Tryz.f73 ((a0,a1,()),())=wQ a0 a1:=by kernel_rfl
theorem Pk:HcOk prog 73 (ai je D5):=by
 refine IS (n:=400) hm (cs:=Ga) (.cons AT (.cons H5 (.cons Ra (.cons Pq (.cons Q9 (.cons Sl (.cons Q8 (.cons Po (.cons Pj (.cons Pm .nil)))))))))) (lp:=Hp) (fn:=Tryz.f73) (by kernel_rfl) (by kernel_rfl) (by kernel_rfl) je (.done (by kernel_rfl)) D5 ?_
 rintro ⟨⟨(b:LI),(sm:Bool),⟨⟩⟩,⟨⟩⟩ out hw ho
 obtain ⟨hg,ho⟩:=Tr.guard ho
 have hg2:b.length≤4294960000:=of_decide_eq_true hg
 clear hg
 cases ho
 have hb:∀c∈b,0≤c∧c≤255:=dA hw.1.1
 refine (MS b sm).trans ?_
 show _=oR (((ak b sm).1,(ak b sm).2,()),())
 have eE:bc b sm=if (b.length:Int)<61 then 1 else if (aj b 0).2≠0 then (aj b 0).2 else if (aj b 0).1<(b.length:Int) then 2 else if b.getD 16 0≠2 then 81 else if sm=true∧eU b=false then 82
   else if bg (ar b 0 8)=true then 80 else if b.getD 21 0≠0∨1<b.getD 22 0 then 83 else if aW (ar b 43 8) (ar b 51 2) (ar b 53 4)=true then 84 else if ar b 57 4<1 then 85 else if 256<ar b 57 4 then 9 else if ar b 23 4≠ar b 57 4 - 1 then 72 else 0:=rfl
 have fin:∀e:Int,e≠0→bc b sm=e→some (Out.ret ((br,(e,())),()):je.Res)=oR (((ak b sm).1,(ak b sm).2,()),()):=by
  intro e he h
  have:ak b sm=(br,e):=by unfold ak;rw[h,if_pos he]
  rw[this]
 unfold wQ
 by_cases h1:(b.length:Int)<61
 ·refine bT (decide_eq_true h1) ?_
  exact fin 1 (by decide) (by rw[eE,if_pos h1])
 refine bF (decide_eq_false h1) ?_
 rw[if_neg h1] at eE
 refine bT (decide_eq_true hg2) ?_
 by_cases h2:(aj b 0).2=0
 rotate_left
 ·refine bT (by simpa using h2) ?_
  exact fin _ h2 (by rw[eE,if_pos h2])
 refine bF (by simpa using h2) ?_
 rw[if_neg (az h2)] at eE
 by_cases h3:(aj b 0).1<(b.length:Int)
 ·refine bT (decide_eq_true h3) ?_
  exact fin 2 (by decide) (by rw[eE,if_pos h3])
 refine bF (decide_eq_false h3) ?_
 rw[if_neg h3] at eE
 have hH:(List.drop (Int.toNat 0) (List.take (Int.toNat 61) b))=b.take 61:=rfl
 have hHl:(b.take 61).length=61:=by simp;omega
 rw[hH]
 refine bT (by simp only[zA,zB];omega) ?_
 refine bT (by rw[hHl];decide) ?_
 have rm:∀p n:Int,0≤p→p+n≤61→jc (b.take 61) p n=true:=by
  intro p n g1 g2
  unfold jc
  simp only[hHl,zA,zB]
  omega
 refine (aa (rm 0 8 (by decide) (by decide)) _ _).trans ?_
 refine bT (by rw[rm (0+8) 4 (by decide) (by decide)];rfl) ?_
 refine (aa (rm (0+8+4) 4 (by decide) (by decide)) _ _).trans ?_
 refine (aa (rm (0+8+4+4) 1 (by decide) (by decide)) _ _).trans ?_
 refine (aa (rm (0+8+4+4+1) 4 (by decide) (by decide)) _ _).trans ?_
 refine (aa (rm (0+8+4+4+1+4) 2 (by decide) (by decide)) _ _).trans ?_
 refine (aa (rm (0+8+4+4+1+4+2) 4 (by decide) (by decide)) _ _).trans ?_
 refine (aa (rm (0+8+4+4+1+4+2+4) 8 (by decide) (by decide)) _ _).trans ?_
 refine (aa (rm (0+8+4+4+1+4+2+4+8) 8 (by decide) (by decide)) _ _).trans ?_
 refine (aa (rm (0+8+4+4+1+4+2+4+8+8) 8 (by decide) (by decide)) _ _).trans ?_
 refine (aa (rm (0+8+4+4+1+4+2+4+8+8+8) 2 (by decide) (by decide)) _ _).trans ?_
 refine (aa (rm (0+8+4+4+1+4+2+4+8+8+8+2) 4 (by decide) (by decide)) _ _).trans ?_
 refine (aa (rm (0+8+4+4+1+4+2+4+8+8+8+2+4) 4 (by decide) (by decide)) _ _).trans ?_
 have hz:∀p n:Nat,p+n≤61→aV (b.take 61) (p:Int) n=ar b p n:=by
  intro p n h
  rw[kj]
  unfold ar
  rw[List.drop_take,List.take_take,Nat.min_eq_left (by omega)]
 have z16:aV (b.take 61) (0+8+4+4) 1=ar b 16 1:=hz 16 1 (by decide)
 have z17:aV (b.take 61) (0+8+4+4+1) 4=ar b 17 4:=hz 17 4 (by decide)
 have a16:=Sp (b:=b) (p:=16) (by omega)
 have c16:=uD hw.1.1 16
 rw[z16,a16]
 by_cases h4:b.getD 16 0=2
 rotate_left
 ·refine bT (by simp only[bne_iff_ne];have c16:0≤b.getD 16 0∧b.getD 16 0≤255:=c16;split <;> omega) ?_
  exact fin 81 (by decide) (by rw[eE,if_pos h4])
 refine bF (by rw[h4];rfl) ?_
 rw[if_neg (az h4)] at eE
 have hT:=IF hb (by omega) h2 h3
 have fin2:¬(sm=true∧eU b=false)→Ey b=oR (((ak b sm).1,(ak b sm).2,()),()):=by
  intro hn
  rw[if_neg hn] at eE
  rw[hT]
  have hs:ak b sm=if bc b sm≠0 then (br,bc b sm) else (iV b,0):=rfl
  rw[hs,eE]
  by_cases d1:bg (ar b 0 8)=true
  ·rw[if_pos d1,if_pos d1,if_pos (by decide)]
  rw[if_neg d1,if_neg d1]
  by_cases d2:b.getD 21 0≠0∨1<b.getD 22 0
  ·rw[if_pos d2,if_pos d2,if_pos (by decide)]
  rw[if_neg d2,if_neg d2]
  by_cases d3:aW (ar b 43 8) (ar b 51 2) (ar b 53 4)=true
  ·rw[if_pos d3,if_pos d3,if_pos (by decide)]
  rw[if_neg d3,if_neg d3]
  by_cases d4:ar b 57 4<1
  ·rw[if_pos d4,if_pos d4,if_pos (by decide)]
  rw[if_neg d4,if_neg d4]
  by_cases d5:256<ar b 57 4
  ·rw[if_pos d5,if_pos d5,if_pos (by decide)]
  rw[if_neg d5,if_neg d5]
  by_cases d6:ar b 23 4≠ar b 57 4 - 1
  ·rw[if_pos d6,if_pos d6,if_pos (by decide)]
  rw[if_neg d6,if_neg d6,if_neg (by decide)]
 cases sm with
 |false=>
  refine (af rfl _ _).trans ?_
  exact fin2 (fun h=>by cases h.1)
 |true=>
  refine (aa rfl _ _).trans ?_
  rw[zG,List.take_length,show Int.toNat 21=21 from rfl]
  refine bT (by simp only[zA,zB];omega) ?_
  rw[z17]
  have hL:=cE (b:=b) (p:=17) (n:=4) (by omega)
  have hLr:=dy hb 17 4
  have hcr:=DJ 0 (by decide) (b:=b.drop 21) (fun c hc=>hb c (List.mem_of_mem_drop hc))
  have hS:eU b=decide (aS ((b.drop 17).take 4)=cC 0 (b.drop 21)):=by
   unfold eU
   by_cases h:(b.drop 17).take 4=aU (cC 0 (b.drop 21)) 4
   ·rw[if_pos h,decide_eq_true ((F6 hLr hL hcr.1 hcr.2).1 h)]
   ·rw[if_neg h,decide_eq_false (fun h'=>h ((F6 hLr hL hcr.1 hcr.2).2 h'))]
  have hw17:u32.wrap (ar b 17 4)=aS ((b.drop 17).take 4):=Qq hLr hL
  rw[hw17]
  by_cases h5:aS ((b.drop 17).take 4)=cC 0 (b.drop 21)
  ·refine bF (by show (aS ((b.drop 17).take 4) != cC 0 (b.drop 21))=false;simp[h5]) ?_
   exact fin2 (fun h=>by rw[hS,decide_eq_true h5] at h;cases h.2)
  ·refine bT (by show (aS ((b.drop 17).take 4) != cC 0 (b.drop 21))=true;simp[h5]) ?_
   exact fin 82 (by decide) (by rw[eE,if_pos ⟨rfl,by rw[hS,decide_eq_false h5]⟩])
abbrev kA:Io:=⟨[dL],[],[],[Cm,dI],none⟩
def FW (d:kA.In):Tr kA.Res:=.ite (decide (d.1.1.length≤4294960000)) (.ret (.ret (((ap d.1.1).1,(ap d.1.1).2,()),()))) .no
abbrev KT:List (Nat×Hc):=[(73,ai je D5),(74,ai iw yN),(75,ai ol Kq),(76,ai f4 tK),(77,ai kB D6)]
def Lz:Hd:=bB KT
abbrev dv:Lo:=⟨⟨(bi (.one (.ptr 2 0)::.any::.one (.ptr 4 0)::.any::.one (.hol (.sl 5 (Ty.int u8)))::.one (.ptr 7 0)::.one hI::.any::ah (ah (bv (.one hI::.one hI::ah (ah (cN (bv (bi []))))))))),[none,none,some [hI,hJ,hI,hK,hJ,.onl 91 aR 1036],none,some [hI,hI,hJ,hL,hI,hI,hI,hI,hK,hJ],none,none,some [hI,hJ,hI,hK,hJ,.onl 91 aR 3596]]⟩,[(.ret,⟨(bi (.one (.ptr 2 0)::.one hI::ah (ah (ah (ah (ah (cN (bi [])))))))),[none,none,some [hI,hJ,hI,hK,hJ,.onl 91 aR 129]]⟩),(.ret,⟨(bi (.one (.ptr 2 0)::.one hI::ah (ah (ah (ah (ah (cN (bi [])))))))),[none,none,some [hI,hJ,hI,hK,hJ,.onl 91 aR 153]]⟩),(.exit 0,⟨(bi (.one (.ptr 2 0)::.any::.one (.ptr 4 0)::.any::.one (.hol (.sl 5 (Ty.int u8)))::.one (.ptr 7 0)::.one hI::.any::ah (ah (ah (ah (ah (bv []))))))),[none,none,some [hI,hJ,hI,hK,hJ,.onl 91 aR 1036],none,some [hI,hI,hJ,hL,hI,hI,hI,hI,hK,hJ],none,none,some [hI,hJ,hI,hK,hJ,.onl 91 aR 3596]]⟩)]⟩
def RN:cM:=(0,(0,(0,(0,(0,([],()))))))
def lA (blk:LI)(f:Int):Nat→Nat→Int→List bq→Int×Int×Int×List bq
 |0,_,p,out=>(0,0,p,out)
 |n+1,i,p,out=>
  if (an blk p).2.2≠0 then ((an blk p).2.2,0,0,[])
  else if (bx (an blk p).1 (i:Int) f).2≠0 then (0,(bx (an blk p).1 (i:Int) f).2,0,[])
  else lA blk f n (i+1) (an blk p).2.1 (out++[(bx (an blk p).1 (i:Int) f).1])
def F5 (blk:LI)(z:cM)(info:wJ)(b1 b2 b3 b4 b5:Int)(x:Int×Int×Int×List bq):Tr (ao dv.xs):=
 .ite (decide (x.1≠0)) (.ret (.ret ((),((x.1,()),(RN,())))))
  (.ite (decide (x.2.1≠0)) (.ret (.pan (.ret ((),((x.2.1,()),(RN,()))))))
   (.ret (.pan (.pan (.ret ((),((blk,(x.2.2.1,())),(z,(info,((b1,(b2,(b3,(b4,(b5,(x.2.2.2,())))))),()))))))))))
def tI (d:dv.st.den):Tr (ao dv.xs):=
 .ite (decide (d.1.2.2.2.1=0)&&(decide (d.2.2.2.1.2.2.2.2.2.1.length=0)&&(decide ((0:Int)≤d.1.2.2.1)&&decide (d.1.2.2.1≤(4294960000:Int)))))
  (F5 d.1.1 d.2.1 d.2.2.1 d.2.2.2.1.1 d.2.2.2.1.2.1 d.2.2.2.1.2.2.1 d.2.2.2.1.2.2.2.1 d.2.2.2.1.2.2.2.2.1 (lA d.1.1 d.2.2.1.2.2.2.2.2.1 d.1.2.2.1.toNat 0 d.1.2.1 [])) .no
def AD:Lp:=bP [(11,aA dv tI)]
def mO {R:Type}(h1:LI)(h2 h3 h4 h5 h6 h7 h8 h9:Int)(h10:List aR.den)(h11 h12 h13:Int)(h14:Bool)(h15 h16 h17 h18 h19 h20 h21 h22 h23 h24 h25:Int)(h26:List aR.den)(next:LI→Int→Int→Int→Int→Int→Int→Int→Int→List aR.den→Int→Int→Int→Bool→Int→Int→Int→Int→Int→Int→Int→Int→Int→Int→Int→List aR.den→Option R)(out:ao dv.xs→Option R):Option R:=bif decide (h4<h3) then bif (an h1 h2).2.2 != 0 then out (.ret ((),(((an h1 h2).2.2,()),((0,(0,(0,(0,(0,([],())))))),())))) else bif (bx (an h1 h2).1 h4 h16).2 != 0 then out (.pan (.ret ((),(((bx (an h1 h2).1 h4 h16).2,()),((0,(0,(0,(0,(0,([],())))))),()))))) else bif decide (h26.length+1≤4294967296) then next (h1) ((an h1 h2).2.1) (h3) (i64.wrap (h4+1)) (h5) (h6) (h7) (h8) (h9) (h10) (h11) (h12) (h13) (h14) (h15) (h16) (h17) (h18) (h19) (h20) (h21) (h22) (h23) (h24) (h25) (h26++[(bx (an h1 h2).1 h4 h16).1]) else none else out (.pan (.pan (.ret ((),((h1,(h2,())),((h5,(h6,(h7,(h8,(h9,(h10,())))))),((h11,(h12,(h13,(h14,(h15,(h16,(h17,(h18,(h19,(h20,())))))))))),((h21,(h22,(h23,(h24,(h25,(h26,())))))),()))))))))
def q8 (n:Nat)(h1:LI)(h2 h3 h4 h5 h6 h7 h8 h9:Int)(h10:List aR.den)(h11 h12 h13:Int)(h14:Bool)(h15 h16 h17 h18 h19 h20 h21 h22 h23 h24 h25:Int)(h26:List aR.den):Option (ao dv.xs):=fH tt Lz dr AD 0 Tryz.f56 (bI Tryz.f56 0) n (dv.st.mk' ((h1,(h2,(h3,(h4,())))),((h5,(h6,(h7,(h8,(h9,(h10,())))))),((h11,(h12,(h13,(h14,(h15,(h16,(h17,(h18,(h19,(h20,())))))))))),((h21,(h22,(h23,(h24,(h25,(h26,())))))),()))))) (bo dv.xs)
theorem yz (n:Nat)(h1:LI)(h2 h3 h4 h5 h6 h7 h8 h9:Int)(h10:List aR.den)(h11 h12 h13:Int)(h14:Bool)(h15 h16 h17 h18 h19 h20 h21 h22 h23 h24 h25:Int)(h26:List aR.den):q8 (n+1) h1 h2 h3 h4 h5 h6 h7 h8 h9 h10 h11 h12 h13 h14 h15 h16 h17 h18 h19 h20 h21 h22 h23 h24 h25 h26=mO h1 h2 h3 h4 h5 h6 h7 h8 h9 h10 h11 h12 h13 h14 h15 h16 h17 h18 h19 h20 h21 h22 h23 h24 h25 h26 (q8 n) some:=by kernel_rfl
theorem CQ (blk:LI)(z1 z2 z3 z4 z5:Int)(z6:List bq)(i1 i2 i3:Int)(i4:Bool)(i5 i6 i7 i8 i9 i10 b1 b2 b3 b4 b5:Int):∀(n k i:Nat) (p:Int) (out:List bq),n<k→out.length=i→i+n≤4294960000→
  q8 k blk p ((i+n:Nat):Int) i z1 z2 z3 z4 z5 z6 i1 i2 i3 i4 i5 i6 i7 i8 i9 i10 b1 b2 b3 b4 b5 out=(F5 blk (z1,z2,z3,z4,z5,z6,()) (i1,i2,i3,i4,i5,i6,i7,i8,i9,i10,()) b1 b2 b3 b4 b5 (lA blk i6 n i p out)).val:=by
 intro n
 induction n with
 |zero=>
  intro k i p out h1 h2 h3
  obtain ⟨k,rfl⟩:∃j,k=j+1:=⟨k - 1,by omega⟩
  rw[yz]
  unfold mO
  refine bF (by simp) ?_
  rfl
 |succ n ih=>
  intro k i p out h1 h2 h3
  obtain ⟨k,rfl⟩:∃j,k=j+1:=⟨k - 1,by omega⟩
  rw[yz]
  unfold mO
  refine bT (decide_eq_true (by omega)) ?_
  have e:lA blk i6 (n+1) i p out=if (an blk p).2.2≠0 then ((an blk p).2.2,0,0,[]) else if (bx (an blk p).1 (i:Int) i6).2≠0 then (0,(bx (an blk p).1 (i:Int) i6).2,0,[]) else lA blk i6 n (i+1) (an blk p).2.1 (out++[(bx (an blk p).1 (i:Int) i6).1]):=rfl
  rw[e]
  by_cases c1:(an blk p).2.2=0
  ·refine bF (by simpa using c1) ?_
   rw[if_neg (az c1)]
   by_cases c2:(bx (an blk p).1 (i:Int) i6).2=0
   ·refine bF (by simpa using c2) ?_
    rw[if_neg (az c2)]
    refine bT (decide_eq_true (by omega)) ?_
    rw[ae (n:=(i:Int)+1) (by omega) (by omega)]
    have:=ih k (i+1) (an blk p).2.1 (out++[(bx (an blk p).1 (i:Int) i6).1]) (by omega) (by simp;omega) (by omega)
    rw[show i+1+n=i+(n+1) by omega] at this
    exact this
   ·refine bT (by simpa using c2) ?_
    rw[if_pos c2]
    unfold F5
    rw[Tr.val_ite,Tr.val_ite,if_neg (by simp),if_pos (decide_eq_true c2)]
    rfl
  ·refine bT (by simpa using c1) ?_
   rw[if_pos c1]
   unfold F5
   rw[Tr.val_ite,if_pos (decide_eq_true c1)]
   rfl
theorem sk (blk:LI)(f:Int):∀(n i:Nat) (p:Int) (out:List bq),(aD blk f n i p out).2.2=0→(aD blk f n i p out).1.length=out.length+n
 |0,_,_,_,_=>rfl
 |n+1,i,p,out,h=>by
  unfold aD at h ⊢
  split
  ·rename_i c;rw[if_pos c] at h;exact absurd h c
  rename_i c;rw[if_neg c] at h
  split
  ·rename_i c2;rw[if_pos c2] at h;cases h
  rename_i c2;rw[if_neg c2] at h
  split
  ·rename_i c3;rw[if_pos c3] at h;cases h
  rename_i c3;rw[if_neg c3] at h
  rw[sk blk f n (i+1) _ _ h]
  simp;omega
theorem Ir (blk:LI)(f:Int):∀(n i:Nat) (p:Int) (out:List bq),
  ((aD blk f n i p out).2.2=0→(lA blk f n i p out)=(0,0,(aD blk f n i p out).2.1,(aD blk f n i p out).1))∧
  ((aD blk f n i p out).2.2≠0→(lA blk f n i p out).1=(aD blk f n i p out).2.2∨(lA blk f n i p out).1=0∧(lA blk f n i p out).2.1=(aD blk f n i p out).2.2)
 |0,i,p,out=>⟨fun _=>rfl,fun h=>absurd rfl h⟩
 |n+1,i,p,out=>by
  have e:aD blk f (n+1) i p out=if (an blk p).2.2≠0 then ([],0,(an blk p).2.2) else if (an blk p).1.2.1≠(i:Int) then ([],0,72) else if i=0∧(an blk p).1.1≠0∨aP (f+(an blk p).1.1)=false then ([],0,86)
    else aD blk f n (i+1) (an blk p).2.1 (out++[(f+(an blk p).1.1,(an blk p).1.2.2.1,(an blk p).1.2.2.2.1,(an blk p).1.2.2.2.2.1,())]):=rfl
  have e2:lA blk f (n+1) i p out=if (an blk p).2.2≠0 then ((an blk p).2.2,0,0,[]) else if (bx (an blk p).1 (i:Int) f).2≠0 then (0,(bx (an blk p).1 (i:Int) f).2,0,[]) else lA blk f n (i+1) (an blk p).2.1 (out++[(bx (an blk p).1 (i:Int) f).1]):=rfl
  have eO:bx (an blk p).1 (i:Int) f=if (an blk p).1.2.1≠(i:Int) then (tC,72) else if (i:Int)=0∧(an blk p).1.1≠0∨aP (f+(an blk p).1.1)=false then (tC,86)
    else ((f+(an blk p).1.1,(an blk p).1.2.2.1,(an blk p).1.2.2.2.1,(an blk p).1.2.2.2.2.1,()),0):=rfl
  rw[e,e2]
  by_cases c1:(an blk p).2.2=0
  rotate_left
  ·rw[if_pos c1,if_pos c1]
   exact ⟨fun h=>absurd h c1,fun _=>.inl rfl⟩
  rw[if_neg (az c1),if_neg (az c1)]
  by_cases c2:(an blk p).1.2.1=(i:Int)
  rotate_left
  ·rw[if_pos c2,eO,if_pos c2,if_pos (by decide)]
   exact ⟨(fun h=>by cases h),fun _=>.inr ⟨rfl,rfl⟩⟩
  rw[if_neg (az c2)]
  by_cases c3:i=0∧(an blk p).1.1≠0∨aP (f+(an blk p).1.1)=false
  ·have c3':(i:Int)=0∧(an blk p).1.1≠0∨aP (f+(an blk p).1.1)=false:=by
    rcases c3 with h | h
    ·exact .inl ⟨by omega,h.2⟩
    ·exact .inr h
   rw[if_pos c3,eO,if_neg (az c2),if_pos c3',if_pos (by decide)]
   exact ⟨(fun h=>by cases h),fun _=>.inr ⟨rfl,rfl⟩⟩
  ·have c3':¬((i:Int)=0∧(an blk p).1.1≠0∨aP (f+(an blk p).1.1)=false):=by
    rintro (h | h)
    ·exact c3 (.inl ⟨by omega,h.2⟩)
    ·exact c3 (.inr h)
   rw[if_neg c3,eO,if_neg (az c2),if_neg c3',if_neg (az rfl)]
   exact Ir blk f n (i+1) _ _
theorem gV {b:LI}{sm:Bool}(h:bc b sm=0):61≤b.length∧(aj b 0).2=0∧(aj b 0).1=(b.length:Int)∧b.getD 16 0=2∧¬(sm=true∧eU b=false)∧bg (ar b 0 8)=false∧b.getD 21 0=0∧b.getD 22 0≤1∧aW (ar b 43 8) (ar b 51 2) (ar b 53 4)=false∧1≤ar b 57 4∧ar b 57 4≤256∧ar b 23 4=ar b 57 4 - 1:=by
 unfold bc at h
 split at h
 ·cases h
 split at h
 ·rename_i c;exact absurd h c
 rename_i h1 h2
 split at h
 ·cases h
 rename_i h3
 split at h
 ·cases h
 rename_i h4
 split at h
 ·cases h
 rename_i h5
 split at h
 ·cases h
 rename_i h6
 split at h
 ·cases h
 rename_i h7
 split at h
 ·cases h
 rename_i h8
 split at h
 ·cases h
 rename_i h9
 split at h
 ·cases h
 rename_i h10
 split at h
 ·cases h
 rename_i h11
 have h2:(aj b 0).2=0:=Classical.byContradiction h2
 have hm:=hY h2
 refine ⟨by omega,h2,by omega,Classical.byContradiction h4,h5,by simpa using h6,?_,by omega,by simpa using h8,by omega,by omega,Classical.byContradiction h11⟩
 exact Classical.byContradiction fun h=>h7 (.inl h)
def BF (a0:LI):Option kA.Res:=bif decide (a0.length≤4294960000) then bif (ak a0 true).2 != 0 then oR (((0,0,0,0,0,[],()),(ak a0 true).2,()),()) else bif decide (61≤a0.length)&&decide (a0.length≤4294960000) then bif (aN a0 (ak a0 true).1.2.2.2.1).2 != 0 then oR (((0,0,0,0,0,[],()),(aN a0 (ak a0 true).1.2.2.2.1).2,()),()) else (bif decide ((0:Int)=0)&&(decide (([]:List bq).length=0)&&(decide ((0:Int)≤(ak a0 true).1.2.2.2.2.1)&&decide ((ak a0 true).1.2.2.2.2.1≤(4294960000:Int)))) then (bif decide ((lA (aN a0 (ak a0 true).1.2.2.2.1).1 (ak a0 true).1.2.2.2.2.2.1 ((ak a0 true).1.2.2.2.2.1).toNat 0 0 []).1≠0) then oR (((0,0,0,0,0,[],()),(lA (aN a0 (ak a0 true).1.2.2.2.1).1 (ak a0 true).1.2.2.2.2.2.1 ((ak a0 true).1.2.2.2.2.1).toNat 0 0 []).1,()),()) else bif decide ((lA (aN a0 (ak a0 true).1.2.2.2.1).1 (ak a0 true).1.2.2.2.2.2.1 ((ak a0 true).1.2.2.2.2.1).toNat 0 0 []).2.1≠0) then oR (((0,0,0,0,0,[],()),(lA (aN a0 (ak a0 true).1.2.2.2.1).1 (ak a0 true).1.2.2.2.2.2.1 ((ak a0 true).1.2.2.2.2.1).toNat 0 0 []).2.1,()),()) else bif decide ((lA (aN a0 (ak a0 true).1.2.2.2.1).1 (ak a0 true).1.2.2.2.2.2.1 ((ak a0 true).1.2.2.2.2.1).toNat 0 0 []).2.2.1<(↑(aN a0 (ak a0 true).1.2.2.2.1).1.length:Int)) then oR (((0,0,0,0,0,[],()),2,()),()) else bif decide (1≤(lA (aN a0 (ak a0 true).1.2.2.2.1).1 (ak a0 true).1.2.2.2.2.2.1 ((ak a0 true).1.2.2.2.2.1).toNat 0 0 []).2.2.2.length) then bif ch (lA (aN a0 (ak a0 true).1.2.2.2.1).1 (ak a0 true).1.2.2.2.2.2.1 ((ak a0 true).1.2.2.2.2.1).toNat 0 0 []).2.2.2 != (ak a0 true).1.2.2.2.2.2.2.1 then oR (((0,0,0,0,0,[],()),86,()),()) else oR ((((ak a0 true).1.1,(ak a0 true).1.2.2.1,(ak a0 true).1.2.2.2.2.2.2.2.1,(ak a0 true).1.2.2.2.2.2.2.2.2.1,(ak a0 true).1.2.2.2.2.2.2.2.2.2.1,(lA (aN a0 (ak a0 true).1.2.2.2.1).1 (ak a0 true).1.2.2.2.2.2.1 ((ak a0 true).1.2.2.2.2.1).toNat 0 0 []).2.2.2,()),0,()),()) else none) else none) else none else none
theorem PT (a0:LI):Io.run tt Lz dr AD kA Tryz.f56 ((a0,()),())=BF a0:=by kernel_rfl
theorem Cx:HcsOk prog KT:=.cons Pk (.cons Mn (.cons Rb (.cons Jc (.cons Pl .nil))))
theorem Mo:HcOk prog 56 (ai kA FW):=by
 refine bQ Cx (lp:=AD) (fn:=Tryz.f56) kA (.step (h0:=aA dv tI) (by kernel_rfl) (fR Cx (lp:=AD) (fn:=Tryz.f56) (.done (by kernel_rfl)) dv tI ?_) (.done (by kernel_rfl))) FW ?_
 ·rintro ⟨⟨(blk:LI),(p:Int),(n:Int),(i:Int),⟨⟩⟩,⟨⟨(z1:Int),(z2:Int),(z3:Int),(z4:Int),(z5:Int),(z6:List bq),⟨⟩⟩,⟨(i1:Int),(i2:Int),(i3:Int),(i4:Bool),(i5:Int),(i6:Int),(i7:Int),(i8:Int),(i9:Int),(i10:Int),⟨⟩⟩,⟨(b1:Int),(b2:Int),(b3:Int),(b4:Int),(b5:Int),(out:List bq),⟨⟩⟩,⟨⟩⟩⟩ y hw hy
  obtain ⟨hg,hy⟩:=Tr.guard hy
  simp only[zA,zB] at hg
  obtain ⟨h1,h2,h3,h4⟩:=hg
  have h1:i=0:=h1
  have h2:out=[]:=List.length_eq_zero_iff.1 h2
  have h3:0≤n:=h3
  have h4:n≤(4294960000:Int):=h4
  subst h1 h2
  obtain ⟨n,rfl⟩:=au h3
  have:=CQ blk z1 z2 z3 z4 z5 z6 i1 i2 i3 i4 i5 i6 i7 i8 i9 i10 b1 b2 b3 b4 b5 n (n+1) 0 p [] (by omega) rfl (by omega)
  rw[Nat.zero_add] at this
  exact ⟨n+1,this.trans hy⟩
 ·rintro ⟨⟨(b:LI),⟨⟩⟩,⟨⟩⟩ out hw ho
  obtain ⟨hg,ho⟩:=Tr.guard ho
  have hg2:b.length≤4294960000:=of_decide_eq_true hg
  clear hg
  cases ho
  refine (PT b).trans ?_
  show _=oR (((ap b).1,(ap b).2,()),())
  have eE:fa b=if bc b true≠0 then ([],bc b true) else if (aN b (decide (b.getD 22 0=1))).2≠0 then ([],(aN b (decide (b.getD 22 0=1))).2) else cK (aN b (decide (b.getD 22 0=1))).1 (ar b 27 8) (ar b 35 8) (ar b 57 4).toNat:=rfl
  have fin:∀e:Int,e≠0→(fa b).2=e→some (Out.ret ((RN,(e,())),()):kA.Res)=oR (((ap b).1,(ap b).2,()),()):=by
   intro e he h
   have:ap b=(tB,e):=by unfold ap;rw[h,if_pos he]
   rw[this]
   rfl
  unfold BF
  refine bT (decide_eq_true hg2) ?_
  by_cases h1:bc b true=0
  rotate_left
  ·have eh:ak b true=(br,bc b true):=by unfold ak;rw[if_pos h1]
   rw[eh]
   refine bT (by simpa using h1) ?_
   exact fin _ h1 (by rw[eE,if_pos h1])
  have eh:ak b true=(iV b,0):=by unfold ak;rw[if_neg (az h1)]
  rw[if_neg (az h1)] at eE
  obtain ⟨k1,_,_,_,_,_,_,_,_,k2,k3,_⟩:=gV h1
  have hI:iV b=(ar b 0 8,(b.length:Int),ar b 12 4,decide (b.getD 22 0=1),ar b 57 4,ar b 27 8,ar b 35 8,ar b 43 8,ar b 51 2,ar b 53 4,()):=rfl
  rw[eh,hI]
  dsimp only
  refine (af rfl _ _).trans ?_
  refine bT (by simp only[zA,zB];exact ⟨k1,hg2⟩) ?_
  by_cases h2:(aN b (decide (b.getD 22 0=1))).2=0
  rotate_left
  ·refine bT (by simpa using h2) ?_
   exact fin _ h2 (by rw[eE,if_pos h2])
  refine bF (by simpa using h2) ?_
  rw[if_neg (az h2)] at eE
  generalize (aN b (decide (b.getD 22 0=1))).1=blk at *
  refine bT (by simp only[zA,zB];exact ⟨trivial,rfl,show (0:Int)≤ar b 57 4 by omega,show ar b 57 4≤(4294960000:Int) by omega⟩) ?_
  have eR:cK blk (ar b 27 8) (ar b 35 8) (ar b 57 4).toNat=if (aD blk (ar b 27 8) (ar b 57 4).toNat 0 0 []).2.2≠0 then ([],(aD blk (ar b 27 8) (ar b 57 4).toNat 0 0 []).2.2)
    else if (aD blk (ar b 27 8) (ar b 57 4).toNat 0 0 []).2.1<(blk.length:Int) then ([],2)
    else if ch (aD blk (ar b 27 8) (ar b 57 4).toNat 0 0 []).1≠ar b 35 8 then ([],86) else ((aD blk (ar b 27 8) (ar b 57 4).toNat 0 0 []).1,0):=rfl
  have hlen:=sk blk (ar b 27 8) (ar b 57 4).toNat 0 0 []
  obtain ⟨x1,x2⟩:=Ir blk (ar b 27 8) (ar b 57 4).toNat 0 0 []
  rw[eR] at eE
  generalize aD blk (ar b 27 8) (ar b 57 4).toNat 0 0 []=r at *
  obtain ⟨rs,q,e⟩:=r
  simp only at eE hlen x1 x2
  by_cases h3:e=0
  rotate_left
  ·rw[if_pos h3] at eE
   rcases x2 h3 with x | ⟨x,x'⟩
   ·rw[x]
    refine bT (decide_eq_true h3) ?_
    exact fin e h3 (by rw[eE])
   ·rw[x,x']
    refine (af rfl _ _).trans ?_
    refine bT (decide_eq_true h3) ?_
    exact fin e h3 (by rw[eE])
  rw[if_neg (az h3)] at eE
  rw[x1 h3]
  have hlen:=hlen h3
  refine (af rfl _ _).trans ?_
  refine (af rfl _ _).trans ?_
  by_cases h4:q<(blk.length:Int)
  ·refine bT (decide_eq_true h4) ?_
   exact fin 2 (by decide) (by rw[eE,if_pos h4])
  refine bF (decide_eq_false h4) ?_
  refine bT (decide_eq_true (show 1≤rs.length by rw[hlen];simp;omega)) ?_
  rw[if_neg h4] at eE
  by_cases h5:ch rs=ar b 35 8
  ·refine bF (by simpa using h5) ?_
   rw[if_neg (az h5)] at eE
   have:ap b=((ar b 0 8,ar b 12 4,ar b 43 8,ar b 51 2,ar b 53 4,rs,()),0):=by unfold ap;rw[eE,if_neg (az rfl)]
   rw[this]
  ·refine bT (by simpa using h5) ?_
   exact fin 86 (by decide) (by rw[eE,if_pos h5])
end
end Go.Proofs.YthpcdhgpplmneaaGreatDoor.Sym
namespace Go.Proofs.YthpcdhgpplmneaaGreatDoor.Sym
open Go
noncomputable section
end
end Go.Proofs.YthpcdhgpplmneaaGreatDoor.Sym
namespace Go.Proofs.YthpcdhgpplmneaaGreatDoor.Sym
open Go
open Go.IntKind (i8 i16 i32 i64 u8 u16 u32 u64)
noncomputable section
abbrev mm:Io:=⟨[dL,dI,dI],[],[],[cO],none⟩
def F3 (d:mm.In):Tr mm.Res:=.ite (decide ((0:Int)≤d.1.2.2.1)&&decide (d.1.2.2.1≤(8:Int))) (.ret (.ret (((am d.1.1 d.1.2.1 d.1.2.2.1).1,()),()))) .no
abbrev K8:List (Nat×Hc):=[(133,ai f7 tO)]
def Q5:Hd:=bB K8
def Mg:Lp:=bP []
def KN (a0:LI)(a1 a2:Int):Option mm.Res:=bif decide (0≤a2)&&decide (a2≤8) then oR (((am a0 a1 a2).1,()),()) else none
theorem Qd (a0:LI)(a1 a2:Int):Io.run tt Q5 dr Mg mm Tryz.f103 ((a0,a1,a2,()),())=KN a0 a1 a2:=by kernel_rfl
theorem MK:HcOk prog 103 (ai mm F3):=by
 refine bQ (cs:=K8) (.cons Jf .nil) (lp:=Mg) (fn:=Tryz.f103) mm (.done (by kernel_rfl)) F3 ?_
 rintro ⟨⟨(b:LI),(p:Int),(n:Int),⟨⟩⟩,⟨⟩⟩ out hw ho
 obtain ⟨hg,ho⟩:=Tr.guard ho
 cases ho
 refine (Qd b p n).trans ?_
 exact aa hg _ _
abbrev gP:Io:=⟨[cO,SJ,QP],[],[],[dB],none⟩
def zm (d:gP.In):Tr gP.Res:=.ret (.ret ((!aW d.1.1 d.1.2.1 d.1.2.2.1,()),()))
abbrev GM:List (Nat×Hc):=[]
def O8:Hd:=bB GM
def HR:Lp:=bP []
def xC (a0 a1 a2:Int):Option gP.Res:=bif decide (a0<0) then bif a0 == -1 then bif a1 == -1 then oR ((a2 == -1,()),()) else oR ((false,()),()) else oR ((false,()),()) else bif decide (0≤a1) then oR ((decide (0≤a2),()),()) else oR ((false,()),())
theorem Nx (a0 a1 a2:Int):Io.run tt O8 dr HR gP Tryz.f82 ((a0,a1,a2,()),())=xC a0 a1 a2:=by kernel_rfl
theorem Ia:HcOk prog 82 (ai gP zm):=by
 refine bQ (cs:=GM) HcsOk.nil (lp:=HR) (fn:=Tryz.f82) gP (.done (by kernel_rfl)) zm ?_
 rintro ⟨⟨(pid:Int),(ep:Int),(sq:Int),⟨⟩⟩,⟨⟩⟩ out hw ho
 cases ho
 refine (Nx pid ep sq).trans ?_
 show _=oR ((!(if pid = -1∧ep = -1∧sq = -1∨0≤pid∧0≤ep∧0≤sq then false else true),()),())
 have key:∀c:Prop,[Decidable c]→∀b:Bool,(b=true↔c)→some (Out.ret ((b,()),()):gP.Res)=oR ((!(if c then false else true),()),()):=by
  intro c _ b h
  by_cases hc:c
  ·rw[if_pos hc,h.2 hc];rfl
  ·rw[if_neg hc]
   cases b with
   |false=>rfl
   |true=>exact absurd (h.1 rfl) hc
 unfold xC
 by_cases h1:pid<0
 ·refine bT (decide_eq_true h1) ?_
  by_cases h2:pid = -1
  ·refine bT (by simp[h2]) ?_
   by_cases h3:ep = -1
   ·refine bT (by simp[h3]) ?_
    exact key _ _ (by simp;omega)
   ·refine bF (by simp[h3]) ?_
    exact key _ _ (by simp;omega)
  ·refine bF (by simp[h2]) ?_
   exact key _ _ (by simp;omega)
 ·refine bF (decide_eq_false h1) ?_
  by_cases h2:0≤ep
  ·refine bT (decide_eq_true h2) ?_
   exact key _ _ (by simp;omega)
  ·refine bF (decide_eq_false h2) ?_
   exact key _ _ (by simp;omega)
def bt (a b:Int):Int×Bool:=if aP (a - b)=true then (a - b,true) else (0,false)
abbrev gl:Io:=⟨[cO,cO],[],[],[cO,dB],none⟩
def zo (d:gl.In):Tr gl.Res:=.ret (.ret (((bt d.1.1 d.1.2.1).1,(bt d.1.1 d.1.2.1).2,()),()))
abbrev GP:List (Nat×Hc):=[]
def O9:Hd:=bB GP
def HS:Lp:=bP []
def xF (a0 a1:Int):Option gl.Res:=bif decide (0≤a1) then bif decide (a0<i64.wrap (-9223372036854775808+a1)) then oR ((0,false,()),()) else bif decide (a1<0) then bif decide (i64.wrap (9223372036854775807+a1)<a0) then oR ((0,false,()),()) else oR ((i64.wrap (a0 - a1),true,()),()) else oR ((i64.wrap (a0 - a1),true,()),()) else bif decide (a1<0) then bif decide (i64.wrap (9223372036854775807+a1)<a0) then oR ((0,false,()),()) else oR ((i64.wrap (a0 - a1),true,()),()) else oR ((i64.wrap (a0 - a1),true,()),())
theorem NA (a0 a1:Int):Io.run tt O9 dr HS gl Tryz.f116 ((a0,a1,()),())=xF a0 a1:=by kernel_rfl
theorem Ic:HcOk prog 116 (ai gl zo):=by
 refine bQ (cs:=GP) HcsOk.nil (lp:=HS) (fn:=Tryz.f116) gl (.done (by kernel_rfl)) zo ?_
 rintro ⟨⟨(a:Int),(b:Int),⟨⟩⟩,⟨⟩⟩ out hw ho
 cases ho
 refine (NA a b).trans ?_
 have ha:bC .i64 a:=hw.1.1
 have hb:bC .i64 b:=hw.1.2.1
 have ha:=jJ ha
 have hb:=jJ hb
 show _=oR (((bt a b).1,(bt a b).2,()),())
 unfold xF
 have fin:aP (a - b)=true→some (Out.ret ((i64.wrap (a - b),true,()),()):gl.Res)=oR (((bt a b).1,(bt a b).2,()),()):=by
  intro h
  have e:bt a b=(a - b,true):=by unfold bt;rw[if_pos h]
  rw[e,ae (fv.1 h).1 (fv.1 h).2]
 have fin2:aP (a - b)=false→some (Out.ret ((0,false,()),()):gl.Res)=oR (((bt a b).1,(bt a b).2,()),()):=by
  intro h
  have e:bt a b=(0,false):=by unfold bt;rw[if_neg (by rw[h];exact fun h=>by cases h)]
  rw[e]
 have fy:(-9223372036854775808≤a - b∧a - b≤9223372036854775807)→aP (a - b)=true:=fun h=>fv.2 h
 have fn:¬(-9223372036854775808≤a - b∧a - b≤9223372036854775807)→aP (a - b)=false:=fun h=>by
  cases h2:aP (a - b) with
  |false=>rfl
  |true=>exact absurd (fv.1 h2) h
 by_cases h0:0≤b
 ·refine bT (decide_eq_true h0) ?_
  rw[ae (n:=-9223372036854775808+b) (by omega) (by omega)]
  by_cases h1:a < -9223372036854775808+b
  ·exact (aa (decide_eq_true h1) _ _).trans (fin2 (fn (by omega)))
  ·refine bF (decide_eq_false h1) ?_
   exact (af (decide_eq_false (by omega)) _ _).trans (fin (fy (by omega)))
 ·refine bF (decide_eq_false h0) ?_
  refine bT (decide_eq_true (show b<0 by omega)) ?_
  rw[ae (n:=9223372036854775807+b) (by omega) (by omega)]
  by_cases h1:9223372036854775807+b<a
  ·exact (aa (decide_eq_true h1) _ _).trans (fin2 (fn (by omega)))
  ·exact (af (decide_eq_false h1) _ _).trans (fin (fy (by omega)))
abbrev fx:Io:=⟨[La],[],[],[cO],none⟩
def pj (d:fx.In):Tr fx.Res:=.ret (.ret ((ch d.1.1,()),()))
abbrev uM:List (Nat×Hc):=[]
def CK:Hd:=bB uM
abbrev dk:Lo:=⟨⟨(.one (.hol (.sl 91 aR))::bi (.one hI::.one hI::.any::ah (bi []))),[]⟩,[(.exit 0,⟨(.any::bi (.one hI::ah (bv []))),[]⟩)]⟩
def j8 (d:dk.st.den):Tr (ao dk.xs):=.ite (decide (d.1.2.2.1=(0:Int))) (.ret (.ret ((),((bu d.1.1 d.1.2.1,()),())))) .no
def pU:Lp:=bP [(4,aA dk j8)]
def qz {R:Type}(h1:List aR.den)(h2 h3:Int)(next:List aR.den→Int→Int→Option R)(out:ao dk.xs→Option R):Option R:=bif decide (h3<(↑h1.length:Int)) then bif decide (0≤h3)&&decide (h3<(↑h1.length:Int)) then bif decide (h2<(h1.getD h3.toNat (0,(false,[],()),(false,[],()),[],())).1) then bif decide (0≤h3)&&decide (h3<(↑h1.length:Int)) then next (h1) ((h1.getD h3.toNat (0,(false,[],()),(false,[],()),[],())).1) (i64.wrap (h3+1)) else none else next (h1) (h2) (i64.wrap (h3+1)) else none else out (.ret ((),((h2,()),())))
def oP (n:Nat)(h1:List aR.den)(h2 h3:Int):Option (ao dk.xs):=fH tt CK dr pU 0 Tryz.f72 (bI Tryz.f72 0) n (dk.st.mk' ((h1,(h2,(h3,()))),())) (bo dk.xs)
theorem FD (n:Nat)(h1:List aR.den)(h2 h3:Int):oP (n+1) h1 h2 h3=qz h1 h2 h3 (oP n) some:=by kernel_rfl
theorem Ay (rs:List bq)(hl:rs.length≤maxLen):∀(k i:Nat) (t:Int),rs.length<i+k→i≤rs.length→oP k rs t i=some (.ret ((),((bu (rs.drop i) t,()),()))):=by
 intro k
 induction k with
 |zero=>intro i t h;omega
 |succ k ih=>
  intro i t h1 h2
  rw[FD]
  unfold qz
  by_cases hi:i<rs.length
  ·refine bT (by simpa using hi) ?_
   refine bT (by simpa using hi) ?_
   have e:List.getD rs (i:Int).toNat (0,(false,[],()),(false,[],()),[],())=rs[i]:=by simp only[zG,aB hi]
   rw[e,bb hi hl,zE hi]
   have e2:bu (rs[i]::rs.drop (i+1)) t=bu (rs.drop (i+1)) (co t rs[i].1):=rfl
   rw[e2]
   unfold co
   by_cases hc:t<rs[i].1
   ·refine bT (decide_eq_true hc) ?_
    refine bT (by simpa using hi) ?_
    rw[if_pos hc]
    exact ih (i+1) _ (by omega) (by omega)
   ·refine bF (decide_eq_false hc) ?_
    rw[if_neg hc]
    exact ih (i+1) _ (by omega) (by omega)
  ·refine bF (by simp;omega) ?_
   rw[zI (by omega)]
   rfl
def uC (a0:List aR.den):Option fx.Res:=(j8 ((a0,(-9223372036854775808,(0,()))),())).run fun y=>match y with | .ret ((),((x11,()),()))=>(oR ((x11,()),()))
theorem JO (a0:List aR.den):Io.run tt CK dr pU fx Tryz.f72 ((a0,()),())=uC a0:=by kernel_rfl
theorem vr:HcOk prog 72 (ai fx pj):=by
 refine bQ (cs:=uM) HcsOk.nil (lp:=pU) (fn:=Tryz.f72) fx (.step (h0:=aA dk j8) (by kernel_rfl) (fR (cs:=uM) HcsOk.nil (lp:=pU) (fn:=Tryz.f72) (.done (by kernel_rfl)) dk j8 ?_) (.done (by kernel_rfl))) pj ?_
 ·rintro ⟨⟨(rs:List bq),(t:Int),(i:Int),⟨⟩⟩,⟨⟩⟩ y hw hy
  obtain ⟨hg,hy⟩:=Tr.guard hy
  have h1:i=0:=of_decide_eq_true hg
  subst h1
  refine ⟨rs.length+1,(Ay rs hw.1.1.1 (rs.length+1) 0 t (by omega) (by omega)).trans ?_⟩
  rw[← hy];rfl
 ·rintro ⟨⟨(rs:List bq),⟨⟩⟩,⟨⟩⟩ out hw ho
  cases ho
  refine (JO rs).trans ?_
  show _=oR ((ch rs,()),())
  unfold uC j8
  refine (aa rfl _ _).trans ?_
  cases rs with
  |nil=>rfl
  |cons r rs=>
   have hr:bC .i64 r.1:=(hw.1.1.2 r (by simp)).1
   have hr:=jJ hr
   have e:bu (r::rs) (-9223372036854775808)=bu rs r.1:=by
    show bu rs (co (-9223372036854775808) r.1)=_
    unfold co
    by_cases h:r.1 > -9223372036854775808
    ·rw[if_pos h]
    ·rw[if_neg h]
     have:r.1 = -9223372036854775808:=by omega
     rw[this]
   exact congrArg (fun x=>oR ((x,()),())) e
theorem qf {b:LI}{p n:Nat}(h:p+n≤b.length):(am b (p:Int) (n:Int)).1=ar b p n:=by
 unfold am ar
 rw[if_neg (by omega),zG,zG]
abbrev ju:Io:=⟨[dL,dI],[],[],[dI,dI],none⟩
def zl (d:ju.In):Tr ju.Res:=.ret (.ret (((aj d.1.1 d.1.2.1).1,(aj d.1.1 d.1.2.1).2,()),()))
abbrev GL:List (Nat×Hc):=[(103,ai mm F3)]
def O7:Hd:=bB GL
def HQ:Lp:=bP []
def xB (a0:LI)(a1:Int):Option ju.Res:=bif decide (a1<0) then oR ((0,3,()),()) else bif decide ((↑a0.length:Int)<a1) then oR ((0,3,()),()) else bif decide (i64.wrap ((↑a0.length:Int) - a1)<12) then oR ((0,1,()),()) else bif decide ((am a0 (i64.wrap (a1+8)) 4).1<49) then oR ((0,5,()),()) else bif decide (35988<(am a0 (i64.wrap (a1+8)) 4).1) then oR ((0,4,()),()) else bif decide (i64.wrap (i64.wrap ((↑a0.length:Int) - a1) - 12)<(am a0 (i64.wrap (a1+8)) 4).1) then oR ((0,1,()),()) else oR ((i64.wrap ((am a0 (i64.wrap (a1+8)) 4).1+12),0,()),())
theorem Nw (a0:LI)(a1:Int):Io.run tt O7 dr HQ ju Tryz.f71 ((a0,a1,()),())=xB a0 a1:=by kernel_rfl
theorem H9:HcOk prog 71 (ai ju zl):=by
 refine bQ (cs:=GL) (.cons MK .nil) (lp:=HQ) (fn:=Tryz.f71) ju (.done (by kernel_rfl)) zl ?_
 rintro ⟨⟨(b:LI),(p:Int),⟨⟩⟩,⟨⟩⟩ out hw ho
 cases ho
 refine (Nw b p).trans ?_
 have hl:b.length≤9223372036854775807:=hw.1.1.1
 show _=oR (((aj b p).1,(aj b p).2,()),())
 unfold xB aj
 by_cases h1:p<0
 ·refine bT (decide_eq_true h1) ?_
  rw[if_pos (.inl h1)]
 refine bF (decide_eq_false h1) ?_
 by_cases h2:(b.length:Int)<p
 ·refine bT (decide_eq_true h2) ?_
  rw[if_pos (.inr h2)]
 refine bF (decide_eq_false h2) ?_
 rw[if_neg (by omega),ae (n:=(b.length:Int) - p) (by omega) (by omega)]
 by_cases h3:(b.length:Int) - p<12
 ·refine bT (decide_eq_true h3) ?_
  rw[if_pos h3]
 refine bF (decide_eq_false h3) ?_
 obtain ⟨p,rfl⟩:=au (show 0≤p by omega)
 have e:(am b (i64.wrap ((p:Int)+8)) 4).1=ar b (p+8) 4:=by
  rw[ae (n:=(p:Int)+8) (by omega) (by omega)]
  exact qf (b:=b) (p:=p+8) (n:=4) (by omega)
 rw[if_neg h3,e,zG,ae (n:=(b.length:Int) - p - 12) (by omega) (by omega)]
 by_cases h4:ar b (p+8) 4<49
 ·refine bT (decide_eq_true h4) ?_
  rw[if_pos h4]
 refine bF (decide_eq_false h4) ?_
 rw[if_neg h4]
 by_cases h5:35988<ar b (p+8) 4
 ·refine bT (decide_eq_true h5) ?_
  rw[if_pos h5]
 refine bF (decide_eq_false h5) ?_
 rw[if_neg h5]
 by_cases h6:(b.length:Int) - p - 12<ar b (p+8) 4
 ·refine bT (decide_eq_true h6) ?_
  rw[if_pos h6]
 refine bF (decide_eq_false h6) ?_
 rw[if_neg h6,ae (n:=ar b (p+8) 4+12) (by omega) (by omega)]
end
end Go.Proofs.YthpcdhgpplmneaaGreatDoor.Sym
