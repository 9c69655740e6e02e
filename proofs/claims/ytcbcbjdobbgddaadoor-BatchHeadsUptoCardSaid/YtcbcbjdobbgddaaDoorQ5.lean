/- batch: bases, producers, times, rows, Measure. -/
import Derived.Test.YtcbcbjdobbgddaaDoorTie
import Derived.Test.YtcbcbjdobbgddaaDoorCards
import Derived.ProofKit
import Derived.LaidMore
import Derived.OpenShut
import Derived.Stop.Joined
import Derived.Test.YtcbcbjdobbgddaaDoorQ4

set_option linter.unusedVariables false
set_option linter.unusedSimpArgs false
namespace Go.Proofs.YtcbcbjdobbgddaaDoor.Sym
open Go
open Go.IntKind (i8 i16 i32 i64 u8 u16 u32 u64)
noncomputable section
theorem sg {n:Int}(h:bz .i64 n) : -9223372036854775808≤n∧n≤9223372036854775807:=by
 simpa [bz,IntKind.min,IntKind.max,IntKind.signed,IntKind.bits] using h
theorem Cj {n:Int}(h:bz .i32 n) : -2147483648≤n∧n≤2147483647:=by
 simpa [bz,IntKind.min,IntKind.max,IntKind.signed,IntKind.bits] using h
theorem DZ {n:Int}(h1:9223372036854775807<n)(h2:n≤18446744073709551615):i64.wrap n=n - 18446744073709551616:=by
 simp[IntKind.wrap,IntKind.signed,IntKind.bits] <;> (try split) <;> omega
theorem D0 {n:Int}(h1:n < -9223372036854775808)(h2 : -18446744073709551616≤n):i64.wrap n=n+18446744073709551616:=by
 simp[IntKind.wrap,IntKind.signed,IntKind.bits] <;> (try split) <;> omega
theorem uj {n:Int}(h1 : -9223372036854775808≤n)(h2:n≤9223372036854775807):aU n=true:=by unfold aU;rw[if_pos ⟨h1,h2⟩]
theorem jO {n:Int}(h:¬(-9223372036854775808≤n∧n≤9223372036854775807)):aU n=false:=by unfold aU;rw[if_neg h]
theorem r8 {n:Int}:aU n=true↔-9223372036854775808≤n∧n≤9223372036854775807:=by
 unfold aU
 split
 ·rename_i h;exact ⟨fun _=>h,fun _=>rfl⟩
 ·rename_i h;exact ⟨fun h'=>Bool.noConfusion h',fun h'=>absurd h' h⟩
theorem En {t f:Int}(ht:bz .i64 t)(hf:bz .i64 f):(decide (i64.wrap (t - f)<0) == decide (t<f))=aU (t - f):=by
 have h1:=sg ht
 have h2:=sg hf
 by_cases a : -9223372036854775808≤t - f
 ·by_cases b:t - f≤9223372036854775807
  ·rw[uj a b,ae a b]
   by_cases c:t<f
   ·rw[decide_eq_true c,decide_eq_true (show t - f<0 by omega)];rfl
   ·rw[decide_eq_false c,decide_eq_false (show ¬ t - f<0 by omega)];rfl
  ·rw[jO (fun h=>b h.2),DZ (by omega) (by omega),decide_eq_true (show t - f - 18446744073709551616<0 by omega),decide_eq_false (show ¬ t<f by omega)];rfl
 ·rw[jO (fun h=>a h.1),D0 (by omega) (by omega),decide_eq_false (show ¬ t - f+18446744073709551616<0 by omega),decide_eq_true (show t<f by omega)];rfl
theorem Em {d f:Int}(hd:bz .i64 d)(hf:bz .i64 f):(decide (i64.wrap (f+d)<f) == decide (d<0))=aU (f+d):=by
 have h1:=sg hd
 have h2:=sg hf
 by_cases a : -9223372036854775808≤f+d
 ·by_cases b:f+d≤9223372036854775807
  ·rw[uj a b,ae a b]
   by_cases c:d<0
   ·rw[decide_eq_true c,decide_eq_true (show f+d<f by omega)];rfl
   ·rw[decide_eq_false c,decide_eq_false (show ¬ f+d<f by omega)];rfl
  ·rw[jO (fun h=>b h.2),DZ (by omega) (by omega),decide_eq_true (show f+d - 18446744073709551616<f by omega),decide_eq_false (show ¬ d<0 by omega)];rfl
 ·rw[jO (fun h=>a h.1),D0 (by omega) (by omega),decide_eq_false (show ¬ f+d+18446744073709551616<f by omega),decide_eq_true (show d<0 by omega)];rfl
theorem GY:∀{l:LI},(∀c∈l,0≤c∧c≤255)→l.length=1→i8.wrap (aY l)=bx l
 |[a],h,_=>by
  have ha:=h a (by simp)
  simp only[aY,bx,List.foldl_cons,List.foldl_nil]
  simp[IntKind.wrap,IntKind.signed,IntKind.bits] <;> (try split) <;> omega
theorem za:∀{l:LI},(∀c∈l,0≤c∧c≤255)→l.length=2→i16.wrap (aY l)=bx l
 |[a,b],h,_=>by
  have ha:=h a (by simp)
  have hb:=h b (by simp)
  simp only[aY,bx,List.foldl_cons,List.foldl_nil]
  simp[IntKind.wrap,IntKind.signed,IntKind.bits] <;> (try split) <;> omega
theorem n9:∀{l:LI},(∀c∈l,0≤c∧c≤255)→l.length=4→i32.wrap (aY l)=bx l
 |[a,b,c,d],h,_=>by
  have ha:=h a (by simp)
  have hb:=h b (by simp)
  have hc:=h c (by simp)
  have hd:=h d (by simp)
  simp only[aY,bx,List.foldl_cons,List.foldl_nil]
  simp[IntKind.wrap,IntKind.signed,IntKind.bits] <;> (try split) <;> omega
theorem Fw:∀{l:LI},(∀c∈l,0≤c∧c≤255)→l.length=8→i64.wrap (aY l)=bx l
 |[a,b,c,d,e,f,g,i],h,_=>by
  have ha:=h a (by simp)
  have hb:=h b (by simp)
  have hc:=h c (by simp)
  have hd:=h d (by simp)
  have he:=h e (by simp)
  have hf:=h f (by simp)
  have hg:=h g (by simp)
  have hi:=h i (by simp)
  simp only[aY,bx,List.foldl_cons,List.foldl_nil]
  simp[IntKind.wrap,IntKind.signed,IntKind.bits] <;> (try split) <;> omega
theorem DC:∀{l:LI},(∀c∈l,0≤c∧c≤255)→l.length=4→-2147483648≤bx l∧bx l≤2147483647:=fun h hl=>by
 rw[← n9 h hl]
 exact Cj (bB _ _)
theorem gm {b:LI}(hb:∀c∈b,0≤c∧c≤255)(p n:Nat):∀c∈(b.drop p).take n,0≤c∧c≤255:=fun c hc=>hb c (List.mem_of_mem_drop (List.mem_of_mem_take hc))
theorem gr {b:LI}{p n:Nat}(h:p+n≤b.length):((b.drop p).take n).length=n:=by simp;omega
abbrev fV:Io:=⟨[nD],[],[],[dB],none⟩
def rn (d:fV.In):Tr fV.Res:=.ret (.ret ((aD d.1.1,()),()))
abbrev xy:List (Nat×Hc):=[]
def Ep:Hd:=bM xy
def yj:Lp:=cc []
def qd (a0:Int):Option fV.Res:=bif decide (a0<0) then oR ((true,()),()) else oR ((decide (4611686018427387648<a0),()),())
theorem C6 (a0:Int):Io.run tt Ep dr yj fV Tryd.f51 ((a0,()),())=qd a0:=by kernel_rfl
theorem yJ:HcOk prog 51 (ah fV rn):=by
 refine cq (cs:=xy) HcsOk.nil (lp:=yj) (fn:=Tryd.f51) fV (.done (by kernel_rfl)) rn ?_
 rintro ⟨⟨(b:Int),⟨⟩⟩,⟨⟩⟩ out hw ho
 cases ho
 refine (C6 b).trans ?_
 show _=oR ((decide (b<0) || decide (4611686018427387648<b),()),())
 unfold qd
 by_cases h:b<0
 ·refine bT (decide_eq_true h) ?_
  rw[decide_eq_true h];rfl
 ·refine bF (decide_eq_false h) ?_
  rw[decide_eq_false h];rfl
abbrev fa:Io:=⟨[nD,HV,Ee],[],[],[dB],none⟩
def ry (d:fa.In):Tr fa.Res:=.ret (.ret ((ax d.1.1 d.1.2.1 d.1.2.2.1,()),()))
abbrev xC:List (Nat×Hc):=[]
def Et:Hd:=bM xC
def yn:Lp:=cc []
def qi (a0 a1 a2:Int):Option fa.Res:=bif a0 == -1 then bif a1 == -1 then bif decide (0≤a0) then bif decide (0≤a1) then bif !a2 == -1 then oR ((!decide (0≤a2),()),()) else oR ((false,()),()) else bif !a2 == -1 then oR ((true,()),()) else oR ((false,()),()) else bif !a2 == -1 then oR ((true,()),()) else oR ((false,()),()) else bif decide (0≤a0) then bif decide (0≤a1) then oR ((!decide (0≤a2),()),()) else oR ((true,()),()) else oR ((true,()),()) else bif decide (0≤a0) then bif decide (0≤a1) then oR ((!decide (0≤a2),()),()) else oR ((true,()),()) else oR ((true,()),())
theorem Db (a0 a1 a2:Int):Io.run tt Et dr yn fa Tryd.f52 ((a0,a1,a2,()),())=qi a0 a1 a2:=by kernel_rfl
theorem yN:HcOk prog 52 (ah fa ry):=by
 refine cq (cs:=xC) HcsOk.nil (lp:=yn) (fn:=Tryd.f52) fa (.done (by kernel_rfl)) ry ?_
 rintro ⟨⟨(pid:Int),(ep:Int),(sq:Int),⟨⟩⟩,⟨⟩⟩ out hw ho
 cases ho
 refine (Db pid ep sq).trans ?_
 show _=oR (((if pid = -1∧ep = -1∧sq = -1∨0≤pid∧0≤ep∧0≤sq then false else true),()),())
 have hs:(!decide (0≤sq))=if 0≤sq then false else true:=by by_cases h:0≤sq <;> simp[h]
 have key:∀c:Prop,[Decidable c]→∀b:Bool,(b=false↔c)→some (Out.ret ((b,()),()):fa.Res)=oR (((if c then false else true),()),()):=by
  intro c _ b h
  by_cases hc:c
  ·rw[if_pos hc,h.2 hc]
  ·rw[if_neg hc]
   cases b with
   |true=>rfl
   |false=>exact absurd (h.1 rfl) hc
 unfold qi
 by_cases h1:pid = -1
 ·refine bT (by simp[h1]) ?_
  by_cases h2:ep = -1
  ·refine bT (by simp[h2]) ?_
   refine bF (decide_eq_false (by omega)) ?_
   by_cases h3:sq = -1
   ·refine bF (by simp[h3]) ?_
    exact key _ _ (by simp;omega)
   ·refine bT (by simp[h3]) ?_
    exact key _ _ (by simp;omega)
  ·refine bF (by simp[h2]) ?_
   refine bF (decide_eq_false (by omega)) ?_
   exact key _ _ (by simp;omega)
 ·refine bF (by simp[h1]) ?_
  by_cases h2:0≤pid
  ·refine bT (decide_eq_true h2) ?_
   by_cases h3:0≤ep
   ·refine bT (decide_eq_true h3) ?_
    exact key _ _ (by simp;omega)
   ·refine bF (decide_eq_false h3) ?_
    exact key _ _ (by simp;omega)
  ·refine bF (decide_eq_false h2) ?_
   exact key _ _ (by simp;omega)
abbrev fz:Io:=⟨[nD,nD],[],[],[nD,dB],none⟩
def rq (d:fz.In):Tr fz.Res:=.ret (.ret ((i64.wrap (d.1.1 - d.1.2.1),aU (d.1.1 - d.1.2.1),()),()))
abbrev tR:List (Nat×Hc):=[]
def B3:Hd:=bM tR
def uH:Lp:=cc []
def oD (a0 a1:Int):Option fz.Res:=oR ((i64.wrap (a0 - a1),decide (i64.wrap (a0 - a1)<0) == decide (a0<a1),()),())
theorem Aj (a0 a1:Int):Io.run tt B3 dr uH fz Tryd.f61 ((a0,a1,()),())=oD a0 a1:=by kernel_rfl
theorem CN:HcOk prog 61 (ah fz rq):=by
 refine cq (cs:=tR) HcsOk.nil (lp:=uH) (fn:=Tryd.f61) fz (.done (by kernel_rfl)) rq ?_
 rintro ⟨⟨(t:Int),(f:Int),⟨⟩⟩,⟨⟩⟩ out hw ho
 cases ho
 refine (Aj t f).trans ?_
 unfold oD
 rw[En hw.1.1 hw.1.2.1]
def cL (f:Int):List bp→Nat→Bool
 |[],_=>true
 |r::rs,i=>mN (fe f i r)&&cL f rs (i+1)
abbrev fY:Io:=⟨[wh],[],[],[dO,dI],none⟩
def me (d:fY.In):Tr fY.Res:=.ite (cL (ay d.1.1.2.2.2.2.2.1) d.1.1.2.2.2.2.2.1 0) (.ret (.ret (((cM d.1.1).1,(cM d.1.1).2,()),()))) .no
abbrev xD:List (Nat×Hc):=[(51,ah fV rn),(52,ah fa ry),(61,ah fz rq),(62,ah kH A9)]
def x5:Hd:=bM xD
abbrev cl:Lo:=⟨⟨(.any::.one (.ptr 1 0)::cy (.one (.onl 5 (Ty.int u8) 9)::.any::al (fc (cV (.one (.hol (.sl 70 bj))::.one hI::.one hI::al (al (fc (cy [])))))))),[none,some [hI,hJ,hI,hK,hJ,.hol (.sl 70 bj)]]⟩,[(.ret,⟨(cy (.one (.onl 5 (Ty.int u8) 5)::.one hI::.any::al (al (al (al (fc (cy []))))))),[]⟩),(.exit 1,⟨(cV (.one (.onl 5 (Ty.int u8) 9)::al (al (al (al (fc (cy []))))))),[]⟩)]⟩
def gE (d:cl.st.den):Tr (aq cl.xs):=
 .ite (decide (d.1.2.2.2.1=0)&&(decide (d.1.2.2.1=(d.1.2.1.length:Int))&&(decide (d.1.1.length=0)&&((decide (ay d.2.1.2.2.2.2.2.1=ay d.1.2.1)&&decide (1≤d.2.1.2.2.2.2.2.1.length))&&(decide (d.1.2.1.length≤256)&&cL (ay d.1.2.1) d.1.2.1 0)))))
  (.ite (decide ((bv (ay d.1.2.1) d.1.2.1 0 []).2=0)) (.ret (.pan (.ret ((),(((bv (ay d.1.2.1) d.1.2.1 0 []).1,()),()))))) (.ret (.ret ((),(([],(bv (ay d.1.2.1) d.1.2.1 0 []).2,()),()))))) .no
def nY:Lp:=cc [(12,aI cl gE)]
def l6 {R:Type}(h6:LI)(h7:List bj.den)(h8 h9 h10 h11 h12 h13 h14:Int)(h15:List bj.den)(next:LI→List bj.den→Int→Int→Int→Int→Int→Int→Int→List bj.den→Option R)(out:aq cl.xs→Option R):Option R:=bif decide (h9<h8) then bif decide (0≤h9)&&decide (h9<(↑h7.length:Int)) then bif decide (0≤0)&&decide (0<(↑h15.length:Int)) then bif !aU ((h7.getD h9.toNat (0,(false,[],()),(false,[],()),[],())).1 - (h15.getD (Int.toNat 0) (0,(false,[],()),(false,[],()),[],())).1) then out (.ret ((),(([],(86,())),()))) else bif mN (i64.wrap ((h7.getD h9.toNat (0,(false,[],()),(false,[],()),[],())).1 - (h15.getD (Int.toNat 0) (0,(false,[],()),(false,[],()),[],())).1),i32.wrap h9,(h7.getD h9.toNat (0,(false,[],()),(false,[],()),[],())).2) then bif (ce (i64.wrap ((h7.getD h9.toNat (0,(false,[],()),(false,[],()),[],())).1 - (h15.getD (Int.toNat 0) (0,(false,[],()),(false,[],()),[],())).1),i32.wrap h9,(h7.getD h9.toNat (0,(false,[],()),(false,[],()),[],())).2)).2 != 0 then out (.ret ((),(([],((ce (i64.wrap ((h7.getD h9.toNat (0,(false,[],()),(false,[],()),[],())).1 - (h15.getD (Int.toNat 0) (0,(false,[],()),(false,[],()),[],())).1),i32.wrap h9,(h7.getD h9.toNat (0,(false,[],()),(false,[],()),[],())).2)).2,())),()))) else bif decide (h6.length+(ce (i64.wrap ((h7.getD h9.toNat (0,(false,[],()),(false,[],()),[],())).1 - (h15.getD (Int.toNat 0) (0,(false,[],()),(false,[],()),[],())).1),i32.wrap h9,(h7.getD h9.toNat (0,(false,[],()),(false,[],()),[],())).2)).1.length≤4294967296) then next (h6++(ce (i64.wrap ((h7.getD h9.toNat (0,(false,[],()),(false,[],()),[],())).1 - (h15.getD (Int.toNat 0) (0,(false,[],()),(false,[],()),[],())).1),i32.wrap h9,(h7.getD h9.toNat (0,(false,[],()),(false,[],()),[],())).2)).1) (h7) (h8) (i64.wrap (h9+1)) (h10) (h11) (h12) (h13) (h14) (h15) else none else none else none else none else out (.pan (.ret ((),((h6,()),()))))
def kT (n:Nat)(h6:LI)(h7:List bj.den)(h8 h9 h10 h11 h12 h13 h14:Int)(h15:List bj.den):Option (aq cl.xs):=kW tt x5 dr nY 0 Tryd.f33 (dF Tryd.f33 0) n (cl.st.mk' ((h6,(h7,(h8,(h9,())))),((h10,(h11,(h12,(h13,(h14,(h15,())))))),()))) (ct cl.xs)
theorem wQ (n:Nat)(h6:LI)(h7:List bj.den)(h8 h9 h10 h11 h12 h13 h14:Int)(h15:List bj.den):kT (n+1) h6 h7 h8 h9 h10 h11 h12 h13 h14 h15=l6 h6 h7 h8 h9 h10 h11 h12 h13 h14 h15 (kT n) some:=by kernel_rfl
theorem AL {r:kc}(h:bk r=0):(ce r).2=0∧(ce r).1.length≤16400:=by
 have e:ce r=(bD (aF (co r).length)++co r,0):=by unfold ce;rw[if_pos h]
 rw[e]
 refine ⟨rfl,?_⟩
 have hs:(co r).length≤16384:=by
  unfold bk at h
  split at h
  ·rename_i h1;exact absurd h h1
  ·split at h
   ·cases h
   ·omega
 have:=re (aF (co r).length)
 simp only[zH]
 omega
theorem pB {r:kc}(h:bk r≠0):(ce r).2=bk r:=by unfold ce;rw[if_neg h]
theorem sy (b1 b2 b3 b4 b5:Int)(rs0:List bp)(h0:1≤rs0.length){f:Int}(hf0:ay rs0=f)(hf:bz .i64 f)(rs:List bp)(hl:rs.length≤256)(hr:∀r∈rs,bz .i64 r.1):∀(k i:Nat) (out:LI),rs.length<i+k→i≤rs.length→cL f (rs.drop i) i=true→out.length≤i*17000→
  kT k out rs (rs.length:Int) i b1 b2 b3 b4 b5 rs0=if (bv f (rs.drop i) i out).2=0 then some (.pan (.ret ((),(((bv f (rs.drop i) i out).1,()),())))) else some (.ret ((),(([],((bv f (rs.drop i) i out).2,())),()))):=by
 intro k
 induction k with
 |zero=>intro i out h;omega
 |succ k ih=>
  intro i out h1 h2 h3 h4
  rw[wQ]
  unfold l6
  by_cases hi:i<rs.length
  ·rw[zE hi] at h3 ⊢
   have hri:=hr rs[i] (List.getElem_mem hi)
   have e0:(rs0.getD (Int.toNat 0) (0,(false,[],()),(false,[],()),[],())).1=f:=by
    rw[← hf0]
    cases rs0 with
    |nil=>simp at h0
    |cons r l=>rfl
   have e1:List.getD rs (i:Int).toNat (0,(false,[],()),(false,[],()),[],())=rs[i]:=by rw[zG,aC hi]
   rw[e0,e1]
   generalize rs[i]=r at *
   simp only[cL,zA] at h3
   obtain ⟨h5,h6⟩:=h3
   refine bT (by simpa using hi) ?_
   refine bT (by simpa using hi) ?_
   refine bT (by simp;omega) ?_
   have eL:bv f (r::rs.drop (i+1)) i out=if aU (r.1 - f)=false then ([],86) else if bk (fe f i r)≠0 then ([],bk (fe f i r)) else bv f (rs.drop (i+1)) (i+1) (out++(ce (fe f i r)).1):=rfl
   rw[eL]
   cases h7:aU (r.1 - f) with
   |false=>
    refine (aa rfl _ _).trans ?_
    rw[if_pos rfl,if_neg (show (86:Int)≠0 by decide)]
   |true=>
    have h8:=r8.1 h7
    refine (ac rfl _ _).trans ?_
    rw[if_neg (show ¬ true=false by decide)]
    have eR:((i64.wrap (r.1 - f),i32.wrap (i:Int),r.2):kc)=fe f i r:=by
     rw[ae h8.1 h8.2,be (k:=.i32) (by simp[bz,IntKind.min,IntKind.max,IntKind.signed,IntKind.bits];omega)]
     rfl
    rw[eR]
    refine (aa h5 _ _).trans ?_
    by_cases h9:bk (fe f i r)=0
    ·obtain ⟨p1,p2⟩:=AL h9
     refine bF (by simpa using p1) ?_
     refine bT (decide_eq_true (by omega)) ?_
     rw[if_neg (aP h9),ae (n:=(i:Int)+1) (by omega) (by omega)]
     exact ih (i+1) _ (by omega) (by omega) h6 (by simp;omega)
    ·refine bT (by rw[pB h9];simpa using h9) ?_
     rw[if_pos h9,pB h9]
     rw[if_neg h9]
  ·refine bF (by simp;omega) ?_
   rw[zI (by omega)]
   rfl
def qj (a0 a1 a2 a3 a4:Int)(a5:List bj.den):Option fY.Res:=bif aD a0 then oR (([],80,()),()) else bif ax a2 a3 a4 then oR (([],84,()),()) else bif (↑a5.length:Int) == 0 then oR (([],85,()),()) else bif decide (256<(↑a5.length:Int)) then oR (([],9,()),()) else (gE (([],(a5,((↑a5.length:Int),(0,())))),((a0,(a1,(a2,(a3,(a4,(a5,())))))),()))).run fun y=>match y with | .ret ((),((x31,x32,()),()))=>(oR ((x31,x32,()),())) | .pan (.ret ((),((x33,()),())))=>(bif decide (32768<(↑x33.length:Int)) then oR (([],4,()),()) else oR ((x33,0,()),()))
theorem Dc (a0 a1 a2 a3 a4:Int)(a5:List bj.den):Io.run tt x5 dr nY fY Tryd.f33 (((a0,a1,a2,a3,a4,a5,()),()),())=qj a0 a1 a2 a3 a4 a5:=by kernel_rfl
theorem qO:HcsOk prog xD:=.cons yJ (.cons yN (.cons CN (.cons GF .nil)))
theorem yO:HcOk prog 33 (ah fY me):=by
 refine cq qO (lp:=nY) (fn:=Tryd.f33) fY (.step (h0:=aI cl gE) (by kernel_rfl) (lL qO (lp:=nY) (fn:=Tryd.f33) (.done (by kernel_rfl)) cl gE ?_) (.done (by kernel_rfl))) me ?_
 ·rintro ⟨⟨(out:LI),(rs:List bp),(m:Int),(i:Int),⟨⟩⟩,⟨⟨(b1:Int),(b2:Int),(b3:Int),(b4:Int),(b5:Int),(rs0:List bp),⟨⟩⟩,⟨⟩⟩⟩ y hw hy
  obtain ⟨hg,hy⟩:=Tr.guard hy
  simp only[zA,zB] at hg
  obtain ⟨h1,h2,h3,⟨h4,h5⟩,h6,h7⟩:=hg
  have h1:i=0:=h1
  have h2:m=(rs.length:Int):=h2
  have h3:out=[]:=List.length_eq_zero_iff.1 h3
  have h4:ay rs0=ay rs:=h4
  have h5:1≤rs0.length:=h5
  have h6:rs.length≤256:=h6
  subst h1 h2 h3
  have hf:bz .i64 (ay rs):=by
   cases rs with
   |nil=>exact ⟨by decide,by decide⟩
   |cons r rs=>exact (hw.1.2.1.2 r (by simp)).1
  refine ⟨rs.length+1,(sy b1 b2 b3 b4 b5 rs0 h5 h4 hf rs h6 (fun r hr=>(hw.1.2.1.2 r hr).1) (rs.length+1) 0 [] (by omega) (by omega) h7 (by simp)).trans ?_⟩
  rw[← hy]
  simp only[Tr.val_ite,zB,Tr.val_ret,List.drop_zero]
 ·rintro ⟨⟨⟨(b1:Int),(b2:Int),(b3:Int),(b4:Int),(b5:Int),(rs:List bp),⟨⟩⟩,⟨⟩⟩,⟨⟩⟩ out hw ho
  obtain ⟨hg,ho⟩:=Tr.guard ho
  have hg:cL (ay rs) rs 0=true:=hg
  cases ho
  refine (Dc b1 b2 b3 b4 b5 rs).trans ?_
  show _=oR (((cM (b1,b2,b3,b4,b5,rs,())).1,(cM (b1,b2,b3,b4,b5,rs,())).2,()),())
  have e:az (b1,b2,b3,b4,b5,rs,())=if aD b1=true then 80 else if ax b3 b4 b5=true then 84 else if rs=[] then 85 else if 256<(rs.length:Int) then 9 else (bc rs).2:=rfl
  have e2:cM (b1,b2,b3,b4,b5,rs,())=if az (b1,b2,b3,b4,b5,rs,())≠0 then ([],az (b1,b2,b3,b4,b5,rs,())) else ((bc rs).1,0):=rfl
  unfold qj
  rw[e2]
  cases h1:aD b1 with
  |true=>
   refine (aa rfl _ _).trans ?_
   rw[show az (b1,b2,b3,b4,b5,rs,())=80 by rw[e,if_pos h1],if_pos (by decide)]
  |false=>
  refine (ac rfl _ _).trans ?_
  cases h2:ax b3 b4 b5 with
  |true=>
   refine (aa rfl _ _).trans ?_
   rw[show az (b1,b2,b3,b4,b5,rs,())=84 by rw[e,if_neg (by rw[h1];decide),if_pos h2],if_pos (by decide)]
  |false=>
  refine (ac rfl _ _).trans ?_
  by_cases h3:rs=[]
  ·refine bT (by simp[h3]) ?_
   rw[show az (b1,b2,b3,b4,b5,rs,())=85 by rw[e,if_neg (by rw[h1];decide),if_neg (by rw[h2];decide),if_pos h3],if_pos (by decide)]
  refine bF (by simp[h3]) ?_
  by_cases h4:256<(rs.length:Int)
  ·refine bT (decide_eq_true h4) ?_
   rw[show az (b1,b2,b3,b4,b5,rs,())=9 by rw[e,if_neg (by rw[h1];decide),if_neg (by rw[h2];decide),if_neg h3,if_pos h4],if_pos (by decide)]
  refine bF (decide_eq_false h4) ?_
  rw[show az (b1,b2,b3,b4,b5,rs,())=(bc rs).2 by rw[e,if_neg (by rw[h1];decide),if_neg (by rw[h2];decide),if_neg h3,if_neg h4]]
  have hp:=List.length_pos_iff.2 h3
  unfold gE
  refine bT (by simp only[zA,zB];exact ⟨trivial,trivial,rfl,⟨trivial,hp⟩,show rs.length≤256 by omega,hg⟩) ?_
  show (bif decide ((bv (ay rs) rs 0 []).2=0) then (bif decide (32768<((bv (ay rs) rs 0 []).1.length:Int)) then oR (([],4,()),()) else oR (((bv (ay rs) rs 0 []).1,0,()),())) else oR (([],(bv (ay rs) rs 0 []).2,()),()))=_
  unfold bc
  by_cases h5:(bv (ay rs) rs 0 []).2=0
  ·refine bT (decide_eq_true h5) ?_
   rw[if_neg (aP h5)]
   by_cases h6:32768<((bv (ay rs) rs 0 []).1.length:Int)
   ·refine bT (decide_eq_true h6) ?_
    rw[if_pos h6,if_pos (show (4:Int)≠0 by decide)]
   ·refine bF (decide_eq_false h6) ?_
    rw[if_neg h6,if_neg (aP rfl)]
  ·refine bF (decide_eq_false h5) ?_
   rw[if_pos h5,if_pos h5]
abbrev fW:Io:=⟨[BO],[],[],[nD],none⟩
def ru (d:fW.In):Tr fW.Res:=.ite (decide (1≤d.1.1.length)) (.ret (.ret ((iC d.1.1,()),()))) .no
abbrev rW:List (Nat×Hc):=[]
def x4:Hd:=bM rW
abbrev cC:Lo:=⟨⟨(.any::cy (.one hI::cV (cy (.one (.hol (.sl 70 bj))::.one hI::.one hI::.any::fc [])))),[]⟩,[(.exit 0,⟨(.any::cy (.one hI::al (cy []))),[]⟩)]⟩
def iQ (d:cC.st.den):Tr (aq cC.xs):=.ite (decide (d.1.2.2.2.1=0)&&decide (d.1.2.2.1=(d.1.2.1.length:Int))) (.ret (.ret ((),((iD d.1.2.1 d.1.1,()),())))) .no
def nX:Lp:=cc [(4,aI cC iQ)]
def nl {R:Type}(h1:Int)(h2:List bj.den)(h3 h4:Int)(next:Int→List bj.den→Int→Int→Option R)(out:aq cC.xs→Option R):Option R:=bif decide (h4<h3) then bif decide (0≤h4)&&decide (h4<(↑h2.length:Int)) then next (eQ h1 (h2.getD h4.toNat (0,(false,[],()),(false,[],()),[],())).1) (h2) (h3) (i64.wrap (h4+1)) else none else out (.ret ((),((h1,()),())))
def mv (n:Nat)(h1:Int)(h2:List bj.den)(h3 h4:Int):Option (aq cC.xs):=kW tt x4 dr nX 0 Tryd.f30 (dF Tryd.f30 0) n (cC.st.mk' ((h1,(h2,(h3,(h4,())))),())) (ct cC.xs)
theorem AB (n:Nat)(h1:Int)(h2:List bj.den)(h3 h4:Int):mv (n+1) h1 h2 h3 h4=nl h1 h2 h3 h4 (mv n) some:=by kernel_rfl
theorem uw (rs:List bp)(hl:rs.length≤maxLen):∀(k i:Nat) (t:Int),rs.length<i+k→i≤rs.length→mv k t rs (rs.length:Int) i=some (.ret ((),((iD (rs.drop i) t,()),()))):=by
 intro k
 induction k with
 |zero=>intro i t h;omega
 |succ k ih=>
  intro i t h1 h2
  rw[AB]
  unfold nl
  by_cases hi:i<rs.length
  ·refine bT (by simpa using hi) ?_
   refine bT (by simpa using hi) ?_
   have e:List.getD rs (i:Int).toNat (0,(false,[],()),(false,[],()),[],())=rs[i]:=by simp only[zG,aC hi]
   rw[e,bm hi hl,zE hi]
   exact ih (i+1) _ (by omega) (by omega)
  ·refine bF (by simp;omega) ?_
   rw[zI (by omega)]
   rfl
def qg (a0:List bj.den):Option fW.Res:=bif decide (0≤0)&&decide (0<(↑a0.length:Int)) then (iQ (((a0.getD (Int.toNat 0) (0,(false,[],()),(false,[],()),[],())).1,(a0,((↑a0.length:Int),(0,())))),())).run fun y=>match y with | .ret ((),((x10,()),()))=>(oR ((x10,()),())) else none
theorem C9 (a0:List bj.den):Io.run tt x4 dr nX fW Tryd.f30 ((a0,()),())=qg a0:=by kernel_rfl
theorem yL:HcOk prog 30 (ah fW ru):=by
 refine cq (cs:=rW) HcsOk.nil (lp:=nX) (fn:=Tryd.f30) fW (.step (h0:=aI cC iQ) (by kernel_rfl) (lL (cs:=rW) HcsOk.nil (lp:=nX) (fn:=Tryd.f30) (.done (by kernel_rfl)) cC iQ ?_) (.done (by kernel_rfl))) ru ?_
 ·rintro ⟨⟨(t:Int),(rs:List bp),(m:Int),(i:Int),⟨⟩⟩,⟨⟩⟩ y hw hy
  obtain ⟨hg,hy⟩:=Tr.guard hy
  simp only[zA,zB] at hg
  obtain ⟨h1,h2⟩:=hg
  have h1:i=0:=h1
  have h2:m=(rs.length:Int):=h2
  subst h1 h2
  refine ⟨rs.length+1,(uw rs hw.1.2.1.1 (rs.length+1) 0 t (by omega) (by omega)).trans ?_⟩
  rw[← hy];rfl
 ·rintro ⟨⟨(rs:List bp),⟨⟩⟩,⟨⟩⟩ out hw ho
  obtain ⟨hg,ho⟩:=Tr.guard ho
  have hg:1≤rs.length:=of_decide_eq_true hg
  cases ho
  refine (C9 rs).trans ?_
  show _=oR ((iC rs,()),())
  unfold qg iQ
  refine bT (by simp;omega) ?_
  refine bT (by simp) ?_
  cases rs with
  |nil=>simp at hg
  |cons r rs=>
   have e:iD (r::rs) r.1=iD rs r.1:=by
    show iD rs (eQ r.1 r.1)=_
    unfold eQ
    rw[if_neg (by omega)]
   exact congrArg (fun x=>oR ((x,()),())) e
abbrev fX:Io:=⟨[dL,dI],[],[],[dI,dI],none⟩
def rx (d:fX.In):Tr fX.Res:=.ite (decide (d.1.1.length≤4294960000)) (.ret (.ret (((ao d.1.1 d.1.2.1).1,(ao d.1.1 d.1.2.1).2,()),()))) .no
abbrev xB:List (Nat×Hc):=[(20,ah gd rJ),(21,ah gb ou)]
def Es:Hd:=bM xB
def ym:Lp:=cc []
def qh (a0:LI)(a1:Int):Option fX.Res:=bif decide (a1<0) then oR ((0,3,()),()) else bif decide ((↑a0.length:Int)<a1) then oR ((0,3,()),()) else bif decide (i64.wrap ((↑a0.length:Int) - a1)<12) then oR ((0,1,()),()) else bif decide (0≤i64.wrap (a1+8))&&(decide (i64.wrap (a1+8)≤i64.wrap (a1+12))&&decide (i64.wrap (a1+12)≤(↑a0.length:Int))) then bif decide ((List.drop (i64.wrap (a1+8)).toNat (List.take (i64.wrap (a1+12)).toNat a0)).length≤4294967296) then bif ca (List.drop (i64.wrap (a1+8)).toNat (List.take (i64.wrap (a1+12)).toNat a0)) 0 then bif decide (i32.wrap (aX (List.drop (i64.wrap (a1+8)).toNat (List.take (i64.wrap (a1+12)).toNat a0)) 0 4).1<49) then oR ((0,5,()),()) else bif decide (35988<i32.wrap (aX (List.drop (i64.wrap (a1+8)).toNat (List.take (i64.wrap (a1+12)).toNat a0)) 0 4).1) then oR ((0,4,()),()) else bif decide (i64.wrap (i64.wrap ((↑a0.length:Int) - a1) - 12)<i64.wrap (i32.wrap (aX (List.drop (i64.wrap (a1+8)).toNat (List.take (i64.wrap (a1+12)).toNat a0)) 0 4).1)) then oR ((0,1,()),()) else oR ((i64.wrap (12+i64.wrap (i32.wrap (aX (List.drop (i64.wrap (a1+8)).toNat (List.take (i64.wrap (a1+12)).toNat a0)) 0 4).1)),0,()),()) else none else none else none
theorem Da (a0:LI)(a1:Int):Io.run tt Es dr ym fX Tryd.f7 ((a0,a1,()),())=qh a0 a1:=by kernel_rfl
theorem yM:HcOk prog 7 (ah fX rx):=by
 refine cq (cs:=xB) (.cons yU (.cons yS .nil)) (lp:=ym) (fn:=Tryd.f7) fX (.done (by kernel_rfl)) rx ?_
 rintro ⟨⟨(b:LI),(p:Int),⟨⟩⟩,⟨⟩⟩ out hw ho
 obtain ⟨hg,ho⟩:=Tr.guard ho
 have hg2:b.length≤4294960000:=of_decide_eq_true hg
 clear hg
 cases ho
 have hb:=cS hw.1.1
 refine (Da b p).trans ?_
 show _=oR (((ao b p).1,(ao b p).2,()),())
 unfold qh ao
 by_cases h1:p<0
 ·refine bT (decide_eq_true h1) ?_
  rw[if_pos (.inl h1)]
 refine bF (decide_eq_false h1) ?_
 by_cases h2:(b.length:Int)<p
 ·refine bT (decide_eq_true h2) ?_
  rw[if_pos (.inr h2)]
 refine bF (decide_eq_false h2) ?_
 rw[if_neg (by omega)]
 obtain ⟨p,rfl⟩:=av (show 0≤p by omega)
 rw[ae (n:=(b.length:Int) - p) (by omega) (by omega),ae (n:=(p:Int)+8) (by omega) (by omega),ae (n:=(p:Int)+12) (by omega) (by omega),ae (n:=(b.length:Int) - p - 12) (by omega) (by omega)]
 by_cases h3:(b.length:Int) - p<12
 ·refine bT (decide_eq_true h3) ?_
  rw[if_pos h3]
 refine bF (decide_eq_false h3) ?_
 rw[if_neg h3]
 refine bT (by simp only[zA,zB];omega) ?_
 have eL:List.drop ((p:Int)+8).toNat (List.take ((p:Int)+12).toNat b)=(b.drop (p+8)).take 4:=by
  rw[List.drop_take,show ((p:Int)+8).toNat=p+8 by omega,show ((p:Int)+12).toNat - (p+8)=4 by omega]
 rw[eL]
 have hL:=gr (b:=b) (p:=p+8) (n:=4) (by omega)
 have hLr:=gm hb (p+8) 4
 have eI:ap b (((p:Nat):Int).toNat+8) 4=bx ((b.drop (p+8)).take 4):=by rw[zG];rfl
 have eR:i32.wrap (aX ((b.drop (p+8)).take 4) 0 4).1=bx ((b.drop (p+8)).take 4):=by
  unfold aX
  rw[if_neg (by rw[hL];decide)]
  show i32.wrap (aY ((((b.drop (p+8)).take 4).drop 0).take 4))=_
  rw[List.drop_zero,List.take_of_length_le (by rw[hL];exact Nat.le_refl 4)]
  exact n9 hLr hL
 have hbd:=DC hLr hL
 rw[eI,eR]
 refine bT (decide_eq_true (by rw[hL];omega)) ?_
 refine bT (by unfold ca;simp only[zA,zB,hL];omega) ?_
 generalize bx ((b.drop (p+8)).take 4)=n at *
 by_cases h4:n<49
 ·refine bT (decide_eq_true h4) ?_
  rw[if_pos h4]
 refine bF (decide_eq_false h4) ?_
 rw[if_neg h4]
 by_cases h5:35988<n
 ·refine bT (decide_eq_true h5) ?_
  rw[if_pos h5]
 refine bF (decide_eq_false h5) ?_
 rw[if_neg h5,ae (n:=n) (by omega) (by omega),ae (n:=12+n) (by omega) (by omega)]
 by_cases h6:(b.length:Int) - p - 12<n
 ·refine bT (decide_eq_true h6) ?_
  rw[if_pos h6]
 refine bF (decide_eq_false h6) ?_
 rw[if_neg h6,Int.add_comm]
def aL (g:kc)(i f:Int):bp×Int:=
 if g.2.1≠i then (od,72)
 else if i=0∧g.1≠0∨aU (f+g.1)=false then (od,86)
 else ((f+g.1,g.2.2.1,g.2.2.2.1,g.2.2.2.2.1,()),0)
abbrev dN:Io:=⟨[zt,dI,nD],[],[],[F4,dI],none⟩
def oh (d:dN.In):Tr dN.Res:=.ret (.ret (((aL d.1.1 d.1.2.1 d.1.2.2.1).1,(aL d.1.1 d.1.2.1 d.1.2.2.1).2,()),()))
abbrev qE:List (Nat×Hc):=[]
def zx:Hd:=bM qE
def qV:Lp:=cc []
def mQ (a0 a1:Int)(a2:Bool)(a3:LI)(a4:Bool)(a5:LI)(a6:List bY.den)(a7 a8:Int):Option dN.Res:=bif i64.wrap a1 != a7 then oR (((0,(false,[],()),(false,[],()),[],()),72,()),()) else bif a7 == 0 then bif a0 != 0 then oR (((0,(false,[],()),(false,[],()),[],()),86,()),()) else bif !decide (i64.wrap (a8+a0)<a8) == decide (a0<0) then oR (((0,(false,[],()),(false,[],()),[],()),86,()),()) else oR (((i64.wrap (a8+a0),(a2,a3,()),(a4,a5,()),a6,()),0,()),()) else bif !decide (i64.wrap (a8+a0)<a8) == decide (a0<0) then oR (((0,(false,[],()),(false,[],()),[],()),86,()),()) else oR (((i64.wrap (a8+a0),(a2,a3,()),(a4,a5,()),a6,()),0,()),())
theorem wF (a0 a1:Int)(a2:Bool)(a3:LI)(a4:Bool)(a5:LI)(a6:List bY.den)(a7 a8:Int):Io.run tt zx dr qV dN Tryd.f29 (((a0,a1,(a2,a3,()),(a4,a5,()),a6,()),a7,a8,()),())=mQ a0 a1 a2 a3 a4 a5 a6 a7 a8:=by kernel_rfl
theorem z7:HcOk prog 29 (ah dN oh):=by
 refine cq (cs:=qE) HcsOk.nil (lp:=qV) (fn:=Tryd.f29) dN (.done (by kernel_rfl)) oh ?_
 rintro ⟨⟨⟨(a0:Int),(a1:Int),⟨(a2:Bool),(a3:LI),⟨⟩⟩,⟨(a4:Bool),(a5:LI),⟨⟩⟩,(a6:List cr),⟨⟩⟩,(i:Int),(f:Int),⟨⟩⟩,⟨⟩⟩ out hw ho
 cases ho
 refine (wF a0 a1 a2 a3 a4 a5 a6 i f).trans ?_
 have h0:bz .i64 a0:=hw.1.1.1
 have h1:bz .i32 a1:=hw.1.1.2.1
 have hf:bz .i64 f:=hw.1.2.2.1
 have b1:=Cj h1
 show _=oR (((aL (a0,a1,(a2,a3,()),(a4,a5,()),a6,()) i f).1,(aL (a0,a1,(a2,a3,()),(a4,a5,()),a6,()) i f).2,()),())
 unfold mQ aL
 simp only
 rw[ae (n:=a1) (by omega) (by omega),Em h0 hf]
 have hfit:aU (f+a0)=true→i64.wrap (f+a0)=f+a0:=fun h=>ae (r8.1 h).1 (r8.1 h).2
 by_cases c1:a1=i
 rotate_left
 ·refine bT (by simpa using c1) ?_
  rw[if_pos c1]
  rfl
 refine bF (by simpa using c1) ?_
 rw[if_neg (aP c1)]
 by_cases c2:i=0
 ·refine bT (by simpa using c2) ?_
  by_cases c3:a0=0
  ·refine bF (by simpa using c3) ?_
   cases c4:aU (f+a0) with
   |false=>
    refine (aa rfl _ _).trans ?_
    rw[if_pos (.inr rfl)]
    rfl
   |true=>
    refine (ac rfl _ _).trans ?_
    rw[if_neg (by rintro (h | h);exact h.2 c3;cases h),hfit c4]
  ·refine bT (by simpa using c3) ?_
   rw[if_pos (.inl ⟨c2,c3⟩)]
   rfl
 ·refine bF (by simpa using c2) ?_
  cases c4:aU (f+a0) with
  |false=>
   refine (aa rfl _ _).trans ?_
   rw[if_pos (.inr rfl)]
   rfl
  |true=>
   refine (ac rfl _ _).trans ?_
   rw[if_neg (by rintro (h | h);exact c2 h.1;cases h),hfit c4]
abbrev fy:Io:=⟨[dL,dB],[],[],[dL,dI],none⟩
def rp (d:fy.In):Tr fy.Res:=.ite (decide (61≤d.1.1.length)&&decide (d.1.1.length≤4294960000)) (.ret (.ret (((aN d.1.1 d.1.2.1).1,(aN d.1.1 d.1.2.1).2,()),()))) .no
abbrev tQ:List (Nat×Hc):=[(54,ah ic vO)]
def B1:Hd:=bM tQ
def uG:Lp:=cc []
def oC (a0:LI)(a1:Bool):Option fy.Res:=bif decide (0≤61)&&(decide (61≤(↑a0.length:Int))&&decide ((↑a0.length:Int)≤(↑a0.length:Int))) then bif a1 then bif decide (32768=32768)&&decide ((List.drop (Int.toNat 61) (List.take (↑a0.length:Int).toNat a0)).length≤4294960000) then oR (((eD (List.drop (Int.toNat 61) (List.take (↑a0.length:Int).toNat a0))).1,(eD (List.drop (Int.toNat 61) (List.take (↑a0.length:Int).toNat a0))).2,()),()) else none else bif decide (32768<(↑(List.drop (Int.toNat 61) (List.take (↑a0.length:Int).toNat a0)).length:Int)) then oR (([],4,()),()) else oR ((List.drop (Int.toNat 61) (List.take (↑a0.length:Int).toNat a0),0,()),()) else none
theorem Ai (a0:LI)(a1:Bool):Io.run tt B1 dr uG fy Tryd.f27 ((a0,a1,()),())=oC a0 a1:=by kernel_rfl
theorem CM:HcOk prog 27 (ah fy rp):=by
 refine cq (cs:=tQ) (.cons EY .nil) (lp:=uG) (fn:=Tryd.f27) fy (.done (by kernel_rfl)) rp ?_
 rintro ⟨⟨(b:LI),(packed:Bool),⟨⟩⟩,⟨⟩⟩ out hw ho
 obtain ⟨hg,ho⟩:=Tr.guard ho
 simp only[zA,zB] at hg
 have h1:61≤b.length:=hg.1
 have h2:b.length≤4294960000:=hg.2
 cases ho
 refine (Ai b packed).trans ?_
 show _=oR (((aN b packed).1,(aN b packed).2,()),())
 unfold oC aN
 rw[zG,List.take_length,show Int.toNat 61=61 from rfl]
 refine bT (by simp only[zA,zB];omega) ?_
 cases packed with
 |true=>
  refine (aa rfl _ _).trans ?_
  refine bT (by simp;omega) ?_
  rfl
 |false=>
  refine (ac rfl _ _).trans ?_
  by_cases h3:32768<((b.drop 61).length:Int)
  ·refine bT (decide_eq_true h3) ?_
   rw[if_neg (by decide),if_pos h3]
  ·refine bF (decide_eq_false h3) ?_
   rw[if_neg (by decide),if_neg h3]
theorem HcOk.weakB {f:Nat}{io:Io}{Fn Fn':io.In→Tr io.Res}(h:HcOk prog f (ah io Fn))(hF:∀d y,io.wf d→(Fn' d).val=some y→(Fn d).val=some y):HcOk prog f (ah io Fn'):=by
 intro R args id A K r F G ts cst w vals hid hc Rl hv
 unfold ah at hc
 cases h1:nH io.args args (List.replicate io.obs.length Option.none) with
 |none=>rw[h1] at hc;cases hc
 |some p=>
  obtain ⟨a,β1⟩:=p
  rw[h1] at hc
  simp only at hc
  cases h2:AW A.ob io.obs 0 β1 with
  |none=>rw[h2] at hc;cases hc
  |some q=>
   obtain ⟨o,β⟩:=q
   rw[h2] at hc
   simp only at hc
   have hn:=fun y=>hF (a,o) y ⟨sK h1 hv,ww Rl.ob h2⟩
   refine h R args id A K r F G ts cst w vals hid ?_ Rl hv
   unfold ah
   rw[h1]
   simp only[h2]
   revert hc
   cases aH ((dY (ch 0) io.args args 0++iO A.ob β (i0 io.obs.length 0) io.obs 0).map (·.2))&&(aH ((dY (ch 0) io.args args 0++iO A.ob β (i0 io.obs.length 0) io.obs 0).map (·.1))&&io.ok) with
   |false=>intro hc;cases hc
   |true=>
    intro hc
    obtain ⟨out,ho,hk⟩:=Tr.run_val hc
    exact (Tr.run_of_val (hn out ho)).trans hk
@[irreducible] def ar (b:LI)(p:Int)(n:Nat):Int:=bx ((b.drop p.toNat).take n)
theorem gN (b:LI)(p n:Nat):ar b (p:Int) n=ap b p n:=by unfold ar ap;rw[zG]
def fS (b:LI)(p n:Int):Bool:=decide (b.length≤4294960000)&&(decide (0≤p)&&decide (p+n≤(b.length:Int)))
theorem jE {b:LI}{p n:Int}(h:fS b p n=true):b.length≤4294960000∧0≤p∧p+n≤(b.length:Int):=by
 simpa [fS] using h
abbrev sk:Io:=ii
def FH (d:sk.In):Tr sk.Res:=
 .ite (fS d.2.1.1 d.2.1.2.1 8) (.ret (.ret ((ar d.2.1.1 d.2.1.2.1 8,(0,())),((d.2.1.1,(d.2.1.2.1+8,())),())))) .no
theorem Gy:HcOk prog 47 (ah sk FH):=by
 refine HcOk.weakB E0 ?_
 rintro ⟨⟨⟨⟩,⟨⟩⟩,⟨⟨(b:LI),(p:Int),⟨⟩⟩,⟨⟩⟩⟩ y hw hy
 obtain ⟨hg,hy⟩:=Tr.guard hy
 obtain ⟨h1,h2,h3⟩:=jE (b:=b) (p:=p) (n:=8) hg
 rw[← hy]
 obtain ⟨p,rfl⟩:=av h2
 have hb:=cS hw.2.1.1
 have hL:=gr (b:=b) (p:=p) (n:=8) (by omega)
 have hk:ca b p=true:=by unfold ca;simp only[zA,zB];omega
 have e:aX b (p:Int) 8=(aY ((b.drop p).take 8),((p:Int)+8,0)):=by unfold aX;rw[if_neg (by omega),zG];rfl
 have e2:i64.wrap (aY ((b.drop p).take 8))=ar b (p:Int) 8:=by rw[gN];exact Fw (gm hb p 8) hL
 show (rI (((),()),((b,((p:Int),())),()))).val=some (.ret ((ar b (p:Int) 8,(0,())),((b,((p:Int)+8,())),())))
 unfold rI
 rw[Tr.val_ite,if_pos hk,Tr.val_ret]
 show oR ((i64.wrap (aX b (p:Int) 8).1,((aX b (p:Int) 8).2.2,())),((b,((aX b (p:Int) 8).2.1,())),()))=_
 rw[e,← e2]
abbrev sj:Io:=gb
def FG (d:sj.In):Tr sj.Res:=
 .ite (fS d.2.1.1 d.2.1.2.1 4) (.ret (.ret ((ar d.2.1.1 d.2.1.2.1 4,(0,())),((d.2.1.1,(d.2.1.2.1+4,())),())))) .no
theorem Gx:HcOk prog 21 (ah sj FG):=by
 refine HcOk.weakB yS ?_
 rintro ⟨⟨⟨⟩,⟨⟩⟩,⟨⟨(b:LI),(p:Int),⟨⟩⟩,⟨⟩⟩⟩ y hw hy
 obtain ⟨hg,hy⟩:=Tr.guard hy
 obtain ⟨h1,h2,h3⟩:=jE (b:=b) (p:=p) (n:=4) hg
 rw[← hy]
 obtain ⟨p,rfl⟩:=av h2
 have hb:=cS hw.2.1.1
 have hL:=gr (b:=b) (p:=p) (n:=4) (by omega)
 have hk:ca b p=true:=by unfold ca;simp only[zA,zB];omega
 have e:aX b (p:Int) 4=(aY ((b.drop p).take 4),((p:Int)+4,0)):=by unfold aX;rw[if_neg (by omega),zG];rfl
 have e2:i32.wrap (aY ((b.drop p).take 4))=ar b (p:Int) 4:=by rw[gN];exact n9 (gm hb p 4) hL
 show (ou (((),()),((b,((p:Int),())),()))).val=some (.ret ((ar b (p:Int) 4,(0,())),((b,((p:Int)+4,())),())))
 unfold ou
 rw[Tr.val_ite,if_pos hk,Tr.val_ret]
 show oR ((i32.wrap (aX b (p:Int) 4).1,((aX b (p:Int) 4).2.2,())),((b,((aX b (p:Int) 4).2.1,())),()))=_
 rw[e,← e2]
abbrev si:Io:=ig
def FF (d:si.In):Tr si.Res:=
 .ite (fS d.2.1.1 d.2.1.2.1 2) (.ret (.ret ((ar d.2.1.1 d.2.1.2.1 2,(0,())),((d.2.1.1,(d.2.1.2.1+2,())),())))) .no
theorem Gw:HcOk prog 50 (ah si FF):=by
 refine HcOk.weakB EZ ?_
 rintro ⟨⟨⟨⟩,⟨⟩⟩,⟨⟨(b:LI),(p:Int),⟨⟩⟩,⟨⟩⟩⟩ y hw hy
 obtain ⟨hg,hy⟩:=Tr.guard hy
 obtain ⟨h1,h2,h3⟩:=jE (b:=b) (p:=p) (n:=2) hg
 rw[← hy]
 obtain ⟨p,rfl⟩:=av h2
 have hb:=cS hw.2.1.1
 have hL:=gr (b:=b) (p:=p) (n:=2) (by omega)
 have hk:ca b p=true:=by unfold ca;simp only[zA,zB];omega
 have e:aX b (p:Int) 2=(aY ((b.drop p).take 2),((p:Int)+2,0)):=by unfold aX;rw[if_neg (by omega),zG];rfl
 have e2:i16.wrap (aY ((b.drop p).take 2))=ar b (p:Int) 2:=by rw[gN];exact za (gm hb p 2) hL
 show (rH (((),()),((b,((p:Int),())),()))).val=some (.ret ((ar b (p:Int) 2,(0,())),((b,((p:Int)+2,())),())))
 unfold rH
 rw[Tr.val_ite,if_pos hk,Tr.val_ret]
 show oR ((i16.wrap (aX b (p:Int) 2).1,((aX b (p:Int) 2).2.2,())),((b,((aX b (p:Int) 2).2.1,())),()))=_
 rw[e,← e2]
abbrev yg:Io:=kN
def Hi (d:yg.In):Tr yg.Res:=
 .ite (fS d.2.1.1 d.2.1.2.1 1) (.ret (.ret ((ar d.2.1.1 d.2.1.2.1 1,(0,())),((d.2.1.1,(d.2.1.2.1+1,())),())))) .no
theorem HD:HcOk prog 49 (ah yg Hi):=by
 refine HcOk.weakB GK ?_
 rintro ⟨⟨⟨⟩,⟨⟩⟩,⟨⟨(b:LI),(p:Int),⟨⟩⟩,⟨⟩⟩⟩ y hw hy
 obtain ⟨hg,hy⟩:=Tr.guard hy
 obtain ⟨h1,h2,h3⟩:=jE (b:=b) (p:=p) (n:=1) hg
 rw[← hy]
 obtain ⟨p,rfl⟩:=av h2
 have hb:=cS hw.2.1.1
 have hL:=gr (b:=b) (p:=p) (n:=1) (by omega)
 have hk:ca b p=true:=by unfold ca;simp only[zA,zB];omega
 have e:aX b (p:Int) 1=(aY ((b.drop p).take 1),((p:Int)+1,0)):=by unfold aX;rw[if_neg (by omega),zG];rfl
 have e2:i8.wrap (aY ((b.drop p).take 1))=ar b (p:Int) 1:=by rw[gN];exact GY (gm hb p 1) hL
 show (xj (((),()),((b,((p:Int),())),()))).val=some (.ret ((ar b (p:Int) 1,(0,())),((b,((p:Int)+1,())),())))
 unfold xj
 rw[Tr.val_ite,if_pos hk,Tr.val_ret]
 show oR ((i8.wrap (aX b (p:Int) 1).1,((aX b (p:Int) 1).2.2,())),((b,((aX b (p:Int) 1).2.1,())),()))=_
 rw[e,← e2]
abbrev nV:Io:=fH
def A7 (d:nV.In):Tr nV.Res:=
 .ite (fS d.2.1.1 d.2.1.2.1 d.1.2.1&&decide (0≤d.1.2.1)) (.ret (.ret ((0,()),((d.2.1.1,(d.2.1.2.1+d.1.2.1,())),())))) .no
theorem EU:HcOk prog 48 (ah nV A7):=by
 refine HcOk.weakB CZ ?_
 rintro ⟨⟨⟨⟩,(n:Int),⟨⟩⟩,⟨⟨(b:LI),(p:Int),⟨⟩⟩,⟨⟩⟩⟩ y hw hy
 obtain ⟨hg,hy⟩:=Tr.guard hy
 simp only[zA,zB] at hg
 obtain ⟨h1,h2,h3⟩:=jE (b:=b) (p:=p) (n:=n) hg.1
 have h4:0≤n:=hg.2
 rw[← hy]
 have hk:ca b p=true:=by unfold ca;simp only[zA,zB];omega
 have e:k6 b p n=(p+n,0):=by unfold k6;rw[if_neg (by omega),if_neg (by omega)]
 show (nN (((),(n,())),((b,(p,())),()))).val=some (.ret ((0,()),((b,(p+n,())),())))
 unfold nN
 rw[Tr.val_ite,if_pos hk,Tr.val_ret]
 show oR (((k6 b p n).2,()),((b,((k6 b p n).1,())),()))=_
 rw[e]
def vY (a0:LI):Option (Out ((p8×Int×Unit)×Unit) Empty):=bif aD (ar (a0.take 61) 0 8) then oR (((0,0,0,false,0,0,0,0,0,0,()),80,()),()) else bif ar (a0.take 61) (0+8+4+4+1+4) 2 != 0&&!ar (a0.take 61) (0+8+4+4+1+4) 2 == 1 then oR (((0,0,0,false,0,0,0,0,0,0,()),83,()),()) else bif ax (ar (a0.take 61) (0+8+4+4+1+4+2+4+8+8) 8) (ar (a0.take 61) (0+8+4+4+1+4+2+4+8+8+8) 2) (ar (a0.take 61) (0+8+4+4+1+4+2+4+8+8+8+2) 4) then oR (((0,0,0,false,0,0,0,0,0,0,()),84,()),()) else bif decide (ar (a0.take 61) (0+8+4+4+1+4+2+4+8+8+8+2+4) 4<1) then oR (((0,0,0,false,0,0,0,0,0,0,()),85,()),()) else bif decide (256<ar (a0.take 61) (0+8+4+4+1+4+2+4+8+8+8+2+4) 4) then oR (((0,0,0,false,0,0,0,0,0,0,()),9,()),()) else bif ar (a0.take 61) (0+8+4+4+1+4+2) 4 != i32.wrap (ar (a0.take 61) (0+8+4+4+1+4+2+4+8+8+8+2+4) 4 - 1) then oR (((0,0,0,false,0,0,0,0,0,0,()),72,()),()) else bif (ao a0 0).2 != 0 then oR (((0,0,0,false,0,0,0,0,0,0,()),(ao a0 0).2,()),()) else oR (((ar (a0.take 61) 0 8,(ao a0 0).1,ar (a0.take 61) (0+8+4) 4,ar (a0.take 61) (0+8+4+4+1+4) 2 == 1,i64.wrap (ar (a0.take 61) (0+8+4+4+1+4+2+4+8+8+8+2+4) 4),ar (a0.take 61) (0+8+4+4+1+4+2+4) 8,ar (a0.take 61) (0+8+4+4+1+4+2+4+8) 8,ar (a0.take 61) (0+8+4+4+1+4+2+4+8+8) 8,ar (a0.take 61) (0+8+4+4+1+4+2+4+8+8+8) 2,ar (a0.take 61) (0+8+4+4+1+4+2+4+8+8+8+2) 4,()),0,()),())
theorem F1 {b:LI}{p:Nat}(h:p<b.length):(b.drop p).take 1=[b.getD p 0]:=by
 rw[zE h,List.take_succ_cons,List.take_zero,aC h]
theorem HP {b:LI}{p:Nat}(h:p+1<b.length):(b.drop p).take 2=[b.getD p 0,b.getD (p+1) 0]:=by
 rw[zE (show p<b.length by omega),List.take_succ_cons,F1 h,aC (show p<b.length by omega)]
theorem HJ {b:LI}{p:Nat}(h:p<b.length):ap b p 1=if 128≤b.getD p 0 then b.getD p 0 - 256 else b.getD p 0:=by
 unfold ap;rw[F1 h];rfl
theorem HK {b:LI}{p:Nat}(h:p+1<b.length):ap b p 2=(if 128≤b.getD p 0 then b.getD p 0 - 256 else b.getD p 0)*256+b.getD (p+1) 0:=by
 unfold ap;rw[HP h];rfl
theorem FC:∀{l:LI},(∀c∈l,0≤c∧c≤255)→l.length=4→u32.wrap (bx l)=aY l
 |[a,b,c,d],h,_=>by
  have ha:=h a (by simp)
  have hb:=h b (by simp)
  have hc:=h c (by simp)
  have hd:=h d (by simp)
  simp only[aY,bx,List.foldl_cons,List.foldl_nil]
  simp[IntKind.wrap,IntKind.signed,IntKind.bits] <;> (try split) <;> omega
theorem xr:∀{l:LI},(∀c∈l,0≤c∧c≤255)→l.length=4→∀{x:Int},0≤x→x<4294967296→(l=aw x 4↔aY l=x)
 |[a,b,c,d],h,_,x,h0,h1=>by
  have ha:=h a (by simp)
  have hb:=h b (by simp)
  have hc:=h c (by simp)
  have hd:=h d (by simp)
  simp only[aY,aw,List.foldl_cons,List.foldl_nil,List.cons.injEq,and_true]
  constructor
  ·rintro ⟨rfl,rfl,rfl,rfl⟩
   omega
  ·intro h
   omega
theorem vr (c:Int){b:LI}(hc:0≤c∧c<4294967296)(hb:∀x∈b,0≤x∧x≤255):0≤cd c b∧cd c b<4294967296:=by
 unfold cd
 have h1:=Nat.xor_lt_two_pow (n:=32) (show c.toNat<2 ^ 32 by omega) (show 4294967295<2 ^ 32 by decide)
 have h2:=Nat.xor_lt_two_pow (n:=32) (nP hb h1) (show 4294967295<2 ^ 32 by decide)
 omega
theorem rg {b:LI}{p:Int}(h:(ao b p).2=0):61≤(ao b p).1∧(ao b p).1≤36000∧p+(ao b p).1≤(b.length:Int)∧0≤p:=by
 unfold ao at h ⊢
 split
 ·rename_i h1;rw[if_pos h1] at h;cases h
 rename_i h1;rw[if_neg h1] at h
 split
 ·rename_i h2;rw[if_pos h2] at h;cases h
 rename_i h2;rw[if_neg h2] at h
 split
 ·rename_i h3;rw[if_pos h3] at h;cases h
 rename_i h3;rw[if_neg h3] at h
 split
 ·rename_i h4;rw[if_pos h4] at h;cases h
 rename_i h4;rw[if_neg h4] at h
 split
 ·rename_i h5;rw[if_pos h5] at h;cases h
 simp only
 omega
theorem zk {b:LI}(hb:∀c∈b,0≤c∧c≤255)(hl:61≤b.length)(h0:(ao b 0).2=0)(h1:¬(ao b 0).1<(b.length:Int)):
  vY b=some (.ret ((if aD (ap b 0 8)=true then (aK,(80,())) else if b.getD 21 0≠0∨1<b.getD 22 0 then (aK,(83,())) else if ax (ap b 43 8) (ap b 51 2) (ap b 53 4)=true then (aK,(84,())) else if ap b 57 4<1 then (aK,(85,())) else if 256<ap b 57 4 then (aK,(9,())) else if ap b 23 4≠ap b 57 4 - 1 then (aK,(72,())) else (iB b,(0,()))),())):=by
 have hz:∀p n:Nat,p+n≤61→ar (b.take 61) (p:Int) n=ap b p n:=by
  intro p n h
  rw[gN]
  unfold ap
  rw[List.drop_take,List.take_take,Nat.min_eq_left (by omega)]
 have z0:ar (b.take 61) 0 8=ap b 0 8:=hz 0 8 (by decide)
 have z12:ar (b.take 61) (0+8+4) 4=ap b 12 4:=hz 12 4 (by decide)
 have z21:ar (b.take 61) (0+8+4+4+1+4) 2=ap b 21 2:=hz 21 2 (by decide)
 have z23:ar (b.take 61) (0+8+4+4+1+4+2) 4=ap b 23 4:=hz 23 4 (by decide)
 have z27:ar (b.take 61) (0+8+4+4+1+4+2+4) 8=ap b 27 8:=hz 27 8 (by decide)
 have z35:ar (b.take 61) (0+8+4+4+1+4+2+4+8) 8=ap b 35 8:=hz 35 8 (by decide)
 have z43:ar (b.take 61) (0+8+4+4+1+4+2+4+8+8) 8=ap b 43 8:=hz 43 8 (by decide)
 have z51:ar (b.take 61) (0+8+4+4+1+4+2+4+8+8+8) 2=ap b 51 2:=hz 51 2 (by decide)
 have z53:ar (b.take 61) (0+8+4+4+1+4+2+4+8+8+8+2) 4=ap b 53 4:=hz 53 4 (by decide)
 have z57:ar (b.take 61) (0+8+4+4+1+4+2+4+8+8+8+2+4) 4=ap b 57 4:=hz 57 4 (by decide)
 have a21:=HK (b:=b) (p:=21) (by omega)
 have hat:∀i,0≤b.getD i 0∧b.getD i 0≤255:=fun i=>by
  rw[List.getD_eq_getElem?_getD]
  cases e:b[i]? with
  |none=>exact ⟨by decide,by decide⟩
  |some x=>exact hb x (List.mem_of_getElem? e)
 have g21:=hat 21
 have g22:=hat 22
 have hm:=rg h0
 have hsz:(ao b 0).1=(b.length:Int):=by omega
 unfold vY
 rw[z0,z12,z21,z23,z27,z35,z43,z51,z53,z57,h0,hsz]
 have hI:iB b=(ap b 0 8,(b.length:Int),ap b 12 4,decide (b.getD 22 0=1),ap b 57 4,ap b 27 8,ap b 35 8,ap b 43 8,ap b 51 2,ap b 53 4,()):=rfl
 rw[hI,a21]
 generalize b.getD 21 0=x at *
 generalize b.getD (21+1) 0=y at *
 generalize ap b 0 8=base at *
 generalize ap b 57 4=cnt at *
 generalize ap b 23 4=mst at *
 cases c1:aD base with
 |true=>exact (aa rfl _ _)
 |false=>
 refine (ac rfl _ _).trans ?_
 rw[if_neg (show ¬ false=true by decide)]
 by_cases c2:x≠0∨1<y
 ·refine (aa ?_ _ _).trans ?_
  ·simp only[zA,Bool.not_eq_true',bne_iff_ne,beq_eq_false_iff_ne]
   split <;> omega
  ·rw[if_pos c2]
   rfl
 refine (ac ?_ _ _).trans ?_
 ·by_cases hy:y=0
  ·rw[show (if 128≤x then x - 256 else x)*256+y=0 by rw[if_neg (by omega)];omega]
   rfl
  ·rw[show (if 128≤x then x - 256 else x)*256+y=1 by rw[if_neg (by omega)];omega]
   rfl
 rw[if_neg c2]
 have hx:x=0:=by omega
 have hxy:((if 128≤x then x - 256 else x)*256+y == 1)=decide (y=1):=by
  subst hx
  rw[if_neg (by decide),show (0:Int)*256+y=y by omega]
  by_cases h:y=1 <;> simp[h]
 rw[hxy]
 cases c3:ax (ap b 43 8) (ap b 51 2) (ap b 53 4) with
 |true=>exact (aa rfl _ _)
 |false=>
 refine (ac rfl _ _).trans ?_
 rw[if_neg (show ¬ false=true by decide)]
 by_cases c4:cnt<1
 ·refine bT (decide_eq_true c4) ?_
  rw[if_pos c4]
  rfl
 refine bF (decide_eq_false c4) ?_
 rw[if_neg c4]
 by_cases c5:256<cnt
 ·refine bT (decide_eq_true c5) ?_
  rw[if_pos c5]
  rfl
 refine bF (decide_eq_false c5) ?_
 rw[if_neg c5,be (k:=.i32) (n:=cnt - 1) (by simp[bz,IntKind.min,IntKind.max,IntKind.signed,IntKind.bits];omega),ae (n:=cnt) (by omega) (by omega)]
 by_cases c6:mst=cnt - 1
 ·refine bF (by simpa using c6) ?_
  rw[if_neg (aP c6)]
  exact ac rfl _ _
 ·refine bT (by simpa using c6) ?_
  rw[if_pos c6]
  rfl
abbrev eZ:Io:=⟨[dL,dB],[],[],[BN,dI],none⟩
def rt (d:eZ.In):Tr eZ.Res:=.ite (decide (d.1.1.length≤4294960000)) (.ret (.ret (((aj d.1.1 d.1.2.1).1,(aj d.1.1 d.1.2.1).2,()),()))) .no
abbrev xA:List (Nat×Hc):=[(7,ah fX rx),(20,ah gd rJ),(47,ah sk FH),(48,ah nV A7),(21,ah sj FG),(49,ah yg Hi),(50,ah si FF),(42,ah fZ rB),(51,ah fV rn),(52,ah fa ry)]
def Er:Hd:=bM xA
def yl:Lp:=cc []
def qf (a0:LI)(a1:Bool):Option eZ.Res:=bif decide ((↑a0.length:Int)<61) then oR (((0,0,0,false,0,0,0,0,0,0,()),1,()),()) else bif decide (a0.length≤4294960000) then bif (ao a0 0).2 != 0 then oR (((0,0,0,false,0,0,0,0,0,0,()),(ao a0 0).2,()),()) else bif decide ((ao a0 0).1<(↑a0.length:Int)) then oR (((0,0,0,false,0,0,0,0,0,0,()),2,()),()) else bif decide (0≤0)&&(decide (0≤61)&&decide (61≤(↑a0.length:Int))) then bif decide ((List.drop (Int.toNat 0) (List.take (Int.toNat 61) a0)).length≤4294967296) then bif fS (List.drop (Int.toNat 0) (List.take (Int.toNat 61) a0)) 0 8 then bif fS (List.drop (Int.toNat 0) (List.take (Int.toNat 61) a0)) (0+8) 4&&decide (0≤4) then bif fS (List.drop (Int.toNat 0) (List.take (Int.toNat 61) a0)) (0+8+4) 4 then bif fS (List.drop (Int.toNat 0) (List.take (Int.toNat 61) a0)) (0+8+4+4) 1 then bif fS (List.drop (Int.toNat 0) (List.take (Int.toNat 61) a0)) (0+8+4+4+1) 4 then bif fS (List.drop (Int.toNat 0) (List.take (Int.toNat 61) a0)) (0+8+4+4+1+4) 2 then bif fS (List.drop (Int.toNat 0) (List.take (Int.toNat 61) a0)) (0+8+4+4+1+4+2) 4 then bif fS (List.drop (Int.toNat 0) (List.take (Int.toNat 61) a0)) (0+8+4+4+1+4+2+4) 8 then bif fS (List.drop (Int.toNat 0) (List.take (Int.toNat 61) a0)) (0+8+4+4+1+4+2+4+8) 8 then bif fS (List.drop (Int.toNat 0) (List.take (Int.toNat 61) a0)) (0+8+4+4+1+4+2+4+8+8) 8 then bif fS (List.drop (Int.toNat 0) (List.take (Int.toNat 61) a0)) (0+8+4+4+1+4+2+4+8+8+8) 2 then bif fS (List.drop (Int.toNat 0) (List.take (Int.toNat 61) a0)) (0+8+4+4+1+4+2+4+8+8+8+2) 4 then bif fS (List.drop (Int.toNat 0) (List.take (Int.toNat 61) a0)) (0+8+4+4+1+4+2+4+8+8+8+2+4) 4 then bif ar (List.drop (Int.toNat 0) (List.take (Int.toNat 61) a0)) (0+8+4+4) 1 != 2 then oR (((0,0,0,false,0,0,0,0,0,0,()),81,()),()) else bif a1 then bif decide (0≤21)&&(decide (21≤(↑a0.length:Int))&&decide ((↑a0.length:Int)≤(↑a0.length:Int))) then bif u32.wrap (ar (List.drop (Int.toNat 0) (List.take (Int.toNat 61) a0)) (0+8+4+4+1) 4) != mL [List.drop (Int.toNat 21) (List.take (↑a0.length:Int).toNat a0)] 0 then oR (((0,0,0,false,0,0,0,0,0,0,()),82,()),()) else bif aD (ar (List.drop (Int.toNat 0) (List.take (Int.toNat 61) a0)) 0 8) then oR (((0,0,0,false,0,0,0,0,0,0,()),80,()),()) else bif ar (List.drop (Int.toNat 0) (List.take (Int.toNat 61) a0)) (0+8+4+4+1+4) 2 != 0&&!ar (List.drop (Int.toNat 0) (List.take (Int.toNat 61) a0)) (0+8+4+4+1+4) 2 == 1 then oR (((0,0,0,false,0,0,0,0,0,0,()),83,()),()) else bif ax (ar (List.drop (Int.toNat 0) (List.take (Int.toNat 61) a0)) (0+8+4+4+1+4+2+4+8+8) 8) (ar (List.drop (Int.toNat 0) (List.take (Int.toNat 61) a0)) (0+8+4+4+1+4+2+4+8+8+8) 2) (ar (List.drop (Int.toNat 0) (List.take (Int.toNat 61) a0)) (0+8+4+4+1+4+2+4+8+8+8+2) 4) then oR (((0,0,0,false,0,0,0,0,0,0,()),84,()),()) else bif decide (ar (List.drop (Int.toNat 0) (List.take (Int.toNat 61) a0)) (0+8+4+4+1+4+2+4+8+8+8+2+4) 4<1) then oR (((0,0,0,false,0,0,0,0,0,0,()),85,()),()) else bif decide (256<ar (List.drop (Int.toNat 0) (List.take (Int.toNat 61) a0)) (0+8+4+4+1+4+2+4+8+8+8+2+4) 4) then oR (((0,0,0,false,0,0,0,0,0,0,()),9,()),()) else bif ar (List.drop (Int.toNat 0) (List.take (Int.toNat 61) a0)) (0+8+4+4+1+4+2) 4 != i32.wrap (ar (List.drop (Int.toNat 0) (List.take (Int.toNat 61) a0)) (0+8+4+4+1+4+2+4+8+8+8+2+4) 4 - 1) then oR (((0,0,0,false,0,0,0,0,0,0,()),72,()),()) else bif (ao a0 0).2 != 0 then oR (((0,0,0,false,0,0,0,0,0,0,()),(ao a0 0).2,()),()) else oR (((ar (List.drop (Int.toNat 0) (List.take (Int.toNat 61) a0)) 0 8,(ao a0 0).1,ar (List.drop (Int.toNat 0) (List.take (Int.toNat 61) a0)) (0+8+4) 4,ar (List.drop (Int.toNat 0) (List.take (Int.toNat 61) a0)) (0+8+4+4+1+4) 2 == 1,i64.wrap (ar (List.drop (Int.toNat 0) (List.take (Int.toNat 61) a0)) (0+8+4+4+1+4+2+4+8+8+8+2+4) 4),ar (List.drop (Int.toNat 0) (List.take (Int.toNat 61) a0)) (0+8+4+4+1+4+2+4) 8,ar (List.drop (Int.toNat 0) (List.take (Int.toNat 61) a0)) (0+8+4+4+1+4+2+4+8) 8,ar (List.drop (Int.toNat 0) (List.take (Int.toNat 61) a0)) (0+8+4+4+1+4+2+4+8+8) 8,ar (List.drop (Int.toNat 0) (List.take (Int.toNat 61) a0)) (0+8+4+4+1+4+2+4+8+8+8) 2,ar (List.drop (Int.toNat 0) (List.take (Int.toNat 61) a0)) (0+8+4+4+1+4+2+4+8+8+8+2) 4,()),0,()),()) else none else bif aD (ar (List.drop (Int.toNat 0) (List.take (Int.toNat 61) a0)) 0 8) then oR (((0,0,0,false,0,0,0,0,0,0,()),80,()),()) else bif ar (List.drop (Int.toNat 0) (List.take (Int.toNat 61) a0)) (0+8+4+4+1+4) 2 != 0&&!ar (List.drop (Int.toNat 0) (List.take (Int.toNat 61) a0)) (0+8+4+4+1+4) 2 == 1 then oR (((0,0,0,false,0,0,0,0,0,0,()),83,()),()) else bif ax (ar (List.drop (Int.toNat 0) (List.take (Int.toNat 61) a0)) (0+8+4+4+1+4+2+4+8+8) 8) (ar (List.drop (Int.toNat 0) (List.take (Int.toNat 61) a0)) (0+8+4+4+1+4+2+4+8+8+8) 2) (ar (List.drop (Int.toNat 0) (List.take (Int.toNat 61) a0)) (0+8+4+4+1+4+2+4+8+8+8+2) 4) then oR (((0,0,0,false,0,0,0,0,0,0,()),84,()),()) else bif decide (ar (List.drop (Int.toNat 0) (List.take (Int.toNat 61) a0)) (0+8+4+4+1+4+2+4+8+8+8+2+4) 4<1) then oR (((0,0,0,false,0,0,0,0,0,0,()),85,()),()) else bif decide (256<ar (List.drop (Int.toNat 0) (List.take (Int.toNat 61) a0)) (0+8+4+4+1+4+2+4+8+8+8+2+4) 4) then oR (((0,0,0,false,0,0,0,0,0,0,()),9,()),()) else bif ar (List.drop (Int.toNat 0) (List.take (Int.toNat 61) a0)) (0+8+4+4+1+4+2) 4 != i32.wrap (ar (List.drop (Int.toNat 0) (List.take (Int.toNat 61) a0)) (0+8+4+4+1+4+2+4+8+8+8+2+4) 4 - 1) then oR (((0,0,0,false,0,0,0,0,0,0,()),72,()),()) else bif (ao a0 0).2 != 0 then oR (((0,0,0,false,0,0,0,0,0,0,()),(ao a0 0).2,()),()) else oR (((ar (List.drop (Int.toNat 0) (List.take (Int.toNat 61) a0)) 0 8,(ao a0 0).1,ar (List.drop (Int.toNat 0) (List.take (Int.toNat 61) a0)) (0+8+4) 4,ar (List.drop (Int.toNat 0) (List.take (Int.toNat 61) a0)) (0+8+4+4+1+4) 2 == 1,i64.wrap (ar (List.drop (Int.toNat 0) (List.take (Int.toNat 61) a0)) (0+8+4+4+1+4+2+4+8+8+8+2+4) 4),ar (List.drop (Int.toNat 0) (List.take (Int.toNat 61) a0)) (0+8+4+4+1+4+2+4) 8,ar (List.drop (Int.toNat 0) (List.take (Int.toNat 61) a0)) (0+8+4+4+1+4+2+4+8) 8,ar (List.drop (Int.toNat 0) (List.take (Int.toNat 61) a0)) (0+8+4+4+1+4+2+4+8+8) 8,ar (List.drop (Int.toNat 0) (List.take (Int.toNat 61) a0)) (0+8+4+4+1+4+2+4+8+8+8) 2,ar (List.drop (Int.toNat 0) (List.take (Int.toNat 61) a0)) (0+8+4+4+1+4+2+4+8+8+8+2) 4,()),0,()),()) else none else none else none else none else none else none else none else none else none else none else none else none else none else none else none else none
theorem C8 (a0:LI)(a1:Bool):Io.run tt Er Iq yl eZ Tryd.f23 ((a0,a1,()),())=qf a0 a1:=by kernel_rfl
theorem yK:HcOk prog 23 (ah eZ rt):=by
 refine zw (n:=400) hm (cs:=xA) (.cons yM (.cons yU (.cons Gy (.cons EU (.cons Gx (.cons HD (.cons Gw (.cons yP (.cons yJ (.cons yN .nil)))))))))) (lp:=yl) (fn:=Tryd.f23) (by kernel_rfl) (by kernel_rfl) (by kernel_rfl) eZ (.done (by kernel_rfl)) rt ?_
 rintro ⟨⟨(b:LI),(sm:Bool),⟨⟩⟩,⟨⟩⟩ out hw ho
 obtain ⟨hg,ho⟩:=Tr.guard ho
 have hg2:b.length≤4294960000:=of_decide_eq_true hg
 clear hg
 cases ho
 have hb:∀c∈b,0≤c∧c≤255:=cS hw.1.1
 refine (C8 b sm).trans ?_
 show _=oR (((aj b sm).1,(aj b sm).2,()),())
 have eE:aZ b sm=if (b.length:Int)<61 then 1 else if (ao b 0).2≠0 then (ao b 0).2 else if (ao b 0).1<(b.length:Int) then 2 else if b.getD 16 0≠2 then 81 else if sm=true∧fg b=false then 82
   else if aD (ap b 0 8)=true then 80 else if b.getD 21 0≠0∨1<b.getD 22 0 then 83 else if ax (ap b 43 8) (ap b 51 2) (ap b 53 4)=true then 84 else if ap b 57 4<1 then 85 else if 256<ap b 57 4 then 9 else if ap b 23 4≠ap b 57 4 - 1 then 72 else 0:=rfl
 have fin:∀e:Int,e≠0→aZ b sm=e→some (Out.ret ((aK,(e,())),()):eZ.Res)=oR (((aj b sm).1,(aj b sm).2,()),()):=by
  intro e he h
  have:aj b sm=(aK,e):=by unfold aj;rw[h,if_pos he]
  rw[this]
 unfold qf
 by_cases h1:(b.length:Int)<61
 ·refine bT (decide_eq_true h1) ?_
  exact fin 1 (by decide) (by rw[eE,if_pos h1])
 refine bF (decide_eq_false h1) ?_
 rw[if_neg h1] at eE
 refine bT (decide_eq_true hg2) ?_
 by_cases h2:(ao b 0).2=0
 rotate_left
 ·refine bT (by simpa using h2) ?_
  exact fin _ h2 (by rw[eE,if_pos h2])
 refine bF (by simpa using h2) ?_
 rw[if_neg (aP h2)] at eE
 by_cases h3:(ao b 0).1<(b.length:Int)
 ·refine bT (decide_eq_true h3) ?_
  exact fin 2 (by decide) (by rw[eE,if_pos h3])
 refine bF (decide_eq_false h3) ?_
 rw[if_neg h3] at eE
 have hH:(List.drop (Int.toNat 0) (List.take (Int.toNat 61) b))=b.take 61:=rfl
 have hHl:(b.take 61).length=61:=by simp;omega
 rw[hH]
 refine bT (by simp only[zA,zB];omega) ?_
 refine bT (by rw[hHl];decide) ?_
 have rm:∀p n:Int,0≤p→p+n≤61→fS (b.take 61) p n=true:=by
  intro p n g1 g2
  unfold fS
  simp only[hHl,zA,zB]
  omega
 refine (aa (rm 0 8 (by decide) (by decide)) _ _).trans ?_
 refine bT (by rw[rm (0+8) 4 (by decide) (by decide)];rfl) ?_
 refine (aa (rm (0+8+4) 4 (by decide) (by decide)) _ _).trans ?_
 refine (aa (rm (0+8+4+4) 1 (by decide) (by decide)) _ _).trans ?_
 refine (aa (rm (0+8+4+4+1) 4 (by decide) (by decide)) _ _).trans ?_
 refine (aa (rm (0+8+4+4+1+4) 2 (by decide) (by decide)) _ _).trans ?_
 refine (aa (rm (0+8+4+4+1+4+2) 4 (by decide) (by decide)) _ _).trans ?_
 refine (aa (rm (0+8+4+4+1+4+2+4) 8 (by decide) (by decide)) _ _).trans ?_
 refine (aa (rm (0+8+4+4+1+4+2+4+8) 8 (by decide) (by decide)) _ _).trans ?_
 refine (aa (rm (0+8+4+4+1+4+2+4+8+8) 8 (by decide) (by decide)) _ _).trans ?_
 refine (aa (rm (0+8+4+4+1+4+2+4+8+8+8) 2 (by decide) (by decide)) _ _).trans ?_
 refine (aa (rm (0+8+4+4+1+4+2+4+8+8+8+2) 4 (by decide) (by decide)) _ _).trans ?_
 refine (aa (rm (0+8+4+4+1+4+2+4+8+8+8+2+4) 4 (by decide) (by decide)) _ _).trans ?_
 have hz:∀p n:Nat,p+n≤61→ar (b.take 61) (p:Int) n=ap b p n:=by
  intro p n h
  rw[gN]
  unfold ap
  rw[List.drop_take,List.take_take,Nat.min_eq_left (by omega)]
 have z16:ar (b.take 61) (0+8+4+4) 1=ap b 16 1:=hz 16 1 (by decide)
 have z17:ar (b.take 61) (0+8+4+4+1) 4=ap b 17 4:=hz 17 4 (by decide)
 have a16:=HJ (b:=b) (p:=16) (by omega)
 have c16:=xw hw.1.1 16
 rw[z16,a16]
 by_cases h4:b.getD 16 0=2
 rotate_left
 ·refine bT (by simp only[bne_iff_ne];have c16:0≤b.getD 16 0∧b.getD 16 0≤255:=c16;split <;> omega) ?_
  exact fin 81 (by decide) (by rw[eE,if_pos h4])
 refine bF (by rw[h4];rfl) ?_
 rw[if_neg (aP h4)] at eE
 have hT:=zk hb (by omega) h2 h3
 have fin2:¬(sm=true∧fg b=false)→vY b=oR (((aj b sm).1,(aj b sm).2,()),()):=by
  intro hn
  rw[if_neg hn] at eE
  rw[hT]
  have hs:aj b sm=if aZ b sm≠0 then (aK,aZ b sm) else (iB b,0):=rfl
  rw[hs,eE]
  by_cases d1:aD (ap b 0 8)=true
  ·rw[if_pos d1,if_pos d1,if_pos (by decide)]
  rw[if_neg d1,if_neg d1]
  by_cases d2:b.getD 21 0≠0∨1<b.getD 22 0
  ·rw[if_pos d2,if_pos d2,if_pos (by decide)]
  rw[if_neg d2,if_neg d2]
  by_cases d3:ax (ap b 43 8) (ap b 51 2) (ap b 53 4)=true
  ·rw[if_pos d3,if_pos d3,if_pos (by decide)]
  rw[if_neg d3,if_neg d3]
  by_cases d4:ap b 57 4<1
  ·rw[if_pos d4,if_pos d4,if_pos (by decide)]
  rw[if_neg d4,if_neg d4]
  by_cases d5:256<ap b 57 4
  ·rw[if_pos d5,if_pos d5,if_pos (by decide)]
  rw[if_neg d5,if_neg d5]
  by_cases d6:ap b 23 4≠ap b 57 4 - 1
  ·rw[if_pos d6,if_pos d6,if_pos (by decide)]
  rw[if_neg d6,if_neg d6,if_neg (by decide)]
 cases sm with
 |false=>
  refine (ac rfl _ _).trans ?_
  exact fin2 (fun h=>by cases h.1)
 |true=>
  refine (aa rfl _ _).trans ?_
  rw[zG,List.take_length,show Int.toNat 21=21 from rfl]
  refine bT (by simp only[zA,zB];omega) ?_
  rw[z17]
  have hL:=gr (b:=b) (p:=17) (n:=4) (by omega)
  have hLr:=gm hb 17 4
  have hcr:=vr 0 (by decide) (b:=b.drop 21) (fun c hc=>hb c (List.mem_of_mem_drop hc))
  have hS:fg b=decide (aY ((b.drop 17).take 4)=cd 0 (b.drop 21)):=by
   unfold fg
   by_cases h:(b.drop 17).take 4=aw (cd 0 (b.drop 21)) 4
   ·rw[if_pos h,decide_eq_true ((xr hLr hL hcr.1 hcr.2).1 h)]
   ·rw[if_neg h,decide_eq_false (fun h'=>h ((xr hLr hL hcr.1 hcr.2).2 h'))]
  have hw17:u32.wrap (ap b 17 4)=aY ((b.drop 17).take 4):=FC hLr hL
  rw[hw17]
  by_cases h5:aY ((b.drop 17).take 4)=cd 0 (b.drop 21)
  ·refine bF (by show (aY ((b.drop 17).take 4) != cd 0 (b.drop 21))=false;simp[h5]) ?_
   exact fin2 (fun h=>by rw[hS,decide_eq_true h5] at h;cases h.2)
  ·refine bT (by show (aY ((b.drop 17).take 4) != cd 0 (b.drop 21))=true;simp[h5]) ?_
   exact fin 82 (by decide) (by rw[eE,if_pos ⟨rfl,by rw[hS,decide_eq_false h5]⟩])
abbrev jf:Io:=⟨[dL],[],[],[wh,dI],none⟩
def A4 (d:jf.In):Tr jf.Res:=.ite (decide (d.1.1.length≤4294960000)) (.ret (.ret (((eN d.1.1).1,(eN d.1.1).2,()),()))) .no
abbrev Bv:List (Nat×Hc):=[(23,ah eZ rt),(27,ah fy rp),(28,ah kG A8),(29,ah dN oh),(30,ah fW ru)]
def B2:Hd:=bM Bv
abbrev cx:Lo:=⟨⟨(cy (.one (.ptr 2 0)::.any::.one (.ptr 4 0)::.any::.one (.hol (.sl 5 (Ty.int u8)))::.one (.ptr 7 0)::.one hI::.any::al (al (cV (.one hI::.one hI::al (al (fc (cV (cy []))))))))),[none,none,some [hI,hJ,hI,hK,hJ,.onl 70 bj 1036],none,some [hI,hI,hJ,hL,hI,hI,hI,hI,hK,hJ],none,none,some [hI,hJ,hI,hK,hJ,.onl 70 bj 3596]]⟩,[(.ret,⟨(cy (.one (.ptr 2 0)::.one hI::al (al (al (al (al (fc (cy [])))))))),[none,none,some [hI,hJ,hI,hK,hJ,.onl 70 bj 129]]⟩),(.ret,⟨(cy (.one (.ptr 2 0)::.one hI::al (al (al (al (al (fc (cy [])))))))),[none,none,some [hI,hJ,hI,hK,hJ,.onl 70 bj 153]]⟩),(.exit 0,⟨(cy (.one (.ptr 2 0)::.any::.one (.ptr 4 0)::.any::.one (.hol (.sl 5 (Ty.int u8)))::.one (.ptr 7 0)::.one hI::.any::al (al (al (al (al (cV []))))))),[none,none,some [hI,hJ,hI,hK,hJ,.onl 70 bj 1036],none,some [hI,hI,hJ,hL,hI,hI,hI,hI,hK,hJ],none,none,some [hI,hJ,hI,hK,hJ,.onl 70 bj 3596]]⟩)]⟩
def Ha:eT:=(0,(0,(0,(0,(0,([],()))))))
def iz (blk:LI)(f:Int):Nat→Nat→Int→List bp→Int×Int×Int×List bp
 |0,_,p,out=>(0,0,p,out)
 |n+1,i,p,out=>
  if (an blk p).2.2≠0 then ((an blk p).2.2,0,0,[])
  else if (aL (an blk p).1 (i:Int) f).2≠0 then (0,(aL (an blk p).1 (i:Int) f).2,0,[])
  else iz blk f n (i+1) (an blk p).2.1 (out++[(aL (an blk p).1 (i:Int) f).1])
def xq (blk:LI)(z:eT)(info:p8)(b1 b2 b3 b4 b5:Int)(x:Int×Int×Int×List bp):Tr (aq cx.xs):=
 .ite (decide (x.1≠0)) (.ret (.ret ((),((x.1,()),(Ha,())))))
  (.ite (decide (x.2.1≠0)) (.ret (.pan (.ret ((),((x.2.1,()),(Ha,()))))))
   (.ret (.pan (.pan (.ret ((),((blk,(x.2.2.1,())),(z,(info,((b1,(b2,(b3,(b4,(b5,(x.2.2.2,())))))),()))))))))))
def og (d:cx.st.den):Tr (aq cx.xs):=
 .ite (decide (d.1.2.2.2.1=0)&&(decide (d.2.2.2.1.2.2.2.2.2.1.length=0)&&(decide ((0:Int)≤d.1.2.2.1)&&decide (d.1.2.2.1≤(4294960000:Int)))))
  (xq d.1.1 d.2.1 d.2.2.1 d.2.2.2.1.1 d.2.2.2.1.2.1 d.2.2.2.1.2.2.1 d.2.2.2.1.2.2.2.1 d.2.2.2.1.2.2.2.2.1 (iz d.1.1 d.2.2.1.2.2.2.2.2.1 d.1.2.2.1.toNat 0 d.1.2.1 [])) .no
def sF:Lp:=cc [(11,aI cx og)]
def jF {R:Type}(h1:LI)(h2 h3 h4 h5 h6 h7 h8 h9:Int)(h10:List bj.den)(h11 h12 h13:Int)(h14:Bool)(h15 h16 h17 h18 h19 h20 h21 h22 h23 h24 h25:Int)(h26:List bj.den)(next:LI→Int→Int→Int→Int→Int→Int→Int→Int→List bj.den→Int→Int→Int→Bool→Int→Int→Int→Int→Int→Int→Int→Int→Int→Int→Int→List bj.den→Option R)(out:aq cx.xs→Option R):Option R:=bif decide (h4<h3) then bif (an h1 h2).2.2 != 0 then out (.ret ((),(((an h1 h2).2.2,()),((0,(0,(0,(0,(0,([],())))))),())))) else bif (aL (an h1 h2).1 h4 h16).2 != 0 then out (.pan (.ret ((),(((aL (an h1 h2).1 h4 h16).2,()),((0,(0,(0,(0,(0,([],())))))),()))))) else bif decide (h26.length+1≤4294967296) then next (h1) ((an h1 h2).2.1) (h3) (i64.wrap (h4+1)) (h5) (h6) (h7) (h8) (h9) (h10) (h11) (h12) (h13) (h14) (h15) (h16) (h17) (h18) (h19) (h20) (h21) (h22) (h23) (h24) (h25) (h26++[(aL (an h1 h2).1 h4 h16).1]) else none else out (.pan (.pan (.ret ((),((h1,(h2,())),((h5,(h6,(h7,(h8,(h9,(h10,())))))),((h11,(h12,(h13,(h14,(h15,(h16,(h17,(h18,(h19,(h20,())))))))))),((h21,(h22,(h23,(h24,(h25,(h26,())))))),()))))))))
def mt (n:Nat)(h1:LI)(h2 h3 h4 h5 h6 h7 h8 h9:Int)(h10:List bj.den)(h11 h12 h13:Int)(h14:Bool)(h15 h16 h17 h18 h19 h20 h21 h22 h23 h24 h25:Int)(h26:List bj.den):Option (aq cx.xs):=kW tt B2 dr sF 0 Tryd.f12 (dF Tryd.f12 0) n (cx.st.mk' ((h1,(h2,(h3,(h4,())))),((h5,(h6,(h7,(h8,(h9,(h10,())))))),((h11,(h12,(h13,(h14,(h15,(h16,(h17,(h18,(h19,(h20,())))))))))),((h21,(h22,(h23,(h24,(h25,(h26,())))))),()))))) (ct cx.xs)
theorem q9 (n:Nat)(h1:LI)(h2 h3 h4 h5 h6 h7 h8 h9:Int)(h10:List bj.den)(h11 h12 h13:Int)(h14:Bool)(h15 h16 h17 h18 h19 h20 h21 h22 h23 h24 h25:Int)(h26:List bj.den):mt (n+1) h1 h2 h3 h4 h5 h6 h7 h8 h9 h10 h11 h12 h13 h14 h15 h16 h17 h18 h19 h20 h21 h22 h23 h24 h25 h26=jF h1 h2 h3 h4 h5 h6 h7 h8 h9 h10 h11 h12 h13 h14 h15 h16 h17 h18 h19 h20 h21 h22 h23 h24 h25 h26 (mt n) some:=by kernel_rfl
theorem uu (blk:LI)(z1 z2 z3 z4 z5:Int)(z6:List bp)(i1 i2 i3:Int)(i4:Bool)(i5 i6 i7 i8 i9 i10 b1 b2 b3 b4 b5:Int):∀(n k i:Nat) (p:Int) (out:List bp),n<k→out.length=i→i+n≤4294960000→
  mt k blk p ((i+n:Nat):Int) i z1 z2 z3 z4 z5 z6 i1 i2 i3 i4 i5 i6 i7 i8 i9 i10 b1 b2 b3 b4 b5 out=(xq blk (z1,z2,z3,z4,z5,z6,()) (i1,i2,i3,i4,i5,i6,i7,i8,i9,i10,()) b1 b2 b3 b4 b5 (iz blk i6 n i p out)).val:=by
 intro n
 induction n with
 |zero=>
  intro k i p out h1 h2 h3
  obtain ⟨k,rfl⟩:∃j,k=j+1:=⟨k - 1,by omega⟩
  rw[q9]
  unfold jF
  refine bF (by simp) ?_
  rfl
 |succ n ih=>
  intro k i p out h1 h2 h3
  obtain ⟨k,rfl⟩:∃j,k=j+1:=⟨k - 1,by omega⟩
  rw[q9]
  unfold jF
  refine bT (decide_eq_true (by omega)) ?_
  have e:iz blk i6 (n+1) i p out=if (an blk p).2.2≠0 then ((an blk p).2.2,0,0,[]) else if (aL (an blk p).1 (i:Int) i6).2≠0 then (0,(aL (an blk p).1 (i:Int) i6).2,0,[]) else iz blk i6 n (i+1) (an blk p).2.1 (out++[(aL (an blk p).1 (i:Int) i6).1]):=rfl
  rw[e]
  by_cases c1:(an blk p).2.2=0
  ·refine bF (by simpa using c1) ?_
   rw[if_neg (aP c1)]
   by_cases c2:(aL (an blk p).1 (i:Int) i6).2=0
   ·refine bF (by simpa using c2) ?_
    rw[if_neg (aP c2)]
    refine bT (decide_eq_true (by omega)) ?_
    rw[ae (n:=(i:Int)+1) (by omega) (by omega)]
    have:=ih k (i+1) (an blk p).2.1 (out++[(aL (an blk p).1 (i:Int) i6).1]) (by omega) (by simp;omega) (by omega)
    rw[show i+1+n=i+(n+1) by omega] at this
    exact this
   ·refine bT (by simpa using c2) ?_
    rw[if_pos c2]
    unfold xq
    rw[Tr.val_ite,Tr.val_ite,if_neg (by simp),if_pos (decide_eq_true c2)]
    rfl
  ·refine bT (by simpa using c1) ?_
   rw[if_pos c1]
   unfold xq
   rw[Tr.val_ite,if_pos (decide_eq_true c1)]
   rfl
theorem nj (blk:LI)(f:Int):∀(n i:Nat) (p:Int) (out:List bp),(aV blk f n i p out).2.2=0→(aV blk f n i p out).1.length=out.length+n
 |0,_,_,_,_=>rfl
 |n+1,i,p,out,h=>by
  unfold aV at h ⊢
  split
  ·rename_i c;rw[if_pos c] at h;exact absurd h c
  rename_i c;rw[if_neg c] at h
  split
  ·rename_i c2;rw[if_pos c2] at h;cases h
  rename_i c2;rw[if_neg c2] at h
  split
  ·rename_i c3;rw[if_pos c3] at h;cases h
  rename_i c3;rw[if_neg c3] at h
  rw[nj blk f n (i+1) _ _ h]
  simp;omega
theorem zb (blk:LI)(f:Int):∀(n i:Nat) (p:Int) (out:List bp),
  ((aV blk f n i p out).2.2=0→(iz blk f n i p out)=(0,0,(aV blk f n i p out).2.1,(aV blk f n i p out).1))∧
  ((aV blk f n i p out).2.2≠0→(iz blk f n i p out).1=(aV blk f n i p out).2.2∨(iz blk f n i p out).1=0∧(iz blk f n i p out).2.1=(aV blk f n i p out).2.2)
 |0,i,p,out=>⟨fun _=>rfl,fun h=>absurd rfl h⟩
 |n+1,i,p,out=>by
  have e:aV blk f (n+1) i p out=if (an blk p).2.2≠0 then ([],0,(an blk p).2.2) else if (an blk p).1.2.1≠(i:Int) then ([],0,72) else if i=0∧(an blk p).1.1≠0∨aU (f+(an blk p).1.1)=false then ([],0,86)
    else aV blk f n (i+1) (an blk p).2.1 (out++[(f+(an blk p).1.1,(an blk p).1.2.2.1,(an blk p).1.2.2.2.1,(an blk p).1.2.2.2.2.1,())]):=rfl
  have e2:iz blk f (n+1) i p out=if (an blk p).2.2≠0 then ((an blk p).2.2,0,0,[]) else if (aL (an blk p).1 (i:Int) f).2≠0 then (0,(aL (an blk p).1 (i:Int) f).2,0,[]) else iz blk f n (i+1) (an blk p).2.1 (out++[(aL (an blk p).1 (i:Int) f).1]):=rfl
  have eO:aL (an blk p).1 (i:Int) f=if (an blk p).1.2.1≠(i:Int) then (od,72) else if (i:Int)=0∧(an blk p).1.1≠0∨aU (f+(an blk p).1.1)=false then (od,86)
    else ((f+(an blk p).1.1,(an blk p).1.2.2.1,(an blk p).1.2.2.2.1,(an blk p).1.2.2.2.2.1,()),0):=rfl
  rw[e,e2]
  by_cases c1:(an blk p).2.2=0
  rotate_left
  ·rw[if_pos c1,if_pos c1]
   exact ⟨fun h=>absurd h c1,fun _=>.inl rfl⟩
  rw[if_neg (aP c1),if_neg (aP c1)]
  by_cases c2:(an blk p).1.2.1=(i:Int)
  rotate_left
  ·rw[if_pos c2,eO,if_pos c2,if_pos (by decide)]
   exact ⟨(fun h=>by cases h),fun _=>.inr ⟨rfl,rfl⟩⟩
  rw[if_neg (aP c2)]
  by_cases c3:i=0∧(an blk p).1.1≠0∨aU (f+(an blk p).1.1)=false
  ·have c3':(i:Int)=0∧(an blk p).1.1≠0∨aU (f+(an blk p).1.1)=false:=by
    rcases c3 with h | h
    ·exact .inl ⟨by omega,h.2⟩
    ·exact .inr h
   rw[if_pos c3,eO,if_neg (aP c2),if_pos c3',if_pos (by decide)]
   exact ⟨(fun h=>by cases h),fun _=>.inr ⟨rfl,rfl⟩⟩
  ·have c3':¬((i:Int)=0∧(an blk p).1.1≠0∨aU (f+(an blk p).1.1)=false):=by
    rintro (h | h)
    ·exact c3 (.inl ⟨by omega,h.2⟩)
    ·exact c3 (.inr h)
   rw[if_neg c3,eO,if_neg (aP c2),if_neg c3',if_neg (aP rfl)]
   exact zb blk f n (i+1) _ _
theorem zj {b:LI}{sm:Bool}(h:aZ b sm=0):61≤b.length∧(ao b 0).2=0∧(ao b 0).1=(b.length:Int)∧b.getD 16 0=2∧¬(sm=true∧fg b=false)∧aD (ap b 0 8)=false∧b.getD 21 0=0∧b.getD 22 0≤1∧ax (ap b 43 8) (ap b 51 2) (ap b 53 4)=false∧1≤ap b 57 4∧ap b 57 4≤256∧ap b 23 4=ap b 57 4 - 1:=by
 unfold aZ at h
 split at h
 ·cases h
 split at h
 ·rename_i c;exact absurd h c
 rename_i h1 h2
 split at h
 ·cases h
 rename_i h3
 split at h
 ·cases h
 rename_i h4
 split at h
 ·cases h
 rename_i h5
 split at h
 ·cases h
 rename_i h6
 split at h
 ·cases h
 rename_i h7
 split at h
 ·cases h
 rename_i h8
 split at h
 ·cases h
 rename_i h9
 split at h
 ·cases h
 rename_i h10
 split at h
 ·cases h
 rename_i h11
 have h2:(ao b 0).2=0:=Classical.byContradiction h2
 have hm:=rg h2
 refine ⟨by omega,h2,by omega,Classical.byContradiction h4,h5,by simpa using h6,?_,by omega,by simpa using h8,by omega,by omega,Classical.byContradiction h11⟩
 exact Classical.byContradiction fun h=>h7 (.inl h)
def tv (a0:LI):Option jf.Res:=bif decide (a0.length≤4294960000) then bif (aj a0 true).2 != 0 then oR (((0,0,0,0,0,[],()),(aj a0 true).2,()),()) else bif decide (61≤a0.length)&&decide (a0.length≤4294960000) then bif (aN a0 (aj a0 true).1.2.2.2.1).2 != 0 then oR (((0,0,0,0,0,[],()),(aN a0 (aj a0 true).1.2.2.2.1).2,()),()) else (bif decide ((0:Int)=0)&&(decide (([]:List bp).length=0)&&(decide ((0:Int)≤(aj a0 true).1.2.2.2.2.1)&&decide ((aj a0 true).1.2.2.2.2.1≤(4294960000:Int)))) then (bif decide ((iz (aN a0 (aj a0 true).1.2.2.2.1).1 (aj a0 true).1.2.2.2.2.2.1 ((aj a0 true).1.2.2.2.2.1).toNat 0 0 []).1≠0) then oR (((0,0,0,0,0,[],()),(iz (aN a0 (aj a0 true).1.2.2.2.1).1 (aj a0 true).1.2.2.2.2.2.1 ((aj a0 true).1.2.2.2.2.1).toNat 0 0 []).1,()),()) else bif decide ((iz (aN a0 (aj a0 true).1.2.2.2.1).1 (aj a0 true).1.2.2.2.2.2.1 ((aj a0 true).1.2.2.2.2.1).toNat 0 0 []).2.1≠0) then oR (((0,0,0,0,0,[],()),(iz (aN a0 (aj a0 true).1.2.2.2.1).1 (aj a0 true).1.2.2.2.2.2.1 ((aj a0 true).1.2.2.2.2.1).toNat 0 0 []).2.1,()),()) else bif decide ((iz (aN a0 (aj a0 true).1.2.2.2.1).1 (aj a0 true).1.2.2.2.2.2.1 ((aj a0 true).1.2.2.2.2.1).toNat 0 0 []).2.2.1<(↑(aN a0 (aj a0 true).1.2.2.2.1).1.length:Int)) then oR (((0,0,0,0,0,[],()),2,()),()) else bif decide (1≤(iz (aN a0 (aj a0 true).1.2.2.2.1).1 (aj a0 true).1.2.2.2.2.2.1 ((aj a0 true).1.2.2.2.2.1).toNat 0 0 []).2.2.2.length) then bif iC (iz (aN a0 (aj a0 true).1.2.2.2.1).1 (aj a0 true).1.2.2.2.2.2.1 ((aj a0 true).1.2.2.2.2.1).toNat 0 0 []).2.2.2 != (aj a0 true).1.2.2.2.2.2.2.1 then oR (((0,0,0,0,0,[],()),86,()),()) else oR ((((aj a0 true).1.1,(aj a0 true).1.2.2.1,(aj a0 true).1.2.2.2.2.2.2.2.1,(aj a0 true).1.2.2.2.2.2.2.2.2.1,(aj a0 true).1.2.2.2.2.2.2.2.2.2.1,(iz (aN a0 (aj a0 true).1.2.2.2.1).1 (aj a0 true).1.2.2.2.2.2.1 ((aj a0 true).1.2.2.2.2.1).toNat 0 0 []).2.2.2,()),0,()),()) else none) else none) else none else none
theorem Fb (a0:LI):Io.run tt B2 dr sF jf Tryd.f12 ((a0,()),())=tv a0:=by kernel_rfl
theorem ul:HcsOk prog Bv:=.cons yK (.cons CM (.cons GE (.cons z7 (.cons yL .nil))))
theorem Gt:HcOk prog 12 (ah jf A4):=by
 refine cq ul (lp:=sF) (fn:=Tryd.f12) jf (.step (h0:=aI cx og) (by kernel_rfl) (lL ul (lp:=sF) (fn:=Tryd.f12) (.done (by kernel_rfl)) cx og ?_) (.done (by kernel_rfl))) A4 ?_
 ·rintro ⟨⟨(blk:LI),(p:Int),(n:Int),(i:Int),⟨⟩⟩,⟨⟨(z1:Int),(z2:Int),(z3:Int),(z4:Int),(z5:Int),(z6:List bp),⟨⟩⟩,⟨(i1:Int),(i2:Int),(i3:Int),(i4:Bool),(i5:Int),(i6:Int),(i7:Int),(i8:Int),(i9:Int),(i10:Int),⟨⟩⟩,⟨(b1:Int),(b2:Int),(b3:Int),(b4:Int),(b5:Int),(out:List bp),⟨⟩⟩,⟨⟩⟩⟩ y hw hy
  obtain ⟨hg,hy⟩:=Tr.guard hy
  simp only[zA,zB] at hg
  obtain ⟨h1,h2,h3,h4⟩:=hg
  have h1:i=0:=h1
  have h2:out=[]:=List.length_eq_zero_iff.1 h2
  have h3:0≤n:=h3
  have h4:n≤(4294960000:Int):=h4
  subst h1 h2
  obtain ⟨n,rfl⟩:=av h3
  have:=uu blk z1 z2 z3 z4 z5 z6 i1 i2 i3 i4 i5 i6 i7 i8 i9 i10 b1 b2 b3 b4 b5 n (n+1) 0 p [] (by omega) rfl (by omega)
  rw[Nat.zero_add] at this
  exact ⟨n+1,this.trans hy⟩
 ·rintro ⟨⟨(b:LI),⟨⟩⟩,⟨⟩⟩ out hw ho
  obtain ⟨hg,ho⟩:=Tr.guard ho
  have hg2:b.length≤4294960000:=of_decide_eq_true hg
  clear hg
  cases ho
  refine (Fb b).trans ?_
  show _=oR (((eN b).1,(eN b).2,()),())
  have eE:px b=if aZ b true≠0 then ([],aZ b true) else if (aN b (decide (b.getD 22 0=1))).2≠0 then ([],(aN b (decide (b.getD 22 0=1))).2) else wV (aN b (decide (b.getD 22 0=1))).1 (ap b 27 8) (ap b 35 8) (ap b 57 4).toNat:=rfl
  have fin:∀e:Int,e≠0→(px b).2=e→some (Out.ret ((Ha,(e,())),()):jf.Res)=oR (((eN b).1,(eN b).2,()),()):=by
   intro e he h
   have:eN b=(zd,e):=by unfold eN;rw[h,if_pos he]
   rw[this]
   rfl
  unfold tv
  refine bT (decide_eq_true hg2) ?_
  by_cases h1:aZ b true=0
  rotate_left
  ·have eh:aj b true=(aK,aZ b true):=by unfold aj;rw[if_pos h1]
   rw[eh]
   refine bT (by simpa using h1) ?_
   exact fin _ h1 (by rw[eE,if_pos h1])
  have eh:aj b true=(iB b,0):=by unfold aj;rw[if_neg (aP h1)]
  rw[if_neg (aP h1)] at eE
  obtain ⟨k1,_,_,_,_,_,_,_,_,k2,k3,_⟩:=zj h1
  have hI:iB b=(ap b 0 8,(b.length:Int),ap b 12 4,decide (b.getD 22 0=1),ap b 57 4,ap b 27 8,ap b 35 8,ap b 43 8,ap b 51 2,ap b 53 4,()):=rfl
  rw[eh,hI]
  dsimp only
  refine (ac rfl _ _).trans ?_
  refine bT (by simp only[zA,zB];exact ⟨k1,hg2⟩) ?_
  by_cases h2:(aN b (decide (b.getD 22 0=1))).2=0
  rotate_left
  ·refine bT (by simpa using h2) ?_
   exact fin _ h2 (by rw[eE,if_pos h2])
  refine bF (by simpa using h2) ?_
  rw[if_neg (aP h2)] at eE
  generalize (aN b (decide (b.getD 22 0=1))).1=blk at *
  refine bT (by simp only[zA,zB];exact ⟨trivial,rfl,show (0:Int)≤ap b 57 4 by omega,show ap b 57 4≤(4294960000:Int) by omega⟩) ?_
  have eR:wV blk (ap b 27 8) (ap b 35 8) (ap b 57 4).toNat=if (aV blk (ap b 27 8) (ap b 57 4).toNat 0 0 []).2.2≠0 then ([],(aV blk (ap b 27 8) (ap b 57 4).toNat 0 0 []).2.2)
    else if (aV blk (ap b 27 8) (ap b 57 4).toNat 0 0 []).2.1<(blk.length:Int) then ([],2)
    else if iC (aV blk (ap b 27 8) (ap b 57 4).toNat 0 0 []).1≠ap b 35 8 then ([],86) else ((aV blk (ap b 27 8) (ap b 57 4).toNat 0 0 []).1,0):=rfl
  have hlen:=nj blk (ap b 27 8) (ap b 57 4).toNat 0 0 []
  obtain ⟨x1,x2⟩:=zb blk (ap b 27 8) (ap b 57 4).toNat 0 0 []
  rw[eR] at eE
  generalize aV blk (ap b 27 8) (ap b 57 4).toNat 0 0 []=r at *
  obtain ⟨rs,q,e⟩:=r
  simp only at eE hlen x1 x2
  by_cases h3:e=0
  rotate_left
  ·rw[if_pos h3] at eE
   rcases x2 h3 with x | ⟨x,x'⟩
   ·rw[x]
    refine bT (decide_eq_true h3) ?_
    exact fin e h3 (by rw[eE])
   ·rw[x,x']
    refine (ac rfl _ _).trans ?_
    refine bT (decide_eq_true h3) ?_
    exact fin e h3 (by rw[eE])
  rw[if_neg (aP h3)] at eE
  rw[x1 h3]
  have hlen:=hlen h3
  refine (ac rfl _ _).trans ?_
  refine (ac rfl _ _).trans ?_
  by_cases h4:q<(blk.length:Int)
  ·refine bT (decide_eq_true h4) ?_
   exact fin 2 (by decide) (by rw[eE,if_pos h4])
  refine bF (decide_eq_false h4) ?_
  refine bT (decide_eq_true (show 1≤rs.length by rw[hlen];simp;omega)) ?_
  rw[if_neg h4] at eE
  by_cases h5:iC rs=ap b 35 8
  ·refine bF (by simpa using h5) ?_
   rw[if_neg (aP h5)] at eE
   have:eN b=((ap b 0 8,ap b 12 4,ap b 43 8,ap b 51 2,ap b 53 4,rs,()),0):=by unfold eN;rw[eE,if_neg (aP rfl)]
   rw[this]
  ·refine bT (by simpa using h5) ?_
   exact fin 86 (by decide) (by rw[eE,if_pos h5])
end
end Go.Proofs.YtcbcbjdobbgddaaDoor.Sym
namespace Go.Proofs.YtcbcbjdobbgddaaDoor.Sym
open Go
noncomputable section
def nk (b:LI)(m:Int)(n:Nat):Bool:=decide (m=36000)&&Nat.ble (b.length+n) 36000
theorem fk {b:LI}{m:Int}{n:Nat}:nk b m n=true↔m=36000∧b.length+n≤36000:=by
 unfold nk;rw[zA,zB,Nat.ble_eq]
abbrev su:Io:=kR
def FL (d:su.In):Tr su.Res:=
 .ite (decide (d.1.1=36000)) (.ret (.ret (((),()),((([]:LI),(36000,())),())))) .no
theorem GC:HcOk prog 35 (ah su FL):=by
 refine HcOk.weakB GO ?_
 rintro ⟨⟨(m:Int),⟨⟩⟩,⟨⟩⟩ y hw hy
 obtain ⟨hg,hy⟩:=Tr.guard hy
 have hg:m=36000:=of_decide_eq_true hg
 subst hg
 rw[← hy]
 rfl
abbrev sr:Io:=kQ
def FK (d:sr.In):Tr sr.Res:=
 .ite (nk d.2.1.1 d.2.1.2.1 8) (.ret (.ret ((0,()),((d.2.1.1++aw d.1.2.1 8,(36000,())),())))) .no
theorem GB:HcOk prog 36 (ah sr FK):=by
 refine HcOk.weakB GN ?_
 rintro ⟨⟨⟨⟩,(v:Int),⟨⟩⟩,⟨⟨(b:LI),(m:Int),⟨⟩⟩,⟨⟩⟩⟩ y hw hy
 obtain ⟨hg,hy⟩:=Tr.guard hy
 obtain ⟨h1,h2⟩:=(fk (b:=b) (m:=m) (n:=8)).1 hg
 subst h1
 rw[← hy]
 have hk:ci b 36000=true:=by unfold ci;simp only[zA,zB];omega
 have e:bH b 36000 v 8=(0,b++aw v 8):=by unfold bH;rw[if_neg (by omega)]
 show (xm (((),(v,())),((b,(36000,())),()))).val=some (.ret ((0,()),((b++aw v 8,(36000,())),())))
 unfold xm
 rw[Tr.val_ite,if_pos hk,Tr.val_ret]
 show oR (((bH b 36000 v 8).1,()),(((bH b 36000 v 8).2,(36000,())),()))=_
 rw[e]
abbrev so:Io:=kP
def FJ (d:so.In):Tr so.Res:=
 .ite (nk d.2.1.1 d.2.1.2.1 4) (.ret (.ret ((0,()),((d.2.1.1++aw d.1.2.1 4,(36000,())),())))) .no
theorem GA:HcOk prog 37 (ah so FJ):=by
 refine HcOk.weakB GM ?_
 rintro ⟨⟨⟨⟩,(v:Int),⟨⟩⟩,⟨⟨(b:LI),(m:Int),⟨⟩⟩,⟨⟩⟩⟩ y hw hy
 obtain ⟨hg,hy⟩:=Tr.guard hy
 obtain ⟨h1,h2⟩:=(fk (b:=b) (m:=m) (n:=4)).1 hg
 subst h1
 rw[← hy]
 have hk:ci b 36000=true:=by unfold ci;simp only[zA,zB];omega
 have e:bH b 36000 v 4=(0,b++aw v 4):=by unfold bH;rw[if_neg (by omega)]
 show (xl (((),(v,())),((b,(36000,())),()))).val=some (.ret ((0,()),((b++aw v 4,(36000,())),())))
 unfold xl
 rw[Tr.val_ite,if_pos hk,Tr.val_ret]
 show oR (((bH b 36000 v 4).1,()),(((bH b 36000 v 4).2,(36000,())),()))=_
 rw[e]
abbrev sn:Io:=kO
def FI (d:sn.In):Tr sn.Res:=
 .ite (nk d.2.1.1 d.2.1.2.1 2) (.ret (.ret ((0,()),((d.2.1.1++aw d.1.2.1 2,(36000,())),())))) .no
theorem Gz:HcOk prog 39 (ah sn FI):=by
 refine HcOk.weakB GL ?_
 rintro ⟨⟨⟨⟩,(v:Int),⟨⟩⟩,⟨⟨(b:LI),(m:Int),⟨⟩⟩,⟨⟩⟩⟩ y hw hy
 obtain ⟨hg,hy⟩:=Tr.guard hy
 obtain ⟨h1,h2⟩:=(fk (b:=b) (m:=m) (n:=2)).1 hg
 subst h1
 rw[← hy]
 have hk:ci b 36000=true:=by unfold ci;simp only[zA,zB];omega
 have e:bH b 36000 v 2=(0,b++aw v 2):=by unfold bH;rw[if_neg (by omega)]
 show (xk (((),(v,())),((b,(36000,())),()))).val=some (.ret ((0,()),((b++aw v 2,(36000,())),())))
 unfold xk
 rw[Tr.val_ite,if_pos hk,Tr.val_ret]
 show oR (((bH b 36000 v 2).1,()),(((bH b 36000 v 2).2,(36000,())),()))=_
 rw[e]
abbrev yh:Io:=oY
def Hj (d:yh.In):Tr yh.Res:=
 .ite (nk d.2.1.1 d.2.1.2.1 1) (.ret (.ret ((0,()),((d.2.1.1++aw d.1.2.1 1,(36000,())),())))) .no
theorem HE:HcOk prog 38 (ah yh Hj):=by
 refine HcOk.weakB HF ?_
 rintro ⟨⟨⟨⟩,(v:Int),⟨⟩⟩,⟨⟨(b:LI),(m:Int),⟨⟩⟩,⟨⟩⟩⟩ y hw hy
 obtain ⟨hg,hy⟩:=Tr.guard hy
 obtain ⟨h1,h2⟩:=(fk (b:=b) (m:=m) (n:=1)).1 hg
 subst h1
 rw[← hy]
 have hk:ci b 36000=true:=by unfold ci;simp only[zA,zB];omega
 have e:bH b 36000 v 1=(0,b++aw v 1):=by unfold bH;rw[if_neg (by omega)]
 show (D6 (((),(v,())),((b,(36000,())),()))).val=some (.ret ((0,()),((b++aw v 1,(36000,())),())))
 unfold D6
 rw[Tr.val_ite,if_pos hk,Tr.val_ret]
 show oR (((bH b 36000 v 1).1,()),(((bH b 36000 v 1).2,(36000,())),()))=_
 rw[e]
abbrev sw:Io:=kS
def FM (d:sw.In):Tr sw.Res:=
 .ite (nk d.2.1.1 d.2.1.2.1 (aE d.1.2.1)) (.ret (.ret ((0,()),((d.2.1.1++dZ d.1.2.1,(36000,())),())))) .no
theorem GD:HcOk prog 40 (ah sw FM):=by
 refine HcOk.weakB GP ?_
 rintro ⟨⟨⟨⟩,(ps:List (LI)),⟨⟩⟩,⟨⟨(b:LI),(m:Int),⟨⟩⟩,⟨⟩⟩⟩ y hw hy
 obtain ⟨hg,hy⟩:=Tr.guard hy
 obtain ⟨h1,h2⟩:=(fk (b:=b) (m:=m) (n:=aE ps)).1 hg
 subst h1
 rw[← hy]
 have hk:(ci b 36000&&decide (aE ps≤4294960000))=true:=by unfold ci;simp only[zA,zB];omega
 have e:pC b 36000 ps=(0,b++dZ ps):=by unfold pC;rw[if_neg (by omega)]
 show (xn (((),(ps,())),((b,(36000,())),()))).val=some (.ret ((0,()),((b++dZ ps,(36000,())),())))
 unfold xn
 rw[Tr.val_ite,if_pos hk,Tr.val_ret]
 show oR (((pC b 36000 ps).1,()),(((pC b 36000 ps).2,(36000,())),()))=_
 rw[e]
end
end Go.Proofs.YtcbcbjdobbgddaaDoor.Sym
namespace Go.Proofs.YtcbcbjdobbgddaaDoor.Sym
open Go
open Go.IntKind (i8 i16 i32 i64 u8 u16 u32 u64)
noncomputable section
def dj (a b:bp):Bool:=@ite Bool (a=b) (Classical.propDecidable _) true false
def bG (a b:List bp):Bool:=@ite Bool (a=b) (Classical.propDecidable _) true false
def di (a b:eT):Bool:=@ite Bool (a=b) (Classical.propDecidable _) true false
theorem uX {p:Prop}(h:¬ p):(false=true↔p):=⟨fun h=>(by cases h),fun x=>absurd x h⟩
theorem gC {a b:bp}:dj a b=true↔a=b:=by unfold dj;split <;> simp[*]
theorem bi {a b:List bp}:bG a b=true↔a=b:=by unfold bG;split <;> simp[*]
theorem km {a b:eT}:di a b=true↔a=b:=by unfold di;split <;> simp[*]
abbrev ez:Io:=⟨[F4,F4],[],[],[dB],none⟩
def rN (d:ez.In):Tr ez.Res:=.ret (.ret ((dj d.1.1 d.1.2.1,()),()))
abbrev t6:List (Nat×Hc):=[(80,ah bO fT),(81,ah b7 gP)]
def Ch:Hd:=bM t6
def uS:Lp:=cc []
def oL (a0:Int)(a1:Bool)(a2:LI)(a3:Bool)(a4:LI)(a5:List bY.den)(a6:Int)(a7:Bool)(a8:LI)(a9:Bool)(a10:LI)(a11:List bY.den):Option ez.Res:=bif a0 != a6 then oR ((false,()),()) else bif !decide ((a1,a2,())=(a7,a8,())) then oR ((false,()),()) else bif !decide ((a3,a4,())=(a9,a10,())) then oR ((false,()),()) else oR ((decide (a5=a11),()),())
theorem Ax (a0:Int)(a1:Bool)(a2:LI)(a3:Bool)(a4:LI)(a5:List bY.den)(a6:Int)(a7:Bool)(a8:LI)(a9:Bool)(a10:LI)(a11:List bY.den):Io.run tt Ch dr uS ez Tryd.f58 (((a0,(a1,a2,()),(a3,a4,()),a5,()),(a6,(a7,a8,()),(a9,a10,()),a11,()),()),())=oL a0 a1 a2 a3 a4 a5 a6 a7 a8 a9 a10 a11:=by kernel_rfl
theorem C1:HcOk prog 58 (ah ez rN):=by
 refine cq (cs:=t6) (.cons lS (.cons pX .nil)) (lp:=uS) (fn:=Tryd.f58) ez (.done (by kernel_rfl)) rN ?_
 rintro ⟨⟨⟨(a0:Int),⟨(a1:Bool),(a2:LI),⟨⟩⟩,⟨(a3:Bool),(a4:LI),⟨⟩⟩,(a5:List cr),⟨⟩⟩,⟨(b0:Int),⟨(b1:Bool),(b2:LI),⟨⟩⟩,⟨(b3:Bool),(b4:LI),⟨⟩⟩,(b5:List cr),⟨⟩⟩,⟨⟩⟩,⟨⟩⟩ out hw ho
 cases ho
 refine (Ax a0 a1 a2 a3 a4 a5 b0 b1 b2 b3 b4 b5).trans ?_
 show _=oR ((dj (a0,(a1,a2,()),(a3,a4,()),a5,()) (b0,(b1,b2,()),(b3,b4,()),b5,()),()),())
 have fin:∀c:Bool,(c=true↔((a0,(a1,a2,()),(a3,a4,()),a5,()):bp)=(b0,(b1,b2,()),(b3,b4,()),b5,()))→some (Out.ret ((c,()),()):ez.Res)=oR ((dj (a0,(a1,a2,()),(a3,a4,()),a5,()) (b0,(b1,b2,()),(b3,b4,()),b5,()),()),()):=by
  intro c hc
  have:c=dj (a0,(a1,a2,()),(a3,a4,()),a5,()) (b0,(b1,b2,()),(b3,b4,()),b5,()):=Bool.eq_iff_iff.2 (hc.trans gC.symm)
  rw[this]
 unfold oL
 by_cases h0:a0=b0
 rotate_left
 ·refine (aa (by simpa using h0) _ _).trans (fin false (uX fun h=>h0 (congrArg Prod.fst h)))
 refine bF (by simpa using h0) ?_
 by_cases h1:(a1,a2,())=(b1,b2,())
 rotate_left
 ·refine (aa (by rw[decide_eq_false h1];rfl) _ _).trans (fin false (uX fun h=>h1 (congrArg (fun x:bp=>x.2.1) h)))
 refine bF (by rw[decide_eq_true h1];rfl) ?_
 by_cases h2:(a3,a4,())=(b3,b4,())
 rotate_left
 ·refine (aa (by rw[decide_eq_false h2];rfl) _ _).trans (fin false (uX fun h=>h2 (congrArg (fun x:bp=>x.2.2.1) h)))
 refine (ac (by rw[decide_eq_true h2];rfl) _ _).trans (fin _ ?_)
 rw[zB]
 constructor
 ·intro h
  rw[h0,h1,h2,h]
 ·intro h
  exact congrArg (fun x:bp=>x.2.2.2.1) h
abbrev dX:Io:=⟨[BO,BO],[],[],[dB],none⟩
def oy (d:dX.In):Tr dX.Res:=.ret (.ret ((bG d.1.1 d.1.2.1,()),()))
abbrev qL:List (Nat×Hc):=[(58,ah ez rN)]
def qU:Hd:=bM qL
abbrev bW:Lo:=⟨⟨(.one (.hol (.sl 70 bj))::.one (.hol (.sl 70 bj))::.any::cy (.one hI::.any::al (cV []))),[]⟩,[(.ret,⟨(cV (.one hL::al (cV (cy [])))),[]⟩),(.exit 0,⟨(.any::al (fc (cy []))),[]⟩)]⟩
def fv (d:bW.st.den):Tr (aq bW.xs):=
 .ite (decide (d.1.2.2.1=(0:Int))&&decide (d.1.1.length=d.1.2.1.length)) (.ite (bG d.1.1 d.1.2.1) (.ret (.pan (.ret ((),((),()))))) (.ret (.ret ((),((false,()),()))))) .no
def jX:Lp:=cc [(5,aI bW fv)]
def ku {R:Type}(h2 h3:List bj.den)(h4:Int)(next:List bj.den→List bj.den→Int→Option R)(out:aq bW.xs→Option R):Option R:=bif decide (h4<(↑h2.length:Int)) then bif decide (0≤h4)&&decide (h4<(↑h2.length:Int)) then bif decide (0≤h4)&&decide (h4<(↑h3.length:Int)) then bif !dj (h2.getD h4.toNat (0,(false,[],()),(false,[],()),[],())) (h3.getD h4.toNat (0,(false,[],()),(false,[],()),[],())) then out (.ret ((),((false,()),()))) else next (h2) (h3) (i64.wrap (h4+1)) else none else none else out (.pan (.ret ((),((),()))))
def jp (n:Nat)(h2 h3:List bj.den)(h4:Int):Option (aq bW.xs):=kW tt qU dr jX 0 Tryd.f31 (dF Tryd.f31 0) n (bW.st.mk' ((h2,(h3,(h4,()))),())) (ct bW.xs)
theorem vo (n:Nat)(h2 h3:List bj.den)(h4:Int):jp (n+1) h2 h3 h4=ku h2 h3 h4 (jp n) some:=by kernel_rfl
theorem uE (xs ys:List bp)(hl:xs.length=ys.length)(hb:xs.length≤maxLen):∀(k i:Nat),i≤xs.length→xs.length<i+k→
  jp k xs ys (i:Int)=if bG (xs.drop i) (ys.drop i)=true then some (.pan (.ret ((),((),())))) else some (.ret ((),((false,()),()))):=by
 intro k
 induction k with
 |zero=>intro i h h';omega
 |succ k ih=>
  intro i hi h
  rw[vo]
  unfold ku
  by_cases h1:i<xs.length
  ·have h2:i<ys.length:=by omega
   rw[bm h1 hb,ih (i+1) h1 (by omega)]
   have e1:(xs.getD (i:Int).toNat (0,(false,[],()),(false,[],()),[],()):bp)=xs[i]:=aC h1
   have e2:(ys.getD (i:Int).toNat (0,(false,[],()),(false,[],()),[],()):bp)=ys[i]:=aC h2
   refine bT (by simpa using h1) ?_
   refine bT (by simpa using h1) ?_
   refine bT (by simpa using h2) ?_
   rw[e1,e2,zE h1,zE h2]
   cases hc:dj xs[i] ys[i] with
   |false=>
    refine (aa rfl _ _).trans ?_
    rw[if_neg]
    intro h
    have h:=bi.1 h
    rw[List.cons.injEq] at h
    rw[gC.2 h.1] at hc
    cases hc
   |true=>
    refine (ac rfl _ _).trans ?_
    have e:=gC.1 hc
    by_cases hd:bG (xs.drop (i+1)) (ys.drop (i+1))=true
    ·rw[if_pos hd,if_pos (bi.2 (by rw[e,bi.1 hd]))]
    ·rw[if_neg hd,if_neg]
     intro h
     have h:=bi.1 h
     rw[List.cons.injEq] at h
     exact hd (bi.2 h.2)
  ·rw[zI (by omega),zI (by omega),if_pos (bi.2 rfl)]
   exact ac (by simpa using h1) _ _
def mZ (a0 a1:List bj.den):Option dX.Res:=bif (↑a0.length:Int) != (↑a1.length:Int) then oR ((false,()),()) else (fv ((a0,(a1,(0,()))),())).run fun y=>match y with | .ret ((),((x9,()),()))=>(oR ((x9,()),())) | .pan (.ret ((),((),())))=>(oR ((true,()),()))
theorem wO (a0 a1:List bj.den):Io.run tt qU dr jX dX Tryd.f31 ((a0,a1,()),())=mZ a0 a1:=by kernel_rfl
theorem na:HcsOk prog qL:=.cons C1 .nil
theorem Ag:HcOk prog 31 (ah dX oy):=by
 refine cq na (lp:=jX) (fn:=Tryd.f31) dX (.step (h0:=aI bW fv) (by kernel_rfl) (lL na (lp:=jX) (fn:=Tryd.f31) (.done (by kernel_rfl)) bW fv ?_) (.done (by kernel_rfl))) oy ?_
 ·rintro ⟨⟨(xs:List bp),(ys:List bp),(i:Int),⟨⟩⟩,⟨⟩⟩ y hw hy
  obtain ⟨hg,hy⟩:=Tr.guard hy
  simp only[zA,zB] at hg
  obtain ⟨hi,hl⟩:=hg
  have hi:i=0:=hi
  have hl:xs.length=ys.length:=hl
  subst hi
  refine ⟨xs.length+1,(uE xs ys hl hw.1.1.1 _ 0 (by omega) (by omega)).trans ?_⟩
  rw[← hy,List.drop_zero,List.drop_zero]
  simp only[Tr.val_ite,Tr.val_ret]
 ·rintro ⟨⟨(xs:List bp),(ys:List bp),⟨⟩⟩,⟨⟩⟩ out hw ho
  cases ho
  refine (wO xs ys).trans ?_
  unfold mZ fv
  show _=oR ((bG xs ys,()),())
  by_cases hl:xs.length=ys.length
  ·refine bF (by rw[hl];exact bne_self_eq_false' _) ?_
   refine bT (by simpa using hl) ?_
   cases h:bG xs ys with
   |true=>rfl
   |false=>rfl
  ·have e:bG xs ys=false:=by
    cases h:bG xs ys with
    |false=>rfl
    |true=>exact absurd (congrArg List.length (bi.1 h)) hl
   rw[e]
   refine aa ?_ _ _
   have:(xs.length:Int)≠ys.length:=by omega
   simpa using this
abbrev eB:Io:=⟨[wh,wh],[],[],[dB],none⟩
def rO (d:eB.In):Tr eB.Res:=.ret (.ret ((di d.1.1 d.1.2.1,()),()))
abbrev t7:List (Nat×Hc):=[(31,ah dX oy)]
def Ci:Hd:=bM t7
def uT:Lp:=cc []
def oM (a0 a1 a2 a3 a4:Int)(a5:List bj.den)(a6 a7 a8 a9 a10:Int)(a11:List bj.den):Option eB.Res:=bif a0 != a6 then oR ((false,()),()) else bif a1 != a7 then oR ((false,()),()) else bif a2 != a8 then oR ((false,()),()) else bif a3 != a9 then oR ((false,()),()) else bif a4 != a10 then oR ((false,()),()) else oR ((bG a5 a11,()),())
theorem Ay (a0 a1 a2 a3 a4:Int)(a5:List bj.den)(a6 a7 a8 a9 a10:Int)(a11:List bj.den):Io.run tt Ci dr uT eB Tryd.f14 (((a0,a1,a2,a3,a4,a5,()),(a6,a7,a8,a9,a10,a11,()),()),())=oM a0 a1 a2 a3 a4 a5 a6 a7 a8 a9 a10 a11:=by kernel_rfl
theorem C2:HcOk prog 14 (ah eB rO):=by
 refine cq (cs:=t7) (.cons Ag .nil) (lp:=uT) (fn:=Tryd.f14) eB (.done (by kernel_rfl)) rO ?_
 rintro ⟨⟨⟨(a0:Int),(a1:Int),(a2:Int),(a3:Int),(a4:Int),(a5:List bp),⟨⟩⟩,⟨(b0:Int),(b1:Int),(b2:Int),(b3:Int),(b4:Int),(b5:List bp),⟨⟩⟩,⟨⟩⟩,⟨⟩⟩ out hw ho
 cases ho
 refine (Ay a0 a1 a2 a3 a4 a5 b0 b1 b2 b3 b4 b5).trans ?_
 show _=oR ((di (a0,a1,a2,a3,a4,a5,()) (b0,b1,b2,b3,b4,b5,()),()),())
 have fin:∀c:Bool,(c=true↔((a0,a1,a2,a3,a4,a5,()):eT)=(b0,b1,b2,b3,b4,b5,()))→some (Out.ret ((c,()),()):eB.Res)=oR ((di (a0,a1,a2,a3,a4,a5,()) (b0,b1,b2,b3,b4,b5,()),()),()):=by
  intro c hc
  have:c=di (a0,a1,a2,a3,a4,a5,()) (b0,b1,b2,b3,b4,b5,()):=Bool.eq_iff_iff.2 (hc.trans km.symm)
  rw[this]
 unfold oM
 by_cases h0:a0=b0
 rotate_left
 ·exact (aa (by simpa using h0) _ _).trans (fin false (uX fun h=>h0 (congrArg Prod.fst h)))
 refine bF (by simpa using h0) ?_
 by_cases h1:a1=b1
 rotate_left
 ·exact (aa (by simpa using h1) _ _).trans (fin false (uX fun h=>h1 (congrArg (fun x:eT=>x.2.1) h)))
 refine bF (by simpa using h1) ?_
 by_cases h2:a2=b2
 rotate_left
 ·exact (aa (by simpa using h2) _ _).trans (fin false (uX fun h=>h2 (congrArg (fun x:eT=>x.2.2.1) h)))
 refine bF (by simpa using h2) ?_
 by_cases h3:a3=b3
 rotate_left
 ·exact (aa (by simpa using h3) _ _).trans (fin false (uX fun h=>h3 (congrArg (fun x:eT=>x.2.2.2.1) h)))
 refine bF (by simpa using h3) ?_
 by_cases h4:a4=b4
 rotate_left
 ·exact (aa (by simpa using h4) _ _).trans (fin false (uX fun h=>h4 (congrArg (fun x:eT=>x.2.2.2.2.1) h)))
 refine (ac (by simpa using h4) _ _).trans (fin _ ?_)
 rw[bi]
 constructor
 ·intro h
  rw[h0,h1,h2,h3,h4,h]
 ·intro h
  exact congrArg (fun x:eT=>x.2.2.2.2.2.1) h
abbrev ji:Io:=⟨[dL,dI,dI],[],[],[nD],none⟩
def xo (d:ji.In):Tr ji.Res:=.ite (decide ((0:Int)≤d.1.2.2.1)&&decide (d.1.2.2.1≤(8:Int))) (.ret (.ret (((ai d.1.1 d.1.2.1 d.1.2.2.1).1,()),()))) .no
abbrev BL:List (Nat×Hc):=[(46,ah dR ot)]
def Gp:Hd:=bM BL
def CH:Lp:=cc []
def Bp (a0:LI)(a1 a2:Int):Option ji.Res:=bif decide (0≤a2)&&decide (a2≤8) then oR (((ai a0 a1 a2).1,()),()) else none
theorem Fu (a0:LI)(a1 a2:Int):Io.run tt Gp dr CH ji Tryd.f22 ((a0,a1,a2,()),())=Bp a0 a1 a2:=by kernel_rfl
theorem C3:HcOk prog 22 (ah ji xo):=by
 refine cq (cs:=BL) (.cons Ab .nil) (lp:=CH) (fn:=Tryd.f22) ji (.done (by kernel_rfl)) xo ?_
 rintro ⟨⟨(b:LI),(p:Int),(n:Int),⟨⟩⟩,⟨⟩⟩ out hw ho
 obtain ⟨hg,ho⟩:=Tr.guard ho
 cases ho
 refine (Fu b p n).trans ?_
 exact aa hg _ _
abbrev gj:Io:=⟨[nD,HV,Ee],[],[],[dB],none⟩
def vU (d:gj.In):Tr gj.Res:=.ret (.ret ((!ax d.1.1 d.1.2.1 d.1.2.2.1,()),()))
abbrev xX:List (Nat×Hc):=[]
def EK:Hd:=bM xX
def yE:Lp:=cc []
def qC (a0 a1 a2:Int):Option gj.Res:=bif decide (a0<0) then bif a0 == -1 then bif a1 == -1 then oR ((a2 == -1,()),()) else oR ((false,()),()) else oR ((false,()),()) else bif decide (0≤a1) then oR ((decide (0≤a2),()),()) else oR ((false,()),())
theorem DA (a0 a1 a2:Int):Io.run tt EK dr yE gj Tryd.f26 ((a0,a1,a2,()),())=qC a0 a1 a2:=by kernel_rfl
theorem E5:HcOk prog 26 (ah gj vU):=by
 refine cq (cs:=xX) HcsOk.nil (lp:=yE) (fn:=Tryd.f26) gj (.done (by kernel_rfl)) vU ?_
 rintro ⟨⟨(pid:Int),(ep:Int),(sq:Int),⟨⟩⟩,⟨⟩⟩ out hw ho
 cases ho
 refine (DA pid ep sq).trans ?_
 show _=oR ((!(if pid = -1∧ep = -1∧sq = -1∨0≤pid∧0≤ep∧0≤sq then false else true),()),())
 have key:∀c:Prop,[Decidable c]→∀b:Bool,(b=true↔c)→some (Out.ret ((b,()),()):gj.Res)=oR ((!(if c then false else true),()),()):=by
  intro c _ b h
  by_cases hc:c
  ·rw[if_pos hc,h.2 hc];rfl
  ·rw[if_neg hc]
   cases b with
   |false=>rfl
   |true=>exact absurd (h.1 rfl) hc
 unfold qC
 by_cases h1:pid<0
 ·refine bT (decide_eq_true h1) ?_
  by_cases h2:pid = -1
  ·refine bT (by simp[h2]) ?_
   by_cases h3:ep = -1
   ·refine bT (by simp[h3]) ?_
    exact key _ _ (by simp;omega)
   ·refine bF (by simp[h3]) ?_
    exact key _ _ (by simp;omega)
  ·refine bF (by simp[h2]) ?_
   exact key _ _ (by simp;omega)
 ·refine bF (decide_eq_false h1) ?_
  by_cases h2:0≤ep
  ·refine bT (decide_eq_true h2) ?_
   exact key _ _ (by simp;omega)
  ·refine bF (decide_eq_false h2) ?_
   exact key _ _ (by simp;omega)
theorem lZ {b:LI}{p n:Nat}(h:p+n≤b.length):(ai b (p:Int) (n:Int)).1=ap b p n:=by
 unfold ai ap
 rw[if_neg (by omega),zG,zG]
abbrev gi:Io:=⟨[dL,dI],[],[],[dI,dI],none⟩
def rP (d:gi.In):Tr gi.Res:=.ret (.ret (((ao d.1.1 d.1.2.1).1,(ao d.1.1 d.1.2.1).2,()),()))
abbrev xW:List (Nat×Hc):=[(22,ah ji xo)]
def EJ:Hd:=bM xW
def yD:Lp:=cc []
def qB (a0:LI)(a1:Int):Option gi.Res:=bif decide (a1<0) then oR ((0,3,()),()) else bif decide ((↑a0.length:Int)<a1) then oR ((0,3,()),()) else bif decide (i64.wrap ((↑a0.length:Int) - a1)<12) then oR ((0,1,()),()) else bif decide ((ai a0 (i64.wrap (a1+8)) 4).1<49) then oR ((0,5,()),()) else bif decide (35988<(ai a0 (i64.wrap (a1+8)) 4).1) then oR ((0,4,()),()) else bif decide (i64.wrap (i64.wrap ((↑a0.length:Int) - a1) - 12)<(ai a0 (i64.wrap (a1+8)) 4).1) then oR ((0,1,()),()) else oR ((i64.wrap ((ai a0 (i64.wrap (a1+8)) 4).1+12),0,()),())
theorem Dz (a0:LI)(a1:Int):Io.run tt EJ dr yD gi Tryd.f8 ((a0,a1,()),())=qB a0 a1:=by kernel_rfl
theorem yX:HcOk prog 8 (ah gi rP):=by
 refine cq (cs:=xW) (.cons C3 .nil) (lp:=yD) (fn:=Tryd.f8) gi (.done (by kernel_rfl)) rP ?_
 rintro ⟨⟨(b:LI),(p:Int),⟨⟩⟩,⟨⟩⟩ out hw ho
 cases ho
 refine (Dz b p).trans ?_
 have hl:b.length≤9223372036854775807:=hw.1.1.1
 show _=oR (((ao b p).1,(ao b p).2,()),())
 unfold qB ao
 by_cases h1:p<0
 ·refine bT (decide_eq_true h1) ?_
  rw[if_pos (.inl h1)]
 refine bF (decide_eq_false h1) ?_
 by_cases h2:(b.length:Int)<p
 ·refine bT (decide_eq_true h2) ?_
  rw[if_pos (.inr h2)]
 refine bF (decide_eq_false h2) ?_
 rw[if_neg (by omega),ae (n:=(b.length:Int) - p) (by omega) (by omega)]
 by_cases h3:(b.length:Int) - p<12
 ·refine bT (decide_eq_true h3) ?_
  rw[if_pos h3]
 refine bF (decide_eq_false h3) ?_
 obtain ⟨p,rfl⟩:=av (show 0≤p by omega)
 have e:(ai b (i64.wrap ((p:Int)+8)) 4).1=ap b (p+8) 4:=by
  rw[ae (n:=(p:Int)+8) (by omega) (by omega)]
  exact lZ (b:=b) (p:=p+8) (n:=4) (by omega)
 rw[if_neg h3,e,zG,ae (n:=(b.length:Int) - p - 12) (by omega) (by omega)]
 by_cases h4:ap b (p+8) 4<49
 ·refine bT (decide_eq_true h4) ?_
  rw[if_pos h4]
 refine bF (decide_eq_false h4) ?_
 rw[if_neg h4]
 by_cases h5:35988<ap b (p+8) 4
 ·refine bT (decide_eq_true h5) ?_
  rw[if_pos h5]
 refine bF (decide_eq_false h5) ?_
 rw[if_neg h5]
 by_cases h6:(b.length:Int) - p - 12<ap b (p+8) 4
 ·refine bT (decide_eq_true h6) ?_
  rw[if_pos h6]
 refine bF (decide_eq_false h6) ?_
 rw[if_neg h6,ae (n:=ap b (p+8) 4+12) (by omega) (by omega)]
def xd (a0:LI):Option (Out ((p8×Int×Unit)×Unit) Empty):=bif decide (0≤22)&&decide (22<(↑a0.length:Int)) then bif decide ((ai a0 0 8).1<0) then oR (((0,0,0,false,0,0,0,0,0,0,()),80,()),()) else bif decide (4611686018427387648<(ai a0 0 8).1) then oR (((0,0,0,false,0,0,0,0,0,0,()),80,()),()) else bif decide (0≤21)&&decide (21<(↑a0.length:Int)) then bif a0.getD (Int.toNat 21) 0 != 0 then oR (((0,0,0,false,0,0,0,0,0,0,()),83,()),()) else bif decide (0≤22)&&decide (22<(↑a0.length:Int)) then bif decide (1<a0.getD (Int.toNat 22) 0) then oR (((0,0,0,false,0,0,0,0,0,0,()),83,()),()) else bif !!ax (ai a0 43 8).1 (i16.wrap (ai a0 51 2).1) (i32.wrap (ai a0 53 4).1) then oR (((0,0,0,false,0,0,0,0,0,0,()),84,()),()) else bif decide ((ai a0 57 4).1<1) then oR (((0,0,0,false,0,0,0,0,0,0,()),85,()),()) else bif decide (256<(ai a0 57 4).1) then oR (((0,0,0,false,0,0,0,0,0,0,()),9,()),()) else bif (ai a0 23 4).1 != i64.wrap ((ai a0 57 4).1 - 1) then oR (((0,0,0,false,0,0,0,0,0,0,()),72,()),()) else oR ((((ai a0 0 8).1,(↑a0.length:Int),i32.wrap (ai a0 12 4).1,a0.getD (Int.toNat 22) 0 == 1,(ai a0 57 4).1,(ai a0 27 8).1,(ai a0 35 8).1,(ai a0 43 8).1,i16.wrap (ai a0 51 2).1,i32.wrap (ai a0 53 4).1,()),0,()),()) else none else none else none
theorem AU {b:LI}(hb:∀c∈b,0≤c∧c≤255){p:Nat}(h:p+2≤b.length):i16.wrap (ap b p 2)=ap b p 2:=by
 unfold ap
 rw[← za (gm hb p 2) (gr h)]
 exact be (bB _ _)
theorem rk {b:LI}(hb:∀c∈b,0≤c∧c≤255){p:Nat}(h:p+4≤b.length):i32.wrap (ap b p 4)=ap b p 4:=by
 unfold ap
 rw[← n9 (gm hb p 4) (gr h)]
 exact be (bB _ _)
theorem AV {b:LI}(hb:∀c∈b,0≤c∧c≤255)(hl:61≤b.length):
  xd b=some (.ret ((if aD (ap b 0 8)=true then (aK,(80,())) else if b.getD 21 0≠0∨1<b.getD 22 0 then (aK,(83,())) else if ax (ap b 43 8) (ap b 51 2) (ap b 53 4)=true then (aK,(84,())) else if ap b 57 4<1 then (aK,(85,())) else if 256<ap b 57 4 then (aK,(9,())) else if ap b 23 4≠ap b 57 4 - 1 then (aK,(72,())) else (iB b,(0,()))),())):=by
 have hz:∀p n:Nat,p+n≤61→(ai b (p:Int) (n:Int)).1=ap b p n:=fun p n h=>lZ (by omega)
 have z0:(ai b 0 8).1=ap b 0 8:=hz 0 8 (by decide)
 have z12:(ai b 12 4).1=ap b 12 4:=hz 12 4 (by decide)
 have z23:(ai b 23 4).1=ap b 23 4:=hz 23 4 (by decide)
 have z27:(ai b 27 8).1=ap b 27 8:=hz 27 8 (by decide)
 have z35:(ai b 35 8).1=ap b 35 8:=hz 35 8 (by decide)
 have z43:(ai b 43 8).1=ap b 43 8:=hz 43 8 (by decide)
 have z51:(ai b 51 2).1=ap b 51 2:=hz 51 2 (by decide)
 have z53:(ai b 53 4).1=ap b 53 4:=hz 53 4 (by decide)
 have z57:(ai b 57 4).1=ap b 57 4:=hz 57 4 (by decide)
 have w51:=AU hb (p:=51) (by omega)
 have w53:=rk hb (p:=53) (by omega)
 have w12:=rk hb (p:=12) (by omega)
 unfold xd
 rw[z0,z12,z23,z27,z35,z43,z51,z53,z57,w51,w53,w12]
 have hI:iB b=(ap b 0 8,(b.length:Int),ap b 12 4,decide (b.getD 22 0=1),ap b 57 4,ap b 27 8,ap b 35 8,ap b 43 8,ap b 51 2,ap b 53 4,()):=rfl
 have hB:aD (ap b 0 8)=(decide (ap b 0 8<0) || decide (4611686018427387648<ap b 0 8)):=rfl
 have hxy:(b.getD (Int.toNat 22) 0 == 1)=decide (b.getD 22 0=1):=by
  show (b.getD 22 0 == 1)=_
  by_cases h:b.getD 22 0=1
  ·rw[h];rfl
  ·rw[decide_eq_false h];exact beq_eq_false_iff_ne.2 h
 rw[hI,hB,hxy,show Int.toNat 21=21 from rfl,show Int.toNat 22=22 from rfl]
 generalize b.getD 21 0=x at *
 generalize b.getD 22 0=y at *
 generalize ap b 0 8=base at *
 generalize ap b 57 4=cnt at *
 generalize ap b 23 4=mst at *
 refine bT (by simp only[zA,zB];omega) ?_
 by_cases c0:base<0
 ·refine bT (decide_eq_true c0) ?_
  rw[if_pos (by rw[decide_eq_true c0];rfl)]
  rfl
 refine bF (decide_eq_false c0) ?_
 by_cases c1:4611686018427387648<base
 ·refine bT (decide_eq_true c1) ?_
  rw[if_pos (by rw[decide_eq_true c1,Bool.or_true])]
  rfl
 refine bF (decide_eq_false c1) ?_
 rw[if_neg (by rw[decide_eq_false c0,decide_eq_false c1];decide)]
 refine bT (by simp only[zA,zB];omega) ?_
 by_cases c2:x=0
 rotate_left
 ·refine bT (by simpa using c2) ?_
  rw[if_pos (.inl c2)]
  rfl
 refine bF (by simpa using c2) ?_
 refine bT (by simp only[zA,zB];omega) ?_
 by_cases c3:1<y
 ·refine bT (decide_eq_true c3) ?_
  rw[if_pos (.inr c3)]
  rfl
 refine bF (decide_eq_false c3) ?_
 rw[if_neg (by rintro (h | h);exact h c2;exact c3 h)]
 cases c3:ax (ap b 43 8) (ap b 51 2) (ap b 53 4) with
 |true=>exact (aa rfl _ _)
 |false=>
 refine (ac rfl _ _).trans ?_
 rw[if_neg (show ¬ false=true by decide)]
 by_cases c4:cnt<1
 ·refine bT (decide_eq_true c4) ?_
  rw[if_pos c4]
  rfl
 refine bF (decide_eq_false c4) ?_
 rw[if_neg c4]
 by_cases c5:256<cnt
 ·refine bT (decide_eq_true c5) ?_
  rw[if_pos c5]
  rfl
 refine bF (decide_eq_false c5) ?_
 rw[if_neg c5,ae (n:=cnt - 1) (by omega) (by omega)]
 by_cases c6:mst=cnt - 1
 ·refine bF (by simpa using c6) ?_
  rw[if_neg (aP c6)]
 ·refine bT (by simpa using c6) ?_
  rw[if_pos c6]
  rfl
abbrev gg:Io:=⟨[dL,dB],[],[],[BN,dI],none⟩
def vT (d:gg.In):Tr gg.Res:=.ret (.ret (((aj d.1.1 d.1.2.1).1,(aj d.1.1 d.1.2.1).2,()),()))
abbrev xV:List (Nat×Hc):=[(8,ah gi rP),(22,ah ji xo),(26,ah gj vU),(18,ah gY tj),(24,ah dQ oq),(25,ah fA rz)]
def EI:Hd:=bM xV
def yC:Lp:=cc []
def qA (a0:LI)(a1:Bool):Option gg.Res:=bif decide ((↑a0.length:Int)<61) then oR (((0,0,0,false,0,0,0,0,0,0,()),1,()),()) else bif (ao a0 0).2 != 0 then oR (((0,0,0,false,0,0,0,0,0,0,()),(ao a0 0).2,()),()) else bif decide ((ao a0 0).1<(↑a0.length:Int)) then oR (((0,0,0,false,0,0,0,0,0,0,()),2,()),()) else bif decide (0≤16)&&decide (16<(↑a0.length:Int)) then bif a0.getD (Int.toNat 16) 0 != 2 then oR (((0,0,0,false,0,0,0,0,0,0,()),81,()),()) else bif a1 then bif decide (0≤17)&&(decide (17≤21)&&decide (21≤(↑a0.length:Int))) then bif decide (0≤21)&&(decide (21≤(↑a0.length:Int))&&decide ((↑a0.length:Int)≤(↑a0.length:Int))) then bif !decide (List.drop (Int.toNat 17) (List.take (Int.toNat 21) a0)=aw (i64.wrap (cd 0 (List.drop (Int.toNat 21) (List.take (↑a0.length:Int).toNat a0)))) (Int.toNat 4)) then oR (((0,0,0,false,0,0,0,0,0,0,()),82,()),()) else bif decide (0≤22)&&decide (22<(↑a0.length:Int)) then bif decide ((ai a0 0 8).1<0) then oR (((0,0,0,false,0,0,0,0,0,0,()),80,()),()) else bif decide (4611686018427387648<(ai a0 0 8).1) then oR (((0,0,0,false,0,0,0,0,0,0,()),80,()),()) else bif decide (0≤21)&&decide (21<(↑a0.length:Int)) then bif a0.getD (Int.toNat 21) 0 != 0 then oR (((0,0,0,false,0,0,0,0,0,0,()),83,()),()) else bif decide (0≤22)&&decide (22<(↑a0.length:Int)) then bif decide (1<a0.getD (Int.toNat 22) 0) then oR (((0,0,0,false,0,0,0,0,0,0,()),83,()),()) else bif !!ax (ai a0 43 8).1 (i16.wrap (ai a0 51 2).1) (i32.wrap (ai a0 53 4).1) then oR (((0,0,0,false,0,0,0,0,0,0,()),84,()),()) else bif decide ((ai a0 57 4).1<1) then oR (((0,0,0,false,0,0,0,0,0,0,()),85,()),()) else bif decide (256<(ai a0 57 4).1) then oR (((0,0,0,false,0,0,0,0,0,0,()),9,()),()) else bif (ai a0 23 4).1 != i64.wrap ((ai a0 57 4).1 - 1) then oR (((0,0,0,false,0,0,0,0,0,0,()),72,()),()) else oR ((((ai a0 0 8).1,(↑a0.length:Int),i32.wrap (ai a0 12 4).1,a0.getD (Int.toNat 22) 0 == 1,(ai a0 57 4).1,(ai a0 27 8).1,(ai a0 35 8).1,(ai a0 43 8).1,i16.wrap (ai a0 51 2).1,i32.wrap (ai a0 53 4).1,()),0,()),()) else none else none else none else none else none else bif decide (0≤22)&&decide (22<(↑a0.length:Int)) then bif decide ((ai a0 0 8).1<0) then oR (((0,0,0,false,0,0,0,0,0,0,()),80,()),()) else bif decide (4611686018427387648<(ai a0 0 8).1) then oR (((0,0,0,false,0,0,0,0,0,0,()),80,()),()) else bif decide (0≤21)&&decide (21<(↑a0.length:Int)) then bif a0.getD (Int.toNat 21) 0 != 0 then oR (((0,0,0,false,0,0,0,0,0,0,()),83,()),()) else bif decide (0≤22)&&decide (22<(↑a0.length:Int)) then bif decide (1<a0.getD (Int.toNat 22) 0) then oR (((0,0,0,false,0,0,0,0,0,0,()),83,()),()) else bif !!ax (ai a0 43 8).1 (i16.wrap (ai a0 51 2).1) (i32.wrap (ai a0 53 4).1) then oR (((0,0,0,false,0,0,0,0,0,0,()),84,()),()) else bif decide ((ai a0 57 4).1<1) then oR (((0,0,0,false,0,0,0,0,0,0,()),85,()),()) else bif decide (256<(ai a0 57 4).1) then oR (((0,0,0,false,0,0,0,0,0,0,()),9,()),()) else bif (ai a0 23 4).1 != i64.wrap ((ai a0 57 4).1 - 1) then oR (((0,0,0,false,0,0,0,0,0,0,()),72,()),()) else oR ((((ai a0 0 8).1,(↑a0.length:Int),i32.wrap (ai a0 12 4).1,a0.getD (Int.toNat 22) 0 == 1,(ai a0 57 4).1,(ai a0 27 8).1,(ai a0 35 8).1,(ai a0 43 8).1,i16.wrap (ai a0 51 2).1,i32.wrap (ai a0 53 4).1,()),0,()),()) else none else none else none else none
theorem Dy (a0:LI)(a1:Bool):Io.run tt EI dr yC gg Tryd.f10 ((a0,a1,()),())=qA a0 a1:=by kernel_rfl
theorem E4:HcOk prog 10 (ah gg vT):=by
 refine cq (cs:=xV) (.cons yX (.cons C3 (.cons E5 (.cons wy (.cons z9 (.cons CO .nil)))))) (lp:=yC) (fn:=Tryd.f10) gg (.done (by kernel_rfl)) vT ?_
 rintro ⟨⟨(b:LI),(sm:Bool),⟨⟩⟩,⟨⟩⟩ out hw ho
 cases ho
 have hb:∀c∈b,0≤c∧c≤255:=cS hw.1.1
 refine (Dy b sm).trans ?_
 show _=oR (((aj b sm).1,(aj b sm).2,()),())
 have eE:aZ b sm=if (b.length:Int)<61 then 1 else if (ao b 0).2≠0 then (ao b 0).2 else if (ao b 0).1<(b.length:Int) then 2 else if b.getD 16 0≠2 then 81 else if sm=true∧fg b=false then 82
   else if aD (ap b 0 8)=true then 80 else if b.getD 21 0≠0∨1<b.getD 22 0 then 83 else if ax (ap b 43 8) (ap b 51 2) (ap b 53 4)=true then 84 else if ap b 57 4<1 then 85 else if 256<ap b 57 4 then 9 else if ap b 23 4≠ap b 57 4 - 1 then 72 else 0:=rfl
 have fin:∀e:Int,e≠0→aZ b sm=e→some (Out.ret ((aK,(e,())),()):gg.Res)=oR (((aj b sm).1,(aj b sm).2,()),()):=by
  intro e he h
  have:aj b sm=(aK,e):=by unfold aj;rw[h,if_pos he]
  rw[this]
 unfold qA
 by_cases h1:(b.length:Int)<61
 ·refine bT (decide_eq_true h1) ?_
  exact fin 1 (by decide) (by rw[eE,if_pos h1])
 refine bF (decide_eq_false h1) ?_
 rw[if_neg h1] at eE
 by_cases h2:(ao b 0).2=0
 rotate_left
 ·refine bT (by simpa using h2) ?_
  exact fin _ h2 (by rw[eE,if_pos h2])
 refine bF (by simpa using h2) ?_
 rw[if_neg (aP h2)] at eE
 by_cases h3:(ao b 0).1<(b.length:Int)
 ·refine bT (decide_eq_true h3) ?_
  exact fin 2 (by decide) (by rw[eE,if_pos h3])
 refine bF (decide_eq_false h3) ?_
 rw[if_neg h3] at eE
 refine bT (by simp only[zA,zB];omega) ?_
 rw[show Int.toNat 16=16 from rfl]
 by_cases h4:b.getD 16 0=2
 rotate_left
 ·refine bT (by simpa using h4) ?_
  exact fin 81 (by decide) (by rw[eE,if_pos h4])
 refine bF (by simpa using h4) ?_
 rw[if_neg (aP h4)] at eE
 have hT:=AV hb (by omega)
 have fin2:¬(sm=true∧fg b=false)→xd b=oR (((aj b sm).1,(aj b sm).2,()),()):=by
  intro hn
  rw[if_neg hn] at eE
  rw[hT]
  have hs:aj b sm=if aZ b sm≠0 then (aK,aZ b sm) else (iB b,0):=rfl
  rw[hs,eE]
  by_cases d1:aD (ap b 0 8)=true
  ·rw[if_pos d1,if_pos d1,if_pos (by decide)]
  rw[if_neg d1,if_neg d1]
  by_cases d2:b.getD 21 0≠0∨1<b.getD 22 0
  ·rw[if_pos d2,if_pos d2,if_pos (by decide)]
  rw[if_neg d2,if_neg d2]
  by_cases d3:ax (ap b 43 8) (ap b 51 2) (ap b 53 4)=true
  ·rw[if_pos d3,if_pos d3,if_pos (by decide)]
  rw[if_neg d3,if_neg d3]
  by_cases d4:ap b 57 4<1
  ·rw[if_pos d4,if_pos d4,if_pos (by decide)]
  rw[if_neg d4,if_neg d4]
  by_cases d5:256<ap b 57 4
  ·rw[if_pos d5,if_pos d5,if_pos (by decide)]
  rw[if_neg d5,if_neg d5]
  by_cases d6:ap b 23 4≠ap b 57 4 - 1
  ·rw[if_pos d6,if_pos d6,if_pos (by decide)]
  rw[if_neg d6,if_neg d6,if_neg (by decide)]
 cases sm with
 |false=>
  refine (ac rfl _ _).trans ?_
  exact fin2 (fun h=>by cases h.1)
 |true=>
  refine (aa rfl _ _).trans ?_
  rw[zG,List.take_length,show Int.toNat 21=21 from rfl,show Int.toNat 17=17 from rfl]
  refine bT (by simp only[zA,zB];omega) ?_
  refine bT (by simp only[zA,zB];omega) ?_
  have hc:=vr 0 (b:=b.drop 21) (by decide) (fun x h=>hb x (List.mem_of_mem_drop h))
  have e17:List.drop 17 (List.take 21 b)=(b.drop 17).take 4:=by rw[List.drop_take]
  rw[ae (by omega) (by omega),e17]
  have hS:fg b=if (b.drop 17).take 4=aw (cd 0 (b.drop 21)) 4 then true else false:=rfl
  by_cases h5:(b.drop 17).take 4=aw (cd 0 (b.drop 21)) 4
  ·rw[if_pos h5] at hS
   refine bF (by rw[show Int.toNat 4=4 from rfl,decide_eq_true h5];rfl) ?_
   exact fin2 (by rw[hS];exact fun h=>by cases h.2)
  ·rw[if_neg h5] at hS
   refine bT (by rw[show Int.toNat 4=4 from rfl,decide_eq_false h5];rfl) ?_
   exact fin 82 (by decide) (by rw[eE,if_pos ⟨rfl,hS⟩])
end
end Go.Proofs.YtcbcbjdobbgddaaDoor.Sym
namespace Go.Proofs.YtcbcbjdobbgddaaDoor.Sym
open Go
noncomputable section
end
end Go.Proofs.YtcbcbjdobbgddaaDoor.Sym
namespace Go.Proofs.YtcbcbjdobbgddaaDoor.Sym
open Go
open Go.IntKind (i8 i16 i32 i64 u8 u16 u32 u64)
noncomputable section
abbrev Hk:Type:=LI×Int×Int×Int×Unit
def vC (d:Hk):AS:=⟨[.one (.ptr 0 0),.one (.int .i64 d.2.1),.one (.int .i32 d.2.2.1)]++List.replicate 35 .any,[],[some [.ex 5 (.int .u8) 0 d.1 1 1,.int .i64 d.2.2.2.1]]⟩
def wl:Hd:=bM []
abbrev El:Func:=Tryd.f41
def nE:Func:={ El with results:=El.results.push (.tmp 0) }
abbrev dz:Lo:=⟨⟨(.one (.ptr 0 0)::.one hI::.one hJ::.any::al (.one hI::.any::al [])),[some [.exl 5 (Ty.int u8) 2 2,hI]]⟩,[(.exit 0,⟨(.one (.ptr 0 0)::.any::al (al (cV []))),[some [.exl 5 (Ty.int u8) 2 2,hI]]⟩)]⟩
def eP (xs:LI)(p:Nat)(v:Int):LI:=(((xs.set p (v / 256 ^ 3 % 256)).set (p+1) (v / 256 ^ 2 % 256)).set (p+2) (v / 256 ^ 1 % 256)).set (p+3) (v / 256 ^ 0 % 256)
theorem pE (xs:LI)(p:Nat)(v:Int):(eP xs p v).length=xs.length:=by simp[eP]
theorem AM (A T:LI)(a b c d v:Int):eP (A++a::b::c::d::T) A.length v=A++(aw v 4++T):=by
 simp[eP,aw,List.set_append]
def li (d:dz.st.den):Tr (aq dz.xs):=
 .ite (decide (d.1.2.2.1=0)&&(decide ((0:Int)≤d.1.1)&&decide (d.1.1+4≤(d.2.1.1.length:Int)))) (.ret (.ret ((),((),((eP d.2.1.1 d.1.1.toNat d.1.2.1,(d.2.1.2.1,())),()))))) .no
def mF:Lp:=cc [(5,aI dz li)]
def k8 {R:Type}(h4 h5 h6:Int)(h7:LI)(h8:Int)(next:Int→Int→Int→LI→Int→Option R)(out:aq dz.xs→Option R):Option R:=bif decide (h6<4) then bif decide (0≤i64.wrap (24 - i64.wrap (8*h6))) then bif decide ((↑0:Int)≤i64.wrap (h4+h6))&&decide (i64.wrap (h4+h6)<(↑0:Int)+(↑h7.length:Int)) then next (h4) (h5) (i64.wrap (h6+1)) (rh 0 (i64.wrap (h4+h6)).toNat h7 (u8.wrap (cO i32 h5 (i64.wrap (24 - i64.wrap (8*h6)))))) (h8) else none else none else out (.ret ((),((),((h7,(h8,())),()))))
def jn (n:Nat)(h4 h5 h6:Int)(h7:LI)(h8:Int):Option (aq dz.xs):=kW tt wl dr mF 1 nE (dF nE 0) n (dz.st.mk' ((h4,(h5,(h6,()))),((h7,(h8,())),()))) (ct dz.xs)
theorem vm (n:Nat)(h4 h5 h6:Int)(h7:LI)(h8:Int):jn (n+1) h4 h5 h6 h7 h8=k8 h4 h5 h6 h7 h8 (jn n) some:=by kernel_rfl
theorem Ii {v:Int}(h:bz .i32 v){i:Nat}(hi:i≤3):u8.wrap (cO i32 v (i64.wrap (24 - i64.wrap (8*(i:Int)))))=v / 256 ^ (3 - i) % 256:=by
 simp[bz,IntKind.min,IntKind.max,IntKind.signed,IntKind.bits] at h
 rw[ae (n:=8*(i:Int)) (by omega) (by omega),ae (n:=24 - 8*(i:Int)) (by omega) (by omega)]
 unfold cO
 have e:min (24 - 8*(i:Int)).toNat (i32).bits=8*(3 - i):=by
  show min (24 - 8*(i:Int)).toNat 32=_
  omega
 rw[e,show (2:Int) ^ (8*(3 - i))=256 ^ (3 - i) by rw[Int.pow_mul];rfl]
 have hp:(0:Int)<256 ^ (3 - i):=Int.pow_pos (by decide)
 rw[Int.fdiv_eq_ediv_of_nonneg _ (Int.le_of_lt hp)]
 have hr:bz .i32 (v / 256 ^ (3 - i)):=by
  have h1:v / 256 ^ (3 - i)=v.fdiv (2 ^ (8*(3 - i))):=by
   rw[show (2:Int) ^ (8*(3 - i))=256 ^ (3 - i) by rw[Int.pow_mul];rfl,Int.fdiv_eq_ediv_of_nonneg _ (Int.le_of_lt hp)]
  have h2:=uo .i32 (x:=v) (8*(3 - i)) (by simp[bz,IntKind.min,IntKind.max,IntKind.signed,IntKind.bits];omega)
  rw[h1,← h2]
  exact bB _ _
 rw[be hr]
 simp[IntKind.wrap,IntKind.signed,IntKind.bits]
theorem Ct {v:Int}(hv:bz .i32 v)(m:Int)(p k:Nat)(xs:LI)(h0:p+4≤xs.length)(hl:xs.length≤maxLen):jn (k+5) p v 0 xs m=some (.ret ((),((),((eP xs p v,(m,())),())))):=by
 rw[bN] at hl
 have go:∀(j i:Nat) (ys:LI),i≤3→ys.length=xs.length→jn (j+1) p v i ys m=jn j p v ((i+1:Nat):Int) (ys.set (p+i) (v / 256 ^ (3 - i) % 256)) m:=by
  intro j i ys hi hy
  rw[vm]
  unfold k8
  rw[Ii hv hi]
  rw[ae (n:=(p:Int)+(i:Int)) (by omega) (by omega),ae (n:=(i:Int)+1) (by omega) (by omega),ae (n:=8*(i:Int)) (by omega) (by omega),ae (n:=24 - 8*(i:Int)) (by omega) (by omega)]
  refine bT (by simp;omega) ?_
  refine bT (by simp;omega) ?_
  refine bT (by simp only[zA,zB];omega) ?_
  rw[show ((p:Int)+(i:Int)).toNat=p+i by omega]
  rfl
 have g0:=go (k+4) 0 xs (by omega) rfl
 have g1:=go (k+3) 1 (xs.set (p+0) (v / 256 ^ (3 - 0) % 256)) (by omega) (by simp)
 have g2:=go (k+2) 2 ((xs.set (p+0) (v / 256 ^ (3 - 0) % 256)).set (p+1) (v / 256 ^ (3 - 1) % 256)) (by omega) (by simp)
 have g3:=go (k+1) 3 (((xs.set (p+0) (v / 256 ^ (3 - 0) % 256)).set (p+1) (v / 256 ^ (3 - 1) % 256)).set (p+2) (v / 256 ^ (3 - 2) % 256)) (by omega) (by simp)
 refine g0.trans (g1.trans (g2.trans (g3.trans ?_)))
 rw[vm]
 unfold k8
 exact ac (by simp) _ _
theorem Hz:LpsOk prog 1 mF (w5 nE) 0:=by
 refine .step (h0:=aI dz li) (by kernel_rfl) (lL (cs:=[]) HcsOk.nil (lp:=mF) (fn:=nE) (.done (by kernel_rfl)) dz li ?_) (.done (by kernel_rfl))
 rintro ⟨⟨(p:Int),(v:Int),(i:Int),⟨⟩⟩,⟨⟨(xs:LI),(m:Int),⟨⟩⟩,⟨⟩⟩⟩ y hw hy
 obtain ⟨hg,hy⟩:=Tr.guard hy
 simp only[zA,zB] at hg
 obtain ⟨h1,h2,h3⟩:=hg
 have h1:i=0:=h1
 have h2:0≤p:=h2
 have h3:p+4≤(xs.length:Int):=h3
 subst h1
 obtain ⟨p,rfl⟩:=av h2
 refine ⟨5,(Ct (k:=0) hw.1.2.1 m p xs (by omega) hw.2.1.1.1).trans ?_⟩
 rw[← hy];rfl
def GV (ex:Ex)(A:AS):Option (Int×LI×Int):=match ex with
 |.ret=>match A.get 6,A.ob with
  |.one (.int .i64 r),some [.ex _ (.int .u8) lo xs _ _,.int .i64 m]::_=>bif Nat.beq lo 0 then some (r,xs,m) else none
  |_,_=>none
 |_=>none
theorem GW (xs:LI)(p v m:Int):ev tt wl dr mF 1 (dH nE) (aB nE) (dH nE) [] (vC (xs,p,v,m,())) GV=bif decide (p<0) then some ((3:Int),xs,m) else bif decide (i64.wrap ((↑0:Int)+(↑xs.length:Int) - 4)<p) then some ((3:Int),xs,m) else (li ((p,(v,(0,()))),((xs,(m,())),()))).run fun y=>match y with | .ret ((),((),(x16,x17,()),()))=>some ((0:Int),x16,x17):=by kernel_rfl
def Az (w:World)(bw b:Nat):Nat→Nat→Prop:=fun b' o=>b'≠b∧b'≠bw∧∃v,w.cell? ⟨b',o,none⟩=some v
def sY (w:World)(bw b:Nat):Fra:=⟨w,fun b'=>b'=b∨b'=bw,Az w bw b,fun k=>if k=0 then some bw else none⟩
def nf (w:World)(bw b:Nat):Gh:=⟨Az w bw b,fun k=>if k=0 then some bw else none,fun j=>if j=1 then some (b,0) else none⟩
theorem DB {w:World}{bw b:Nat}(hw:bw<w.heap.size)(hb:b<w.heap.size)(hne:bw≠b)(ht:gI (Az w bw b) w):GhOk (sY w bw b) (nf w bw b) w where
 mu:=fun k b' h=>by
  simp only[nf] at h
  split at h
  ·cases h;exact ⟨.inr (.inr rfl),fun _ h=>h.2.1 rfl,hw⟩
  ·cases h
 muI:=fun k k' b' h h'=>by
  simp only[nf] at h h'
  split at h <;> split at h'
  ·rename_i e1 e2;exact e1.trans e2.symm
  ·cases h'
  ·cases h
  ·cases h
 ow:=fun i b' l h=>by
  simp only[nf] at h
  split at h
  ·cases h
   refine ⟨fun _ _ h=>h.1 rfl,.inr (.inl rfl),hb,fun k h=>?_⟩
   simp only[nf] at h
   split at h
   ·cases h;exact hne rfl
   ·cases h
  ·cases h
 owI:=fun i j b' l l' h h'=>by
  simp only[nf] at h h'
  split at h <;> split at h'
  ·rename_i e1 e2;exact e1.trans e2.symm
  ·cases h'
  ·cases h
  ·cases h
 sB:=fun b' o h=>by
  obtain ⟨_,_,v,h⟩:=h
  unfold World.cell? at h
  split at h
  ·rename_i e
   exact (Array.getElem?_eq_some_iff.1 e).1
  ·cases h
 fr:=⟨rfl,rfl,rfl,Nat.le_refl _,fun _ _ _=>rfl⟩
 sub:=fun _ _ h=>h
 sup:=fun _ _ h=>.inl h
 keep:=fun _ _ _=>rfl
 fix_:=fun _ _ h=>h
 tab:=ht
theorem AA (w:World)(xs:LI)(m v:Int)(bw b cap n:Nat)(curw cur:Array Value)(elw el:TypeId)(hw:w.heap[bw]?=some (.cells curw elw (0,0)))(hcw:curw.toList=[.slice (some ⟨b,0,none⟩) n cap,.int .i64 m])(hn:n=xs.length)
  (hh:w.heap[b]?=some (.cells cur el (0,0))) (hcs:cur.size=cap) (hle:xs.length≤cap) (hcap:cap≤maxLen) (hne:bw≠b) (ht:gI (Az w bw b) w) (h21:21≤xs.length) (hv:bz .i32 v) (hmm:bz .i64 m)
  (hx:∀(k:Nat) (x:Int),xs[k]?=some x→bz .u8 x∧cur[k]?=some (Value.int .u8 x)):
  Calls prog 41 #[.pointer (some ⟨bw,0,none⟩),.int .i64 17,.int .i32 v] w fun e w'=>e=.returned (.int .i64 0)∧(sY w bw b).ok w'∧(∀b' o,Az w bw b b' o→w'.cell? ⟨b',o,none⟩=w.cell? ⟨b',o,none⟩)∧
   ∃(b2 cap2:Nat) (curw2 cur2:Array Value) (elw2 el2:TypeId) (m':Int),w'.heap[bw]?=some (.cells curw2 elw2 (0,0))∧curw2.toList=[.slice (some ⟨b2,0,none⟩) xs.length cap2,.int .i64 m']∧(b2=b∨w.heap.size≤b2)∧b2≠bw∧b2<w'.heap.size∧
    w'.heap[b2]?=some (.cells cur2 el2 (0,0))∧cur2.size=cap2∧xs.length≤cap2∧cap2≤maxLen∧m'=m∧∀(k:Nat) (x:Int),(eP xs 17 v)[k]?=some x→bz .u8 x∧cur2[k]?=some (Value.int .u8 x):=by
 have htt:=cY Tryd.prog 400
 have hc:El.body=some (aB nE):=by kernel_rfl
 refine calls_of_wp (P:=prog) (fn:=El) (by kernel_rfl) hc ?_
 have hxl:(xs.length:Int)≤9223372036854775807:=by rw[bN] at hcap;omega
 have R0:Rel (sY w bw b) (nf w bw b) (vC (xs,17,v,m,())) (#[.pointer (some ⟨bw,0,none⟩),.int .i64 17,.int .i32 v]++Array.replicate (El.ntmps - 3) undef) [] w:=by
  refine ⟨?_,trivial,fun k cs hk=>?_,DB (yd hw) (yd hh) hne ht⟩
  ·rw[show El.ntmps - 3=35 by kernel_rfl,Array.toList_append,Array.toList_replicate]
   exact ⟨⟨bw,rfl,rfl⟩,⟨rfl,(⟨by decide,by decide⟩:bz .i64 17)⟩,⟨rfl,hv⟩,All2.replicate (R:=Rv (nf w bw b) w) (a:=.any) (b:=undef) trivial 35⟩
  ·cases k with
   |succ k=>simp[vC] at hk
   |zero=>
    simp only[vC,List.getElem?_cons_zero,zC] at hk
    subst hk
    refine ⟨bw,_,rfl,hw,.inl ⟨curw,elw,rfl,?_⟩⟩
    rw[hcw]
    refine ⟨.inr ⟨b,cap,by rw[hn,Nat.zero_add],⟨by decide,by decide,.inl rfl⟩,cur,el,hh,by rw[hcs];simp[Ty.size],by rw[Nat.zero_add];exact hle,hcap,fun k x hk=>?_⟩,⟨rfl,hmm⟩,trivial⟩
    obtain ⟨h1,h2⟩:=hx k x hk
    refine ⟨[.int .u8 x],⟨rfl,h1⟩,fun q u hq=>?_⟩
    cases q with
    |succ q=>simp at hq
    |zero=>
     simp only[List.getElem?_cons_zero,zC] at hq
     subst hq
     simpa [Ty.size] using h2
 have hrun:ev tt wl dr mF 1 (dH nE) (aB nE) (dH nE) [] (vC (xs,17,v,m,())) GV=some (0,eP xs 17 v,m):=by
  refine (GW xs 17 v m).trans ?_
  refine bF (by decide) ?_
  rw[ae (n:=(0:Int)+(xs.length:Int) - 4) (by omega) (by omega)]
  refine bF (decide_eq_false (by omega)) ?_
  unfold li
  refine bT (by simp only[zA,zB];exact ⟨trivial,by decide,show (17:Int)+4≤(xs.length:Int) by omega⟩) ?_
  rfl
 have hkb:∀d,(sY w bw b).mu0 (1+d)=none:=fun d=>if_neg (by omega)
 refine cv htt hm (gz HcsOk.nil) (cK htt) hkb (lp:=mF) (aB nE) (Hz.all) hrun R0 ?_
 intro ex A' G' a' w' R' hd hk
 cases ex with
 |normal=>cases hk
 |exit i=>cases hk
 |panic v=>cases hk
 |ret=>
  refine ⟨hd,?_⟩
  unfold GV at hk
  simp only at hk
  split at hk
  ·rename_i r0 e lo ys i j m0 rest e1 e2
   cases hz:Nat.beq lo 0 with
   |false=>rw[hz] at hk;cases hk
   |true=>
    rw[hz] at hk
    have hz:=Nat.eq_of_beq_eq_true hz
    subst hz
    simp only[cond_true,zC,zD] at hk
    obtain ⟨rfl,hys,rfl⟩:=hk
    have hyl:ys.length=xs.length:=by rw[hys];exact pE _ _ _
    have e0:El.results.toList=[.tmp 6]:=by kernel_rfl
    obtain ⟨us,hres,hus⟩:=nd (P:=prog) htt R' El (by
     rw[e0]
     intro v hv
     simp only[zL,List.map_nil,List.mem_singleton] at hv
     subst hv
     show A'.get 6≠.any
     rw[e1]
     exact fun h=>by cases h)
    rw[e0] at hus
    obtain ⟨u,rfl,hu⟩:∃u,us=[u]∧Rv G' w' (A'.get 6) u:=by
     cases us with
     |nil=>exact hus.elim
     |cons u us=>
      cases us with
      |nil=>exact ⟨u,rfl,hus.1⟩
      |cons _ _=>exact hus.2.elim
    rw[e1] at hu
    have hu:u=.int .i64 0:=hu.1
    subst hu
    obtain ⟨bo,oo,hm0,hh0,ho⟩:=R'.ob 0 [.ex e (.int .u8) 0 ys i j,.int .i64 m0] (by rw[e2];rfl)
    have hfx:=R'.gh.fix_ 0 bw rfl
    rw[hfx] at hm0
    cases hm0
    obtain ⟨curw2,elw2,rfl,hcs2⟩:=ho.cells (by simp[C.isItr])
    obtain ⟨v1,v2,hv12,hv1,hv2⟩:∃v1 v2,curw2.toList=[v1,v2]∧Rc G' w' (.ex e (.int .u8) 0 ys i j) v1∧Rc G' w' (.int .i64 m0) v2:=by
     match hl:curw2.toList with
     |[]=>rw[hl] at hcs2;exact hcs2.elim
     |[_]=>rw[hl] at hcs2;exact hcs2.2.elim
     |[v1,v2]=>rw[hl] at hcs2;exact ⟨v1,v2,rfl,hcs2.1,hcs2.2.1⟩
     |_::_::_::_=>rw[hl] at hcs2;exact hcs2.2.2.elim
    have hv2:v2=.int .i64 m0:=hv2.1
    subst hv2
    rcases hv1 with ⟨_,hnil,_⟩ | ⟨b2,cap2,rfl,⟨_,_,how⟩,cur2,el2,g1,g2,g3,g4,g5⟩
    ·rw[hnil] at hyl;simp at hyl;omega
    obtain ⟨l,how⟩:∃l,G'.ow l=some (b2,0):=by rcases how with h | h <;> exact ⟨_,h⟩
    obtain ⟨_,k2,k3,k4⟩:=R'.gh.ow l b2 0 how
    have hb2:b2≠bw:=by rintro rfl;exact k4 0 hfx
    rw[Nat.zero_add] at hv12 g3
    refine ⟨_,hres,rfl,R'.gh.fr,fun b' o hs=>R'.gh.keep b' o hs,b2,cap2,curw2,cur2,elw2,el2,m0,hh0,by rw[hv12,hyl],?_,hb2,k3,g1,by rw[g2];simp[Ty.size],by omega,g4,rfl,fun k x hk=>?_⟩
    ·rcases k2 with h | h | h
     ·exact .inr h
     ·exact .inl h
     ·exact absurd h hb2
    ·rw[← hys] at hk
     obtain ⟨c,⟨rfl,hin⟩,hq⟩:=g5 k x hk
     have:=hq 0 _ rfl
     exact ⟨hin,by simpa [Ty.size] using this⟩
  ·cases hk
end
end Go.Proofs.YtcbcbjdobbgddaaDoor.Sym
namespace Go.Proofs.YtcbcbjdobbgddaaDoor.Sym
open Go
noncomputable section
abbrev lI:Io:=fY
def xf (d:lI.In):Tr lI.Res:=
 .ite (cL (ay d.1.1.2.2.2.2.2.1) d.1.1.2.2.2.2.2.1 0&&decide (az d.1.1≠0)) (.ret (.ret ((([]:LI),(az d.1.1,())),()))) .no
theorem CQ:HcOk prog 33 (ah lI xf):=by
 refine HcOk.weakB yO ?_
 rintro ⟨⟨(b:eT),⟨⟩⟩,⟨⟩⟩ y hw hy
 obtain ⟨hg,hy⟩:=Tr.guard hy
 simp only[zA,zB] at hg
 obtain ⟨h1,h2⟩:=hg
 rw[← hy]
 have e:cM b=([],az b):=by unfold cM;rw[if_pos h2]
 show (me ((b,()),())).val=some (.ret ((([]:LI),(az b,())),()))
 unfold me
 rw[Tr.val_ite,if_pos h1,Tr.val_ret]
 show oR (((cM b).1,((cM b).2,())),())=_
 rw[e]
abbrev lJ:Io:=fY
def xg (d:lJ.In):Tr lJ.Res:=
 .ite (cL (ay d.1.1.2.2.2.2.2.1) d.1.1.2.2.2.2.2.1 0&&decide (az d.1.1=0)) (.ret (.ret (((bc d.1.1.2.2.2.2.2.1).1,(0,())),()))) .no
theorem CR:HcOk prog 33 (ah lJ xg):=by
 refine HcOk.weakB yO ?_
 rintro ⟨⟨(b:eT),⟨⟩⟩,⟨⟩⟩ y hw hy
 obtain ⟨hg,hy⟩:=Tr.guard hy
 simp only[zA,zB] at hg
 obtain ⟨h1,h2⟩:=hg
 rw[← hy]
 have e:cM b=((bc b.2.2.2.2.2.1).1,0):=by unfold cM;rw[if_neg (by rw[h2];exact fun h=>h rfl)]
 show (me ((b,()),())).val=some (.ret (((bc b.2.2.2.2.2.1).1,(0,())),()))
 unfold me
 rw[Tr.val_ite,if_pos h1,Tr.val_ret]
 show oR (((cM b).1,((cM b).2,())),())=_
 rw[e]
abbrev yf:Io:=⟨[wh,dB],[],[],[dO,dI],none⟩
abbrev xz:List (Nat×Hc):=[(33,ah lI xf)]
def Eq:Hd:=bM xz
def yk:Lp:=cc []
def qe (a0 a1 a2 a3 a4:Int)(a5:List bj.den)(a6:Bool):Option yf.Res:=bif cL (ay a5) a5 0&&decide (az (a0,a1,a2,a3,a4,a5,())≠0) then bif az (a0,a1,a2,a3,a4,a5,()) != 0 then oR (([],az (a0,a1,a2,a3,a4,a5,()),()),()) else bif a6 then none else none else none
theorem C7 (a0 a1 a2 a3 a4:Int)(a5:List bj.den)(a6:Bool):Io.run tt Eq dr yk yf Tryd.f17 (((a0,a1,a2,a3,a4,a5,()),a6,()),())=qe a0 a1 a2 a3 a4 a5 a6:=by kernel_rfl
end
end Go.Proofs.YtcbcbjdobbgddaaDoor.Sym
namespace Go.Proofs.YtcbcbjdobbgddaaDoor.Sym
open Go
open Go.IntKind (i8 i16 i32 i64 u8 u16 u32 u64)
noncomputable section
def pI:Nat→Code→Code
 |0,c=>c
 |n+1,.seq _ b=>pI n b
 |_+1,c=>c
def F9 (tt:TT)(hd:Hd)(dr:Dr)(lr:Nat){R:Type}:Nat→Code→AS→(AS→Option R)→Option R
 |0,_,A,K=>K A
 |n+1,.seq a b,A,K=>ev tt hd dr (fun _=>none) 0 lr a lr [] A fun ex A=>match ex with
  |.normal=>F9 tt hd dr lr n b A K
  |_=>none
 |_+1,_,_,_=>none
theorem wj {P:Program}{tt:TT}(htt:bL P tt)(hm:P.follows .mixedOrders=true){hd:Hd}(hh:gQ P hd){okDraw:Dr}(hdr:gu P tt okDraw){R:Type}{F:Fra}{cst:List (Array Value)}{lr:Nat}(hkb:∀d,F.mu0 (0+d)=none){r:R}{Q:Exit→Act→World→Prop}:
  ∀(n:Nat) (c:Code) {G:Gh} {A:AS} {a:Act} {w:World} {K:AS→Option R},F9 tt hd okDraw lr n c A K=some r→Rel F G A a.tmps cst w→
   (∀A' G' a' w',Rel F G' A' a'.tmps cst w'→a'.defers=a.defers→K A'=some r→(pI n c).wp P Q a' w')→c.wp P Q a w:=by
 intro n
 induction n with
 |zero=>intro c G A a w K h Rl k;exact k A G a w Rl rfl h
 |succ n ih=>
  intro c G A a w K h Rl k
  cases c with
  |seq x y=>
   refine wp_seq (cv htt hm hh hdr hkb (lp:=fun _=>none) x (fun _ _ _ h=>by cases h) h Rl ?_)
   intro ex A1 G1 a1 w1 R1 hd1 h1
   cases ex with
   |normal=>exact ih y h1 R1 (by rw[hd1];exact k)
   |exit i=>cases h1
   |ret=>cases h1
   |panic v=>cases h1
  |_=>cases h
theorem Bh {G:Gh}{w:World}:∀{n:Nat} {us:List Value},us.length=n→All2 (Rv G w) (List.replicate n .any) us
 |0,[],_=>trivial
 |n+1,_::us,h=>⟨trivial,Bh (n:=n) (us:=us) (by simpa using h)⟩
 |0,_::_,h=>by cases h
 |_+1,[],h=>by cases h
abbrev fE:Func:=Tryd.f17
abbrev Bw:List (Nat×Hc):=[(33,ah lJ xg),(30,ah fW ru),(35,ah su FL),(36,ah sr FK),(37,ah so FJ),(39,ah sn FI),(38,ah yh Hj),(40,ah sw FM),(43,ah fI rL),(42,ah fZ rB)]
theorem sa:HcsOk prog Bw:=.cons CR (.cons yL (.cons GC (.cons GB (.cons GA (.cons Gz (.cons HE (.cons GD (.cons C0 (.cons yP .nil)))))))))
def sb:Hd:=bM Bw
abbrev gA:Io:=⟨[wh,dB],[],[],[dO,dI],none⟩
def F6 (A:AS):Option (LI×Int×Int):=match A.stk,A.get 9,A.get 94,A.get 100 with
 |[],.one (.ptr k 0),.one (.ptr k' 0),.one (.int .i32 v)=>match A.ob[k]? with
  |some (some [.lst _ (.int .u8) xs own,.int .i64 m])=>bif Nat.beq A.tm.length 104&&(Nat.beq k k'&&!Nat.beq own 0) then some (xs,m,v) else none
  |_=>none
 |_,_,_,_=>none
def fJ:Array Oper:=fL (iy (pI 20 (aB fE)))
def mI:Code:=fN (pI 20 (aB fE))
def H4 (b:eT)(packed:Bool):Option (LI×Int×Int):=
 F9 tt sb dr (dH fE) 20 (aB fE) (Io.start gA fE.ntmps ((b,packed,()),())) fun A=>iG tt sb 0 fJ (List.range 7) A fun ex A=>match ex with
  |.normal=>F6 A
  |_=>none
def ck {R:Type}(L:LI)(n:Nat)(p:LI)(K:LI→Option R):Option R:=bif nk L 36000 n then K (L++p) else none
def r4 (a0 a1 a2 a3 a4:Int)(a5:List bj.den)(a6:Bool):Option (LI×Int×Int):=
 bif cL (ay a5) a5 0&&decide (az (a0,a1,a2,a3,a4,a5,())=0) then bif a6 then none else
  ck [] 8 (aw a0 8) fun L=>ck L 4 (aw (i32.wrap (i64.wrap (49+((bc a5).1.length:Int)))) 4) fun L=>ck L 4 (aw a1 4) fun L=>ck L 1 (aw 2 1) fun L=>ck L 4 (aw 0 4) fun L=>ck L 2 (aw 0 2) fun L=>
  ck L 4 (aw (i32.wrap (i64.wrap ((a5.length:Int) - 1))) 4) fun L=>bif decide ((0:Int)≤0)&&decide ((0:Int)<(a5.length:Int)) then ck L 8 (aw (a5.getD (Int.toNat 0) (0,(false,[],()),(false,[],()),[],())).1 8) fun L=>
  bif decide (1≤a5.length) then ck L 8 (aw (iC a5) 8) fun L=>ck L 8 (aw a2 8) fun L=>ck L 2 (aw a3 2) fun L=>ck L 4 (aw a4 4) fun L=>ck L 4 (aw (i32.wrap (a5.length:Int)) 4) fun L=>
  ck L (aE [(bc a5).1]) (dZ [(bc a5).1]) fun L=>bif decide (List.length L≤4294967296) then bif decide ((0:Int)≤21)&&(decide ((21:Int)≤(L.length:Int))&&decide ((L.length:Int)≤(L.length:Int))) then
   some (L,36000,i32.wrap (mL [List.drop (Int.toNat 21) (List.take (L.length:Int).toNat L)] 0)) else none else none else none else none else none
theorem F7 (a0 a1 a2 a3 a4:Int)(a5:List bj.den)(a6:Bool):H4 (a0,a1,a2,a3,a4,a5,()) a6=r4 a0 a1 a2 a3 a4 a5 a6:=by kernel_rfl
def uf (xs:LI)(m:Int):AS:=⟨(List.replicate 104 .any).set 9 (.one (.ptr 0 0)),[],[some [.lst 5 (.int .u8) xs 1,.int .i64 m]]⟩
theorem Eh (xs:LI)(m:Int):ev tt sb dr (fun _=>none) 0 (dH fE) mI (dH fE) [] (uf xs m) (Io.fin tt gA fE)=bif decide (xs.length≤4294967296) then some (.ret ((xs,0,()),())) else none:=by kernel_rfl
theorem Ei {xs:LI}{m v:Int}{out:gA.Res}{F:Fra}{G2:Gh}{A2:AS}{a2:Act}{cst:List (Array Value)}{w w2:World}{R:Ending→World→Prop}
  (hkb:∀d,F.mu0 (0+d)=none) (hq:F.w0=w∧∀b,¬ F.X b) (hS0:∀b o,F.S0 b o→b<w.heap.size) (htab:gI F.S0 F.w0)
  (R2:Rel F G2 A2 a2.tmps cst w2) (hd2:a2.defers=[]) (hK:F6 A2=some (xs,m,v)) (h21:21≤xs.length)
  (hrest:ev tt sb dr (fun _=>none) 0 (dH fE) mI (dH fE) [] (uf (eP xs 17 v) m) (Io.fin tt gA fE)=some out)
  (hend:∀ex A' G' a' w',Rel F G' A' a'.tmps cst w'→Io.fin tt gA fE ex A'=some out→F2 prog fE R ex G' a' w'):
  wpOps prog fJ (Exit.then (mI.wp prog (bodyPost prog fE R)) (bodyPost prog fE R)) [7] a2 w2:=by
 have htt:=cY Tryd.prog 400
 have hX:∀b,F.mine b→w.heap.size≤b:=fun b h=>by
  rcases h with h | h
  ·rw[hq.1] at h;exact h
  ·exact absurd h (hq.2 b)
 unfold F6 at hK
 split at hK
 rotate_left
 ·cases hK
 rename_i k k' v' hstk e9 e94 e100
 split at hK
 rotate_left
 ·cases hK
 rename_i e xs' own m' eob
 cases hck:Nat.beq A2.tm.length 104&&(Nat.beq k k'&&!Nat.beq own 0) with
 |false=>rw[hck] at hK;cases hK
 |true=>
 rw[hck] at hK
 simp only[cond_true,zC,zD] at hK
 obtain ⟨rfl,rfl,rfl⟩:=hK
 simp only[zA,Bool.not_eq_true'] at hck
 obtain ⟨hl104,hkk,hown⟩:=hck
 have hl104:=Nat.eq_of_beq_eq_true hl104
 have hkk:=Nat.eq_of_beq_eq_true hkk
 subst hkk
 have hown:own≠0:=fun h=>by rw[h] at hown;cases hown
 have hcst:cst=[]:=by
  have:=R2.stk
  rw[hstk] at this
  cases cst with
  |nil=>rfl
  |cons _ _=>exact this.elim
 have v9:=R2.get 9
 rw[e9] at v9
 obtain ⟨bw,hbw,v9⟩:=v9
 have v94:=R2.get 94
 rw[e94] at v94
 obtain ⟨bw',hbw',v94⟩:=v94
 rw[hbw] at hbw'
 cases hbw'
 have v100:=R2.get 100
 rw[e100] at v100
 obtain ⟨v100,hvr⟩:=v100
 obtain ⟨bo,curw,elw,hbo,hhw,hcs⟩:=R2.ob.cells eob (by simp[C.isItr])
 rw[hbw] at hbo
 cases hbo
 obtain ⟨v1,v2,hv12,hv1,hv2⟩:∃v1 v2,curw.toList=[v1,v2]∧Rc G2 w2 (.lst e (.int .u8) xs' own) v1∧Rc G2 w2 (.int .i64 m') v2:=by
  match hl:curw.toList with
  |[]=>rw[hl] at hcs;exact hcs.elim
  |[_]=>rw[hl] at hcs;exact hcs.2.elim
  |[v1,v2]=>rw[hl] at hcs;exact ⟨v1,v2,rfl,hcs.1,hcs.2.1⟩
  |_::_::_::_=>rw[hl] at hcs;exact hcs.2.2.elim
 obtain ⟨rfl,hmr⟩:=hv2
 obtain ⟨Ad,cap,rfl,hle,hcap,hrow,hownA⟩:=hv1
 have hne:xs'≠[]:=fun h=>by rw[h] at h21;simp at h21
 rcases hownA with h | ⟨h,h'⟩ | ⟨b,cur,el,rfl,how,hhb,hcsz⟩
 ·exact absurd h hown
 ·subst h
  obtain ⟨_,_,h,_⟩:=hrow hne
  cases h
 obtain ⟨k1,k2,k3,k4⟩:=R2.gh.ow own b _ how
 obtain ⟨m1,m2,m3⟩:=R2.gh.mu k bw hbw
 have hbne:bw≠b:=fun h=>k4 k (by rw[hbw,h])
 obtain ⟨b',o',hA,hel⟩:=hrow hne
 cases hA
 have hx:∀(k:Nat) (x:Int),xs'[k]?=some x→bz .u8 x∧cur[k]?=some (Value.int .u8 x):=by
  intro k x hk
  obtain ⟨c,⟨rfl,hin⟩,hat⟩:=hel k x hk
  obtain ⟨_,hc⟩:=hat 0 _ rfl
  refine ⟨hin,?_⟩
  rw[dm hhb] at hc
  simpa [Ty.size] using hc
 have hSne:∀b' o,F.S0 b' o→b'≠b∧b'≠bw:=by
  intro b' o h
  have:=hS0 b' o h
  have h1:=hX b k2
  have h2:=hX bw m1
  omega
 have htab2:gI (Az w2 bw b) w2:=by
  intro g i hg hi
  obtain ⟨t1,t2⟩:=htab g i hg hi
  have t3:=R2.gh.tabs g i hg hi
  exact ⟨⟨(hSne _ _ t1).1,(hSne _ _ t1).2,_,t3.2⟩,t3.2⟩
 have hcalls:=AA w2 xs' m' v' bw b cap xs'.length curw cur elw el hhw hv12 rfl hhb (by rw[hcsz];simp[Ty.size]) hle hcap hbne htab2 h21 hvr hmr hx
 simp only[wpOps]
 have ho:fJ[7]?=some { dst:=some 101,op:=.call { callee:=.value (.func 41),args:=#[.tmp 94,.const (.int .i64 17),.tmp 100],argTypes:=(match ((fJ[7]?).getD fJ[0]!).op with | .call c=>c.argTypes | _=>#[]) },type:=((fJ[7]?).getD fJ[0]!).type,pos:=((fJ[7]?).getD fJ[0]!).pos,after:=((fJ[7]?).getD fJ[0]!).after,guard:=none }:=by kernel_rfl
 rw[ho]
 simp only
 rw[if_pos (by simp[Region.wanted])]
 refine .inl ?_
 have hfn:FnOk prog 41:=⟨El,by kernel_rfl,by kernel_rfl,by kernel_rfl⟩
 have hev:a2.eval (.tmp 94)=.pointer (some ⟨bw,0,none⟩):=v94
 have hev2:a2.eval (.tmp 100)=.int .i32 v':=v100
 unfold Oper.wp
 have hrun:∀o:Oper,o.op=.call { callee:=.value (.func 41),args:=#[.tmp 94,.const (.int .i64 17),.tmp 100],argTypes:=(match ((fJ[7]?).getD fJ[0]!).op with | .call c=>c.argTypes | _=>#[]) }→(execOp a2.eval o).run prog w2=.ok (.enter 41 #[.pointer (some ⟨bw,0,none⟩),.int .i64 17,.int .i32 v']) w2:=by
  intro o ho
  simp[execOp,ho,resolve,Act.eval,Deferred.ofValue,invoke,hfn.run]
  exact ⟨by rw[← Array.getD_eq_getD_getElem?];exact v94,by rw[← Array.getD_eq_getD_getElem?];exact v100⟩
 rw[hrun _ rfl]
 simp only[Oper.upon]
 refine hcalls.mono fun en w3 ⟨hen,hfr,hkeep,b2,cap2,curw2,cur2,elw2,el2,m2',g1,g2,g3,g4,g5,g6,g7,g8,g9,g10,g11⟩=>?_
 subst hen
 subst g10
 show mI.wp prog (bodyPost prog fE R) (a2.put (some 101) (.int .i64 0)) w3
 have R2p:=R2.puts (v:=.any) (u:=.int .i64 0) trivial (some 101)
 have hlen:(a2.put (some 101) (.int .i64 0)).tmps.toList.length=104:=by
  rw[← R2p.tm.length]
  show (A2.put (some 101) .any).tm.length=104
  simp[AS.put,hl104]
 have hget9:(a2.put (some 101) (.int .i64 0)).tmps.toList[9]?=some (.pointer (some ⟨bw,0,none⟩)):=by
  have h9:A2.tm[9]?=some (.one (.ptr k 0)):=by
   unfold AS.get at e9
   rw[List.getD_eq_getElem?_getD] at e9
   cases h:A2.tm[9]? with
   |none=>rw[h] at e9;cases e9
   |some x=>rw[h] at e9;simpa using e9
  have h9':(A2.put (some 101) .any).tm[9]?=some (.one (.ptr k 0)):=by
   simp[AS.put,List.getElem?_set,h9]
  obtain ⟨u,hu,hr⟩:=R2p.tm.get h9'
  obtain ⟨bq,hbq,hr⟩:=hr
  rw[hbw] at hbq
  cases hbq
  rw[hu,hr]
 have hsz:w2.heap.size≤w3.heap.size:=hfr.size
 have hsz0:w.heap.size≤w2.heap.size:=by have:=R2.gh.fr.size;rw[hq.1] at this;exact this
 have hb2m:F.mine b2:=by
  rcases g3 with h | h
  ·rw[h];exact k2
  ·exact .inl (by rw[hq.1];omega)
 have hb2w:w.heap.size≤b2:=hX b2 hb2m
 have hbww:w.heap.size≤bw:=hX bw m1
 have hblk:∀j,j<w.heap.size→w3.heap[j]?=w2.heap[j]?:=by
  intro j hj
  refine hfr.block j (show j<w2.heap.size by omega) ?_
  rintro (h | h)
  ·have:=hX b k2;omega
  ·omega
 have hslen:(eP xs' 17 v').length=xs'.length:=pE _ _ _
 have gh3:GhOk F ⟨fun b' o=>F.S0 b' o∨(b'=b2∧o<xs'.length),fun k=>if k=0 then some bw else none,fun i=>if i=1 then some (b2,xs'.length) else none⟩ w3:=by
  refine { mu:=?_,muI:=?_,ow:=?_,owI:=?_,sB:=?_,fr:=?_,sub:=?_,sup:=?_,keep:=?_,fix_:=?_,tab:=htab }
  ·intro key bb h
   simp only at h
   split at h
   ·cases h
    refine ⟨m1,?_,by omega⟩
    rintro o (h | h)
    ·have:=hS0 _ _ h;omega
    ·exact g4 h.1.symm
   ·cases h
  ·intro key key' bb h h'
   simp only at h h'
   split at h <;> split at h'
   ·rename_i q1 q2;exact q1.trans q2.symm
   ·cases h'
   ·cases h
   ·cases h
  ·intro i bb l h
   simp only at h
   split at h
   ·cases h
    refine ⟨?_,hb2m,g5,?_⟩
    ·rintro o ho (h | h)
     ·have:=hS0 _ _ h;omega
     ·have:=h.2;omega
    ·intro key h
     simp only at h
     split at h
     ·cases h;exact g4 rfl
     ·cases h
   ·cases h
  ·intro i j bb l l' h h'
   simp only at h h'
   split at h <;> split at h'
   ·rename_i q1 q2;exact q1.trans q2.symm
   ·cases h'
   ·cases h
   ·cases h
  ·rintro bb o (h | h)
   ·have:=hS0 _ _ h;omega
   ·rw[h.1];exact g5
  ·have f2:=R2.gh.fr
   refine ⟨hfr.os.trans f2.os,hfr.tape.trans f2.tape,hfr.output.trans f2.output,by rw[hq.1];omega,fun j hj hx=>?_⟩
   rw[hq.1] at hj
   rw[hblk j hj]
   exact f2.block j (by rw[hq.1];exact hj) hx
  ·exact fun _ _ h=>.inl h
  ·rintro bb o (h | h)
   ·exact .inl h
   ·rw[h.1];exact .inr hb2m
  ·intro bb o h
   rw[← R2.gh.keep bb o h]
   have:=hblk bb (hS0 bb o h)
   unfold World.cell?
   rw[this]
  ·intro key bb h
   have:=hkb key
   rw[Nat.zero_add] at this
   rw[this] at h
   cases h
 have R3:Rel F ⟨fun b' o=>F.S0 b' o∨(b'=b2∧o<xs'.length),fun k=>if k=0 then some bw else none,fun i=>if i=1 then some (b2,xs'.length) else none⟩ (uf (eP xs' 17 v') m2') (a2.put (some 101) (.int .i64 0)).tmps cst w3:=by
  refine ⟨?_,by rw[hcst];exact trivial,?_,gh3⟩
  ·refine All2.set_left 9 (Bh hlen) fun u hu=>?_
   rw[hget9] at hu
   cases hu
   exact ⟨bw,rfl,rfl⟩
  ·intro key cs hk
   cases key with
   |succ key=>simp[uf] at hk
   |zero=>
    simp only[uf,List.getElem?_cons_zero,zC] at hk
    subst hk
    refine ⟨bw,_,rfl,g1,.inl ⟨curw2,elw2,rfl,?_⟩⟩
    rw[g2]
    refine ⟨⟨some ⟨b2,0,none⟩,cap2,by rw[hslen],by rw[hslen];exact g8,g9,?_,?_⟩,⟨rfl,hmr⟩,trivial⟩
    ·intro _
     refine ⟨b2,0,rfl,fun i x hx=>?_⟩
     obtain ⟨q1,q2⟩:=g11 i x hx
     have hi:i<xs'.length:=by
      rw[← hslen]
      exact (List.getElem?_eq_some_iff.1 hx).1
     refine ⟨[.int .u8 x],⟨rfl,q1⟩,fun j u hj=>?_⟩
     cases j with
     |succ j=>simp at hj
     |zero=>
      simp only[List.getElem?_cons_zero,zC] at hj
      subst hj
      refine ⟨.inr ⟨rfl,?_⟩,?_⟩
      ·simp[Ty.size];omega
      ·rw[dm g6]
       simpa [Ty.size] using q2
    ·exact .inr (.inr ⟨b2,cur2,el2,rfl,by simp[Ty.size,hslen],g6,by rw[g7];simp[Ty.size]⟩)
 refine cv htt hm (gz sa) (cK htt) hkb (lp:=fun _=>none) mI (fun _ _ _ h=>by cases h) hrest R3 ?_
 intro ex A' G' a' w' R' hdf hk
 have hdf:a'.defers=[]:=hdf.trans ((Act.put_defers' _ _ _).trans hd2)
 have:=hend ex A' G' a' w' R' hk
 cases ex with
 |normal=>exact ⟨hdf,this⟩
 |ret=>exact ⟨hdf,this⟩
 |exit i=>exact this.elim
 |panic u=>exact fun u hu=>⟨hdf,this u hu⟩
theorem rV {P:Program}{tt:TT}(htt:bL P tt)(hm:P.follows .mixedOrders=true){hd:Hd}(hh:gQ P hd){okDraw:Dr}(hdr:gu P tt okDraw){f:Nat}{fn:Func}(hf:P.funcs[f]?=some fn){c:Code}(hc:fn.body=some c){io:Io}{lp:Lp}
  (hlp:∀e∈aM (dH fn) c (dH fn) [],∀h,lp (cb e.2.1)=some h→nB P io.obs.length e.2.1 h) {d:io.In} {out:io.Res} (hrun:io.run tt hd okDraw lp fn d=some out):AY P tt f fn io d out:=by
 intro F G cst w vals R Rl hkb _ hend
 simp only[Io.run,hc] at hrun
 refine calls_of_wp hf hc (cv htt hm hh hdr hkb c hlp hrun Rl ?_)
 intro ex A' G' a' w' R' hdf hk
 have:=hend ex A' G' a' w' R' hk
 cases ex with
 |normal=>exact ⟨hdf,this⟩
 |ret=>exact ⟨hdf,this⟩
 |exit i=>exact this.elim
 |panic v=>exact fun u hu=>⟨hdf,this u hu⟩
theorem DK (v:Int){n:Nat}(h:n≤4):aw (i32.wrap v) n=aw v n:=by
 have e:∃q:Int,i32.wrap v=v+4294967296*q:=by
  refine ⟨(i32.wrap v - v) / 4294967296,?_⟩
  simp[IntKind.wrap,IntKind.signed,IntKind.bits] <;> (try split) <;> omega
 obtain ⟨q,e⟩:=e
 rw[e]
 have key:∀k:Nat,k<4→((v+4294967296*q) / 256 ^ k) % 256=(v / 256 ^ k) % 256:=by
  intro k hk
  match k,hk with
  |0,_=>omega
  |1,_=>omega
  |2,_=>omega
  |3,_=>omega
 induction n with
 |zero=>rfl
 |succ n ih=>rw[aw,aw,key n (by omega),ih (by omega)]
theorem nh {b:eT}(h:az b=0):aD b.1=false∧ax b.2.2.1 b.2.2.2.1 b.2.2.2.2.1=false∧1≤b.2.2.2.2.2.1.length∧b.2.2.2.2.2.1.length≤256∧(bc b.2.2.2.2.2.1).2=0∧(bc b.2.2.2.2.2.1).1.length≤32768:=by
 unfold az at h
 split at h
 ·cases h
 rename_i h1
 split at h
 ·cases h
 rename_i h2
 split at h
 ·cases h
 rename_i h3
 split at h
 ·cases h
 rename_i h4
 refine ⟨by simpa using h1,by simpa using h2,?_,by omega,h,?_⟩
 ·cases hr:b.2.2.2.2.2.1 with
  |nil=>exact absurd hr h3
  |cons _ _=>simp
 ·unfold bc at h ⊢
  split
  ·simp
  rename_i h5
  rw[if_neg h5] at h
  split
  ·simp
  rename_i h6
  simp only
  omega
theorem aO {R:Type}{L:LI}{n:Nat}{p:LI}{K:LI→Option R}(h:L.length+n≤36000):ck L n p K=K (L++p):=aa (fk.2 ⟨rfl,h⟩) _ _
def gJ (b:eT):LI:=aw b.1 8++(aw (49+((bc b.2.2.2.2.2.1).1.length:Int)) 4++(aw b.2.1 4++[2]))
theorem jM (b:eT):(gJ b).length=17:=by simp[gJ,lV]
theorem wi {a0 a1 a2 a3 a4:Int}{a5:List bp}(hr:cL (ay a5) a5 0=true)(h:az (a0,a1,a2,a3,a4,a5,())=0):
  r4 a0 a1 a2 a3 a4 a5 false=some (gJ (a0,a1,a2,a3,a4,a5,())++(0::0::0::0::bX (a0,a1,a2,a3,a4,a5,()) 0 (bc a5).1),36000,i32.wrap (cd 0 (bX (a0,a1,a2,a3,a4,a5,()) 0 (bc a5).1))):=by
 obtain ⟨-,-,h1,h2,-,h3⟩:=nh h
 have h1:1≤a5.length:=h1
 have h2:a5.length≤256:=h2
 have h3:(bc a5).1.length≤32768:=h3
 have hw:∀x:Int,0≤x→x≤2147483647→i32.wrap x=x:=fun x h h'=>be (by simp[bz,IntKind.min,IntKind.max,IntKind.signed,IntKind.bits];omega)
 have e1:i32.wrap (i64.wrap (49+((bc a5).1.length:Int)))=49+((bc a5).1.length:Int):=by
  rw[ae (n:=49+((bc a5).1.length:Int)) (by omega) (by omega),hw _ (by omega) (by omega)]
 have e2:i32.wrap (i64.wrap ((a5.length:Int) - 1))=(a5.length:Int) - 1:=by
  rw[ae (n:=(a5.length:Int) - 1) (by omega) (by omega),hw _ (by omega) (by omega)]
 have e3:i32.wrap (a5.length:Int)=(a5.length:Int):=hw _ (by omega) (by omega)
 have e4:(a5.getD (Int.toNat 0) (0,(false,[],()),(false,[],()),[],())).1=ay a5:=by
  cases a5 with
  |nil=>simp at h1
  |cons r rs=>rfl
 have j1:aE [(bc a5).1]=(bc a5).1.length:=Nat.add_zero _
 have j2:dZ [(bc a5).1]=(bc a5).1:=List.append_nil _
 unfold r4
 refine bT (by rw[zA,zB];exact ⟨hr,h⟩) ?_
 refine (ac rfl _ _).trans ?_
 rw[e1,e2,e3,e4,j1,j2]
 generalize hblk:(bc a5).1=blk at *
 have ln:∀(v:Int) (n:Nat),(aw v n).length=n:=lV
 refine (aO (by simp)).trans ?_
 refine (aO (by simp[ln])).trans ?_
 refine (aO (by simp[ln])).trans ?_
 refine (aO (by simp[ln])).trans ?_
 refine (aO (by simp[ln])).trans ?_
 refine (aO (by simp[ln])).trans ?_
 refine (aO (by simp[ln])).trans ?_
 refine bT (by simp only[zA,zB];omega) ?_
 refine (aO (by simp[ln])).trans ?_
 refine bT (decide_eq_true h1) ?_
 refine (aO (by simp[ln])).trans ?_
 refine (aO (by simp[ln])).trans ?_
 refine (aO (by simp[ln])).trans ?_
 refine (aO (by simp[ln])).trans ?_
 refine (aO (by simp[ln])).trans ?_
 refine (aO (by simp[ln];omega)).trans ?_
 have eL:[]++aw a0 8++aw (49+(blk.length:Int)) 4++aw a1 4++aw 2 1++aw 0 4++aw 0 2++aw ((a5.length:Int) - 1) 4++aw (ay a5) 8++aw (iC a5) 8++aw a2 8++aw a3 2++aw a4 4++aw (a5.length:Int) 4++blk
   = gJ (a0,a1,a2,a3,a4,a5,())++(0::0::0::0::bX (a0,a1,a2,a3,a4,a5,()) 0 blk):=by
  have q1:aw 2 1=[2]:=rfl
  have q2:aw 0 4=[0,0,0,0]:=rfl
  simp only[gJ,bX,hblk,q1,q2,List.nil_append,zK,List.cons_append]
 rw[eL]
 have hL:(gJ (a0,a1,a2,a3,a4,a5,())++(0::0::0::0::bX (a0,a1,a2,a3,a4,a5,()) 0 blk)).length=61+blk.length:=by
  simp[jM,bX,ln];omega
 refine bT (decide_eq_true (by omega)) ?_
 refine bT (by simp only[zA,zB];omega) ?_
 have e5:List.drop (Int.toNat 21) (List.take ((gJ (a0,a1,a2,a3,a4,a5,())++(0::0::0::0::bX (a0,a1,a2,a3,a4,a5,()) 0 blk)).length:Int).toNat (gJ (a0,a1,a2,a3,a4,a5,())++(0::0::0::0::bX (a0,a1,a2,a3,a4,a5,()) 0 blk)))
   = bX (a0,a1,a2,a3,a4,a5,()) 0 blk:=by
  rw[zG,List.take_length]
  show List.drop 21 _=_
  have:(21:Nat)=(gJ (a0,a1,a2,a3,a4,a5,())).length+4:=by rw[jM]
  rw[this,List.drop_append]
  rfl
 rw[e5]
 rfl
def A5 (d:gA.In):Tr gA.Res:=
 .ite (!d.1.2.1&&cL (ay d.1.1.2.2.2.2.2.1) d.1.1.2.2.2.2.2.1 0) (.ret (.ret (((iA d.1.1).1,(iA d.1.1).2,()),()))) .no
theorem Gu:HcOk prog 17 (ah gA A5):=by
 have htt:=cY Tryd.prog 400
 have hf:prog.funcs[17]?=some fE:=by kernel_rfl
 have hc:fE.body=some (aB fE):=by kernel_rfl
 refine jR htt hf (by kernel_rfl) gA A5 (fun d out hw ho=>?_) (by kernel_rfl)
 obtain ⟨⟨⟨a0,a1,a2,a3,a4,a5,⟨⟩⟩,packed,⟨⟩⟩,⟨⟩⟩:=d
 obtain ⟨hg,ho⟩:=Tr.guard ho
 simp only[zA,Bool.not_eq_true'] at hg
 obtain ⟨hp,hr⟩:=hg
 subst hp
 have ho:Out.ret (((iA (a0,a1,a2,a3,a4,a5,())).1,(iA (a0,a1,a2,a3,a4,a5,())).2,()),())=out:=Option.some.inj ho
 subst ho
 by_cases he:az (a0,a1,a2,a3,a4,a5,())=0
 rotate_left
 ·have e:iA (a0,a1,a2,a3,a4,a5,())=([],az (a0,a1,a2,a3,a4,a5,())):=by unfold iA;rw[if_pos he]
  rw[e]
  refine rV htt hm (gz (l:=xz) (.cons CQ .nil)) (cK htt) hf hc (lp:=yk) (LpsOk.done (by kernel_rfl)).all ?_
  refine (C7 a0 a1 a2 a3 a4 a5 false).trans ?_
  unfold qe
  refine bT (by rw[zA,zB];exact ⟨hr,he⟩) ?_
  exact aa (by simpa using he) _ _
 ·have e:iA (a0,a1,a2,a3,a4,a5,())=(pv (a0,a1,a2,a3,a4,a5,()) 0 (bc a5).1,0):=by unfold iA;rw[if_neg (aP he)]
  rw[e]
  intro F G cst w vals R Rl hkb hq hend
  have hq:=hq rfl
  have hrun:=(F7 a0 a1 a2 a3 a4 a5 false).trans (wi hr he)
  refine calls_of_wp hf hc (wj htt hm (gz sa) (cK htt) hkb 20 (aB fE) hrun Rl ?_)
  intro A1 G1 a1' w1 R1 hd1 h1
  have hsp:pI 20 (aB fE)=.seq (.region 27 fJ false) mI:=by kernel_rfl
  rw[hsp]
  refine wp_seq (wp_region ?_)
  rw[show List.range fJ.size=List.range 7++[7] by kernel_rfl]
  refine jN htt (gz sa) hkb [7] (List.range 7) h1 R1 ?_
  intro ex A2 G2 a2' w2 R2 hd2 h2
  cases ex with
  |exit i=>cases h2
  |ret=>cases h2
  |panic v=>cases h2
  |normal=>
  have hT:21≤(gJ (a0,a1,a2,a3,a4,a5,())++(0::0::0::0::bX (a0,a1,a2,a3,a4,a5,()) 0 (bc a5).1)).length:=by
   simp[jM];omega
  refine Ei hkb hq (fun b o h=>Rl.gh.sB b o (Rl.gh.sub b o h)) Rl.gh.tab R2 (hd2.trans hd1) h2 hT ?_ hend
  refine (Eh _ _).trans ?_
  have eS:eP (gJ (a0,a1,a2,a3,a4,a5,())++(0::0::0::0::bX (a0,a1,a2,a3,a4,a5,()) 0 (bc a5).1)) 17 (i32.wrap (cd 0 (bX (a0,a1,a2,a3,a4,a5,()) 0 (bc a5).1)))
    = pv (a0,a1,a2,a3,a4,a5,()) 0 (bc a5).1:=by
   have:=AM (gJ (a0,a1,a2,a3,a4,a5,())) (bX (a0,a1,a2,a3,a4,a5,()) 0 (bc a5).1) 0 0 0 0 (i32.wrap (cd 0 (bX (a0,a1,a2,a3,a4,a5,()) 0 (bc a5).1)))
   rw[jM] at this
   rw[this,DK _ (Nat.le_refl 4)]
   unfold gJ pv
   simp only[zK]
  rw[eS]
  refine aa (decide_eq_true ?_) _ _
  obtain ⟨-,-,h1,h2,-,h3⟩:=nh he
  have h3:(bc a5).1.length≤32768:=h3
  simp[pv,bX,lV]
  omega
end
end Go.Proofs.YtcbcbjdobbgddaaDoor.Sym
namespace Go.Proofs.YtcbcbjdobbgddaaDoor.Sym
open Go
noncomputable section
def vz:eT:=(5,1,-1,-1,-1,[(1000,(true,[],()),(false,[104,105],()),[],())],())
abbrev fG:Io:=⟨[],[],[],[wh],none⟩
def rG (d:fG.In):Tr fG.Res:=.ret (.ret (((5,1,-1,-1,-1,[(1000,(true,[],()),(false,[104,105],()),[],())],()),()),()))
abbrev tX:List (Nat×Hc):=[]
def Cb:Hd:=bM tX
def uN:Lp:=cc []
def v7:Option fG.Res:=oR (((5,1,-1,-1,-1,[(1000,(true,[],()),(false,[104,105],()),[],())],()),()),())
theorem Ar:Io.run tt Cb dr uN fG Tryd.f19 ((),())=v7:=by kernel_rfl
theorem CV:HcOk prog 19 (ah fG rG):=by
 refine cq (cs:=tX) HcsOk.nil (lp:=uN) (fn:=Tryd.f19) fG (.done (by kernel_rfl)) rG ?_
 rintro ⟨⟨⟩,⟨⟩⟩ out hw ho
 rw[← ho]
 exact Ar
abbrev fF:Io:=⟨[],[],[],[dB],none⟩
def rE (d:fF.In):Tr fF.Res:=.ret (.ret ((true,()),()))
abbrev tW:List (Nat×Hc):=[(19,ah fG rG),(17,ah gA A5),(12,ah jf A4),(14,ah eB rO)]
def Ca:Hd:=bM tW
def uM:Lp:=cc []
def oI:Option fF.Res:=bif cL (ay [(1000,(true,[],()),(false,[104,105],()),[],())]) [(1000,(true,[],()),(false,[104,105],()),[],())] 0 then bif (iA (5,1,-1,-1,-1,[(1000,(true,[],()),(false,[104,105],()),[],())],())).2 != 0 then oR ((false,()),()) else bif (↑[0,0,0,0,0,0,0,5,0,0,0,58,0,0,0,1,2,35,61,173,68,0,0,0,0,0,0,0,0,0,0,0,0,3,232,0,0,0,0,0,0,3,232,255,255,255,255,255,255,255,255,255,255,255,255,255,255,0,0,0,1,16,0,0,0,1,4,104,105,0].length:Int) != 70 then oR ((false,()),()) else bif decide (0≤7)&&decide (7<(↑[0,0,0,0,0,0,0,5,0,0,0,58,0,0,0,1,2,35,61,173,68,0,0,0,0,0,0,0,0,0,0,0,0,3,232,0,0,0,0,0,0,3,232,255,255,255,255,255,255,255,255,255,255,255,255,255,255,0,0,0,1,16,0,0,0,1,4,104,105,0].length:Int)) then bif [0,0,0,0,0,0,0,5,0,0,0,58,0,0,0,1,2,35,61,173,68,0,0,0,0,0,0,0,0,0,0,0,0,3,232,0,0,0,0,0,0,3,232,255,255,255,255,255,255,255,255,255,255,255,255,255,255,0,0,0,1,16,0,0,0,1,4,104,105,0].getD (Int.toNat 7) 0 != 5 then oR ((false,()),()) else bif decide (0≤11)&&decide (11<(↑[0,0,0,0,0,0,0,5,0,0,0,58,0,0,0,1,2,35,61,173,68,0,0,0,0,0,0,0,0,0,0,0,0,3,232,0,0,0,0,0,0,3,232,255,255,255,255,255,255,255,255,255,255,255,255,255,255,0,0,0,1,16,0,0,0,1,4,104,105,0].length:Int)) then bif [0,0,0,0,0,0,0,5,0,0,0,58,0,0,0,1,2,35,61,173,68,0,0,0,0,0,0,0,0,0,0,0,0,3,232,0,0,0,0,0,0,3,232,255,255,255,255,255,255,255,255,255,255,255,255,255,255,0,0,0,1,16,0,0,0,1,4,104,105,0].getD (Int.toNat 11) 0 != 58 then oR ((false,()),()) else bif decide (0≤16)&&decide (16<(↑[0,0,0,0,0,0,0,5,0,0,0,58,0,0,0,1,2,35,61,173,68,0,0,0,0,0,0,0,0,0,0,0,0,3,232,0,0,0,0,0,0,3,232,255,255,255,255,255,255,255,255,255,255,255,255,255,255,0,0,0,1,16,0,0,0,1,4,104,105,0].length:Int)) then bif [0,0,0,0,0,0,0,5,0,0,0,58,0,0,0,1,2,35,61,173,68,0,0,0,0,0,0,0,0,0,0,0,0,3,232,0,0,0,0,0,0,3,232,255,255,255,255,255,255,255,255,255,255,255,255,255,255,0,0,0,1,16,0,0,0,1,4,104,105,0].getD (Int.toNat 16) 0 != 2 then oR ((false,()),()) else bif decide (0≤61)&&decide (61<(↑[0,0,0,0,0,0,0,5,0,0,0,58,0,0,0,1,2,35,61,173,68,0,0,0,0,0,0,0,0,0,0,0,0,3,232,0,0,0,0,0,0,3,232,255,255,255,255,255,255,255,255,255,255,255,255,255,255,0,0,0,1,16,0,0,0,1,4,104,105,0].length:Int)) then bif [0,0,0,0,0,0,0,5,0,0,0,58,0,0,0,1,2,35,61,173,68,0,0,0,0,0,0,0,0,0,0,0,0,3,232,0,0,0,0,0,0,3,232,255,255,255,255,255,255,255,255,255,255,255,255,255,255,0,0,0,1,16,0,0,0,1,4,104,105,0].getD (Int.toNat 61) 0 != 16 then oR ((false,()),()) else bif decide ([0,0,0,0,0,0,0,5,0,0,0,58,0,0,0,1,2,35,61,173,68,0,0,0,0,0,0,0,0,0,0,0,0,3,232,0,0,0,0,0,0,3,232,255,255,255,255,255,255,255,255,255,255,255,255,255,255,0,0,0,1,16,0,0,0,1,4,104,105,0].length≤4294960000) then bif (eN [0,0,0,0,0,0,0,5,0,0,0,58,0,0,0,1,2,35,61,173,68,0,0,0,0,0,0,0,0,0,0,0,0,3,232,0,0,0,0,0,0,3,232,255,255,255,255,255,255,255,255,255,255,255,255,255,255,0,0,0,1,16,0,0,0,1,4,104,105,0]).2 == 0 then oR ((di (eN [0,0,0,0,0,0,0,5,0,0,0,58,0,0,0,1,2,35,61,173,68,0,0,0,0,0,0,0,0,0,0,0,0,3,232,0,0,0,0,0,0,3,232,255,255,255,255,255,255,255,255,255,255,255,255,255,255,0,0,0,1,16,0,0,0,1,4,104,105,0]).1 (5,1,-1,-1,-1,[(1000,(true,[],()),(false,[104,105],()),[],())],()),()),()) else oR ((false,()),()) else none else none else none else none else none else none
theorem Aq:Io.run tt Ca dr uM fF Tryd.f5 ((),())=oI:=by kernel_rfl
theorem CU:HcOk prog 5 (ah fF rE):=by
 refine cq (cs:=tW) (.cons CV (.cons Gu (.cons Gt (.cons C2 .nil)))) (lp:=uM) (fn:=Tryd.f5) fF (.done (by kernel_rfl)) rE ?_
 rintro ⟨⟨⟩,⟨⟩⟩ out hw ho
 cases ho
 have e:oI=oR ((di vz vz,()),()):=by kernel_rfl
 refine Aq.trans (e.trans ?_)
 rw[km.2 rfl]
abbrev oX:Io:=⟨[dL],[],[],[BN,dI],none⟩
def F3 (d:oX.In):Tr oX.Res:=.ite (decide (d.1.1.length≤4294960000)) (.ret (.ret (((aj d.1.1 false).1,(aj d.1.1 false).2,()),()))) .no
abbrev FQ:List (Nat×Hc):=[(23,ah eZ rt)]
def Hw:Hd:=bM FQ
def FU:Lp:=cc []
def xt (a0:LI):Option oX.Res:=bif decide (a0.length≤4294960000) then oR (((aj a0 false).1,(aj a0 false).2,()),()) else none
theorem GT (a0:LI):Io.run tt Hw dr FU oX Tryd.f9 ((a0,()),())=xt a0:=by kernel_rfl
theorem HC:HcOk prog 9 (ah oX F3):=by
 refine cq (cs:=FQ) (.cons yK .nil) (lp:=FU) (fn:=Tryd.f9) oX (.done (by kernel_rfl)) F3 ?_
 rintro ⟨⟨(b:LI),⟨⟩⟩,⟨⟩⟩ out hw ho
 obtain ⟨hg,ho⟩:=Tr.guard ho
 cases ho
 refine (GT b).trans ?_
 unfold xt
 exact (aa hg _ _)
abbrev ga:Io:=⟨[dL,dI],[],[],[dB],none⟩
def rF (d:ga.In):Tr ga.Res:=.ite (decide (d.1.1.length≤4294950000)) (.ret (.ret ((true,()),()))) .no
abbrev xI:List (Nat×Hc):=[(5,ah fF rE),(6,ah je xe),(7,ah fX rx),(8,ah gi rP),(9,ah oX F3),(10,ah gg vT),(11,ah fx rl)]
def Ew:Hd:=bM xI
def yq:Lp:=cc []
def qp (a0:LI)(a1:Int):Option ga.Res:=bif decide (a0.length≤4294967000) then bif decide (0≤0)&&(decide (0≤(↑a0.length:Int))&&decide ((↑a0.length:Int)≤(↑(List.length (a0++[13,20,27,34,41,48,55,62,69,76,83,90,97,104,111,118,125,132,139,146,153,160,167,174,181,188,195,202,209,216,223,230,237,244,251,2,9,16,23,30,37,44,51,58,65,72,79,86,93,100,107,114,121,128,135,142,149,156,163,170,177,184,191,198,205,212,219,226,233,240,247,254,5,12,19,26,33,40,47,54,61,68,75,82,89,96,103,110,117,124,131,138,145,152,159,166])):Int))) then bif decide ((List.drop (Int.toNat 0) (List.take (↑a0.length:Int).toNat (a0++[13,20,27,34,41,48,55,62,69,76,83,90,97,104,111,118,125,132,139,146,153,160,167,174,181,188,195,202,209,216,223,230,237,244,251,2,9,16,23,30,37,44,51,58,65,72,79,86,93,100,107,114,121,128,135,142,149,156,163,170,177,184,191,198,205,212,219,226,233,240,247,254,5,12,19,26,33,40,47,54,61,68,75,82,89,96,103,110,117,124,131,138,145,152,159,166]))).length≤4294960000) then bif (ao (List.drop (Int.toNat 0) (List.take (↑a0.length:Int).toNat (a0++[13,20,27,34,41,48,55,62,69,76,83,90,97,104,111,118,125,132,139,146,153,160,167,174,181,188,195,202,209,216,223,230,237,244,251,2,9,16,23,30,37,44,51,58,65,72,79,86,93,100,107,114,121,128,135,142,149,156,163,170,177,184,191,198,205,212,219,226,233,240,247,254,5,12,19,26,33,40,47,54,61,68,75,82,89,96,103,110,117,124,131,138,145,152,159,166]))) a1).1 != (ao a0 a1).1 then oR ((false,()),()) else bif (ao (List.drop (Int.toNat 0) (List.take (↑a0.length:Int).toNat (a0++[13,20,27,34,41,48,55,62,69,76,83,90,97,104,111,118,125,132,139,146,153,160,167,174,181,188,195,202,209,216,223,230,237,244,251,2,9,16,23,30,37,44,51,58,65,72,79,86,93,100,107,114,121,128,135,142,149,156,163,170,177,184,191,198,205,212,219,226,233,240,247,254,5,12,19,26,33,40,47,54,61,68,75,82,89,96,103,110,117,124,131,138,145,152,159,166]))) a1).2 != (ao a0 a1).2 then oR ((false,()),()) else bif decide (0≤0)&&(decide (0≤(↑a0.length:Int))&&decide ((↑a0.length:Int)≤(↑(List.length (a0++[13,20,27,34,41,48,55,62,69,76,83,90,97,104,111,118,125,132,139,146,153,160,167,174,181,188,195,202,209,216,223,230,237,244,251,2,9,16,23,30,37,44,51,58,65,72,79,86,93,100,107,114,121,128,135,142,149,156,163,170,177,184,191,198,205,212,219,226,233,240,247,254,5,12,19,26,33,40,47,54,61,68,75,82,89,96,103,110,117,124,131,138,145,152,159,166])):Int))) then bif decide ((List.drop (Int.toNat 0) (List.take (↑a0.length:Int).toNat (a0++[13,20,27,34,41,48,55,62,69,76,83,90,97,104,111,118,125,132,139,146,153,160,167,174,181,188,195,202,209,216,223,230,237,244,251,2,9,16,23,30,37,44,51,58,65,72,79,86,93,100,107,114,121,128,135,142,149,156,163,170,177,184,191,198,205,212,219,226,233,240,247,254,5,12,19,26,33,40,47,54,61,68,75,82,89,96,103,110,117,124,131,138,145,152,159,166]))).length≤4294960000) then bif (aj (List.drop (Int.toNat 0) (List.take (↑a0.length:Int).toNat (a0++[13,20,27,34,41,48,55,62,69,76,83,90,97,104,111,118,125,132,139,146,153,160,167,174,181,188,195,202,209,216,223,230,237,244,251,2,9,16,23,30,37,44,51,58,65,72,79,86,93,100,107,114,121,128,135,142,149,156,163,170,177,184,191,198,205,212,219,226,233,240,247,254,5,12,19,26,33,40,47,54,61,68,75,82,89,96,103,110,117,124,131,138,145,152,159,166]))) false).1.1 == (aj a0 false).1.1&&((aj (List.drop (Int.toNat 0) (List.take (↑a0.length:Int).toNat (a0++[13,20,27,34,41,48,55,62,69,76,83,90,97,104,111,118,125,132,139,146,153,160,167,174,181,188,195,202,209,216,223,230,237,244,251,2,9,16,23,30,37,44,51,58,65,72,79,86,93,100,107,114,121,128,135,142,149,156,163,170,177,184,191,198,205,212,219,226,233,240,247,254,5,12,19,26,33,40,47,54,61,68,75,82,89,96,103,110,117,124,131,138,145,152,159,166]))) false).1.2.1 == (aj a0 false).1.2.1&&((aj (List.drop (Int.toNat 0) (List.take (↑a0.length:Int).toNat (a0++[13,20,27,34,41,48,55,62,69,76,83,90,97,104,111,118,125,132,139,146,153,160,167,174,181,188,195,202,209,216,223,230,237,244,251,2,9,16,23,30,37,44,51,58,65,72,79,86,93,100,107,114,121,128,135,142,149,156,163,170,177,184,191,198,205,212,219,226,233,240,247,254,5,12,19,26,33,40,47,54,61,68,75,82,89,96,103,110,117,124,131,138,145,152,159,166]))) false).1.2.2.1 == (aj a0 false).1.2.2.1&&((aj (List.drop (Int.toNat 0) (List.take (↑a0.length:Int).toNat (a0++[13,20,27,34,41,48,55,62,69,76,83,90,97,104,111,118,125,132,139,146,153,160,167,174,181,188,195,202,209,216,223,230,237,244,251,2,9,16,23,30,37,44,51,58,65,72,79,86,93,100,107,114,121,128,135,142,149,156,163,170,177,184,191,198,205,212,219,226,233,240,247,254,5,12,19,26,33,40,47,54,61,68,75,82,89,96,103,110,117,124,131,138,145,152,159,166]))) false).1.2.2.2.1 == (aj a0 false).1.2.2.2.1&&((aj (List.drop (Int.toNat 0) (List.take (↑a0.length:Int).toNat (a0++[13,20,27,34,41,48,55,62,69,76,83,90,97,104,111,118,125,132,139,146,153,160,167,174,181,188,195,202,209,216,223,230,237,244,251,2,9,16,23,30,37,44,51,58,65,72,79,86,93,100,107,114,121,128,135,142,149,156,163,170,177,184,191,198,205,212,219,226,233,240,247,254,5,12,19,26,33,40,47,54,61,68,75,82,89,96,103,110,117,124,131,138,145,152,159,166]))) false).1.2.2.2.2.1 == (aj a0 false).1.2.2.2.2.1&&((aj (List.drop (Int.toNat 0) (List.take (↑a0.length:Int).toNat (a0++[13,20,27,34,41,48,55,62,69,76,83,90,97,104,111,118,125,132,139,146,153,160,167,174,181,188,195,202,209,216,223,230,237,244,251,2,9,16,23,30,37,44,51,58,65,72,79,86,93,100,107,114,121,128,135,142,149,156,163,170,177,184,191,198,205,212,219,226,233,240,247,254,5,12,19,26,33,40,47,54,61,68,75,82,89,96,103,110,117,124,131,138,145,152,159,166]))) false).1.2.2.2.2.2.1 == (aj a0 false).1.2.2.2.2.2.1&&((aj (List.drop (Int.toNat 0) (List.take (↑a0.length:Int).toNat (a0++[13,20,27,34,41,48,55,62,69,76,83,90,97,104,111,118,125,132,139,146,153,160,167,174,181,188,195,202,209,216,223,230,237,244,251,2,9,16,23,30,37,44,51,58,65,72,79,86,93,100,107,114,121,128,135,142,149,156,163,170,177,184,191,198,205,212,219,226,233,240,247,254,5,12,19,26,33,40,47,54,61,68,75,82,89,96,103,110,117,124,131,138,145,152,159,166]))) false).1.2.2.2.2.2.2.1 == (aj a0 false).1.2.2.2.2.2.2.1&&((aj (List.drop (Int.toNat 0) (List.take (↑a0.length:Int).toNat (a0++[13,20,27,34,41,48,55,62,69,76,83,90,97,104,111,118,125,132,139,146,153,160,167,174,181,188,195,202,209,216,223,230,237,244,251,2,9,16,23,30,37,44,51,58,65,72,79,86,93,100,107,114,121,128,135,142,149,156,163,170,177,184,191,198,205,212,219,226,233,240,247,254,5,12,19,26,33,40,47,54,61,68,75,82,89,96,103,110,117,124,131,138,145,152,159,166]))) false).1.2.2.2.2.2.2.2.1 == (aj a0 false).1.2.2.2.2.2.2.2.1&&((aj (List.drop (Int.toNat 0) (List.take (↑a0.length:Int).toNat (a0++[13,20,27,34,41,48,55,62,69,76,83,90,97,104,111,118,125,132,139,146,153,160,167,174,181,188,195,202,209,216,223,230,237,244,251,2,9,16,23,30,37,44,51,58,65,72,79,86,93,100,107,114,121,128,135,142,149,156,163,170,177,184,191,198,205,212,219,226,233,240,247,254,5,12,19,26,33,40,47,54,61,68,75,82,89,96,103,110,117,124,131,138,145,152,159,166]))) false).1.2.2.2.2.2.2.2.2.1 == (aj a0 false).1.2.2.2.2.2.2.2.2.1&&((aj (List.drop (Int.toNat 0) (List.take (↑a0.length:Int).toNat (a0++[13,20,27,34,41,48,55,62,69,76,83,90,97,104,111,118,125,132,139,146,153,160,167,174,181,188,195,202,209,216,223,230,237,244,251,2,9,16,23,30,37,44,51,58,65,72,79,86,93,100,107,114,121,128,135,142,149,156,163,170,177,184,191,198,205,212,219,226,233,240,247,254,5,12,19,26,33,40,47,54,61,68,75,82,89,96,103,110,117,124,131,138,145,152,159,166]))) false).1.2.2.2.2.2.2.2.2.2.1 == (aj a0 false).1.2.2.2.2.2.2.2.2.2.1&&true))))))))) then bif (aj (List.drop (Int.toNat 0) (List.take (↑a0.length:Int).toNat (a0++[13,20,27,34,41,48,55,62,69,76,83,90,97,104,111,118,125,132,139,146,153,160,167,174,181,188,195,202,209,216,223,230,237,244,251,2,9,16,23,30,37,44,51,58,65,72,79,86,93,100,107,114,121,128,135,142,149,156,163,170,177,184,191,198,205,212,219,226,233,240,247,254,5,12,19,26,33,40,47,54,61,68,75,82,89,96,103,110,117,124,131,138,145,152,159,166]))) false).2 == (aj a0 false).2 then bif decide (a0.length≤4294967000) then oR ((decide (a0++[13,20,27,34,41,48,55,62,69,76,83,90,97,104,111,118,125,132,139,146,153,160,167,174,181,188,195,202,209,216,223,230,237,244,251,2,9,16,23,30,37,44,51,58,65,72,79,86,93,100,107,114,121,128,135,142,149,156,163,170,177,184,191,198,205,212,219,226,233,240,247,254,5,12,19,26,33,40,47,54,61,68,75,82,89,96,103,110,117,124,131,138,145,152,159,166]=a0++[13,20,27,34,41,48,55,62,69,76,83,90,97,104,111,118,125,132,139,146,153,160,167,174,181,188,195,202,209,216,223,230,237,244,251,2,9,16,23,30,37,44,51,58,65,72,79,86,93,100,107,114,121,128,135,142,149,156,163,170,177,184,191,198,205,212,219,226,233,240,247,254,5,12,19,26,33,40,47,54,61,68,75,82,89,96,103,110,117,124,131,138,145,152,159,166]),()),()) else none else oR ((false,()),()) else oR ((false,()),()) else none else none else none else none else none
theorem Di (a0:LI)(a1:Int):Io.run tt Ew dr yq ga Tryd.f3 ((a0,a1,()),())=qp a0 a1:=by kernel_rfl
theorem EW:HcOk prog 3 (ah ga rF):=by
 refine cq (cs:=xI) (.cons CU (.cons okWide (.cons yM (.cons yX (.cons HC (.cons E4 (.cons CL .nil))))))) (lp:=yq) (fn:=Tryd.f3) ga (.done (by kernel_rfl)) rF ?_
 rintro ⟨⟨(b:LI),(p:Int),⟨⟩⟩,⟨⟩⟩ out hw ho
 obtain ⟨hg,ho⟩:=Tr.guard ho
 have hg:b.length≤4294950000:=of_decide_eq_true hg
 cases ho
 refine (Di b p).trans ?_
 unfold qp
 have e:∀t:LI,List.drop (Int.toNat 0) (List.take (b.length:Int).toNat (b++t))=b:=by
  intro t
  show List.drop 0 (List.take (b.length:Int).toNat (b++t))=b
  rw[zG,List.drop_zero,List.take_left]
 rw[e]
 refine bT (decide_eq_true (by omega)) ?_
 have sl:∀t:LI,(decide ((0:Int)≤0)&&(decide ((0:Int)≤(b.length:Int))&&decide ((b.length:Int)≤((b++t).length:Int))))=true:=by
  intro t
  simp only[zA,zB,zH];omega
 refine (aa (sl _) _ _).trans ?_
 refine bT (decide_eq_true (by omega)) ?_
 refine (ac (bne_self_eq_false _) _ _).trans ?_
 refine (ac (bne_self_eq_false _) _ _).trans ?_
 refine (aa (sl _) _ _).trans ?_
 refine bT (decide_eq_true (by omega)) ?_
 refine bT (by simp only[beq_self_eq_true,Bool.and_self]) ?_
 refine (aa (beq_self_eq_true _) _ _).trans ?_
 refine bT (decide_eq_true (by omega)) ?_
 rw[decide_eq_true rfl]
end
end Go.Proofs.YtcbcbjdobbgddaaDoor.Sym
namespace Go.Proofs.YtcbcbjdobbgddaaDoor.Sym
open Go
open Go.IntKind (i8 i16 i32 i64 u8 u16 u32 u64)
open Go.ChangeShapes Go.WideShapes Go.ChangeAt Go.RowKit
noncomputable section
abbrev ur:List (String×DataW Unit):=[("leat/crc.rows",Rows.laid_leat_crc_rows)]
theorem FT:Tryd.prog.globalNamed "leat/crc.rows"=some 0:=by kernel_rfl
theorem HN:(Tryd.prog.globals[0]?).map (·.type)=some ((Tryd.prog.globals[0]?).map (·.type)).get!:=by kernel_rfl
theorem HQ:Tryd.prog.underlying ((Tryd.prog.globals[0]?).map (·.type)).get!=some (.array 16 58):=by kernel_rfl
theorem H8:Tryd.prog.underlying 58=some (.int .u32):=by kernel_rfl
theorem Hy:(Rows.laid_leat_crc_rows:DataW Unit)=.agg (mP.map fun n=>.lit (.int .u32 n)):=by kernel_rfl
set_option maxRecDepth 100000 in
theorem vF {W:World}(h:laidMetH Tryd.prog ur W):gI (S0 W) W:=by
 rw[MakeChecks.laidMetH_plain _ _ _ (by kernel_rfl)] at h
 obtain ⟨ps,⟨g0,t0,cs0,f0,p0,q0,hg0,ht0,hv0,hd0,_,_⟩,_,_⟩:=h
 obtain rfl:=Option.some.inj (FT.symm.trans hg0)
 obtain rfl:=Option.some.inj (HN.symm.trans ht0)
 obtain ⟨xs,m,rfl,hx,hlen,hn,hel⟩:=DataW.trod_array HQ hd0
 have c1:Tryd.prog.cellsOf 58=1:=by kernel_rfl
 intro g i hg hi
 have hg:g=0:=Nat.eq_of_beq_eq_true hg
 subst hg
 have hi:i<16:=hi
 have key:W.cell? ⟨0,i,none⟩=some (.int .u32 (da (i:Int))):=by
  have h1:=hel i hi
  have h2:xs[i]?=some xs[i]:=List.getElem?_eq_getElem (by omega)
  rw[h2,c1] at h1
  obtain ⟨k,e1,e2,_⟩:=DataW.trod_int H8 h1
  have h3:=World.var?_cell FT hv0 i
  rw[h3]
  have h4:cs0.toList[i]?=some (.int .u32 k):=by
   have:((cs0.toList.drop (i*1)).take 1)[0]?=some (.int .u32 k):=by rw[e1];rfl
   rw[List.getElem?_take] at this
   simpa using this
  have h5:cs0[i]?=some (.int .u32 k):=by simpa using h4
  rw[h5]
  have hk:(mP.map fun n=>(DataW.lit (.int .u32 n):DataW Unit))[i]?=some (.lit (.int .u32 k)):=by
   have hx1:(.agg (mP.map fun n=>.lit (.int .u32 n)):DataW Unit)=.agg (xs.map (·.1)):=Hy.symm.trans (congrArg Prod.fst hx)
   have hx1:=DataW.agg.inj hx1
   rw[hx1,List.getElem?_map,h2]
   simp[e2]
  rw[List.getElem?_map] at hk
  have hs:da (i:Int)=mP.getD i 0:=rfl
  rw[hs,List.getD_eq_getElem?_getD]
  cases ht:mP[i]? with
  |none=>rw[ht] at hk;cases hk
  |some x=>
   rw[ht] at hk
   simp only[Option.map_some,zC,DataW.lit.injEq,Lit.int.injEq] at hk
   rw[hk.2]
   rfl
 exact ⟨⟨_,key⟩,key⟩
theorem BQ (os:Os)(args:Array Value):laidMetH Tryd.prog ur ((World.doorLaid Tryd.prog 400 os).forCall (fun _ _=>0) ⟨#[],args,[]⟩).memory:=
 laidMetH_of_parts3 (fuel:=8) (laidMet_of_run' 8 (by kernel_rfl) (by kernel_rfl)) (by kernel_rfl) (by kernel_rfl)
section
variable {H:Type} {enc:TypeId×Value→H}
theorem kD {a:Assume}{C:Checked}{os:Os}{f:FuncId}{fn:Func}{s:OpenSpec}{k:(H:Type)→List (DataW H)→Bool}(hk:s.cond=some k){F:Stop.Interp}{conds:List PathCond}{apart fresh handsOn again:Bool}{laid:List (String×DataW Unit)}
  (own:ownKnob C.prog.godebug=none) (started:os.Started) (noInit:C.prog.inits.idxOf? f=none) (hfn:C.prog.funcs[f]?=some fn)
  (witness:∃(w:World) (tape:Tape) (i:Input),w.os=os∧(w.forCall tape i).Shaped C.prog∧i.vars=[]∧Input.okWide C.prog (w.forCall tape i) .any w.heap.size f i∧
   ((s.pre enc C.prog fn conds apart (w.forCall tape i).memory i.args∧laidMetH C.prog laid (w.forCall tape i).memory)∧sizedMet enc C.prog fn s apart (w.forCall tape i).memory i.args)∧a.holds C.prog (lone (Frame.enter C.prog f i.args .normal) [] (w.forCall tape i)))
  (contract:∀(W:World) (base:Nat) (args:Array Value) (ds gs:List (DataW H)) (before:List MemPlace),
   (∀(j:Nat) t v,fn.params[j]?=some t→args[j]?=some v→Value.okWide C.prog W .any base t v)→
   DataW.Whole enc C.prog fn.params.toList s.vars apart W args.toList ds gs before→k H (ds++gs)=true→laidMetH C.prog laid W→
   Calls C.prog f args W fun e W'=>∃v,e=.returned v∧(s.at F).post enc C.prog fn apart fresh handsOn again W args v W'):
  ReturnsInHanded a C os f .any (fun w args=>(s.pre enc C.prog fn conds apart w args∧laidMetH C.prog laid w)∧sizedMet enc C.prog fn s apart w args) ((s.at F).post enc C.prog fn apart fresh handsOn again):=by
 refine returnsInHanded_of_calls own started noInit witness ?_
 intro w tape i _ _ _ hok hpre hholds
 obtain ⟨_,_,_,fn',hfn',_,_,_,_,hval⟩:=hok
 have e:fn'=fn:=Option.some.inj (hfn'.symm.trans hfn)
 subst e
 obtain ⟨ds,gs,before,hw,hc,hkk⟩:=(OpenSpec.pre_some hk conds apart _ _).1 hpre.1.1
 have hw':=DataW.Whole.of_heap (w':=w.forCall tape i) (by rfl) hw
 refine (contract (w.forCall tape i) w.heap.size i.args ds gs before hval hw' hkk (hpre.1.2.of_heap (by rfl))).mono fun e W' ⟨v,he,hp⟩=>?_
 subst he
 exact ChangeSpec.post_blind hp
theorem tf {C:Checked}{os:Os}{f:FuncId}{fn:Func}{s:OpenSpec}{k:(H:Type)→List (DataW H)→Bool}(hk:s.cond=some k){apart:Bool}{laid:List (String×DataW Unit)}(w0:World)(args:Array Value)(fuel:Nat)(hos:w0.os=os)
  (hsh:(w0.forCall (fun _ _=>0) ⟨#[],args,[]⟩).Shaped C.prog)
  (hok:Input.okWideB C.prog (w0.forCall (fun _ _=>0) ⟨#[],args,[]⟩) f ⟨#[],args,[]⟩=true)
  {x:List (DataW H)×List (DataW H)×List MemPlace} (hx:DataW.whole enc C.prog (w0.forCall (fun _ _=>0) ⟨#[],args,[]⟩).memory fn.params.toList s.vars apart args.toList fuel=some x)
  (hkk:k H (x.1++x.2.1)=true)
  (hsz:s.bare.sizedB enc C.prog fn apart (w0.forCall (fun _ _=>0) ⟨#[],args,[]⟩).memory args fuel=true)
  (hl:laidMetH C.prog laid (w0.forCall (fun _ _=>0) ⟨#[],args,[]⟩).memory):
  ∃(w:World) (tape:Tape) (i:Input),w.os=os∧(w.forCall tape i).Shaped C.prog∧i.vars=[]∧Input.okWide C.prog (w.forCall tape i) .any w.heap.size f i∧
   ((s.pre enc C.prog fn [] apart (w.forCall tape i).memory i.args∧laidMetH C.prog laid (w.forCall tape i).memory)∧sizedMet enc C.prog fn s apart (w.forCall tape i).memory i.args)∧({}:Assume).holds C.prog (lone (Frame.enter C.prog f i.args .normal) [] (w.forCall tape i)):=
 ⟨w0,fun _ _=>0,⟨#[],args,[]⟩,hos,hsh,(Input.okWide_of_okWideB (base:=0) hok).1,(Input.okWide_of_okWideB hok).2,
  ⟨⟨(OpenSpec.pre_some hk [] apart _ _).2 ⟨x.1,x.2.1,x.2.2,DataW.Whole_of_whole hx,rfl,hkk⟩,hl⟩,sizedMet_of_sizedB hsz⟩,by
  simp only[Assume.holds]
  exact ⟨by simp,by simp,fun _=>Modest.zero,by simp,by simp⟩⟩
end
end
end Go.Proofs.YtcbcbjdobbgddaaDoor.Sym
