/- batch: bases, producers, times, rows, Measure. -/
import Derived.Test.YtcbcbjdobbgddaaDoorQ4

set_option linter.unusedVariables false
set_option linter.unusedSimpArgs false
namespace Go.Proofs.YtcbcbjdobbgddaaDoor.Sym
open Go
open Go.IntKind (i8 i16 i32 i64 u8 u16 u32 u64)
noncomputable section
theorem jG {n:Int}(h:aS .i64 n) : -9223372036854775808≤n∧n≤9223372036854775807:=by
 simpa [aS,IntKind.min,IntKind.max,IntKind.signed,IntKind.bits] using h
theorem Es {n:Int}(h:aS .i32 n) : -2147483648≤n∧n≤2147483647:=by
 simpa [aS,IntKind.min,IntKind.max,IntKind.signed,IntKind.bits] using h
theorem Gn {n:Int}(h1:9223372036854775807<n)(h2:n≤18446744073709551615):i64.wrap n=n - 18446744073709551616:=by
 simp[IntKind.wrap,IntKind.signed,IntKind.bits] <;> (try split) <;> omega
theorem Gp {n:Int}(h1:n < -9223372036854775808)(h2 : -18446744073709551616≤n):i64.wrap n=n+18446744073709551616:=by
 simp[IntKind.wrap,IntKind.signed,IntKind.bits] <;> (try split) <;> omega
theorem vT {n:Int}(h1 : -9223372036854775808≤n)(h2:n≤9223372036854775807):aB n=true:=by unfold aB;rw[if_pos ⟨h1,h2⟩]
theorem kg {n:Int}(h:¬(-9223372036854775808≤n∧n≤9223372036854775807)):aB n=false:=by unfold aB;rw[if_neg h]
theorem dQ {n:Int}:aB n=true↔-9223372036854775808≤n∧n≤9223372036854775807:=by
 unfold aB
 split
 ·rename_i h;exact ⟨fun _=>h,fun _=>rfl⟩
 ·rename_i h;exact ⟨fun h'=>Bool.noConfusion h',fun h'=>absurd h' h⟩
theorem GL {t f:Int}(ht:aS .i64 t)(hf:aS .i64 f):(decide (i64.wrap (t - f)<0) == decide (t<f))=aB (t - f):=by
 have h1:=jG ht
 have h2:=jG hf
 by_cases a : -9223372036854775808≤t - f
 ·by_cases b:t - f≤9223372036854775807
  ·rw[vT a b,ag a b]
   by_cases c:t<f
   ·rw[decide_eq_true c,decide_eq_true (show t - f<0 by omega)];rfl
   ·rw[decide_eq_false c,decide_eq_false (show ¬ t - f<0 by omega)];rfl
  ·rw[kg (fun h=>b h.2),Gn (by omega) (by omega),decide_eq_true (show t - f - 18446744073709551616<0 by omega),decide_eq_false (show ¬ t<f by omega)];rfl
 ·rw[kg (fun h=>a h.1),Gp (by omega) (by omega),decide_eq_false (show ¬ t - f+18446744073709551616<0 by omega),decide_eq_true (show t<f by omega)];rfl
theorem GK {d f:Int}(hd:aS .i64 d)(hf:aS .i64 f):(decide (i64.wrap (f+d)<f) == decide (d<0))=aB (f+d):=by
 have h1:=jG hd
 have h2:=jG hf
 by_cases a : -9223372036854775808≤f+d
 ·by_cases b:f+d≤9223372036854775807
  ·rw[vT a b,ag a b]
   by_cases c:d<0
   ·rw[decide_eq_true c,decide_eq_true (show f+d<f by omega)];rfl
   ·rw[decide_eq_false c,decide_eq_false (show ¬ f+d<f by omega)];rfl
  ·rw[kg (fun h=>b h.2),Gn (by omega) (by omega),decide_eq_true (show f+d - 18446744073709551616<f by omega),decide_eq_false (show ¬ d<0 by omega)];rfl
 ·rw[kg (fun h=>a h.1),Gp (by omega) (by omega),decide_eq_false (show ¬ f+d+18446744073709551616<f by omega),decide_eq_true (show d<0 by omega)];rfl
theorem JQ:∀{l:LI},(∀c∈l,0≤c∧c≤255)→l.length=1→i8.wrap (aC l)=dK l
 |[a],h,_=>by
  have ha:=h a (by simp)
  simp only[aC,dK,List.foldl_cons,List.foldl_nil]
  simp[IntKind.wrap,IntKind.signed,IntKind.bits] <;> (try split) <;> omega
theorem po:∀{l:LI},(∀c∈l,0≤c∧c≤255)→l.length=2→i16.wrap (aC l)=dK l
 |[a,b],h,_=>by
  have ha:=h a (by simp)
  have hb:=h b (by simp)
  simp only[aC,dK,List.foldl_cons,List.foldl_nil]
  simp[IntKind.wrap,IntKind.signed,IntKind.bits] <;> (try split) <;> omega
theorem kw:∀{l:LI},(∀c∈l,0≤c∧c≤255)→l.length=4→i32.wrap (aC l)=dK l
 |[a,b,c,d],h,_=>by
  have ha:=h a (by simp)
  have hb:=h b (by simp)
  have hc:=h c (by simp)
  have hd:=h d (by simp)
  simp only[aC,dK,List.foldl_cons,List.foldl_nil]
  simp[IntKind.wrap,IntKind.signed,IntKind.bits] <;> (try split) <;> omega
theorem pp:∀{l:LI},(∀c∈l,0≤c∧c≤255)→l.length=8→i64.wrap (aC l)=dK l
 |[a,b,c,d,e,f,g,i],h,_=>by
  have ha:=h a (by simp)
  have hb:=h b (by simp)
  have hc:=h c (by simp)
  have hd:=h d (by simp)
  have he:=h e (by simp)
  have hf:=h f (by simp)
  have hg:=h g (by simp)
  have hi:=h i (by simp)
  simp only[aC,dK,List.foldl_cons,List.foldl_nil]
  simp[IntKind.wrap,IntKind.signed,IntKind.bits] <;> (try split) <;> omega
theorem FU:∀{l:LI},(∀c∈l,0≤c∧c≤255)→l.length=4→-2147483648≤dK l∧dK l≤2147483647:=fun h hl=>by
 rw[← kw h hl]
 exact Es (bL _ _)
theorem dw {b:LI}(hb:∀c∈b,0≤c∧c≤255)(p n:Nat):∀c∈(b.drop p).take n,0≤c∧c≤255:=fun c hc=>hb c (List.mem_of_mem_drop (List.mem_of_mem_take hc))
theorem cM {b:LI}{p n:Nat}(h:p+n≤b.length):((b.drop p).take n).length=n:=by simp;omega
abbrev gt:Io:=⟨[oI],[],[],[dB],none⟩
def sX (d:gt.In):Tr gt.Res:=.ret (.ret ((aY d.1.1,()),()))
abbrev zu:List (Nat×Hc):=[]
def GN:Hd:=bV zu
def AD:Lp:=cb []
def rz (a0:Int):Option gt.Res:=bif decide (a0<0) then oR ((true,()),()) else oR ((decide (4611686018427387648<a0),()),())
theorem Fp (a0:Int):Io.run tt GN dr AD gt Tryd.f51 ((a0,()),())=rz a0:=by kernel_rfl
theorem A8:HcOk prog 51 (ah gt sX):=by
 refine cq (cs:=zu) HcsOk.nil (lp:=AD) (fn:=Tryd.f51) gt (.done (by kernel_rfl)) sX ?_
 rintro ⟨⟨(b:Int),⟨⟩⟩,⟨⟩⟩ out hw ho
 cases ho
 refine (Fp b).trans ?_
 show _=oR ((decide (b<0) || decide (4611686018427387648<b),()),())
 unfold rz
 by_cases h:b<0
 ·refine bT (decide_eq_true h) ?_
  rw[decide_eq_true h];rfl
 ·refine bF (decide_eq_false h) ?_
  rw[decide_eq_false h];rfl
abbrev fB:Io:=⟨[oI,KN,GD],[],[],[dB],none⟩
def s5 (d:fB.In):Tr fB.Res:=.ret (.ret ((aQ d.1.1 d.1.2.1 d.1.2.2.1,()),()))
abbrev zy:List (Nat×Hc):=[]
def GR:Hd:=bV zy
def AH:Lp:=cb []
def rE (a0 a1 a2:Int):Option fB.Res:=bif a0 == -1 then bif a1 == -1 then bif decide (0≤a0) then bif decide (0≤a1) then bif !a2 == -1 then oR ((!decide (0≤a2),()),()) else oR ((false,()),()) else bif !a2 == -1 then oR ((true,()),()) else oR ((false,()),()) else bif !a2 == -1 then oR ((true,()),()) else oR ((false,()),()) else bif decide (0≤a0) then bif decide (0≤a1) then oR ((!decide (0≤a2),()),()) else oR ((true,()),()) else oR ((true,()),()) else bif decide (0≤a0) then bif decide (0≤a1) then oR ((!decide (0≤a2),()),()) else oR ((true,()),()) else oR ((true,()),())
theorem Fu (a0 a1 a2:Int):Io.run tt GR dr AH fB Tryd.f52 ((a0,a1,a2,()),())=rE a0 a1 a2:=by kernel_rfl
theorem Bb:HcOk prog 52 (ah fB s5):=by
 refine cq (cs:=zy) HcsOk.nil (lp:=AH) (fn:=Tryd.f52) fB (.done (by kernel_rfl)) s5 ?_
 rintro ⟨⟨(pid:Int),(ep:Int),(sq:Int),⟨⟩⟩,⟨⟩⟩ out hw ho
 cases ho
 refine (Fu pid ep sq).trans ?_
 show _=oR (((if pid = -1∧ep = -1∧sq = -1∨0≤pid∧0≤ep∧0≤sq then false else true),()),())
 have hs:(!decide (0≤sq))=if 0≤sq then false else true:=by by_cases h:0≤sq <;> simp[h]
 have key:∀c:Prop,[Decidable c]→∀b:Bool,(b=false↔c)→some (Out.ret ((b,()),()):fB.Res)=oR (((if c then false else true),()),()):=by
  intro c _ b h
  by_cases hc:c
  ·rw[if_pos hc,h.2 hc]
  ·rw[if_neg hc]
   cases b with
   |true=>rfl
   |false=>exact absurd (h.1 rfl) hc
 unfold rE
 by_cases h1:pid = -1
 ·refine bT (by simp[h1]) ?_
  by_cases h2:ep = -1
  ·refine bT (by simp[h2]) ?_
   refine bF (decide_eq_false (by omega)) ?_
   by_cases h3:sq = -1
   ·refine bF (by simp[h3]) ?_
    exact key _ _ (by simp;omega)
   ·refine bT (by simp[h3]) ?_
    exact key _ _ (by simp;omega)
  ·refine bF (by simp[h2]) ?_
   refine bF (decide_eq_false (by omega)) ?_
   exact key _ _ (by simp;omega)
 ·refine bF (by simp[h1]) ?_
  by_cases h2:0≤pid
  ·refine bT (decide_eq_true h2) ?_
   by_cases h3:0≤ep
   ·refine bT (decide_eq_true h3) ?_
    exact key _ _ (by simp;omega)
   ·refine bF (decide_eq_false h3) ?_
    exact key _ _ (by simp;omega)
  ·refine bF (decide_eq_false h2) ?_
   exact key _ _ (by simp;omega)
abbrev fU:Io:=⟨[oI,oI],[],[],[oI,dB],none⟩
def sZ (d:fU.In):Tr fU.Res:=.ret (.ret ((i64.wrap (d.1.1 - d.1.2.1),aB (d.1.1 - d.1.2.1),()),()))
abbrev vA:List (Nat×Hc):=[]
def Eb:Hd:=bV vA
def wo:Lp:=cb []
def pJ (a0 a1:Int):Option fU.Res:=oR ((i64.wrap (a0 - a1),decide (i64.wrap (a0 - a1)<0) == decide (a0<a1),()),())
theorem Ck (a0 a1:Int):Io.run tt Eb dr wo fU Tryd.f61 ((a0,a1,()),())=pJ a0 a1:=by kernel_rfl
theorem E5:HcOk prog 61 (ah fU sZ):=by
 refine cq (cs:=vA) HcsOk.nil (lp:=wo) (fn:=Tryd.f61) fU (.done (by kernel_rfl)) sZ ?_
 rintro ⟨⟨(t:Int),(f:Int),⟨⟩⟩,⟨⟩⟩ out hw ho
 cases ho
 refine (Ck t f).trans ?_
 unfold pJ
 rw[GL hw.1.1 hw.1.2.1]
def aU (f:Int):List bd→Nat→Bool
 |[],_=>true
 |r::rs,i=>cS (aM f i r)&&aU f rs (i+1)
abbrev fC:Io:=⟨[q9],[],[],[dO,dI],none⟩
def kR (d:fC.In):Tr fC.Res:=.ite (aU (aj d.1.1.2.2.2.2.2.1) d.1.1.2.2.2.2.2.1 0) (.ret (.ret (((ct d.1.1).1,(ct d.1.1).2,()),()))) .no
abbrev zO:List (Nat×Hc):=[(51,ah gt sX),(52,ah fB s5),(61,ah fU sZ),(62,ah lg C4)]
def Ao:Hd:=bV zO
abbrev cE:Lo:=⟨⟨(.any::.one (.ptr 1 0)::cr (.one (.onl 5 (Ty.int u8) 9)::.any::an (fH (di (.one (.hol (.sl 70 bc))::.one hI::.one hI::an (an (fH (cr [])))))))),[none,some [hI,hJ,hI,hK,hJ,.hol (.sl 70 bc)]]⟩,[(.ret,⟨(cr (.one (.onl 5 (Ty.int u8) 5)::.one hI::.any::an (an (an (an (fH (cr []))))))),[]⟩),(.exit 1,⟨(di (.one (.onl 5 (Ty.int u8) 9)::an (an (an (an (fH (cr []))))))),[]⟩)]⟩
def gZ (d:cE.st.den):Tr (aA cE.xs):=
 .ite (decide (d.1.2.2.2.1=0)&&(decide (d.1.2.2.1=(d.1.2.1.length:Int))&&(decide (d.1.1.length=0)&&((decide (aj d.2.1.2.2.2.2.2.1=aj d.1.2.1)&&decide (1≤d.2.1.2.2.2.2.2.1.length))&&(decide (d.1.2.1.length≤256)&&aU (aj d.1.2.1) d.1.2.1 0)))))
  (.ite (decide ((ay (aj d.1.2.1) d.1.2.1 0 []).2=0)) (.ret (.pan (.ret ((),(((ay (aj d.1.2.1) d.1.2.1 0 []).1,()),()))))) (.ret (.ret ((),(([],(ay (aj d.1.2.1) d.1.2.1 0 []).2,()),()))))) .no
def pa:Lp:=cb [(12,bg cE gZ)]
def mW {R:Type}(h6:LI)(h7:List bc.den)(h8 h9 h10 h11 h12 h13 h14:Int)(h15:List bc.den)(next:LI→List bc.den→Int→Int→Int→Int→Int→Int→Int→List bc.den→Option R)(out:aA cE.xs→Option R):Option R:=bif decide (h9<h8) then bif decide (0≤h9)&&decide (h9<(↑h7.length:Int)) then bif decide (0≤0)&&decide (0<(↑h15.length:Int)) then bif !aB ((h7.getD h9.toNat (0,(false,[],()),(false,[],()),[],())).1 - (h15.getD (Int.toNat 0) (0,(false,[],()),(false,[],()),[],())).1) then out (.ret ((),(([],(86,())),()))) else bif cS (i64.wrap ((h7.getD h9.toNat (0,(false,[],()),(false,[],()),[],())).1 - (h15.getD (Int.toNat 0) (0,(false,[],()),(false,[],()),[],())).1),i32.wrap h9,(h7.getD h9.toNat (0,(false,[],()),(false,[],()),[],())).2) then bif (aK (i64.wrap ((h7.getD h9.toNat (0,(false,[],()),(false,[],()),[],())).1 - (h15.getD (Int.toNat 0) (0,(false,[],()),(false,[],()),[],())).1),i32.wrap h9,(h7.getD h9.toNat (0,(false,[],()),(false,[],()),[],())).2)).2 != 0 then out (.ret ((),(([],((aK (i64.wrap ((h7.getD h9.toNat (0,(false,[],()),(false,[],()),[],())).1 - (h15.getD (Int.toNat 0) (0,(false,[],()),(false,[],()),[],())).1),i32.wrap h9,(h7.getD h9.toNat (0,(false,[],()),(false,[],()),[],())).2)).2,())),()))) else bif decide (h6.length+(aK (i64.wrap ((h7.getD h9.toNat (0,(false,[],()),(false,[],()),[],())).1 - (h15.getD (Int.toNat 0) (0,(false,[],()),(false,[],()),[],())).1),i32.wrap h9,(h7.getD h9.toNat (0,(false,[],()),(false,[],()),[],())).2)).1.length≤4294967296) then next (h6++(aK (i64.wrap ((h7.getD h9.toNat (0,(false,[],()),(false,[],()),[],())).1 - (h15.getD (Int.toNat 0) (0,(false,[],()),(false,[],()),[],())).1),i32.wrap h9,(h7.getD h9.toNat (0,(false,[],()),(false,[],()),[],())).2)).1) (h7) (h8) (i64.wrap (h9+1)) (h10) (h11) (h12) (h13) (h14) (h15) else none else none else none else none else out (.pan (.ret ((),((h6,()),()))))
def lD (n:Nat)(h6:LI)(h7:List bc.den)(h8 h9 h10 h11 h12 h13 h14:Int)(h15:List bc.den):Option (aA cE.xs):=kC tt Ao dr pa 0 Tryd.f33 (dD Tryd.f33 0) n (cE.st.mk' ((h6,(h7,(h8,(h9,())))),((h10,(h11,(h12,(h13,(h14,(h15,())))))),()))) (cx cE.xs)
theorem yH (n:Nat)(h6:LI)(h7:List bc.den)(h8 h9 h10 h11 h12 h13 h14:Int)(h15:List bc.den):lD (n+1) h6 h7 h8 h9 h10 h11 h12 h13 h14 h15=mW h6 h7 h8 h9 h10 h11 h12 h13 h14 h15 (lD n) some:=by kernel_rfl
theorem sT {r:fQ}(h:au r=0):(aK r).2=0∧(aK r).1.length≤16400:=by
 have e:aK r=(am (ai (aG r).length)++aG r,0):=by unfold aK;rw[if_pos h]
 rw[e]
 refine ⟨rfl,?_⟩
 have hs:(aG r).length≤16384:=by
  unfold au at h
  split at h
  ·rename_i h1;exact absurd h h1
  ·split at h
   ·cases h
   ·omega
 have:=nK (ai (aG r).length)
 simp only[zH]
 omega
theorem jd {r:fQ}(h:au r≠0):(aK r).2=au r:=by unfold aK;rw[if_neg h]
theorem t5 (b1 b2 b3 b4 b5:Int)(rs0:List bd)(h0:1≤rs0.length){f:Int}(hf0:aj rs0=f)(hf:aS .i64 f)(rs:List bd)(hl:rs.length≤256)(hr:∀r∈rs,aS .i64 r.1):∀(k i:Nat) (out:LI),rs.length<i+k→i≤rs.length→aU f (rs.drop i) i=true→out.length≤i*17000→
  lD k out rs (rs.length:Int) i b1 b2 b3 b4 b5 rs0=if (ay f (rs.drop i) i out).2=0 then some (.pan (.ret ((),(((ay f (rs.drop i) i out).1,()),())))) else some (.ret ((),(([],((ay f (rs.drop i) i out).2,())),()))):=by
 intro k
 induction k with
 |zero=>intro i out h;omega
 |succ k ih=>
  intro i out h1 h2 h3 h4
  rw[yH]
  unfold mW
  by_cases hi:i<rs.length
  ·rw[zE hi] at h3 ⊢
   have hri:=hr rs[i] (List.getElem_mem hi)
   have e0:(rs0.getD (Int.toNat 0) (0,(false,[],()),(false,[],()),[],())).1=f:=by
    rw[← hf0]
    cases rs0 with
    |nil=>simp at h0
    |cons r l=>rfl
   have e1:List.getD rs (i:Int).toNat (0,(false,[],()),(false,[],()),[],())=rs[i]:=by rw[zG,aR hi]
   rw[e0,e1]
   generalize rs[i]=r at *
   simp only[aU,zA] at h3
   obtain ⟨h5,h6⟩:=h3
   refine bT (by simpa using hi) ?_
   refine bT (by simpa using hi) ?_
   refine bT (by simp;omega) ?_
   have eL:ay f (r::rs.drop (i+1)) i out=if aB (r.1 - f)=false then ([],86) else if au (aM f i r)≠0 then ([],au (aM f i r)) else ay f (rs.drop (i+1)) (i+1) (out++(aK (aM f i r)).1):=rfl
   rw[eL]
   cases h7:aB (r.1 - f) with
   |false=>
    refine (aa rfl _ _).trans ?_
    rw[if_pos rfl,if_neg (show (86:Int)≠0 by decide)]
   |true=>
    have h8:=dQ.1 h7
    refine (ab rfl _ _).trans ?_
    rw[if_neg (show ¬ true=false by decide)]
    have eR:((i64.wrap (r.1 - f),i32.wrap (i:Int),r.2):fQ)=aM f i r:=by
     rw[ag h8.1 h8.2,bU (k:=.i32) (by simp[aS,IntKind.min,IntKind.max,IntKind.signed,IntKind.bits];omega)]
     rfl
    rw[eR]
    refine (aa h5 _ _).trans ?_
    by_cases h9:au (aM f i r)=0
    ·obtain ⟨p1,p2⟩:=sT h9
     refine bF (by simpa using p1) ?_
     refine bT (decide_eq_true (by omega)) ?_
     rw[if_neg (av h9),ag (n:=(i:Int)+1) (by omega) (by omega)]
     exact ih (i+1) _ (by omega) (by omega) h6 (by simp;omega)
    ·refine bT (by rw[jd h9];simpa using h9) ?_
     rw[if_pos h9,jd h9]
     rw[if_neg h9]
  ·refine bF (by simp;omega) ?_
   rw[zI (by omega)]
   rfl
def rF (a0 a1 a2 a3 a4:Int)(a5:List bc.den):Option fC.Res:=bif aY a0 then oR (([],80,()),()) else bif aQ a2 a3 a4 then oR (([],84,()),()) else bif (↑a5.length:Int) == 0 then oR (([],85,()),()) else bif decide (256<(↑a5.length:Int)) then oR (([],9,()),()) else (gZ (([],(a5,((↑a5.length:Int),(0,())))),((a0,(a1,(a2,(a3,(a4,(a5,())))))),()))).run fun y=>match y with | .ret ((),((x31,x32,()),()))=>(oR ((x31,x32,()),())) | .pan (.ret ((),((x33,()),())))=>(bif decide (32768<(↑x33.length:Int)) then oR (([],4,()),()) else oR ((x33,0,()),()))
theorem Fv (a0 a1 a2 a3 a4:Int)(a5:List bc.den):Io.run tt Ao dr pa fC Tryd.f33 (((a0,a1,a2,a3,a4,a5,()),()),())=rF a0 a1 a2 a3 a4 a5:=by kernel_rfl
theorem sr:HcsOk prog zO:=.cons A8 (.cons Bb (.cons E5 (.cons Js .nil)))
theorem uq:HcOk prog 33 (ah fC kR):=by
 refine cq sr (lp:=pa) (fn:=Tryd.f33) fC (.step (h0:=bg cE gZ) (by kernel_rfl) (lI sr (lp:=pa) (fn:=Tryd.f33) (.done (by kernel_rfl)) cE gZ ?_) (.done (by kernel_rfl))) kR ?_
 ·rintro ⟨⟨(out:LI),(rs:List bd),(m:Int),(i:Int),⟨⟩⟩,⟨⟨(b1:Int),(b2:Int),(b3:Int),(b4:Int),(b5:Int),(rs0:List bd),⟨⟩⟩,⟨⟩⟩⟩ y hw hy
  obtain ⟨hg,hy⟩:=Tr.guard hy
  simp only[zA,zB] at hg
  obtain ⟨h1,h2,h3,⟨h4,h5⟩,h6,h7⟩:=hg
  have h1:i=0:=h1
  have h2:m=(rs.length:Int):=h2
  have h3:out=[]:=List.length_eq_zero_iff.1 h3
  have h4:aj rs0=aj rs:=h4
  have h5:1≤rs0.length:=h5
  have h6:rs.length≤256:=h6
  subst h1 h2 h3
  have hf:aS .i64 (aj rs):=by
   cases rs with
   |nil=>exact ⟨by decide,by decide⟩
   |cons r rs=>exact (hw.1.2.1.2 r (by simp)).1
  refine ⟨rs.length+1,(t5 b1 b2 b3 b4 b5 rs0 h5 h4 hf rs h6 (fun r hr=>(hw.1.2.1.2 r hr).1) (rs.length+1) 0 [] (by omega) (by omega) h7 (by simp)).trans ?_⟩
  rw[← hy]
  simp only[Tr.val_ite,zB,Tr.val_ret,List.drop_zero]
 ·rintro ⟨⟨⟨(b1:Int),(b2:Int),(b3:Int),(b4:Int),(b5:Int),(rs:List bd),⟨⟩⟩,⟨⟩⟩,⟨⟩⟩ out hw ho
  obtain ⟨hg,ho⟩:=Tr.guard ho
  have hg:aU (aj rs) rs 0=true:=hg
  cases ho
  refine (Fv b1 b2 b3 b4 b5 rs).trans ?_
  show _=oR (((ct (b1,b2,b3,b4,b5,rs,())).1,(ct (b1,b2,b3,b4,b5,rs,())).2,()),())
  have e:ar (b1,b2,b3,b4,b5,rs,())=if aY b1=true then 80 else if aQ b3 b4 b5=true then 84 else if rs=[] then 85 else if 256<(rs.length:Int) then 9 else (aE rs).2:=rfl
  have e2:ct (b1,b2,b3,b4,b5,rs,())=if ar (b1,b2,b3,b4,b5,rs,())≠0 then ([],ar (b1,b2,b3,b4,b5,rs,())) else ((aE rs).1,0):=rfl
  unfold rF
  rw[e2]
  cases h1:aY b1 with
  |true=>
   refine (aa rfl _ _).trans ?_
   rw[show ar (b1,b2,b3,b4,b5,rs,())=80 by rw[e,if_pos h1],if_pos (by decide)]
  |false=>
  refine (ab rfl _ _).trans ?_
  cases h2:aQ b3 b4 b5 with
  |true=>
   refine (aa rfl _ _).trans ?_
   rw[show ar (b1,b2,b3,b4,b5,rs,())=84 by rw[e,if_neg (by rw[h1];decide),if_pos h2],if_pos (by decide)]
  |false=>
  refine (ab rfl _ _).trans ?_
  by_cases h3:rs=[]
  ·refine bT (by simp[h3]) ?_
   rw[show ar (b1,b2,b3,b4,b5,rs,())=85 by rw[e,if_neg (by rw[h1];decide),if_neg (by rw[h2];decide),if_pos h3],if_pos (by decide)]
  refine bF (by simp[h3]) ?_
  by_cases h4:256<(rs.length:Int)
  ·refine bT (decide_eq_true h4) ?_
   rw[show ar (b1,b2,b3,b4,b5,rs,())=9 by rw[e,if_neg (by rw[h1];decide),if_neg (by rw[h2];decide),if_neg h3,if_pos h4],if_pos (by decide)]
  refine bF (decide_eq_false h4) ?_
  rw[show ar (b1,b2,b3,b4,b5,rs,())=(aE rs).2 by rw[e,if_neg (by rw[h1];decide),if_neg (by rw[h2];decide),if_neg h3,if_neg h4]]
  have hp:=List.length_pos_iff.2 h3
  unfold gZ
  refine bT (by simp only[zA,zB];exact ⟨trivial,trivial,rfl,⟨trivial,hp⟩,show rs.length≤256 by omega,hg⟩) ?_
  show (bif decide ((ay (aj rs) rs 0 []).2=0) then (bif decide (32768<((ay (aj rs) rs 0 []).1.length:Int)) then oR (([],4,()),()) else oR (((ay (aj rs) rs 0 []).1,0,()),())) else oR (([],(ay (aj rs) rs 0 []).2,()),()))=_
  unfold aE
  by_cases h5:(ay (aj rs) rs 0 []).2=0
  ·refine bT (decide_eq_true h5) ?_
   rw[if_neg (av h5)]
   by_cases h6:32768<((ay (aj rs) rs 0 []).1.length:Int)
   ·refine bT (decide_eq_true h6) ?_
    rw[if_pos h6,if_pos (show (4:Int)≠0 by decide)]
   ·refine bF (decide_eq_false h6) ?_
    rw[if_neg h6,if_neg (av rfl)]
  ·refine bF (decide_eq_false h5) ?_
   rw[if_pos h5,if_pos h5]
abbrev gu:Io:=⟨[DV],[],[],[oI],none⟩
def s4 (d:gu.In):Tr gu.Res:=.ite (decide (1≤d.1.1.length)) (.ret (.ret ((cR d.1.1,()),()))) .no
abbrev tA:List (Nat×Hc):=[]
def An:Hd:=bV tA
abbrev da:Lo:=⟨⟨(.any::cr (.one hI::di (cr (.one (.hol (.sl 70 bc))::.one hI::.one hI::.any::fH [])))),[]⟩,[(.exit 0,⟨(.any::cr (.one hI::an (cr []))),[]⟩)]⟩
def jq (d:da.st.den):Tr (aA da.xs):=.ite (decide (d.1.2.2.2.1=0)&&decide (d.1.2.2.1=(d.1.2.1.length:Int))) (.ret (.ret ((),((gI d.1.2.1 d.1.1,()),())))) .no
def o9:Lp:=cb [(4,bg da jq)]
def ot {R:Type}(h1:Int)(h2:List bc.den)(h3 h4:Int)(next:Int→List bc.den→Int→Int→Option R)(out:aA da.xs→Option R):Option R:=bif decide (h4<h3) then bif decide (0≤h4)&&decide (h4<(↑h2.length:Int)) then next (eJ h1 (h2.getD h4.toNat (0,(false,[],()),(false,[],()),[],())).1) (h2) (h3) (i64.wrap (h4+1)) else none else out (.ret ((),((h1,()),())))
def nr (n:Nat)(h1:Int)(h2:List bc.den)(h3 h4:Int):Option (aA da.xs):=kC tt An dr o9 0 Tryd.f30 (dD Tryd.f30 0) n (da.st.mk' ((h1,(h2,(h3,(h4,())))),())) (cx da.xs)
theorem CC (n:Nat)(h1:Int)(h2:List bc.den)(h3 h4:Int):nr (n+1) h1 h2 h3 h4=ot h1 h2 h3 h4 (nr n) some:=by kernel_rfl
theorem wg (rs:List bd)(hl:rs.length≤maxLen):∀(k i:Nat) (t:Int),rs.length<i+k→i≤rs.length→nr k t rs (rs.length:Int) i=some (.ret ((),((gI (rs.drop i) t,()),()))):=by
 intro k
 induction k with
 |zero=>intro i t h;omega
 |succ k ih=>
  intro i t h1 h2
  rw[CC]
  unfold ot
  by_cases hi:i<rs.length
  ·refine bT (by simpa using hi) ?_
   refine bT (by simpa using hi) ?_
   have e:List.getD rs (i:Int).toNat (0,(false,[],()),(false,[],()),[],())=rs[i]:=by simp only[zG,aR hi]
   rw[e,bH hi hl,zE hi]
   exact ih (i+1) _ (by omega) (by omega)
  ·refine bF (by simp;omega) ?_
   rw[zI (by omega)]
   rfl
def rC (a0:List bc.den):Option gu.Res:=bif decide (0≤0)&&decide (0<(↑a0.length:Int)) then (jq (((a0.getD (Int.toNat 0) (0,(false,[],()),(false,[],()),[],())).1,(a0,((↑a0.length:Int),(0,())))),())).run fun y=>match y with | .ret ((),((x10,()),()))=>(oR ((x10,()),())) else none
theorem Fs (a0:List bc.den):Io.run tt An dr o9 gu Tryd.f30 ((a0,()),())=rC a0:=by kernel_rfl
theorem Ba:HcOk prog 30 (ah gu s4):=by
 refine cq (cs:=tA) HcsOk.nil (lp:=o9) (fn:=Tryd.f30) gu (.step (h0:=bg da jq) (by kernel_rfl) (lI (cs:=tA) HcsOk.nil (lp:=o9) (fn:=Tryd.f30) (.done (by kernel_rfl)) da jq ?_) (.done (by kernel_rfl))) s4 ?_
 ·rintro ⟨⟨(t:Int),(rs:List bd),(m:Int),(i:Int),⟨⟩⟩,⟨⟩⟩ y hw hy
  obtain ⟨hg,hy⟩:=Tr.guard hy
  simp only[zA,zB] at hg
  obtain ⟨h1,h2⟩:=hg
  have h1:i=0:=h1
  have h2:m=(rs.length:Int):=h2
  subst h1 h2
  refine ⟨rs.length+1,(wg rs hw.1.2.1.1 (rs.length+1) 0 t (by omega) (by omega)).trans ?_⟩
  rw[← hy];rfl
 ·rintro ⟨⟨(rs:List bd),⟨⟩⟩,⟨⟩⟩ out hw ho
  obtain ⟨hg,ho⟩:=Tr.guard ho
  have hg:1≤rs.length:=of_decide_eq_true hg
  cases ho
  refine (Fs rs).trans ?_
  show _=oR ((cR rs,()),())
  unfold rC jq
  refine bT (by simp;omega) ?_
  refine bT (by simp) ?_
  cases rs with
  |nil=>simp at hg
  |cons r rs=>
   have e:gI (r::rs) r.1=gI rs r.1:=by
    show gI rs (eJ r.1 r.1)=_
    unfold eJ
    rw[if_neg (by omega)]
   exact congrArg (fun x=>oR ((x,()),())) e
abbrev iF:Io:=⟨[dL,dI],[],[],[dI,dI],none⟩
def xq (d:iF.In):Tr iF.Res:=.ite (decide (d.1.1.length≤4294960000)) (.ret (.ret (((aP d.1.1 d.1.2.1).1,(aP d.1.1 d.1.2.1).2,()),()))) .no
abbrev zx:List (Nat×Hc):=[(20,ah gC th),(21,ah gB pB)]
def GQ:Hd:=bV zx
def AG:Lp:=cb []
def rD (a0:LI)(a1:Int):Option iF.Res:=bif decide (a1<0) then oR ((0,3,()),()) else bif decide ((↑a0.length:Int)<a1) then oR ((0,3,()),()) else bif decide (i64.wrap ((↑a0.length:Int) - a1)<12) then oR ((0,1,()),()) else bif decide (0≤i64.wrap (a1+8))&&(decide (i64.wrap (a1+8)≤i64.wrap (a1+12))&&decide (i64.wrap (a1+12)≤(↑a0.length:Int))) then bif decide ((List.drop (i64.wrap (a1+8)).toNat (List.take (i64.wrap (a1+12)).toNat a0)).length≤4294967296) then bif co (List.drop (i64.wrap (a1+8)).toNat (List.take (i64.wrap (a1+12)).toNat a0)) 0 then bif decide (i32.wrap (bE (List.drop (i64.wrap (a1+8)).toNat (List.take (i64.wrap (a1+12)).toNat a0)) 0 4).1<49) then oR ((0,5,()),()) else bif decide (35988<i32.wrap (bE (List.drop (i64.wrap (a1+8)).toNat (List.take (i64.wrap (a1+12)).toNat a0)) 0 4).1) then oR ((0,4,()),()) else bif decide (i64.wrap (i64.wrap ((↑a0.length:Int) - a1) - 12)<i64.wrap (i32.wrap (bE (List.drop (i64.wrap (a1+8)).toNat (List.take (i64.wrap (a1+12)).toNat a0)) 0 4).1)) then oR ((0,1,()),()) else oR ((i64.wrap (12+i64.wrap (i32.wrap (bE (List.drop (i64.wrap (a1+8)).toNat (List.take (i64.wrap (a1+12)).toNat a0)) 0 4).1)),0,()),()) else none else none else none
theorem Ft (a0:LI)(a1:Int):Io.run tt GQ dr AG iF Tryd.f7 ((a0,a1,()),())=rD a0 a1:=by kernel_rfl
theorem Hn:HcOk prog 7 (ah iF xq):=by
 refine cq (cs:=zx) (.cons Bh (.cons Bg .nil)) (lp:=AG) (fn:=Tryd.f7) iF (.done (by kernel_rfl)) xq ?_
 rintro ⟨⟨(b:LI),(p:Int),⟨⟩⟩,⟨⟩⟩ out hw ho
 obtain ⟨hg,ho⟩:=Tr.guard ho
 have hg2:b.length≤4294960000:=of_decide_eq_true hg
 clear hg
 cases ho
 have hb:=dN hw.1.1
 refine (Ft b p).trans ?_
 show _=oR (((aP b p).1,(aP b p).2,()),())
 unfold rD aP
 by_cases h1:p<0
 ·refine bT (decide_eq_true h1) ?_
  rw[if_pos (.inl h1)]
 refine bF (decide_eq_false h1) ?_
 by_cases h2:(b.length:Int)<p
 ·refine bT (decide_eq_true h2) ?_
  rw[if_pos (.inr h2)]
 refine bF (decide_eq_false h2) ?_
 rw[if_neg (by omega)]
 obtain ⟨p,rfl⟩:=aN (show 0≤p by omega)
 rw[ag (n:=(b.length:Int) - p) (by omega) (by omega),ag (n:=(p:Int)+8) (by omega) (by omega),ag (n:=(p:Int)+12) (by omega) (by omega),ag (n:=(b.length:Int) - p - 12) (by omega) (by omega)]
 by_cases h3:(b.length:Int) - p<12
 ·refine bT (decide_eq_true h3) ?_
  rw[if_pos h3]
 refine bF (decide_eq_false h3) ?_
 rw[if_neg h3]
 refine bT (by simp only[zA,zB];omega) ?_
 have eL:List.drop ((p:Int)+8).toNat (List.take ((p:Int)+12).toNat b)=(b.drop (p+8)).take 4:=by
  rw[List.drop_take,show ((p:Int)+8).toNat=p+8 by omega,show ((p:Int)+12).toNat - (p+8)=4 by omega]
 rw[eL]
 have hL:=cM (b:=b) (p:=p+8) (n:=4) (by omega)
 have hLr:=dw hb (p+8) 4
 have eI:aw b (((p:Nat):Int).toNat+8) 4=dK ((b.drop (p+8)).take 4):=by rw[zG];rfl
 have eR:i32.wrap (bE ((b.drop (p+8)).take 4) 0 4).1=dK ((b.drop (p+8)).take 4):=by
  unfold bE
  rw[if_neg (by rw[hL];decide)]
  show i32.wrap (aC ((((b.drop (p+8)).take 4).drop 0).take 4))=_
  rw[List.drop_zero,List.take_of_length_le (by rw[hL];exact Nat.le_refl 4)]
  exact kw hLr hL
 have hbd:=FU hLr hL
 rw[eI,eR]
 refine bT (decide_eq_true (by rw[hL];omega)) ?_
 refine bT (by unfold co;simp only[zA,zB,hL];omega) ?_
 generalize dK ((b.drop (p+8)).take 4)=n at *
 by_cases h4:n<49
 ·refine bT (decide_eq_true h4) ?_
  rw[if_pos h4]
 refine bF (decide_eq_false h4) ?_
 rw[if_neg h4]
 by_cases h5:35988<n
 ·refine bT (decide_eq_true h5) ?_
  rw[if_pos h5]
 refine bF (decide_eq_false h5) ?_
 rw[if_neg h5,ag (n:=n) (by omega) (by omega),ag (n:=12+n) (by omega) (by omega)]
 by_cases h6:(b.length:Int) - p - 12<n
 ·refine bT (decide_eq_true h6) ?_
  rw[if_pos h6]
 refine bF (decide_eq_false h6) ?_
 rw[if_neg h6,Int.add_comm]
def bt (g:fQ)(i f:Int):bd×Int:=
 if g.2.1≠i then (pu,72)
 else if i=0∧g.1≠0∨aB (f+g.1)=false then (pu,86)
 else ((f+g.1,g.2.2.1,g.2.2.2.1,g.2.2.2.2.1,()),0)
abbrev eM:Io:=⟨[tD,dI,oI],[],[],[IT,dI],none⟩
def py (d:eM.In):Tr eM.Res:=.ret (.ret (((bt d.1.1 d.1.2.1 d.1.2.2.1).1,(bt d.1.1 d.1.2.1 d.1.2.2.1).2,()),()))
abbrev sc:List (Nat×Hc):=[]
def BV:Hd:=bV sc
def sD:Lp:=cb []
def nN (a0 a1:Int)(a2:Bool)(a3:LI)(a4:Bool)(a5:LI)(a6:List bm.den)(a7 a8:Int):Option eM.Res:=bif i64.wrap a1 != a7 then oR (((0,(false,[],()),(false,[],()),[],()),72,()),()) else bif a7 == 0 then bif a0 != 0 then oR (((0,(false,[],()),(false,[],()),[],()),86,()),()) else bif !decide (i64.wrap (a8+a0)<a8) == decide (a0<0) then oR (((0,(false,[],()),(false,[],()),[],()),86,()),()) else oR (((i64.wrap (a8+a0),(a2,a3,()),(a4,a5,()),a6,()),0,()),()) else bif !decide (i64.wrap (a8+a0)<a8) == decide (a0<0) then oR (((0,(false,[],()),(false,[],()),[],()),86,()),()) else oR (((i64.wrap (a8+a0),(a2,a3,()),(a4,a5,()),a6,()),0,()),())
theorem yx (a0 a1:Int)(a2:Bool)(a3:LI)(a4:Bool)(a5:LI)(a6:List bm.den)(a7 a8:Int):Io.run tt BV dr sD eM Tryd.f29 (((a0,a1,(a2,a3,()),(a4,a5,()),a6,()),a7,a8,()),())=nN a0 a1 a2 a3 a4 a5 a6 a7 a8:=by kernel_rfl
theorem Cd:HcOk prog 29 (ah eM py):=by
 refine cq (cs:=sc) HcsOk.nil (lp:=sD) (fn:=Tryd.f29) eM (.done (by kernel_rfl)) py ?_
 rintro ⟨⟨⟨(a0:Int),(a1:Int),⟨(a2:Bool),(a3:LI),⟨⟩⟩,⟨(a4:Bool),(a5:LI),⟨⟩⟩,(a6:List bI),⟨⟩⟩,(i:Int),(f:Int),⟨⟩⟩,⟨⟩⟩ out hw ho
 cases ho
 refine (yx a0 a1 a2 a3 a4 a5 a6 i f).trans ?_
 have h0:aS .i64 a0:=hw.1.1.1
 have h1:aS .i32 a1:=hw.1.1.2.1
 have hf:aS .i64 f:=hw.1.2.2.1
 have b1:=Es h1
 show _=oR (((bt (a0,a1,(a2,a3,()),(a4,a5,()),a6,()) i f).1,(bt (a0,a1,(a2,a3,()),(a4,a5,()),a6,()) i f).2,()),())
 unfold nN bt
 simp only
 rw[ag (n:=a1) (by omega) (by omega),GK h0 hf]
 have hfit:aB (f+a0)=true→i64.wrap (f+a0)=f+a0:=fun h=>ag (dQ.1 h).1 (dQ.1 h).2
 by_cases c1:a1=i
 rotate_left
 ·refine bT (by simpa using c1) ?_
  rw[if_pos c1]
  rfl
 refine bF (by simpa using c1) ?_
 rw[if_neg (av c1)]
 by_cases c2:i=0
 ·refine bT (by simpa using c2) ?_
  by_cases c3:a0=0
  ·refine bF (by simpa using c3) ?_
   cases c4:aB (f+a0) with
   |false=>
    refine (aa rfl _ _).trans ?_
    rw[if_pos (.inr rfl)]
    rfl
   |true=>
    refine (ab rfl _ _).trans ?_
    rw[if_neg (by rintro (h | h);exact h.2 c3;cases h),hfit c4]
  ·refine bT (by simpa using c3) ?_
   rw[if_pos (.inl ⟨c2,c3⟩)]
   rfl
 ·refine bF (by simpa using c2) ?_
  cases c4:aB (f+a0) with
  |false=>
   refine (aa rfl _ _).trans ?_
   rw[if_pos (.inr rfl)]
   rfl
  |true=>
   refine (ab rfl _ _).trans ?_
   rw[if_neg (by rintro (h | h);exact c2 h.1;cases h),hfit c4]
abbrev fT:Io:=⟨[dL,dB],[],[],[dL,dI],none⟩
def sY (d:fT.In):Tr fT.Res:=.ite (decide (61≤d.1.1.length)&&decide (d.1.1.length≤4294960000)) (.ret (.ret (((aF d.1.1 d.1.2.1).1,(aF d.1.1 d.1.2.1).2,()),()))) .no
abbrev vz:List (Nat×Hc):=[(54,ah iJ xu)]
def D9:Hd:=bV vz
def wn:Lp:=cb []
def pI (a0:LI)(a1:Bool):Option fT.Res:=bif decide (0≤61)&&(decide (61≤(↑a0.length:Int))&&decide ((↑a0.length:Int)≤(↑a0.length:Int))) then bif a1 then bif decide (32768=32768)&&decide ((List.drop (Int.toNat 61) (List.take (↑a0.length:Int).toNat a0)).length≤4294960000) then oR (((cO (List.drop (Int.toNat 61) (List.take (↑a0.length:Int).toNat a0))).1,(cO (List.drop (Int.toNat 61) (List.take (↑a0.length:Int).toNat a0))).2,()),()) else none else bif decide (32768<(↑(List.drop (Int.toNat 61) (List.take (↑a0.length:Int).toNat a0)).length:Int)) then oR (([],4,()),()) else oR ((List.drop (Int.toNat 61) (List.take (↑a0.length:Int).toNat a0),0,()),()) else none
theorem Cj (a0:LI)(a1:Bool):Io.run tt D9 dr wn fT Tryd.f27 ((a0,a1,()),())=pI a0 a1:=by kernel_rfl
theorem E3:HcOk prog 27 (ah fT sY):=by
 refine cq (cs:=vz) (.cons Hs .nil) (lp:=wn) (fn:=Tryd.f27) fT (.done (by kernel_rfl)) sY ?_
 rintro ⟨⟨(b:LI),(packed:Bool),⟨⟩⟩,⟨⟩⟩ out hw ho
 obtain ⟨hg,ho⟩:=Tr.guard ho
 simp only[zA,zB] at hg
 have h1:61≤b.length:=hg.1
 have h2:b.length≤4294960000:=hg.2
 cases ho
 refine (Cj b packed).trans ?_
 show _=oR (((aF b packed).1,(aF b packed).2,()),())
 unfold pI aF
 rw[zG,List.take_length,show Int.toNat 61=61 from rfl]
 refine bT (by simp only[zA,zB];omega) ?_
 cases packed with
 |true=>
  refine (aa rfl _ _).trans ?_
  refine bT (by simp;omega) ?_
  rfl
 |false=>
  refine (ab rfl _ _).trans ?_
  by_cases h3:32768<((b.drop 61).length:Int)
  ·refine bT (decide_eq_true h3) ?_
   rw[if_neg (by decide),if_pos h3]
  ·refine bF (decide_eq_false h3) ?_
   rw[if_neg (by decide),if_neg h3]
theorem HcOk.weakB {f:Nat}{io:Io}{Fn Fn':io.In→Tr io.Res}(h:HcOk prog f (ah io Fn))(hF:∀d y,io.wf d→(Fn' d).val=some y→(Fn d).val=some y):HcOk prog f (ah io Fn'):=by
 intro R args id A K r F G ts cst w vals hid hc Rl hv
 unfold ah at hc
 cases h1:oM io.args args (List.replicate io.obs.length Option.none) with
 |none=>rw[h1] at hc;cases hc
 |some p=>
  obtain ⟨a,β1⟩:=p
  rw[h1] at hc
  simp only at hc
  cases h2:CW A.ob io.obs 0 β1 with
  |none=>rw[h2] at hc;cases hc
  |some q=>
   obtain ⟨o,β⟩:=q
   rw[h2] at hc
   simp only at hc
   have hn:=fun y=>hF (a,o) y ⟨ul h1 hv,ym Rl.ob h2⟩
   refine h R args id A K r F G ts cst w vals hid ?_ Rl hv
   unfold ah
   rw[h1]
   simp only[h2]
   revert hc
   cases bp ((eX (cz 0) io.args args 0++jo A.ob β (jB io.obs.length 0) io.obs 0).map (·.2))&&(bp ((eX (cz 0) io.args args 0++jo A.ob β (jB io.obs.length 0) io.obs 0).map (·.1))&&io.ok) with
   |false=>intro hc;cases hc
   |true=>
    intro hc
    obtain ⟨out,ho,hk⟩:=Tr.run_val hc
    exact (Tr.run_of_val (hn out ho)).trans hk
@[irreducible] def aJ (b:LI)(p:Int)(n:Nat):Int:=dK ((b.drop p.toNat).take n)
theorem ip (b:LI)(p n:Nat):aJ b (p:Int) n=aw b p n:=by unfold aJ aw;rw[zG]
def gp (b:LI)(p n:Int):Bool:=decide (b.length≤4294960000)&&(decide (0≤p)&&decide (p+n≤(b.length:Int)))
theorem j6 {b:LI}{p n:Int}(h:gp b p n=true):b.length≤4294960000∧0≤p∧p+n≤(b.length:Int):=by
 simpa [gp] using h
abbrev tT:Io:=iO
def It (d:tT.In):Tr tT.Res:=
 .ite (gp d.2.1.1 d.2.1.2.1 8) (.ret (.ret ((aJ d.2.1.1 d.2.1.2.1 8,(0,())),((d.2.1.1,(d.2.1.2.1+8,())),())))) .no
theorem Jl:HcOk prog 47 (ah tT It):=by
 refine HcOk.weakB Hw ?_
 rintro ⟨⟨⟨⟩,⟨⟩⟩,⟨⟨(b:LI),(p:Int),⟨⟩⟩,⟨⟩⟩⟩ y hw hy
 obtain ⟨hg,hy⟩:=Tr.guard hy
 obtain ⟨h1,h2,h3⟩:=j6 (b:=b) (p:=p) (n:=8) hg
 rw[← hy]
 obtain ⟨p,rfl⟩:=aN h2
 have hb:=dN hw.2.1.1
 have hL:=cM (b:=b) (p:=p) (n:=8) (by omega)
 have hk:co b p=true:=by unfold co;simp only[zA,zB];omega
 have e:bE b (p:Int) 8=(aC ((b.drop p).take 8),((p:Int)+8,0)):=by unfold bE;rw[if_neg (by omega),zG];rfl
 have e2:i64.wrap (aC ((b.drop p).take 8))=aJ b (p:Int) 8:=by rw[ip];exact pp (dw hb p 8) hL
 show (tg (((),()),((b,((p:Int),())),()))).val=some (.ret ((aJ b (p:Int) 8,(0,())),((b,((p:Int)+8,())),())))
 unfold tg
 rw[Tr.val_ite,if_pos hk,Tr.val_ret]
 show oR ((i64.wrap (bE b (p:Int) 8).1,((bE b (p:Int) 8).2.2,())),((b,((bE b (p:Int) 8).2.1,())),()))=_
 rw[e,← e2]
abbrev tS:Io:=gB
def Is (d:tS.In):Tr tS.Res:=
 .ite (gp d.2.1.1 d.2.1.2.1 4) (.ret (.ret ((aJ d.2.1.1 d.2.1.2.1 4,(0,())),((d.2.1.1,(d.2.1.2.1+4,())),())))) .no
theorem Jk:HcOk prog 21 (ah tS Is):=by
 refine HcOk.weakB Bg ?_
 rintro ⟨⟨⟨⟩,⟨⟩⟩,⟨⟨(b:LI),(p:Int),⟨⟩⟩,⟨⟩⟩⟩ y hw hy
 obtain ⟨hg,hy⟩:=Tr.guard hy
 obtain ⟨h1,h2,h3⟩:=j6 (b:=b) (p:=p) (n:=4) hg
 rw[← hy]
 obtain ⟨p,rfl⟩:=aN h2
 have hb:=dN hw.2.1.1
 have hL:=cM (b:=b) (p:=p) (n:=4) (by omega)
 have hk:co b p=true:=by unfold co;simp only[zA,zB];omega
 have e:bE b (p:Int) 4=(aC ((b.drop p).take 4),((p:Int)+4,0)):=by unfold bE;rw[if_neg (by omega),zG];rfl
 have e2:i32.wrap (aC ((b.drop p).take 4))=aJ b (p:Int) 4:=by rw[ip];exact kw (dw hb p 4) hL
 show (pB (((),()),((b,((p:Int),())),()))).val=some (.ret ((aJ b (p:Int) 4,(0,())),((b,((p:Int)+4,())),())))
 unfold pB
 rw[Tr.val_ite,if_pos hk,Tr.val_ret]
 show oR ((i32.wrap (bE b (p:Int) 4).1,((bE b (p:Int) 4).2.2,())),((b,((bE b (p:Int) 4).2.1,())),()))=_
 rw[e,← e2]
abbrev tR:Io:=iN
def Ir (d:tR.In):Tr tR.Res:=
 .ite (gp d.2.1.1 d.2.1.2.1 2) (.ret (.ret ((aJ d.2.1.1 d.2.1.2.1 2,(0,())),((d.2.1.1,(d.2.1.2.1+2,())),())))) .no
theorem Jj:HcOk prog 50 (ah tR Ir):=by
 refine HcOk.weakB Hv ?_
 rintro ⟨⟨⟨⟩,⟨⟩⟩,⟨⟨(b:LI),(p:Int),⟨⟩⟩,⟨⟩⟩⟩ y hw hy
 obtain ⟨hg,hy⟩:=Tr.guard hy
 obtain ⟨h1,h2,h3⟩:=j6 (b:=b) (p:=p) (n:=2) hg
 rw[← hy]
 obtain ⟨p,rfl⟩:=aN h2
 have hb:=dN hw.2.1.1
 have hL:=cM (b:=b) (p:=p) (n:=2) (by omega)
 have hk:co b p=true:=by unfold co;simp only[zA,zB];omega
 have e:bE b (p:Int) 2=(aC ((b.drop p).take 2),((p:Int)+2,0)):=by unfold bE;rw[if_neg (by omega),zG];rfl
 have e2:i16.wrap (aC ((b.drop p).take 2))=aJ b (p:Int) 2:=by rw[ip];exact po (dw hb p 2) hL
 show (tf (((),()),((b,((p:Int),())),()))).val=some (.ret ((aJ b (p:Int) 2,(0,())),((b,((p:Int)+2,())),())))
 unfold tf
 rw[Tr.val_ite,if_pos hk,Tr.val_ret]
 show oR ((i16.wrap (bE b (p:Int) 2).1,((bE b (p:Int) 2).2.2,())),((b,((bE b (p:Int) 2).2.1,())),()))=_
 rw[e,← e2]
abbrev Az:Io:=lw
def J9 (d:Az.In):Tr Az.Res:=
 .ite (gp d.2.1.1 d.2.1.2.1 1) (.ret (.ret ((aJ d.2.1.1 d.2.1.2.1 1,(0,())),((d.2.1.1,(d.2.1.2.1+1,())),())))) .no
theorem Kv:HcOk prog 49 (ah Az J9):=by
 refine HcOk.weakB JA ?_
 rintro ⟨⟨⟨⟩,⟨⟩⟩,⟨⟨(b:LI),(p:Int),⟨⟩⟩,⟨⟩⟩⟩ y hw hy
 obtain ⟨hg,hy⟩:=Tr.guard hy
 obtain ⟨h1,h2,h3⟩:=j6 (b:=b) (p:=p) (n:=1) hg
 rw[← hy]
 obtain ⟨p,rfl⟩:=aN h2
 have hb:=dN hw.2.1.1
 have hL:=cM (b:=b) (p:=p) (n:=1) (by omega)
 have hk:co b p=true:=by unfold co;simp only[zA,zB];omega
 have e:bE b (p:Int) 1=(aC ((b.drop p).take 1),((p:Int)+1,0)):=by unfold bE;rw[if_neg (by omega),zG];rfl
 have e2:i8.wrap (aC ((b.drop p).take 1))=aJ b (p:Int) 1:=by rw[ip];exact JQ (dw hb p 1) hL
 show (zg (((),()),((b,((p:Int),())),()))).val=some (.ret ((aJ b (p:Int) 1,(0,())),((b,((p:Int)+1,())),())))
 unfold zg
 rw[Tr.val_ite,if_pos hk,Tr.val_ret]
 show oR ((i8.wrap (bE b (p:Int) 1).1,((bE b (p:Int) 1).2.2,())),((b,((bE b (p:Int) 1).2.1,())),()))=_
 rw[e,← e2]
abbrev o7:Io:=ga
def C2 (d:o7.In):Tr o7.Res:=
 .ite (gp d.2.1.1 d.2.1.2.1 d.1.2.1&&decide (0≤d.1.2.1)) (.ret (.ret ((0,()),((d.2.1.1,(d.2.1.2.1+d.1.2.1,())),())))) .no
theorem Ho:HcOk prog 48 (ah o7 C2):=by
 refine HcOk.weakB Fh ?_
 rintro ⟨⟨⟨⟩,(n:Int),⟨⟩⟩,⟨⟨(b:LI),(p:Int),⟨⟩⟩,⟨⟩⟩⟩ y hw hy
 obtain ⟨hg,hy⟩:=Tr.guard hy
 simp only[zA,zB] at hg
 obtain ⟨h1,h2,h3⟩:=j6 (b:=b) (p:=p) (n:=n) hg.1
 have h4:0≤n:=hg.2
 rw[← hy]
 have hk:co b p=true:=by unfold co;simp only[zA,zB];omega
 have e:lN b p n=(p+n,0):=by unfold lN;rw[if_neg (by omega),if_neg (by omega)]
 show (oS (((),(n,())),((b,(p,())),()))).val=some (.ret ((0,()),((b,(p+n,())),())))
 unfold oS
 rw[Tr.val_ite,if_pos hk,Tr.val_ret]
 show oR (((lN b p n).2,()),((b,((lN b p n).1,())),()))=_
 rw[e]
def xH (a0:LI):Option (Out ((rq×Int×Unit)×Unit) Empty):=bif aY (aJ (a0.take 61) 0 8) then oR (((0,0,0,false,0,0,0,0,0,0,()),80,()),()) else bif aJ (a0.take 61) (0+8+4+4+1+4) 2 != 0&&!aJ (a0.take 61) (0+8+4+4+1+4) 2 == 1 then oR (((0,0,0,false,0,0,0,0,0,0,()),83,()),()) else bif aQ (aJ (a0.take 61) (0+8+4+4+1+4+2+4+8+8) 8) (aJ (a0.take 61) (0+8+4+4+1+4+2+4+8+8+8) 2) (aJ (a0.take 61) (0+8+4+4+1+4+2+4+8+8+8+2) 4) then oR (((0,0,0,false,0,0,0,0,0,0,()),84,()),()) else bif decide (aJ (a0.take 61) (0+8+4+4+1+4+2+4+8+8+8+2+4) 4<1) then oR (((0,0,0,false,0,0,0,0,0,0,()),85,()),()) else bif decide (256<aJ (a0.take 61) (0+8+4+4+1+4+2+4+8+8+8+2+4) 4) then oR (((0,0,0,false,0,0,0,0,0,0,()),9,()),()) else bif aJ (a0.take 61) (0+8+4+4+1+4+2) 4 != i32.wrap (aJ (a0.take 61) (0+8+4+4+1+4+2+4+8+8+8+2+4) 4 - 1) then oR (((0,0,0,false,0,0,0,0,0,0,()),72,()),()) else bif (aP a0 0).2 != 0 then oR (((0,0,0,false,0,0,0,0,0,0,()),(aP a0 0).2,()),()) else oR (((aJ (a0.take 61) 0 8,(aP a0 0).1,aJ (a0.take 61) (0+8+4) 4,aJ (a0.take 61) (0+8+4+4+1+4) 2 == 1,i64.wrap (aJ (a0.take 61) (0+8+4+4+1+4+2+4+8+8+8+2+4) 4),aJ (a0.take 61) (0+8+4+4+1+4+2+4) 8,aJ (a0.take 61) (0+8+4+4+1+4+2+4+8) 8,aJ (a0.take 61) (0+8+4+4+1+4+2+4+8+8) 8,aJ (a0.take 61) (0+8+4+4+1+4+2+4+8+8+8) 2,aJ (a0.take 61) (0+8+4+4+1+4+2+4+8+8+8+2) 4,()),0,()),())
theorem Gj {b:LI}{p:Nat}(h:p<b.length):(b.drop p).take 1=[b.getD p 0]:=by
 rw[zE h,List.take_succ_cons,List.take_zero,aR h]
theorem IP {b:LI}{p:Nat}(h:p+1<b.length):(b.drop p).take 2=[b.getD p 0,b.getD (p+1) 0]:=by
 rw[zE (show p<b.length by omega),List.take_succ_cons,Gj h,aR (show p<b.length by omega)]
theorem KB {b:LI}{p:Nat}(h:p<b.length):aw b p 1=if 128≤b.getD p 0 then b.getD p 0 - 256 else b.getD p 0:=by
 unfold aw;rw[Gj h];rfl
theorem KC {b:LI}{p:Nat}(h:p+1<b.length):aw b p 2=(if 128≤b.getD p 0 then b.getD p 0 - 256 else b.getD p 0)*256+b.getD (p+1) 0:=by
 unfold aw;rw[IP h];rfl
theorem Im:∀{l:LI},(∀c∈l,0≤c∧c≤255)→l.length=4→u32.wrap (dK l)=aC l
 |[a,b,c,d],h,_=>by
  have ha:=h a (by simp)
  have hb:=h b (by simp)
  have hc:=h c (by simp)
  have hd:=h d (by simp)
  simp only[aC,dK,List.foldl_cons,List.foldl_nil]
  simp[IntKind.wrap,IntKind.signed,IntKind.bits] <;> (try split) <;> omega
theorem zn:∀{l:LI},(∀c∈l,0≤c∧c≤255)→l.length=4→∀{x:Int},0≤x→x<4294967296→(l=ap x 4↔aC l=x)
 |[a,b,c,d],h,_,x,h0,h1=>by
  have ha:=h a (by simp)
  have hb:=h b (by simp)
  have hc:=h c (by simp)
  have hd:=h d (by simp)
  simp only[aC,ap,List.foldl_cons,List.foldl_nil,List.cons.injEq,and_true]
  constructor
  ·rintro ⟨rfl,rfl,rfl,rfl⟩
   omega
  ·intro h
   omega
theorem F6 (c:Int){b:LI}(hc:0≤c∧c<4294967296)(hb:∀x∈b,0≤x∧x≤255):0≤cX c b∧cX c b<4294967296:=by
 unfold cX
 have h1:=Nat.xor_lt_two_pow (n:=32) (show c.toNat<2 ^ 32 by omega) (show 4294967295<2 ^ 32 by decide)
 have h2:=Nat.xor_lt_two_pow (n:=32) (tz hb h1) (show 4294967295<2 ^ 32 by decide)
 omega
theorem sS {b:LI}{p:Int}(h:(aP b p).2=0):61≤(aP b p).1∧(aP b p).1≤36000∧p+(aP b p).1≤(b.length:Int)∧0≤p:=by
 unfold aP at h ⊢
 split
 ·rename_i h1;rw[if_pos h1] at h;cases h
 rename_i h1;rw[if_neg h1] at h
 split
 ·rename_i h2;rw[if_pos h2] at h;cases h
 rename_i h2;rw[if_neg h2] at h
 split
 ·rename_i h3;rw[if_pos h3] at h;cases h
 rename_i h3;rw[if_neg h3] at h
 split
 ·rename_i h4;rw[if_pos h4] at h;cases h
 rename_i h4;rw[if_neg h4] at h
 split
 ·rename_i h5;rw[if_pos h5] at h;cases h
 simp only
 omega
theorem BF {b:LI}(hb:∀c∈b,0≤c∧c≤255)(hl:61≤b.length)(h0:(aP b 0).2=0)(h1:¬(aP b 0).1<(b.length:Int)):
  xH b=some (.ret ((if aY (aw b 0 8)=true then (cZ,(80,())) else if b.getD 21 0≠0∨1<b.getD 22 0 then (cZ,(83,())) else if aQ (aw b 43 8) (aw b 51 2) (aw b 53 4)=true then (cZ,(84,())) else if aw b 57 4<1 then (cZ,(85,())) else if 256<aw b 57 4 then (cZ,(9,())) else if aw b 23 4≠aw b 57 4 - 1 then (cZ,(72,())) else (gW b,(0,()))),())):=by
 have hz:∀p n:Nat,p+n≤61→aJ (b.take 61) (p:Int) n=aw b p n:=by
  intro p n h
  rw[ip]
  unfold aw
  rw[List.drop_take,List.take_take,Nat.min_eq_left (by omega)]
 have z0:aJ (b.take 61) 0 8=aw b 0 8:=hz 0 8 (by decide)
 have z12:aJ (b.take 61) (0+8+4) 4=aw b 12 4:=hz 12 4 (by decide)
 have z21:aJ (b.take 61) (0+8+4+4+1+4) 2=aw b 21 2:=hz 21 2 (by decide)
 have z23:aJ (b.take 61) (0+8+4+4+1+4+2) 4=aw b 23 4:=hz 23 4 (by decide)
 have z27:aJ (b.take 61) (0+8+4+4+1+4+2+4) 8=aw b 27 8:=hz 27 8 (by decide)
 have z35:aJ (b.take 61) (0+8+4+4+1+4+2+4+8) 8=aw b 35 8:=hz 35 8 (by decide)
 have z43:aJ (b.take 61) (0+8+4+4+1+4+2+4+8+8) 8=aw b 43 8:=hz 43 8 (by decide)
 have z51:aJ (b.take 61) (0+8+4+4+1+4+2+4+8+8+8) 2=aw b 51 2:=hz 51 2 (by decide)
 have z53:aJ (b.take 61) (0+8+4+4+1+4+2+4+8+8+8+2) 4=aw b 53 4:=hz 53 4 (by decide)
 have z57:aJ (b.take 61) (0+8+4+4+1+4+2+4+8+8+8+2+4) 4=aw b 57 4:=hz 57 4 (by decide)
 have a21:=KC (b:=b) (p:=21) (by omega)
 have hat:∀i,0≤b.getD i 0∧b.getD i 0≤255:=fun i=>by
  rw[List.getD_eq_getElem?_getD]
  cases e:b[i]? with
  |none=>exact ⟨by decide,by decide⟩
  |some x=>exact hb x (List.mem_of_getElem? e)
 have g21:=hat 21
 have g22:=hat 22
 have hm:=sS h0
 have hsz:(aP b 0).1=(b.length:Int):=by omega
 unfold xH
 rw[z0,z12,z21,z23,z27,z35,z43,z51,z53,z57,h0,hsz]
 have hI:gW b=(aw b 0 8,(b.length:Int),aw b 12 4,decide (b.getD 22 0=1),aw b 57 4,aw b 27 8,aw b 35 8,aw b 43 8,aw b 51 2,aw b 53 4,()):=rfl
 rw[hI,a21]
 generalize b.getD 21 0=x at *
 generalize b.getD (21+1) 0=y at *
 generalize aw b 0 8=base at *
 generalize aw b 57 4=cnt at *
 generalize aw b 23 4=mst at *
 cases c1:aY base with
 |true=>exact (aa rfl _ _)
 |false=>
 refine (ab rfl _ _).trans ?_
 rw[if_neg (show ¬ false=true by decide)]
 by_cases c2:x≠0∨1<y
 ·refine (aa ?_ _ _).trans ?_
  ·simp only[zA,Bool.not_eq_true',bne_iff_ne,beq_eq_false_iff_ne]
   split <;> omega
  ·rw[if_pos c2]
   rfl
 refine (ab ?_ _ _).trans ?_
 ·by_cases hy:y=0
  ·rw[show (if 128≤x then x - 256 else x)*256+y=0 by rw[if_neg (by omega)];omega]
   rfl
  ·rw[show (if 128≤x then x - 256 else x)*256+y=1 by rw[if_neg (by omega)];omega]
   rfl
 rw[if_neg c2]
 have hx:x=0:=by omega
 have hxy:((if 128≤x then x - 256 else x)*256+y == 1)=decide (y=1):=by
  subst hx
  rw[if_neg (by decide),show (0:Int)*256+y=y by omega]
  by_cases h:y=1 <;> simp[h]
 rw[hxy]
 cases c3:aQ (aw b 43 8) (aw b 51 2) (aw b 53 4) with
 |true=>exact (aa rfl _ _)
 |false=>
 refine (ab rfl _ _).trans ?_
 rw[if_neg (show ¬ false=true by decide)]
 by_cases c4:cnt<1
 ·refine bT (decide_eq_true c4) ?_
  rw[if_pos c4]
  rfl
 refine bF (decide_eq_false c4) ?_
 rw[if_neg c4]
 by_cases c5:256<cnt
 ·refine bT (decide_eq_true c5) ?_
  rw[if_pos c5]
  rfl
 refine bF (decide_eq_false c5) ?_
 rw[if_neg c5,bU (k:=.i32) (n:=cnt - 1) (by simp[aS,IntKind.min,IntKind.max,IntKind.signed,IntKind.bits];omega),ag (n:=cnt) (by omega) (by omega)]
 by_cases c6:mst=cnt - 1
 ·refine bF (by simpa using c6) ?_
  rw[if_neg (av c6)]
  exact ab rfl _ _
 ·refine bT (by simpa using c6) ?_
  rw[if_pos c6]
  rfl
abbrev fA:Io:=⟨[dL,dB],[],[],[IF,dI],none⟩
def s0 (d:fA.In):Tr fA.Res:=.ite (decide (d.1.1.length≤4294960000)) (.ret (.ret (((al d.1.1 d.1.2.1).1,(al d.1.1 d.1.2.1).2,()),()))) .no
abbrev zw:List (Nat×Hc):=[(7,ah iF xq),(20,ah gC th),(47,ah tT It),(48,ah o7 C2),(21,ah tS Is),(49,ah Az J9),(50,ah tR Ir),(42,ah gv s6),(51,ah gt sX),(52,ah fB s5)]
def GP:Hd:=bV zw
def AF:Lp:=cb []
def rB (a0:LI)(a1:Bool):Option fA.Res:=bif decide ((↑a0.length:Int)<61) then oR (((0,0,0,false,0,0,0,0,0,0,()),1,()),()) else bif decide (a0.length≤4294960000) then bif (aP a0 0).2 != 0 then oR (((0,0,0,false,0,0,0,0,0,0,()),(aP a0 0).2,()),()) else bif decide ((aP a0 0).1<(↑a0.length:Int)) then oR (((0,0,0,false,0,0,0,0,0,0,()),2,()),()) else bif decide (0≤0)&&(decide (0≤61)&&decide (61≤(↑a0.length:Int))) then bif decide ((List.drop (Int.toNat 0) (List.take (Int.toNat 61) a0)).length≤4294967296) then bif gp (List.drop (Int.toNat 0) (List.take (Int.toNat 61) a0)) 0 8 then bif gp (List.drop (Int.toNat 0) (List.take (Int.toNat 61) a0)) (0+8) 4&&decide (0≤4) then bif gp (List.drop (Int.toNat 0) (List.take (Int.toNat 61) a0)) (0+8+4) 4 then bif gp (List.drop (Int.toNat 0) (List.take (Int.toNat 61) a0)) (0+8+4+4) 1 then bif gp (List.drop (Int.toNat 0) (List.take (Int.toNat 61) a0)) (0+8+4+4+1) 4 then bif gp (List.drop (Int.toNat 0) (List.take (Int.toNat 61) a0)) (0+8+4+4+1+4) 2 then bif gp (List.drop (Int.toNat 0) (List.take (Int.toNat 61) a0)) (0+8+4+4+1+4+2) 4 then bif gp (List.drop (Int.toNat 0) (List.take (Int.toNat 61) a0)) (0+8+4+4+1+4+2+4) 8 then bif gp (List.drop (Int.toNat 0) (List.take (Int.toNat 61) a0)) (0+8+4+4+1+4+2+4+8) 8 then bif gp (List.drop (Int.toNat 0) (List.take (Int.toNat 61) a0)) (0+8+4+4+1+4+2+4+8+8) 8 then bif gp (List.drop (Int.toNat 0) (List.take (Int.toNat 61) a0)) (0+8+4+4+1+4+2+4+8+8+8) 2 then bif gp (List.drop (Int.toNat 0) (List.take (Int.toNat 61) a0)) (0+8+4+4+1+4+2+4+8+8+8+2) 4 then bif gp (List.drop (Int.toNat 0) (List.take (Int.toNat 61) a0)) (0+8+4+4+1+4+2+4+8+8+8+2+4) 4 then bif aJ (List.drop (Int.toNat 0) (List.take (Int.toNat 61) a0)) (0+8+4+4) 1 != 2 then oR (((0,0,0,false,0,0,0,0,0,0,()),81,()),()) else bif a1 then bif decide (0≤21)&&(decide (21≤(↑a0.length:Int))&&decide ((↑a0.length:Int)≤(↑a0.length:Int))) then bif u32.wrap (aJ (List.drop (Int.toNat 0) (List.take (Int.toNat 61) a0)) (0+8+4+4+1) 4) != nJ [List.drop (Int.toNat 21) (List.take (↑a0.length:Int).toNat a0)] 0 then oR (((0,0,0,false,0,0,0,0,0,0,()),82,()),()) else bif aY (aJ (List.drop (Int.toNat 0) (List.take (Int.toNat 61) a0)) 0 8) then oR (((0,0,0,false,0,0,0,0,0,0,()),80,()),()) else bif aJ (List.drop (Int.toNat 0) (List.take (Int.toNat 61) a0)) (0+8+4+4+1+4) 2 != 0&&!aJ (List.drop (Int.toNat 0) (List.take (Int.toNat 61) a0)) (0+8+4+4+1+4) 2 == 1 then oR (((0,0,0,false,0,0,0,0,0,0,()),83,()),()) else bif aQ (aJ (List.drop (Int.toNat 0) (List.take (Int.toNat 61) a0)) (0+8+4+4+1+4+2+4+8+8) 8) (aJ (List.drop (Int.toNat 0) (List.take (Int.toNat 61) a0)) (0+8+4+4+1+4+2+4+8+8+8) 2) (aJ (List.drop (Int.toNat 0) (List.take (Int.toNat 61) a0)) (0+8+4+4+1+4+2+4+8+8+8+2) 4) then oR (((0,0,0,false,0,0,0,0,0,0,()),84,()),()) else bif decide (aJ (List.drop (Int.toNat 0) (List.take (Int.toNat 61) a0)) (0+8+4+4+1+4+2+4+8+8+8+2+4) 4<1) then oR (((0,0,0,false,0,0,0,0,0,0,()),85,()),()) else bif decide (256<aJ (List.drop (Int.toNat 0) (List.take (Int.toNat 61) a0)) (0+8+4+4+1+4+2+4+8+8+8+2+4) 4) then oR (((0,0,0,false,0,0,0,0,0,0,()),9,()),()) else bif aJ (List.drop (Int.toNat 0) (List.take (Int.toNat 61) a0)) (0+8+4+4+1+4+2) 4 != i32.wrap (aJ (List.drop (Int.toNat 0) (List.take (Int.toNat 61) a0)) (0+8+4+4+1+4+2+4+8+8+8+2+4) 4 - 1) then oR (((0,0,0,false,0,0,0,0,0,0,()),72,()),()) else bif (aP a0 0).2 != 0 then oR (((0,0,0,false,0,0,0,0,0,0,()),(aP a0 0).2,()),()) else oR (((aJ (List.drop (Int.toNat 0) (List.take (Int.toNat 61) a0)) 0 8,(aP a0 0).1,aJ (List.drop (Int.toNat 0) (List.take (Int.toNat 61) a0)) (0+8+4) 4,aJ (List.drop (Int.toNat 0) (List.take (Int.toNat 61) a0)) (0+8+4+4+1+4) 2 == 1,i64.wrap (aJ (List.drop (Int.toNat 0) (List.take (Int.toNat 61) a0)) (0+8+4+4+1+4+2+4+8+8+8+2+4) 4),aJ (List.drop (Int.toNat 0) (List.take (Int.toNat 61) a0)) (0+8+4+4+1+4+2+4) 8,aJ (List.drop (Int.toNat 0) (List.take (Int.toNat 61) a0)) (0+8+4+4+1+4+2+4+8) 8,aJ (List.drop (Int.toNat 0) (List.take (Int.toNat 61) a0)) (0+8+4+4+1+4+2+4+8+8) 8,aJ (List.drop (Int.toNat 0) (List.take (Int.toNat 61) a0)) (0+8+4+4+1+4+2+4+8+8+8) 2,aJ (List.drop (Int.toNat 0) (List.take (Int.toNat 61) a0)) (0+8+4+4+1+4+2+4+8+8+8+2) 4,()),0,()),()) else none else bif aY (aJ (List.drop (Int.toNat 0) (List.take (Int.toNat 61) a0)) 0 8) then oR (((0,0,0,false,0,0,0,0,0,0,()),80,()),()) else bif aJ (List.drop (Int.toNat 0) (List.take (Int.toNat 61) a0)) (0+8+4+4+1+4) 2 != 0&&!aJ (List.drop (Int.toNat 0) (List.take (Int.toNat 61) a0)) (0+8+4+4+1+4) 2 == 1 then oR (((0,0,0,false,0,0,0,0,0,0,()),83,()),()) else bif aQ (aJ (List.drop (Int.toNat 0) (List.take (Int.toNat 61) a0)) (0+8+4+4+1+4+2+4+8+8) 8) (aJ (List.drop (Int.toNat 0) (List.take (Int.toNat 61) a0)) (0+8+4+4+1+4+2+4+8+8+8) 2) (aJ (List.drop (Int.toNat 0) (List.take (Int.toNat 61) a0)) (0+8+4+4+1+4+2+4+8+8+8+2) 4) then oR (((0,0,0,false,0,0,0,0,0,0,()),84,()),()) else bif decide (aJ (List.drop (Int.toNat 0) (List.take (Int.toNat 61) a0)) (0+8+4+4+1+4+2+4+8+8+8+2+4) 4<1) then oR (((0,0,0,false,0,0,0,0,0,0,()),85,()),()) else bif decide (256<aJ (List.drop (Int.toNat 0) (List.take (Int.toNat 61) a0)) (0+8+4+4+1+4+2+4+8+8+8+2+4) 4) then oR (((0,0,0,false,0,0,0,0,0,0,()),9,()),()) else bif aJ (List.drop (Int.toNat 0) (List.take (Int.toNat 61) a0)) (0+8+4+4+1+4+2) 4 != i32.wrap (aJ (List.drop (Int.toNat 0) (List.take (Int.toNat 61) a0)) (0+8+4+4+1+4+2+4+8+8+8+2+4) 4 - 1) then oR (((0,0,0,false,0,0,0,0,0,0,()),72,()),()) else bif (aP a0 0).2 != 0 then oR (((0,0,0,false,0,0,0,0,0,0,()),(aP a0 0).2,()),()) else oR (((aJ (List.drop (Int.toNat 0) (List.take (Int.toNat 61) a0)) 0 8,(aP a0 0).1,aJ (List.drop (Int.toNat 0) (List.take (Int.toNat 61) a0)) (0+8+4) 4,aJ (List.drop (Int.toNat 0) (List.take (Int.toNat 61) a0)) (0+8+4+4+1+4) 2 == 1,i64.wrap (aJ (List.drop (Int.toNat 0) (List.take (Int.toNat 61) a0)) (0+8+4+4+1+4+2+4+8+8+8+2+4) 4),aJ (List.drop (Int.toNat 0) (List.take (Int.toNat 61) a0)) (0+8+4+4+1+4+2+4) 8,aJ (List.drop (Int.toNat 0) (List.take (Int.toNat 61) a0)) (0+8+4+4+1+4+2+4+8) 8,aJ (List.drop (Int.toNat 0) (List.take (Int.toNat 61) a0)) (0+8+4+4+1+4+2+4+8+8) 8,aJ (List.drop (Int.toNat 0) (List.take (Int.toNat 61) a0)) (0+8+4+4+1+4+2+4+8+8+8) 2,aJ (List.drop (Int.toNat 0) (List.take (Int.toNat 61) a0)) (0+8+4+4+1+4+2+4+8+8+8+2) 4,()),0,()),()) else none else none else none else none else none else none else none else none else none else none else none else none else none else none else none else none
theorem Fr (a0:LI)(a1:Bool):Io.run tt GP Lf AF fA Tryd.f23 ((a0,a1,()),())=rB a0 a1:=by kernel_rfl
theorem A9:HcOk prog 23 (ah fA s0):=by
 refine BT (n:=400) hm (cs:=zw) (.cons Hn (.cons Bh (.cons Jl (.cons Ho (.cons Jk (.cons Kv (.cons Jj (.cons Bc (.cons A8 (.cons Bb .nil)))))))))) (lp:=AF) (fn:=Tryd.f23) (by kernel_rfl) (by kernel_rfl) (by kernel_rfl) fA (.done (by kernel_rfl)) s0 ?_
 rintro ⟨⟨(b:LI),(sm:Bool),⟨⟩⟩,⟨⟩⟩ out hw ho
 obtain ⟨hg,ho⟩:=Tr.guard ho
 have hg2:b.length≤4294960000:=of_decide_eq_true hg
 clear hg
 cases ho
 have hb:∀c∈b,0≤c∧c≤255:=dN hw.1.1
 refine (Fr b sm).trans ?_
 show _=oR (((al b sm).1,(al b sm).2,()),())
 have eE:bh b sm=if (b.length:Int)<61 then 1 else if (aP b 0).2≠0 then (aP b 0).2 else if (aP b 0).1<(b.length:Int) then 2 else if b.getD 16 0≠2 then 81 else if sm=true∧ez b=false then 82
   else if aY (aw b 0 8)=true then 80 else if b.getD 21 0≠0∨1<b.getD 22 0 then 83 else if aQ (aw b 43 8) (aw b 51 2) (aw b 53 4)=true then 84 else if aw b 57 4<1 then 85 else if 256<aw b 57 4 then 9 else if aw b 23 4≠aw b 57 4 - 1 then 72 else 0:=rfl
 have fin:∀e:Int,e≠0→bh b sm=e→some (Out.ret ((cZ,(e,())),()):fA.Res)=oR (((al b sm).1,(al b sm).2,()),()):=by
  intro e he h
  have:al b sm=(cZ,e):=by unfold al;rw[h,if_pos he]
  rw[this]
 unfold rB
 by_cases h1:(b.length:Int)<61
 ·refine bT (decide_eq_true h1) ?_
  exact fin 1 (by decide) (by rw[eE,if_pos h1])
 refine bF (decide_eq_false h1) ?_
 rw[if_neg h1] at eE
 refine bT (decide_eq_true hg2) ?_
 by_cases h2:(aP b 0).2=0
 rotate_left
 ·refine bT (by simpa using h2) ?_
  exact fin _ h2 (by rw[eE,if_pos h2])
 refine bF (by simpa using h2) ?_
 rw[if_neg (av h2)] at eE
 by_cases h3:(aP b 0).1<(b.length:Int)
 ·refine bT (decide_eq_true h3) ?_
  exact fin 2 (by decide) (by rw[eE,if_pos h3])
 refine bF (decide_eq_false h3) ?_
 rw[if_neg h3] at eE
 have hH:(List.drop (Int.toNat 0) (List.take (Int.toNat 61) b))=b.take 61:=rfl
 have hHl:(b.take 61).length=61:=by simp;omega
 rw[hH]
 refine bT (by simp only[zA,zB];omega) ?_
 refine bT (by rw[hHl];decide) ?_
 have rm:∀p n:Int,0≤p→p+n≤61→gp (b.take 61) p n=true:=by
  intro p n g1 g2
  unfold gp
  simp only[hHl,zA,zB]
  omega
 refine (aa (rm 0 8 (by decide) (by decide)) _ _).trans ?_
 refine bT (by rw[rm (0+8) 4 (by decide) (by decide)];rfl) ?_
 refine (aa (rm (0+8+4) 4 (by decide) (by decide)) _ _).trans ?_
 refine (aa (rm (0+8+4+4) 1 (by decide) (by decide)) _ _).trans ?_
 refine (aa (rm (0+8+4+4+1) 4 (by decide) (by decide)) _ _).trans ?_
 refine (aa (rm (0+8+4+4+1+4) 2 (by decide) (by decide)) _ _).trans ?_
 refine (aa (rm (0+8+4+4+1+4+2) 4 (by decide) (by decide)) _ _).trans ?_
 refine (aa (rm (0+8+4+4+1+4+2+4) 8 (by decide) (by decide)) _ _).trans ?_
 refine (aa (rm (0+8+4+4+1+4+2+4+8) 8 (by decide) (by decide)) _ _).trans ?_
 refine (aa (rm (0+8+4+4+1+4+2+4+8+8) 8 (by decide) (by decide)) _ _).trans ?_
 refine (aa (rm (0+8+4+4+1+4+2+4+8+8+8) 2 (by decide) (by decide)) _ _).trans ?_
 refine (aa (rm (0+8+4+4+1+4+2+4+8+8+8+2) 4 (by decide) (by decide)) _ _).trans ?_
 refine (aa (rm (0+8+4+4+1+4+2+4+8+8+8+2+4) 4 (by decide) (by decide)) _ _).trans ?_
 have hz:∀p n:Nat,p+n≤61→aJ (b.take 61) (p:Int) n=aw b p n:=by
  intro p n h
  rw[ip]
  unfold aw
  rw[List.drop_take,List.take_take,Nat.min_eq_left (by omega)]
 have z16:aJ (b.take 61) (0+8+4+4) 1=aw b 16 1:=hz 16 1 (by decide)
 have z17:aJ (b.take 61) (0+8+4+4+1) 4=aw b 17 4:=hz 17 4 (by decide)
 have a16:=KB (b:=b) (p:=16) (by omega)
 have c16:=zr hw.1.1 16
 rw[z16,a16]
 by_cases h4:b.getD 16 0=2
 rotate_left
 ·refine bT (by simp only[bne_iff_ne];have c16:0≤b.getD 16 0∧b.getD 16 0≤255:=c16;split <;> omega) ?_
  exact fin 81 (by decide) (by rw[eE,if_pos h4])
 refine bF (by rw[h4];rfl) ?_
 rw[if_neg (av h4)] at eE
 have hT:=BF hb (by omega) h2 h3
 have fin2:¬(sm=true∧ez b=false)→xH b=oR (((al b sm).1,(al b sm).2,()),()):=by
  intro hn
  rw[if_neg hn] at eE
  rw[hT]
  have hs:al b sm=if bh b sm≠0 then (cZ,bh b sm) else (gW b,0):=rfl
  rw[hs,eE]
  by_cases d1:aY (aw b 0 8)=true
  ·rw[if_pos d1,if_pos d1,if_pos (by decide)]
  rw[if_neg d1,if_neg d1]
  by_cases d2:b.getD 21 0≠0∨1<b.getD 22 0
  ·rw[if_pos d2,if_pos d2,if_pos (by decide)]
  rw[if_neg d2,if_neg d2]
  by_cases d3:aQ (aw b 43 8) (aw b 51 2) (aw b 53 4)=true
  ·rw[if_pos d3,if_pos d3,if_pos (by decide)]
  rw[if_neg d3,if_neg d3]
  by_cases d4:aw b 57 4<1
  ·rw[if_pos d4,if_pos d4,if_pos (by decide)]
  rw[if_neg d4,if_neg d4]
  by_cases d5:256<aw b 57 4
  ·rw[if_pos d5,if_pos d5,if_pos (by decide)]
  rw[if_neg d5,if_neg d5]
  by_cases d6:aw b 23 4≠aw b 57 4 - 1
  ·rw[if_pos d6,if_pos d6,if_pos (by decide)]
  rw[if_neg d6,if_neg d6,if_neg (by decide)]
 cases sm with
 |false=>
  refine (ab rfl _ _).trans ?_
  exact fin2 (fun h=>by cases h.1)
 |true=>
  refine (aa rfl _ _).trans ?_
  rw[zG,List.take_length,show Int.toNat 21=21 from rfl]
  refine bT (by simp only[zA,zB];omega) ?_
  rw[z17]
  have hL:=cM (b:=b) (p:=17) (n:=4) (by omega)
  have hLr:=dw hb 17 4
  have hcr:=F6 0 (by decide) (b:=b.drop 21) (fun c hc=>hb c (List.mem_of_mem_drop hc))
  have hS:ez b=decide (aC ((b.drop 17).take 4)=cX 0 (b.drop 21)):=by
   unfold ez
   by_cases h:(b.drop 17).take 4=ap (cX 0 (b.drop 21)) 4
   ·rw[if_pos h,decide_eq_true ((zn hLr hL hcr.1 hcr.2).1 h)]
   ·rw[if_neg h,decide_eq_false (fun h'=>h ((zn hLr hL hcr.1 hcr.2).2 h'))]
  have hw17:u32.wrap (aw b 17 4)=aC ((b.drop 17).take 4):=Im hLr hL
  rw[hw17]
  by_cases h5:aC ((b.drop 17).take 4)=cX 0 (b.drop 21)
  ·refine bF (by show (aC ((b.drop 17).take 4) != cX 0 (b.drop 21))=false;simp[h5]) ?_
   exact fin2 (fun h=>by rw[hS,decide_eq_true h5] at h;cases h.2)
  ·refine bT (by show (aC ((b.drop 17).take 4) != cX 0 (b.drop 21))=true;simp[h5]) ?_
   exact fin 82 (by decide) (by rw[eE,if_pos ⟨rfl,by rw[hS,decide_eq_false h5]⟩])
abbrev iE:Io:=⟨[dL],[],[],[q9,dI],none⟩
def za (d:iE.In):Tr iE.Res:=.ite (decide (d.1.1.length≤4294960000)) (.ret (.ret (((aH d.1.1).1,(aH d.1.1).2,()),()))) .no
abbrev Dz:List (Nat×Hc):=[(23,ah fA s0),(27,ah fT sY),(28,ah lf C3),(29,ah eM py),(30,ah gu s4)]
def Ea:Hd:=bV Dz
abbrev cQ:Lo:=⟨⟨(cr (.one (.ptr 2 0)::.any::.one (.ptr 4 0)::.any::.one (.hol (.sl 5 (Ty.int u8)))::.one (.ptr 7 0)::.one hI::.any::an (an (di (.one hI::.one hI::an (an (fH (di (cr []))))))))),[none,none,some [hI,hJ,hI,hK,hJ,.onl 70 bc 1036],none,some [hI,hI,hJ,hL,hI,hI,hI,hI,hK,hJ],none,none,some [hI,hJ,hI,hK,hJ,.onl 70 bc 3596]]⟩,[(.ret,⟨(cr (.one (.ptr 2 0)::.one hI::an (an (an (an (an (fH (cr [])))))))),[none,none,some [hI,hJ,hI,hK,hJ,.onl 70 bc 129]]⟩),(.ret,⟨(cr (.one (.ptr 2 0)::.one hI::an (an (an (an (an (fH (cr [])))))))),[none,none,some [hI,hJ,hI,hK,hJ,.onl 70 bc 153]]⟩),(.exit 0,⟨(cr (.one (.ptr 2 0)::.any::.one (.ptr 4 0)::.any::.one (.hol (.sl 5 (Ty.int u8)))::.one (.ptr 7 0)::.one hI::.any::an (an (an (an (an (di []))))))),[none,none,some [hI,hJ,hI,hK,hJ,.onl 70 bc 1036],none,some [hI,hI,hJ,hL,hI,hI,hI,hI,hK,hJ],none,none,some [hI,hJ,hI,hK,hJ,.onl 70 bc 3596]]⟩)]⟩
def J2:dm:=(0,(0,(0,(0,(0,([],()))))))
def jc (blk:LI)(f:Int):Nat→Nat→Int→List bd→Int×Int×Int×List bd
 |0,_,p,out=>(0,0,p,out)
 |n+1,i,p,out=>
  if (ak blk p).2.2≠0 then ((ak blk p).2.2,0,0,[])
  else if (bt (ak blk p).1 (i:Int) f).2≠0 then (0,(bt (ak blk p).1 (i:Int) f).2,0,[])
  else jc blk f n (i+1) (ak blk p).2.1 (out++[(bt (ak blk p).1 (i:Int) f).1])
def zm (blk:LI)(z:dm)(info:rq)(b1 b2 b3 b4 b5:Int)(x:Int×Int×Int×List bd):Tr (aA cQ.xs):=
 .ite (decide (x.1≠0)) (.ret (.ret ((),((x.1,()),(J2,())))))
  (.ite (decide (x.2.1≠0)) (.ret (.pan (.ret ((),((x.2.1,()),(J2,()))))))
   (.ret (.pan (.pan (.ret ((),((blk,(x.2.2.1,())),(z,(info,((b1,(b2,(b3,(b4,(b5,(x.2.2.2,())))))),()))))))))))
def px (d:cQ.st.den):Tr (aA cQ.xs):=
 .ite (decide (d.1.2.2.2.1=0)&&(decide (d.2.2.2.1.2.2.2.2.2.1.length=0)&&(decide ((0:Int)≤d.1.2.2.1)&&decide (d.1.2.2.1≤(4294960000:Int)))))
  (zm d.1.1 d.2.1 d.2.2.1 d.2.2.2.1.1 d.2.2.2.1.2.1 d.2.2.2.1.2.2.1 d.2.2.2.1.2.2.2.1 d.2.2.2.1.2.2.2.2.1 (jc d.1.1 d.2.2.1.2.2.2.2.2.1 d.1.2.2.1.toNat 0 d.1.2.1 [])) .no
def ue:Lp:=cb [(11,bg cQ px)]
def j7 {R:Type}(h1:LI)(h2 h3 h4 h5 h6 h7 h8 h9:Int)(h10:List bc.den)(h11 h12 h13:Int)(h14:Bool)(h15 h16 h17 h18 h19 h20 h21 h22 h23 h24 h25:Int)(h26:List bc.den)(next:LI→Int→Int→Int→Int→Int→Int→Int→Int→List bc.den→Int→Int→Int→Bool→Int→Int→Int→Int→Int→Int→Int→Int→Int→Int→Int→List bc.den→Option R)(out:aA cQ.xs→Option R):Option R:=bif decide (h4<h3) then bif (ak h1 h2).2.2 != 0 then out (.ret ((),(((ak h1 h2).2.2,()),((0,(0,(0,(0,(0,([],())))))),())))) else bif (bt (ak h1 h2).1 h4 h16).2 != 0 then out (.pan (.ret ((),(((bt (ak h1 h2).1 h4 h16).2,()),((0,(0,(0,(0,(0,([],())))))),()))))) else bif decide (h26.length+1≤4294967296) then next (h1) ((ak h1 h2).2.1) (h3) (i64.wrap (h4+1)) (h5) (h6) (h7) (h8) (h9) (h10) (h11) (h12) (h13) (h14) (h15) (h16) (h17) (h18) (h19) (h20) (h21) (h22) (h23) (h24) (h25) (h26++[(bt (ak h1 h2).1 h4 h16).1]) else none else out (.pan (.pan (.ret ((),((h1,(h2,())),((h5,(h6,(h7,(h8,(h9,(h10,())))))),((h11,(h12,(h13,(h14,(h15,(h16,(h17,(h18,(h19,(h20,())))))))))),((h21,(h22,(h23,(h24,(h25,(h26,())))))),()))))))))
def nq (n:Nat)(h1:LI)(h2 h3 h4 h5 h6 h7 h8 h9:Int)(h10:List bc.den)(h11 h12 h13:Int)(h14:Bool)(h15 h16 h17 h18 h19 h20 h21 h22 h23 h24 h25:Int)(h26:List bc.den):Option (aA cQ.xs):=kC tt Ea dr ue 0 Tryd.f12 (dD Tryd.f12 0) n (cQ.st.mk' ((h1,(h2,(h3,(h4,())))),((h5,(h6,(h7,(h8,(h9,(h10,())))))),((h11,(h12,(h13,(h14,(h15,(h16,(h17,(h18,(h19,(h20,())))))))))),((h21,(h22,(h23,(h24,(h25,(h26,())))))),()))))) (cx cQ.xs)
theorem sP (n:Nat)(h1:LI)(h2 h3 h4 h5 h6 h7 h8 h9:Int)(h10:List bc.den)(h11 h12 h13:Int)(h14:Bool)(h15 h16 h17 h18 h19 h20 h21 h22 h23 h24 h25:Int)(h26:List bc.den):nq (n+1) h1 h2 h3 h4 h5 h6 h7 h8 h9 h10 h11 h12 h13 h14 h15 h16 h17 h18 h19 h20 h21 h22 h23 h24 h25 h26=j7 h1 h2 h3 h4 h5 h6 h7 h8 h9 h10 h11 h12 h13 h14 h15 h16 h17 h18 h19 h20 h21 h22 h23 h24 h25 h26 (nq n) some:=by kernel_rfl
theorem we (blk:LI)(z1 z2 z3 z4 z5:Int)(z6:List bd)(i1 i2 i3:Int)(i4:Bool)(i5 i6 i7 i8 i9 i10 b1 b2 b3 b4 b5:Int):∀(n k i:Nat) (p:Int) (out:List bd),n<k→out.length=i→i+n≤4294960000→
  nq k blk p ((i+n:Nat):Int) i z1 z2 z3 z4 z5 z6 i1 i2 i3 i4 i5 i6 i7 i8 i9 i10 b1 b2 b3 b4 b5 out=(zm blk (z1,z2,z3,z4,z5,z6,()) (i1,i2,i3,i4,i5,i6,i7,i8,i9,i10,()) b1 b2 b3 b4 b5 (jc blk i6 n i p out)).val:=by
 intro n
 induction n with
 |zero=>
  intro k i p out h1 h2 h3
  obtain ⟨k,rfl⟩:∃j,k=j+1:=⟨k - 1,by omega⟩
  rw[sP]
  unfold j7
  refine bF (by simp) ?_
  rfl
 |succ n ih=>
  intro k i p out h1 h2 h3
  obtain ⟨k,rfl⟩:∃j,k=j+1:=⟨k - 1,by omega⟩
  rw[sP]
  unfold j7
  refine bT (decide_eq_true (by omega)) ?_
  have e:jc blk i6 (n+1) i p out=if (ak blk p).2.2≠0 then ((ak blk p).2.2,0,0,[]) else if (bt (ak blk p).1 (i:Int) i6).2≠0 then (0,(bt (ak blk p).1 (i:Int) i6).2,0,[]) else jc blk i6 n (i+1) (ak blk p).2.1 (out++[(bt (ak blk p).1 (i:Int) i6).1]):=rfl
  rw[e]
  by_cases c1:(ak blk p).2.2=0
  ·refine bF (by simpa using c1) ?_
   rw[if_neg (av c1)]
   by_cases c2:(bt (ak blk p).1 (i:Int) i6).2=0
   ·refine bF (by simpa using c2) ?_
    rw[if_neg (av c2)]
    refine bT (decide_eq_true (by omega)) ?_
    rw[ag (n:=(i:Int)+1) (by omega) (by omega)]
    have:=ih k (i+1) (ak blk p).2.1 (out++[(bt (ak blk p).1 (i:Int) i6).1]) (by omega) (by simp;omega) (by omega)
    rw[show i+1+n=i+(n+1) by omega] at this
    exact this
   ·refine bT (by simpa using c2) ?_
    rw[if_pos c2]
    unfold zm
    rw[Tr.val_ite,Tr.val_ite,if_neg (by simp),if_pos (decide_eq_true c2)]
    rfl
  ·refine bT (by simpa using c1) ?_
   rw[if_pos c1]
   unfold zm
   rw[Tr.val_ite,if_pos (decide_eq_true c1)]
   rfl
theorem ol (blk:LI)(f:Int):∀(n i:Nat) (p:Int) (out:List bd),(aD blk f n i p out).2.2=0→(aD blk f n i p out).1.length=out.length+n
 |0,_,_,_,_=>rfl
 |n+1,i,p,out,h=>by
  unfold aD at h ⊢
  split
  ·rename_i c;rw[if_pos c] at h;exact absurd h c
  rename_i c;rw[if_neg c] at h
  split
  ·rename_i c2;rw[if_pos c2] at h;cases h
  rename_i c2;rw[if_neg c2] at h
  split
  ·rename_i c3;rw[if_pos c3] at h;cases h
  rename_i c3;rw[if_neg c3] at h
  rw[ol blk f n (i+1) _ _ h]
  simp;omega
theorem Bu (blk:LI)(f:Int):∀(n i:Nat) (p:Int) (out:List bd),
  ((aD blk f n i p out).2.2=0→(jc blk f n i p out)=(0,0,(aD blk f n i p out).2.1,(aD blk f n i p out).1))∧
  ((aD blk f n i p out).2.2≠0→(jc blk f n i p out).1=(aD blk f n i p out).2.2∨(jc blk f n i p out).1=0∧(jc blk f n i p out).2.1=(aD blk f n i p out).2.2)
 |0,i,p,out=>⟨fun _=>rfl,fun h=>absurd rfl h⟩
 |n+1,i,p,out=>by
  have e:aD blk f (n+1) i p out=if (ak blk p).2.2≠0 then ([],0,(ak blk p).2.2) else if (ak blk p).1.2.1≠(i:Int) then ([],0,72) else if i=0∧(ak blk p).1.1≠0∨aB (f+(ak blk p).1.1)=false then ([],0,86)
    else aD blk f n (i+1) (ak blk p).2.1 (out++[(f+(ak blk p).1.1,(ak blk p).1.2.2.1,(ak blk p).1.2.2.2.1,(ak blk p).1.2.2.2.2.1,())]):=rfl
  have e2:jc blk f (n+1) i p out=if (ak blk p).2.2≠0 then ((ak blk p).2.2,0,0,[]) else if (bt (ak blk p).1 (i:Int) f).2≠0 then (0,(bt (ak blk p).1 (i:Int) f).2,0,[]) else jc blk f n (i+1) (ak blk p).2.1 (out++[(bt (ak blk p).1 (i:Int) f).1]):=rfl
  have eO:bt (ak blk p).1 (i:Int) f=if (ak blk p).1.2.1≠(i:Int) then (pu,72) else if (i:Int)=0∧(ak blk p).1.1≠0∨aB (f+(ak blk p).1.1)=false then (pu,86)
    else ((f+(ak blk p).1.1,(ak blk p).1.2.2.1,(ak blk p).1.2.2.2.1,(ak blk p).1.2.2.2.2.1,()),0):=rfl
  rw[e,e2]
  by_cases c1:(ak blk p).2.2=0
  rotate_left
  ·rw[if_pos c1,if_pos c1]
   exact ⟨fun h=>absurd h c1,fun _=>.inl rfl⟩
  rw[if_neg (av c1),if_neg (av c1)]
  by_cases c2:(ak blk p).1.2.1=(i:Int)
  rotate_left
  ·rw[if_pos c2,eO,if_pos c2,if_pos (by decide)]
   exact ⟨(fun h=>by cases h),fun _=>.inr ⟨rfl,rfl⟩⟩
  rw[if_neg (av c2)]
  by_cases c3:i=0∧(ak blk p).1.1≠0∨aB (f+(ak blk p).1.1)=false
  ·have c3':(i:Int)=0∧(ak blk p).1.1≠0∨aB (f+(ak blk p).1.1)=false:=by
    rcases c3 with h | h
    ·exact .inl ⟨by omega,h.2⟩
    ·exact .inr h
   rw[if_pos c3,eO,if_neg (av c2),if_pos c3',if_pos (by decide)]
   exact ⟨(fun h=>by cases h),fun _=>.inr ⟨rfl,rfl⟩⟩
  ·have c3':¬((i:Int)=0∧(ak blk p).1.1≠0∨aB (f+(ak blk p).1.1)=false):=by
    rintro (h | h)
    ·exact c3 (.inl ⟨by omega,h.2⟩)
    ·exact c3 (.inr h)
   rw[if_neg c3,eO,if_neg (av c2),if_neg c3',if_neg (av rfl)]
   exact Bu blk f n (i+1) _ _
theorem eK {b:LI}{sm:Bool}(h:bh b sm=0):61≤b.length∧(aP b 0).2=0∧(aP b 0).1=(b.length:Int)∧b.getD 16 0=2∧¬(sm=true∧ez b=false)∧aY (aw b 0 8)=false∧b.getD 21 0=0∧b.getD 22 0≤1∧aQ (aw b 43 8) (aw b 51 2) (aw b 53 4)=false∧1≤aw b 57 4∧aw b 57 4≤256∧aw b 23 4=aw b 57 4 - 1:=by
 unfold bh at h
 split at h
 ·cases h
 split at h
 ·rename_i c;exact absurd h c
 rename_i h1 h2
 split at h
 ·cases h
 rename_i h3
 split at h
 ·cases h
 rename_i h4
 split at h
 ·cases h
 rename_i h5
 split at h
 ·cases h
 rename_i h6
 split at h
 ·cases h
 rename_i h7
 split at h
 ·cases h
 rename_i h8
 split at h
 ·cases h
 rename_i h9
 split at h
 ·cases h
 rename_i h10
 split at h
 ·cases h
 rename_i h11
 have h2:(aP b 0).2=0:=Classical.byContradiction h2
 have hm:=sS h2
 refine ⟨by omega,h2,by omega,Classical.byContradiction h4,h5,by simpa using h6,?_,by omega,by simpa using h8,by omega,by omega,Classical.byContradiction h11⟩
 exact Classical.byContradiction fun h=>h7 (.inl h)
def vc (a0:LI):Option iE.Res:=bif decide (a0.length≤4294960000) then bif (al a0 true).2 != 0 then oR (((0,0,0,0,0,[],()),(al a0 true).2,()),()) else bif decide (61≤a0.length)&&decide (a0.length≤4294960000) then bif (aF a0 (al a0 true).1.2.2.2.1).2 != 0 then oR (((0,0,0,0,0,[],()),(aF a0 (al a0 true).1.2.2.2.1).2,()),()) else (bif decide ((0:Int)=0)&&(decide (([]:List bd).length=0)&&(decide ((0:Int)≤(al a0 true).1.2.2.2.2.1)&&decide ((al a0 true).1.2.2.2.2.1≤(4294960000:Int)))) then (bif decide ((jc (aF a0 (al a0 true).1.2.2.2.1).1 (al a0 true).1.2.2.2.2.2.1 ((al a0 true).1.2.2.2.2.1).toNat 0 0 []).1≠0) then oR (((0,0,0,0,0,[],()),(jc (aF a0 (al a0 true).1.2.2.2.1).1 (al a0 true).1.2.2.2.2.2.1 ((al a0 true).1.2.2.2.2.1).toNat 0 0 []).1,()),()) else bif decide ((jc (aF a0 (al a0 true).1.2.2.2.1).1 (al a0 true).1.2.2.2.2.2.1 ((al a0 true).1.2.2.2.2.1).toNat 0 0 []).2.1≠0) then oR (((0,0,0,0,0,[],()),(jc (aF a0 (al a0 true).1.2.2.2.1).1 (al a0 true).1.2.2.2.2.2.1 ((al a0 true).1.2.2.2.2.1).toNat 0 0 []).2.1,()),()) else bif decide ((jc (aF a0 (al a0 true).1.2.2.2.1).1 (al a0 true).1.2.2.2.2.2.1 ((al a0 true).1.2.2.2.2.1).toNat 0 0 []).2.2.1<(↑(aF a0 (al a0 true).1.2.2.2.1).1.length:Int)) then oR (((0,0,0,0,0,[],()),2,()),()) else bif decide (1≤(jc (aF a0 (al a0 true).1.2.2.2.1).1 (al a0 true).1.2.2.2.2.2.1 ((al a0 true).1.2.2.2.2.1).toNat 0 0 []).2.2.2.length) then bif cR (jc (aF a0 (al a0 true).1.2.2.2.1).1 (al a0 true).1.2.2.2.2.2.1 ((al a0 true).1.2.2.2.2.1).toNat 0 0 []).2.2.2 != (al a0 true).1.2.2.2.2.2.2.1 then oR (((0,0,0,0,0,[],()),86,()),()) else oR ((((al a0 true).1.1,(al a0 true).1.2.2.1,(al a0 true).1.2.2.2.2.2.2.2.1,(al a0 true).1.2.2.2.2.2.2.2.2.1,(al a0 true).1.2.2.2.2.2.2.2.2.2.1,(jc (aF a0 (al a0 true).1.2.2.2.1).1 (al a0 true).1.2.2.2.2.2.1 ((al a0 true).1.2.2.2.2.1).toNat 0 0 []).2.2.2,()),0,()),()) else none) else none) else none else none
theorem HK (a0:LI):Io.run tt Ea dr ue iE Tryd.f12 ((a0,()),())=vc a0:=by kernel_rfl
theorem vW:HcsOk prog Dz:=.cons A9 (.cons E3 (.cons Jr (.cons Cd (.cons Ba .nil))))
theorem E4:HcOk prog 12 (ah iE za):=by
 refine cq vW (lp:=ue) (fn:=Tryd.f12) iE (.step (h0:=bg cQ px) (by kernel_rfl) (lI vW (lp:=ue) (fn:=Tryd.f12) (.done (by kernel_rfl)) cQ px ?_) (.done (by kernel_rfl))) za ?_
 ·rintro ⟨⟨(blk:LI),(p:Int),(n:Int),(i:Int),⟨⟩⟩,⟨⟨(z1:Int),(z2:Int),(z3:Int),(z4:Int),(z5:Int),(z6:List bd),⟨⟩⟩,⟨(i1:Int),(i2:Int),(i3:Int),(i4:Bool),(i5:Int),(i6:Int),(i7:Int),(i8:Int),(i9:Int),(i10:Int),⟨⟩⟩,⟨(b1:Int),(b2:Int),(b3:Int),(b4:Int),(b5:Int),(out:List bd),⟨⟩⟩,⟨⟩⟩⟩ y hw hy
  obtain ⟨hg,hy⟩:=Tr.guard hy
  simp only[zA,zB] at hg
  obtain ⟨h1,h2,h3,h4⟩:=hg
  have h1:i=0:=h1
  have h2:out=[]:=List.length_eq_zero_iff.1 h2
  have h3:0≤n:=h3
  have h4:n≤(4294960000:Int):=h4
  subst h1 h2
  obtain ⟨n,rfl⟩:=aN h3
  have:=we blk z1 z2 z3 z4 z5 z6 i1 i2 i3 i4 i5 i6 i7 i8 i9 i10 b1 b2 b3 b4 b5 n (n+1) 0 p [] (by omega) rfl (by omega)
  rw[Nat.zero_add] at this
  exact ⟨n+1,this.trans hy⟩
 ·rintro ⟨⟨(b:LI),⟨⟩⟩,⟨⟩⟩ out hw ho
  obtain ⟨hg,ho⟩:=Tr.guard ho
  have hg2:b.length≤4294960000:=of_decide_eq_true hg
  clear hg
  cases ho
  refine (HK b).trans ?_
  show _=oR (((aH b).1,(aH b).2,()),())
  have eE:eY b=if bh b true≠0 then ([],bh b true) else if (aF b (decide (b.getD 22 0=1))).2≠0 then ([],(aF b (decide (b.getD 22 0=1))).2) else qK (aF b (decide (b.getD 22 0=1))).1 (aw b 27 8) (aw b 35 8) (aw b 57 4).toNat:=rfl
  have fin:∀e:Int,e≠0→(eY b).2=e→some (Out.ret ((J2,(e,())),()):iE.Res)=oR (((aH b).1,(aH b).2,()),()):=by
   intro e he h
   have:aH b=(pr,e):=by unfold aH;rw[h,if_pos he]
   rw[this]
   rfl
  unfold vc
  refine bT (decide_eq_true hg2) ?_
  by_cases h1:bh b true=0
  rotate_left
  ·have eh:al b true=(cZ,bh b true):=by unfold al;rw[if_pos h1]
   rw[eh]
   refine bT (by simpa using h1) ?_
   exact fin _ h1 (by rw[eE,if_pos h1])
  have eh:al b true=(gW b,0):=by unfold al;rw[if_neg (av h1)]
  rw[if_neg (av h1)] at eE
  obtain ⟨k1,_,_,_,_,_,_,_,_,k2,k3,_⟩:=eK h1
  have hI:gW b=(aw b 0 8,(b.length:Int),aw b 12 4,decide (b.getD 22 0=1),aw b 57 4,aw b 27 8,aw b 35 8,aw b 43 8,aw b 51 2,aw b 53 4,()):=rfl
  rw[eh,hI]
  dsimp only
  refine (ab rfl _ _).trans ?_
  refine bT (by simp only[zA,zB];exact ⟨k1,hg2⟩) ?_
  by_cases h2:(aF b (decide (b.getD 22 0=1))).2=0
  rotate_left
  ·refine bT (by simpa using h2) ?_
   exact fin _ h2 (by rw[eE,if_pos h2])
  refine bF (by simpa using h2) ?_
  rw[if_neg (av h2)] at eE
  generalize (aF b (decide (b.getD 22 0=1))).1=blk at *
  refine bT (by simp only[zA,zB];exact ⟨trivial,rfl,show (0:Int)≤aw b 57 4 by omega,show aw b 57 4≤(4294960000:Int) by omega⟩) ?_
  have eR:qK blk (aw b 27 8) (aw b 35 8) (aw b 57 4).toNat=if (aD blk (aw b 27 8) (aw b 57 4).toNat 0 0 []).2.2≠0 then ([],(aD blk (aw b 27 8) (aw b 57 4).toNat 0 0 []).2.2)
    else if (aD blk (aw b 27 8) (aw b 57 4).toNat 0 0 []).2.1<(blk.length:Int) then ([],2)
    else if cR (aD blk (aw b 27 8) (aw b 57 4).toNat 0 0 []).1≠aw b 35 8 then ([],86) else ((aD blk (aw b 27 8) (aw b 57 4).toNat 0 0 []).1,0):=rfl
  have hlen:=ol blk (aw b 27 8) (aw b 57 4).toNat 0 0 []
  obtain ⟨x1,x2⟩:=Bu blk (aw b 27 8) (aw b 57 4).toNat 0 0 []
  rw[eR] at eE
  generalize aD blk (aw b 27 8) (aw b 57 4).toNat 0 0 []=r at *
  obtain ⟨rs,q,e⟩:=r
  simp only at eE hlen x1 x2
  by_cases h3:e=0
  rotate_left
  ·rw[if_pos h3] at eE
   rcases x2 h3 with x | ⟨x,x'⟩
   ·rw[x]
    refine bT (decide_eq_true h3) ?_
    exact fin e h3 (by rw[eE])
   ·rw[x,x']
    refine (ab rfl _ _).trans ?_
    refine bT (decide_eq_true h3) ?_
    exact fin e h3 (by rw[eE])
  rw[if_neg (av h3)] at eE
  rw[x1 h3]
  have hlen:=hlen h3
  refine (ab rfl _ _).trans ?_
  refine (ab rfl _ _).trans ?_
  by_cases h4:q<(blk.length:Int)
  ·refine bT (decide_eq_true h4) ?_
   exact fin 2 (by decide) (by rw[eE,if_pos h4])
  refine bF (decide_eq_false h4) ?_
  refine bT (decide_eq_true (show 1≤rs.length by rw[hlen];simp;omega)) ?_
  rw[if_neg h4] at eE
  by_cases h5:cR rs=aw b 35 8
  ·refine bF (by simpa using h5) ?_
   rw[if_neg (av h5)] at eE
   have:aH b=((aw b 0 8,aw b 12 4,aw b 43 8,aw b 51 2,aw b 53 4,rs,()),0):=by unfold aH;rw[eE,if_neg (av rfl)]
   rw[this]
  ·refine bT (by simpa using h5) ?_
   exact fin 86 (by decide) (by rw[eE,if_pos h5])
end
end Go.Proofs.YtcbcbjdobbgddaaDoor.Sym
namespace Go.Proofs.YtcbcbjdobbgddaaDoor.Sym
open Go
noncomputable section
def oq (b:LI)(m:Int)(n:Nat):Bool:=decide (m=36000)&&Nat.ble (b.length+n) 36000
theorem fK {b:LI}{m:Int}{n:Nat}:oq b m n=true↔m=36000∧b.length+n≤36000:=by
 unfold oq;rw[zA,zB,Nat.ble_eq]
abbrev tX:Io:=lA
def Ix (d:tX.In):Tr tX.Res:=
 .ite (decide (d.1.1=36000)) (.ret (.ret (((),()),((([]:LI),(36000,())),())))) .no
theorem Jp:HcOk prog 35 (ah tX Ix):=by
 refine HcOk.weakB JE ?_
 rintro ⟨⟨(m:Int),⟨⟩⟩,⟨⟩⟩ y hw hy
 obtain ⟨hg,hy⟩:=Tr.guard hy
 have hg:m=36000:=of_decide_eq_true hg
 subst hg
 rw[← hy]
 rfl
abbrev tW:Io:=lz
def Iw (d:tW.In):Tr tW.Res:=
 .ite (oq d.2.1.1 d.2.1.2.1 8) (.ret (.ret ((0,()),((d.2.1.1++ap d.1.2.1 8,(36000,())),())))) .no
theorem Jo:HcOk prog 36 (ah tW Iw):=by
 refine HcOk.weakB JD ?_
 rintro ⟨⟨⟨⟩,(v:Int),⟨⟩⟩,⟨⟨(b:LI),(m:Int),⟨⟩⟩,⟨⟩⟩⟩ y hw hy
 obtain ⟨hg,hy⟩:=Tr.guard hy
 obtain ⟨h1,h2⟩:=(fK (b:=b) (m:=m) (n:=8)).1 hg
 subst h1
 rw[← hy]
 have hk:cA b 36000=true:=by unfold cA;simp only[zA,zB];omega
 have e:b8 b 36000 v 8=(0,b++ap v 8):=by unfold b8;rw[if_neg (by omega)]
 show (zj (((),(v,())),((b,(36000,())),()))).val=some (.ret ((0,()),((b++ap v 8,(36000,())),())))
 unfold zj
 rw[Tr.val_ite,if_pos hk,Tr.val_ret]
 show oR (((b8 b 36000 v 8).1,()),(((b8 b 36000 v 8).2,(36000,())),()))=_
 rw[e]
abbrev tV:Io:=ly
def Iv (d:tV.In):Tr tV.Res:=
 .ite (oq d.2.1.1 d.2.1.2.1 4) (.ret (.ret ((0,()),((d.2.1.1++ap d.1.2.1 4,(36000,())),())))) .no
theorem Jn:HcOk prog 37 (ah tV Iv):=by
 refine HcOk.weakB JC ?_
 rintro ⟨⟨⟨⟩,(v:Int),⟨⟩⟩,⟨⟨(b:LI),(m:Int),⟨⟩⟩,⟨⟩⟩⟩ y hw hy
 obtain ⟨hg,hy⟩:=Tr.guard hy
 obtain ⟨h1,h2⟩:=(fK (b:=b) (m:=m) (n:=4)).1 hg
 subst h1
 rw[← hy]
 have hk:cA b 36000=true:=by unfold cA;simp only[zA,zB];omega
 have e:b8 b 36000 v 4=(0,b++ap v 4):=by unfold b8;rw[if_neg (by omega)]
 show (zi (((),(v,())),((b,(36000,())),()))).val=some (.ret ((0,()),((b++ap v 4,(36000,())),())))
 unfold zi
 rw[Tr.val_ite,if_pos hk,Tr.val_ret]
 show oR (((b8 b 36000 v 4).1,()),(((b8 b 36000 v 4).2,(36000,())),()))=_
 rw[e]
abbrev tU:Io:=lx
def Iu (d:tU.In):Tr tU.Res:=
 .ite (oq d.2.1.1 d.2.1.2.1 2) (.ret (.ret ((0,()),((d.2.1.1++ap d.1.2.1 2,(36000,())),())))) .no
theorem Jm:HcOk prog 39 (ah tU Iu):=by
 refine HcOk.weakB JB ?_
 rintro ⟨⟨⟨⟩,(v:Int),⟨⟩⟩,⟨⟨(b:LI),(m:Int),⟨⟩⟩,⟨⟩⟩⟩ y hw hy
 obtain ⟨hg,hy⟩:=Tr.guard hy
 obtain ⟨h1,h2⟩:=(fK (b:=b) (m:=m) (n:=2)).1 hg
 subst h1
 rw[← hy]
 have hk:cA b 36000=true:=by unfold cA;simp only[zA,zB];omega
 have e:b8 b 36000 v 2=(0,b++ap v 2):=by unfold b8;rw[if_neg (by omega)]
 show (zh (((),(v,())),((b,(36000,())),()))).val=some (.ret ((0,()),((b++ap v 2,(36000,())),())))
 unfold zh
 rw[Tr.val_ite,if_pos hk,Tr.val_ret]
 show oR (((b8 b 36000 v 2).1,()),(((b8 b 36000 v 2).2,(36000,())),()))=_
 rw[e]
abbrev AA:Io:=qb
def Ka (d:AA.In):Tr AA.Res:=
 .ite (oq d.2.1.1 d.2.1.2.1 1) (.ret (.ret ((0,()),((d.2.1.1++ap d.1.2.1 1,(36000,())),())))) .no
theorem Kw:HcOk prog 38 (ah AA Ka):=by
 refine HcOk.weakB Kx ?_
 rintro ⟨⟨⟨⟩,(v:Int),⟨⟩⟩,⟨⟨(b:LI),(m:Int),⟨⟩⟩,⟨⟩⟩⟩ y hw hy
 obtain ⟨hg,hy⟩:=Tr.guard hy
 obtain ⟨h1,h2⟩:=(fK (b:=b) (m:=m) (n:=1)).1 hg
 subst h1
 rw[← hy]
 have hk:cA b 36000=true:=by unfold cA;simp only[zA,zB];omega
 have e:b8 b 36000 v 1=(0,b++ap v 1):=by unfold b8;rw[if_neg (by omega)]
 show (Gu (((),(v,())),((b,(36000,())),()))).val=some (.ret ((0,()),((b++ap v 1,(36000,())),())))
 unfold Gu
 rw[Tr.val_ite,if_pos hk,Tr.val_ret]
 show oR (((b8 b 36000 v 1).1,()),(((b8 b 36000 v 1).2,(36000,())),()))=_
 rw[e]
abbrev tY:Io:=lB
def Iy (d:tY.In):Tr tY.Res:=
 .ite (oq d.2.1.1 d.2.1.2.1 (bk d.1.2.1)) (.ret (.ret ((0,()),((d.2.1.1++eZ d.1.2.1,(36000,())),())))) .no
theorem Jq:HcOk prog 40 (ah tY Iy):=by
 refine HcOk.weakB JF ?_
 rintro ⟨⟨⟨⟩,(ps:List (LI)),⟨⟩⟩,⟨⟨(b:LI),(m:Int),⟨⟩⟩,⟨⟩⟩⟩ y hw hy
 obtain ⟨hg,hy⟩:=Tr.guard hy
 obtain ⟨h1,h2⟩:=(fK (b:=b) (m:=m) (n:=bk ps)).1 hg
 subst h1
 rw[← hy]
 have hk:(cA b 36000&&decide (bk ps≤4294960000))=true:=by unfold cA;simp only[zA,zB];omega
 have e:qJ b 36000 ps=(0,b++eZ ps):=by unfold qJ;rw[if_neg (by omega)]
 show (zk (((),(ps,())),((b,(36000,())),()))).val=some (.ret ((0,()),((b++eZ ps,(36000,())),())))
 unfold zk
 rw[Tr.val_ite,if_pos hk,Tr.val_ret]
 show oR (((qJ b 36000 ps).1,()),(((qJ b 36000 ps).2,(36000,())),()))=_
 rw[e]
end
end Go.Proofs.YtcbcbjdobbgddaaDoor.Sym
namespace Go.Proofs.YtcbcbjdobbgddaaDoor.Sym
open Go
open Go.IntKind (i8 i16 i32 i64 u8 u16 u32 u64)
noncomputable section
def dJ (a b:bd):Bool:=@ite Bool (a=b) (Classical.propDecidable _) true false
def bZ (a b:List bd):Bool:=@ite Bool (a=b) (Classical.propDecidable _) true false
def cd (a b:dm):Bool:=@ite Bool (a=b) (Classical.propDecidable _) true false
theorem wE {p:Prop}(h:¬ p):(false=true↔p):=⟨fun h=>(by cases h),fun x=>absurd x h⟩
theorem gX {a b:bd}:dJ a b=true↔a=b:=by unfold dJ;split <;> simp[*]
theorem bN {a b:List bd}:bZ a b=true↔a=b:=by unfold bZ;split <;> simp[*]
theorem fe {a b:dm}:cd a b=true↔a=b:=by unfold cd;split <;> simp[*]
abbrev fm:Io:=⟨[IT,IT],[],[],[dB],none⟩
def tp (d:fm.In):Tr fm.Res:=.ret (.ret ((dJ d.1.1 d.1.2.1,()),()))
abbrev vK:List (Nat×Hc):=[(80,ah ce gq),(81,ah cl iu)]
def Eq:Hd:=bV vK
def wz:Lp:=cb []
def pS (a0:Int)(a1:Bool)(a2:LI)(a3:Bool)(a4:LI)(a5:List bm.den)(a6:Int)(a7:Bool)(a8:LI)(a9:Bool)(a10:LI)(a11:List bm.den):Option fm.Res:=bif a0 != a6 then oR ((false,()),()) else bif !decide ((a1,a2,())=(a7,a8,())) then oR ((false,()),()) else bif !decide ((a3,a4,())=(a9,a10,())) then oR ((false,()),()) else oR ((decide (a5=a11),()),())
theorem Cy (a0:Int)(a1:Bool)(a2:LI)(a3:Bool)(a4:LI)(a5:List bm.den)(a6:Int)(a7:Bool)(a8:LI)(a9:Bool)(a10:LI)(a11:List bm.den):Io.run tt Eq dr wz fm Tryd.f58 (((a0,(a1,a2,()),(a3,a4,()),a5,()),(a6,(a7,a8,()),(a9,a10,()),a11,()),()),())=pS a0 a1 a2 a3 a4 a5 a6 a7 a8 a9 a10 a11:=by kernel_rfl
theorem Fk:HcOk prog 58 (ah fm tp):=by
 refine cq (cs:=vK) (.cons mH (.cons rh .nil)) (lp:=wz) (fn:=Tryd.f58) fm (.done (by kernel_rfl)) tp ?_
 rintro ⟨⟨⟨(a0:Int),⟨(a1:Bool),(a2:LI),⟨⟩⟩,⟨(a3:Bool),(a4:LI),⟨⟩⟩,(a5:List bI),⟨⟩⟩,⟨(b0:Int),⟨(b1:Bool),(b2:LI),⟨⟩⟩,⟨(b3:Bool),(b4:LI),⟨⟩⟩,(b5:List bI),⟨⟩⟩,⟨⟩⟩,⟨⟩⟩ out hw ho
 cases ho
 refine (Cy a0 a1 a2 a3 a4 a5 b0 b1 b2 b3 b4 b5).trans ?_
 show _=oR ((dJ (a0,(a1,a2,()),(a3,a4,()),a5,()) (b0,(b1,b2,()),(b3,b4,()),b5,()),()),())
 have fin:∀c:Bool,(c=true↔((a0,(a1,a2,()),(a3,a4,()),a5,()):bd)=(b0,(b1,b2,()),(b3,b4,()),b5,()))→some (Out.ret ((c,()),()):fm.Res)=oR ((dJ (a0,(a1,a2,()),(a3,a4,()),a5,()) (b0,(b1,b2,()),(b3,b4,()),b5,()),()),()):=by
  intro c hc
  have:c=dJ (a0,(a1,a2,()),(a3,a4,()),a5,()) (b0,(b1,b2,()),(b3,b4,()),b5,()):=Bool.eq_iff_iff.2 (hc.trans gX.symm)
  rw[this]
 unfold pS
 by_cases h0:a0=b0
 rotate_left
 ·refine (aa (by simpa using h0) _ _).trans (fin false (wE fun h=>h0 (congrArg Prod.fst h)))
 refine bF (by simpa using h0) ?_
 by_cases h1:(a1,a2,())=(b1,b2,())
 rotate_left
 ·refine (aa (by rw[decide_eq_false h1];rfl) _ _).trans (fin false (wE fun h=>h1 (congrArg (fun x:bd=>x.2.1) h)))
 refine bF (by rw[decide_eq_true h1];rfl) ?_
 by_cases h2:(a3,a4,())=(b3,b4,())
 rotate_left
 ·refine (aa (by rw[decide_eq_false h2];rfl) _ _).trans (fin false (wE fun h=>h2 (congrArg (fun x:bd=>x.2.2.1) h)))
 refine (ab (by rw[decide_eq_true h2];rfl) _ _).trans (fin _ ?_)
 rw[zB]
 constructor
 ·intro h
  rw[h0,h1,h2,h]
 ·intro h
  exact congrArg (fun x:bd=>x.2.2.2.1) h
abbrev eV:Io:=⟨[DV,DV],[],[],[dB],none⟩
def pF (d:eV.In):Tr eV.Res:=.ret (.ret ((bZ d.1.1 d.1.2.1,()),()))
abbrev sk:List (Nat×Hc):=[(58,ah fm tp)]
def sA:Hd:=bV sk
abbrev cj:Lo:=⟨⟨(.one (.hol (.sl 70 bc))::.one (.hol (.sl 70 bc))::.any::cr (.one hI::.any::an (di []))),[]⟩,[(.ret,⟨(di (.one hL::an (di (cr [])))),[]⟩),(.exit 0,⟨(.any::an (fH (cr []))),[]⟩)]⟩
def fP (d:cj.st.den):Tr (aA cj.xs):=
 .ite (decide (d.1.2.2.1=(0:Int))&&decide (d.1.1.length=d.1.2.1.length)) (.ite (bZ d.1.1 d.1.2.1) (.ret (.pan (.ret ((),((),()))))) (.ret (.ret ((),((false,()),()))))) .no
def ko:Lp:=cb [(5,bg cj fP)]
def kQ {R:Type}(h2 h3:List bc.den)(h4:Int)(next:List bc.den→List bc.den→Int→Option R)(out:aA cj.xs→Option R):Option R:=bif decide (h4<(↑h2.length:Int)) then bif decide (0≤h4)&&decide (h4<(↑h2.length:Int)) then bif decide (0≤h4)&&decide (h4<(↑h3.length:Int)) then bif !dJ (h2.getD h4.toNat (0,(false,[],()),(false,[],()),[],())) (h3.getD h4.toNat (0,(false,[],()),(false,[],()),[],())) then out (.ret ((),((false,()),()))) else next (h2) (h3) (i64.wrap (h4+1)) else none else none else out (.pan (.ret ((),((),()))))
def jP (n:Nat)(h2 h3:List bc.den)(h4:Int):Option (aA cj.xs):=kC tt sA dr ko 0 Tryd.f31 (dD Tryd.f31 0) n (cj.st.mk' ((h2,(h3,(h4,()))),())) (cx cj.xs)
theorem wX (n:Nat)(h2 h3:List bc.den)(h4:Int):jP (n+1) h2 h3 h4=kQ h2 h3 h4 (jP n) some:=by kernel_rfl
theorem wl (xs ys:List bd)(hl:xs.length=ys.length)(hb:xs.length≤maxLen):∀(k i:Nat),i≤xs.length→xs.length<i+k→
  jP k xs ys (i:Int)=if bZ (xs.drop i) (ys.drop i)=true then some (.pan (.ret ((),((),())))) else some (.ret ((),((false,()),()))):=by
 intro k
 induction k with
 |zero=>intro i h h';omega
 |succ k ih=>
  intro i hi h
  rw[wX]
  unfold kQ
  by_cases h1:i<xs.length
  ·have h2:i<ys.length:=by omega
   rw[bH h1 hb,ih (i+1) h1 (by omega)]
   have e1:(xs.getD (i:Int).toNat (0,(false,[],()),(false,[],()),[],()):bd)=xs[i]:=aR h1
   have e2:(ys.getD (i:Int).toNat (0,(false,[],()),(false,[],()),[],()):bd)=ys[i]:=aR h2
   refine bT (by simpa using h1) ?_
   refine bT (by simpa using h1) ?_
   refine bT (by simpa using h2) ?_
   rw[e1,e2,zE h1,zE h2]
   cases hc:dJ xs[i] ys[i] with
   |false=>
    refine (aa rfl _ _).trans ?_
    rw[if_neg]
    intro h
    have h:=bN.1 h
    rw[List.cons.injEq] at h
    rw[gX.2 h.1] at hc
    cases hc
   |true=>
    refine (ab rfl _ _).trans ?_
    have e:=gX.1 hc
    by_cases hd:bZ (xs.drop (i+1)) (ys.drop (i+1))=true
    ·rw[if_pos hd,if_pos (bN.2 (by rw[e,bN.1 hd]))]
    ·rw[if_neg hd,if_neg]
     intro h
     have h:=bN.1 h
     rw[List.cons.injEq] at h
     exact hd (bN.2 h.2)
  ·rw[zI (by omega),zI (by omega),if_pos (bN.2 rfl)]
   exact ab (by simpa using h1) _ _
def nU (a0 a1:List bc.den):Option eV.Res:=bif (↑a0.length:Int) != (↑a1.length:Int) then oR ((false,()),()) else (fP ((a0,(a1,(0,()))),())).run fun y=>match y with | .ret ((),((x9,()),()))=>(oR ((x9,()),())) | .pan (.ret ((),((),())))=>(oR ((true,()),()))
theorem yF (a0 a1:List bc.den):Io.run tt sA dr ko eV Tryd.f31 ((a0,a1,()),())=nU a0 a1:=by kernel_rfl
theorem n4:HcsOk prog sk:=.cons Fk .nil
theorem Ci:HcOk prog 31 (ah eV pF):=by
 refine cq n4 (lp:=ko) (fn:=Tryd.f31) eV (.step (h0:=bg cj fP) (by kernel_rfl) (lI n4 (lp:=ko) (fn:=Tryd.f31) (.done (by kernel_rfl)) cj fP ?_) (.done (by kernel_rfl))) pF ?_
 ·rintro ⟨⟨(xs:List bd),(ys:List bd),(i:Int),⟨⟩⟩,⟨⟩⟩ y hw hy
  obtain ⟨hg,hy⟩:=Tr.guard hy
  simp only[zA,zB] at hg
  obtain ⟨hi,hl⟩:=hg
  have hi:i=0:=hi
  have hl:xs.length=ys.length:=hl
  subst hi
  refine ⟨xs.length+1,(wl xs ys hl hw.1.1.1 _ 0 (by omega) (by omega)).trans ?_⟩
  rw[← hy,List.drop_zero,List.drop_zero]
  simp only[Tr.val_ite,Tr.val_ret]
 ·rintro ⟨⟨(xs:List bd),(ys:List bd),⟨⟩⟩,⟨⟩⟩ out hw ho
  cases ho
  refine (yF xs ys).trans ?_
  unfold nU fP
  show _=oR ((bZ xs ys,()),())
  by_cases hl:xs.length=ys.length
  ·refine bF (by rw[hl];exact bne_self_eq_false' _) ?_
   refine bT (by simpa using hl) ?_
   cases h:bZ xs ys with
   |true=>rfl
   |false=>rfl
  ·have e:bZ xs ys=false:=by
    cases h:bZ xs ys with
    |false=>rfl
    |true=>exact absurd (congrArg List.length (bN.1 h)) hl
   rw[e]
   refine aa ?_ _ _
   have:(xs.length:Int)≠ys.length:=by omega
   simpa using this
abbrev dW:Io:=⟨[q9,q9],[],[],[dB],none⟩
def oT (d:dW.In):Tr dW.Res:=.ret (.ret ((cd d.1.1 d.1.2.1,()),()))
abbrev vL:List (Nat×Hc):=[(31,ah eV pF)]
def Er:Hd:=bV vL
def wA:Lp:=cb []
def pT (a0 a1 a2 a3 a4:Int)(a5:List bc.den)(a6 a7 a8 a9 a10:Int)(a11:List bc.den):Option dW.Res:=bif a0 != a6 then oR ((false,()),()) else bif a1 != a7 then oR ((false,()),()) else bif a2 != a8 then oR ((false,()),()) else bif a3 != a9 then oR ((false,()),()) else bif a4 != a10 then oR ((false,()),()) else oR ((bZ a5 a11,()),())
theorem Cz (a0 a1 a2 a3 a4:Int)(a5:List bc.den)(a6 a7 a8 a9 a10:Int)(a11:List bc.den):Io.run tt Er dr wA dW Tryd.f14 (((a0,a1,a2,a3,a4,a5,()),(a6,a7,a8,a9,a10,a11,()),()),())=pT a0 a1 a2 a3 a4 a5 a6 a7 a8 a9 a10 a11:=by kernel_rfl
theorem wH:HcOk prog 14 (ah dW oT):=by
 refine cq (cs:=vL) (.cons Ci .nil) (lp:=wA) (fn:=Tryd.f14) dW (.done (by kernel_rfl)) oT ?_
 rintro ⟨⟨⟨(a0:Int),(a1:Int),(a2:Int),(a3:Int),(a4:Int),(a5:List bd),⟨⟩⟩,⟨(b0:Int),(b1:Int),(b2:Int),(b3:Int),(b4:Int),(b5:List bd),⟨⟩⟩,⟨⟩⟩,⟨⟩⟩ out hw ho
 cases ho
 refine (Cz a0 a1 a2 a3 a4 a5 b0 b1 b2 b3 b4 b5).trans ?_
 show _=oR ((cd (a0,a1,a2,a3,a4,a5,()) (b0,b1,b2,b3,b4,b5,()),()),())
 have fin:∀c:Bool,(c=true↔((a0,a1,a2,a3,a4,a5,()):dm)=(b0,b1,b2,b3,b4,b5,()))→some (Out.ret ((c,()),()):dW.Res)=oR ((cd (a0,a1,a2,a3,a4,a5,()) (b0,b1,b2,b3,b4,b5,()),()),()):=by
  intro c hc
  have:c=cd (a0,a1,a2,a3,a4,a5,()) (b0,b1,b2,b3,b4,b5,()):=Bool.eq_iff_iff.2 (hc.trans fe.symm)
  rw[this]
 unfold pT
 by_cases h0:a0=b0
 rotate_left
 ·exact (aa (by simpa using h0) _ _).trans (fin false (wE fun h=>h0 (congrArg Prod.fst h)))
 refine bF (by simpa using h0) ?_
 by_cases h1:a1=b1
 rotate_left
 ·exact (aa (by simpa using h1) _ _).trans (fin false (wE fun h=>h1 (congrArg (fun x:dm=>x.2.1) h)))
 refine bF (by simpa using h1) ?_
 by_cases h2:a2=b2
 rotate_left
 ·exact (aa (by simpa using h2) _ _).trans (fin false (wE fun h=>h2 (congrArg (fun x:dm=>x.2.2.1) h)))
 refine bF (by simpa using h2) ?_
 by_cases h3:a3=b3
 rotate_left
 ·exact (aa (by simpa using h3) _ _).trans (fin false (wE fun h=>h3 (congrArg (fun x:dm=>x.2.2.2.1) h)))
 refine bF (by simpa using h3) ?_
 by_cases h4:a4=b4
 rotate_left
 ·exact (aa (by simpa using h4) _ _).trans (fin false (wE fun h=>h4 (congrArg (fun x:dm=>x.2.2.2.2.1) h)))
 refine (ab (by simpa using h4) _ _).trans (fin _ ?_)
 rw[bN]
 constructor
 ·intro h
  rw[h0,h1,h2,h3,h4,h]
 ·intro h
  exact congrArg (fun x:dm=>x.2.2.2.2.2.1) h
abbrev gF:Io:=⟨[oI,KN,GD],[],[],[dB],none⟩
def xC (d:gF.In):Tr gF.Res:=.ret (.ret ((!aQ d.1.1 d.1.2.1 d.1.2.2.1,()),()))
abbrev Ag:List (Nat×Hc):=[]
def Hb:Hd:=bV Ag
def AY:Lp:=cb []
def rY (a0 a1 a2:Int):Option gF.Res:=bif decide (a0<0) then bif a0 == -1 then bif a1 == -1 then oR ((a2 == -1,()),()) else oR ((false,()),()) else oR ((false,()),()) else bif decide (0≤a1) then oR ((decide (0≤a2),()),()) else oR ((false,()),())
theorem FQ (a0 a1 a2:Int):Io.run tt Hb dr AY gF Tryd.f26 ((a0,a1,a2,()),())=rY a0 a1 a2:=by kernel_rfl
theorem HA:HcOk prog 26 (ah gF xC):=by
 refine cq (cs:=Ag) HcsOk.nil (lp:=AY) (fn:=Tryd.f26) gF (.done (by kernel_rfl)) xC ?_
 rintro ⟨⟨(pid:Int),(ep:Int),(sq:Int),⟨⟩⟩,⟨⟩⟩ out hw ho
 cases ho
 refine (FQ pid ep sq).trans ?_
 show _=oR ((!(if pid = -1∧ep = -1∧sq = -1∨0≤pid∧0≤ep∧0≤sq then false else true),()),())
 have key:∀c:Prop,[Decidable c]→∀b:Bool,(b=true↔c)→some (Out.ret ((b,()),()):gF.Res)=oR ((!(if c then false else true),()),()):=by
  intro c _ b h
  by_cases hc:c
  ·rw[if_pos hc,h.2 hc];rfl
  ·rw[if_neg hc]
   cases b with
   |false=>rfl
   |true=>exact absurd (h.1 rfl) hc
 unfold rY
 by_cases h1:pid<0
 ·refine bT (decide_eq_true h1) ?_
  by_cases h2:pid = -1
  ·refine bT (by simp[h2]) ?_
   by_cases h3:ep = -1
   ·refine bT (by simp[h3]) ?_
    exact key _ _ (by simp;omega)
   ·refine bF (by simp[h3]) ?_
    exact key _ _ (by simp;omega)
  ·refine bF (by simp[h2]) ?_
   exact key _ _ (by simp;omega)
 ·refine bF (decide_eq_false h1) ?_
  by_cases h2:0≤ep
  ·refine bT (decide_eq_true h2) ?_
   exact key _ _ (by simp;omega)
  ·refine bF (decide_eq_false h2) ?_
   exact key _ _ (by simp;omega)
def cn (a b:Int):Int×Bool:=if aB (a - b)=true then (a - b,true) else (0,false)
abbrev fF:Io:=⟨[oI,oI],[],[],[oI,dB],none⟩
def xE (d:fF.In):Tr fF.Res:=.ret (.ret (((cn d.1.1 d.1.2.1).1,(cn d.1.1 d.1.2.1).2,()),()))
abbrev Ai:List (Nat×Hc):=[]
def He:Hd:=bV Ai
def AZ:Lp:=cb []
def r9 (a0 a1:Int):Option fF.Res:=bif decide (0≤a1) then bif decide (a0<i64.wrap (-9223372036854775808+a1)) then oR ((0,false,()),()) else bif decide (a1<0) then bif decide (i64.wrap (9223372036854775807+a1)<a0) then oR ((0,false,()),()) else oR ((i64.wrap (a0 - a1),true,()),()) else oR ((i64.wrap (a0 - a1),true,()),()) else bif decide (a1<0) then bif decide (i64.wrap (9223372036854775807+a1)<a0) then oR ((0,false,()),()) else oR ((i64.wrap (a0 - a1),true,()),()) else oR ((i64.wrap (a0 - a1),true,()),())
theorem FS (a0 a1:Int):Io.run tt He dr AZ fF Tryd.f59 ((a0,a1,()),())=r9 a0 a1:=by kernel_rfl
theorem HC:HcOk prog 59 (ah fF xE):=by
 refine cq (cs:=Ai) HcsOk.nil (lp:=AZ) (fn:=Tryd.f59) fF (.done (by kernel_rfl)) xE ?_
 rintro ⟨⟨(a:Int),(b:Int),⟨⟩⟩,⟨⟩⟩ out hw ho
 cases ho
 refine (FS a b).trans ?_
 have ha:aS .i64 a:=hw.1.1
 have hb:aS .i64 b:=hw.1.2.1
 have ha:=jG ha
 have hb:=jG hb
 show _=oR (((cn a b).1,(cn a b).2,()),())
 unfold r9
 have fin:aB (a - b)=true→some (Out.ret ((i64.wrap (a - b),true,()),()):fF.Res)=oR (((cn a b).1,(cn a b).2,()),()):=by
  intro h
  have e:cn a b=(a - b,true):=by unfold cn;rw[if_pos h]
  rw[e,ag (dQ.1 h).1 (dQ.1 h).2]
 have fin2:aB (a - b)=false→some (Out.ret ((0,false,()),()):fF.Res)=oR (((cn a b).1,(cn a b).2,()),()):=by
  intro h
  have e:cn a b=(0,false):=by unfold cn;rw[if_neg (by rw[h];exact fun h=>by cases h)]
  rw[e]
 have fy:(-9223372036854775808≤a - b∧a - b≤9223372036854775807)→aB (a - b)=true:=fun h=>dQ.2 h
 have fn:¬(-9223372036854775808≤a - b∧a - b≤9223372036854775807)→aB (a - b)=false:=fun h=>by
  cases h2:aB (a - b) with
  |false=>rfl
  |true=>exact absurd (dQ.1 h2) h
 by_cases h0:0≤b
 ·refine bT (decide_eq_true h0) ?_
  rw[ag (n:=-9223372036854775808+b) (by omega) (by omega)]
  by_cases h1:a < -9223372036854775808+b
  ·exact (aa (decide_eq_true h1) _ _).trans (fin2 (fn (by omega)))
  ·refine bF (decide_eq_false h1) ?_
   exact (ab (decide_eq_false (by omega)) _ _).trans (fin (fy (by omega)))
 ·refine bF (decide_eq_false h0) ?_
  refine bT (decide_eq_true (show b<0 by omega)) ?_
  rw[ag (n:=9223372036854775807+b) (by omega) (by omega)]
  by_cases h1:9223372036854775807+b<a
  ·exact (aa (decide_eq_true h1) _ _).trans (fin2 (fn (by omega)))
  ·exact (ab (decide_eq_false h1) _ _).trans (fin (fy (by omega)))
end
end Go.Proofs.YtcbcbjdobbgddaaDoor.Sym
namespace Go.Proofs.YtcbcbjdobbgddaaDoor.Sym
open Go
noncomputable section
end
end Go.Proofs.YtcbcbjdobbgddaaDoor.Sym
namespace Go.Proofs.YtcbcbjdobbgddaaDoor.Sym
open Go
open Go.IntKind (i8 i16 i32 i64 u8 u16 u32 u64)
noncomputable section
theorem Aw {n:Int}(h : -9223372036854775808≤n)(h':n≤9223372036854775807):aS .i64 n:=by simp[aS,IntKind.min,IntKind.max,IntKind.signed,IntKind.bits];omega
theorem F7 (m:Nat)(t:Int)(b:LI)(p:Int):0≤(ac m t b p).1∧(ac m t b p).1<18446744073709551616:=by
 unfold ac
 split
 ·exact ⟨by decide,by decide⟩
 split
 ·simp only;omega
 ·simp only;omega
theorem Gd (b:LI):aS .i64 (bD b).1.1∧aS .i32 (bD b).1.2.1:=by
 have h0:aS .i64 bj.1∧aS .i32 bj.2.1:=⟨Aw (n:=0) (by omega) (by omega),(⟨by decide,by decide⟩:aS .i32 0)⟩
 have hz:=F7 10 1 b 1
 have h1:aS .i64 (ao (ac 10 1 b 1).1):=by
  unfold ao
  split
  ·exact Aw (by omega) (by omega)
  ·exact Aw (by omega) (by omega)
 have h2:aS .i32 (af b (ac 10 1 b 1).2.1).1:=bL _ _
 unfold bD
 repeat' split
 all_goals first | exact h0 | exact ⟨h1,h2⟩
theorem Gb (b:LI)(p:Int):aS .i64 (ak b p).1.1∧aS .i32 (ak b p).1.2.1:=by
 have h0:aS .i64 bj.1∧aS .i32 bj.2.1:=⟨Aw (n:=0) (by omega) (by omega),(⟨by decide,by decide⟩:aS .i32 0)⟩
 unfold ak
 repeat' split
 all_goals first | exact h0 | exact Gd _
end
end Go.Proofs.YtcbcbjdobbgddaaDoor.Sym
namespace Go.Proofs.YtcbcbjdobbgddaaDoor.Sym
open Go
noncomputable section
theorem xh (b:LI):(cO b).1.length≤32768:=by
 unfold cO
 repeat' split
 all_goals first | (simp;done) | skip
 rw[gH]
 have h:=qF (ao (ac 10 1 b 0).1)
 have:=sQ ((b.drop (ac 10 1 b 0).2.1.toNat).length+1) (b.drop (ac 10 1 b 0).2.1.toNat) [] (bv (ao (ac 10 1 b 0).1)) h.1
 simp only
 omega
end
end Go.Proofs.YtcbcbjdobbgddaaDoor.Sym
namespace Go.Proofs.YtcbcbjdobbgddaaDoor.Sym
open Go
open Go.IntKind (i8 i16 i32 i64 u8 u16 u32 u64)
noncomputable section
abbrev Kb:Type:=LI×Int×Int×Int×Unit
def xj (d:Kb):AS:=⟨[.one (.ptr 0 0),.one (.int .i64 d.2.1),.one (.int .i32 d.2.2.1)]++List.replicate 35 .any,[],[some [.ex 5 (.int .u8) 0 d.1 1 1,.int .i64 d.2.2.2.1]]⟩
def ya:Hd:=bV []
abbrev f32:Func:=Tryd.f41
def oJ:Func:={ f32 with results:=f32.results.push (.tmp 0) }
abbrev ew:Lo:=⟨⟨(.one (.ptr 0 0)::.one hI::.one hJ::.any::an (.one hI::.any::an [])),[some [.exl 5 (Ty.int u8) 2 2,hI]]⟩,[(.exit 0,⟨(.one (.ptr 0 0)::.any::an (an (di []))),[some [.exl 5 (Ty.int u8) 2 2,hI]]⟩)]⟩
def fu (xs:LI)(p:Nat)(v:Int):LI:=(((xs.set p (v / 256 ^ 3 % 256)).set (p+1) (v / 256 ^ 2 % 256)).set (p+2) (v / 256 ^ 1 % 256)).set (p+3) (v / 256 ^ 0 % 256)
theorem qL (xs:LI)(p:Nat)(v:Int):(fu xs p v).length=xs.length:=by simp[fu]
theorem CN (A T:LI)(a b c d v:Int):fu (A++a::b::c::d::T) A.length v=A++(ap v 4++T):=by
 simp[fu,ap,List.set_append]
def l4 (d:ew.st.den):Tr (aA ew.xs):=
 .ite (decide (d.1.2.2.1=0)&&(decide ((0:Int)≤d.1.1)&&decide (d.1.1+4≤(d.2.1.1.length:Int)))) (.ret (.ret ((),((),((fu d.2.1.1 d.1.1.toNat d.1.2.1,(d.2.1.2.1,())),()))))) .no
def nC:Lp:=cb [(5,bg ew l4)]
def lQ {R:Type}(h4 h5 h6:Int)(h7:LI)(h8:Int)(next:Int→Int→Int→LI→Int→Option R)(out:aA ew.xs→Option R):Option R:=bif decide (h6<4) then bif decide (0≤i64.wrap (24 - i64.wrap (8*h6))) then bif decide ((↑0:Int)≤i64.wrap (h4+h6))&&decide (i64.wrap (h4+h6)<(↑0:Int)+(↑h7.length:Int)) then next (h4) (h5) (i64.wrap (h6+1)) (sU 0 (i64.wrap (h4+h6)).toNat h7 (u8.wrap (dl i32 h5 (i64.wrap (24 - i64.wrap (8*h6)))))) (h8) else none else none else out (.ret ((),((),((h7,(h8,())),()))))
def jN (n:Nat)(h4 h5 h6:Int)(h7:LI)(h8:Int):Option (aA ew.xs):=kC tt ya dr nC 1 oJ (dD oJ 0) n (ew.st.mk' ((h4,(h5,(h6,()))),((h7,(h8,())),()))) (cx ew.xs)
theorem wV (n:Nat)(h4 h5 h6:Int)(h7:LI)(h8:Int):jN (n+1) h4 h5 h6 h7 h8=lQ h4 h5 h6 h7 h8 (jN n) some:=by kernel_rfl
theorem K8 {v:Int}(h:aS .i32 v){i:Nat}(hi:i≤3):u8.wrap (dl i32 v (i64.wrap (24 - i64.wrap (8*(i:Int)))))=v / 256 ^ (3 - i) % 256:=by
 simp[aS,IntKind.min,IntKind.max,IntKind.signed,IntKind.bits] at h
 rw[ag (n:=8*(i:Int)) (by omega) (by omega),ag (n:=24 - 8*(i:Int)) (by omega) (by omega)]
 unfold dl
 have e:min (24 - 8*(i:Int)).toNat (i32).bits=8*(3 - i):=by
  show min (24 - 8*(i:Int)).toNat 32=_
  omega
 rw[e,show (2:Int) ^ (8*(3 - i))=256 ^ (3 - i) by rw[Int.pow_mul];rfl]
 have hp:(0:Int)<256 ^ (3 - i):=Int.pow_pos (by decide)
 rw[Int.fdiv_eq_ediv_of_nonneg _ (Int.le_of_lt hp)]
 have hr:aS .i32 (v / 256 ^ (3 - i)):=by
  have h1:v / 256 ^ (3 - i)=v.fdiv (2 ^ (8*(3 - i))):=by
   rw[show (2:Int) ^ (8*(3 - i))=256 ^ (3 - i) by rw[Int.pow_mul];rfl,Int.fdiv_eq_ediv_of_nonneg _ (Int.le_of_lt hp)]
  have h2:=v8 .i32 (x:=v) (8*(3 - i)) (by simp[aS,IntKind.min,IntKind.max,IntKind.signed,IntKind.bits];omega)
  rw[h1,← h2]
  exact bL _ _
 rw[bU hr]
 simp[IntKind.wrap,IntKind.signed,IntKind.bits]
theorem EG {v:Int}(hv:aS .i32 v)(m:Int)(p k:Nat)(xs:LI)(h0:p+4≤xs.length)(hl:xs.length≤maxLen):jN (k+5) p v 0 xs m=some (.ret ((),((),((fu xs p v,(m,())),())))):=by
 rw[cc] at hl
 have go:∀(j i:Nat) (ys:LI),i≤3→ys.length=xs.length→jN (j+1) p v i ys m=jN j p v ((i+1:Nat):Int) (ys.set (p+i) (v / 256 ^ (3 - i) % 256)) m:=by
  intro j i ys hi hy
  rw[wV]
  unfold lQ
  rw[K8 hv hi]
  rw[ag (n:=(p:Int)+(i:Int)) (by omega) (by omega),ag (n:=(i:Int)+1) (by omega) (by omega),ag (n:=8*(i:Int)) (by omega) (by omega),ag (n:=24 - 8*(i:Int)) (by omega) (by omega)]
  refine bT (by simp;omega) ?_
  refine bT (by simp;omega) ?_
  refine bT (by simp only[zA,zB];omega) ?_
  rw[show ((p:Int)+(i:Int)).toNat=p+i by omega]
  rfl
 have g0:=go (k+4) 0 xs (by omega) rfl
 have g1:=go (k+3) 1 (xs.set (p+0) (v / 256 ^ (3 - 0) % 256)) (by omega) (by simp)
 have g2:=go (k+2) 2 ((xs.set (p+0) (v / 256 ^ (3 - 0) % 256)).set (p+1) (v / 256 ^ (3 - 1) % 256)) (by omega) (by simp)
 have g3:=go (k+1) 3 (((xs.set (p+0) (v / 256 ^ (3 - 0) % 256)).set (p+1) (v / 256 ^ (3 - 1) % 256)).set (p+2) (v / 256 ^ (3 - 2) % 256)) (by omega) (by simp)
 refine g0.trans (g1.trans (g2.trans (g3.trans ?_)))
 rw[wV]
 unfold lQ
 exact ab (by simp) _ _
theorem Kq:LpsOk prog 1 nC (yW oJ) 0:=by
 refine .step (h0:=bg ew l4) (by kernel_rfl) (lI (cs:=[]) HcsOk.nil (lp:=nC) (fn:=oJ) (.done (by kernel_rfl)) ew l4 ?_) (.done (by kernel_rfl))
 rintro ⟨⟨(p:Int),(v:Int),(i:Int),⟨⟩⟩,⟨⟨(xs:LI),(m:Int),⟨⟩⟩,⟨⟩⟩⟩ y hw hy
 obtain ⟨hg,hy⟩:=Tr.guard hy
 simp only[zA,zB] at hg
 obtain ⟨h1,h2,h3⟩:=hg
 have h1:i=0:=h1
 have h2:0≤p:=h2
 have h3:p+4≤(xs.length:Int):=h3
 subst h1
 obtain ⟨p,rfl⟩:=aN h2
 refine ⟨5,(EG (k:=0) hw.1.2.1 m p xs (by omega) hw.2.1.1.1).trans ?_⟩
 rw[← hy];rfl
def JN (ex:Ex)(A:AS):Option (Int×LI×Int):=match ex with
 |.ret=>match A.get 6,A.ob with
  |.one (.int .i64 r),some [.ex _ (.int .u8) lo xs _ _,.int .i64 m]::_=>bif Nat.beq lo 0 then some (r,xs,m) else none
  |_,_=>none
 |_=>none
theorem JO (xs:LI)(p v m:Int):ev tt ya dr nC 1 (eC oJ) (aV oJ) (eC oJ) [] (xj (xs,p,v,m,())) JN=bif decide (p<0) then some ((3:Int),xs,m) else bif decide (i64.wrap ((↑0:Int)+(↑xs.length:Int) - 4)<p) then some ((3:Int),xs,m) else (l4 ((p,(v,(0,()))),((xs,(m,())),()))).run fun y=>match y with | .ret ((),((),(x16,x17,()),()))=>some ((0:Int),x16,x17):=by kernel_rfl
def CA (w:World)(bw b:Nat):Nat→Nat→Prop:=fun b' o=>b'≠b∧b'≠bw∧∃v,w.cell? ⟨b',o,none⟩=some v
def uC (w:World)(bw b:Nat):Fra:=⟨w,fun b'=>b'=b∨b'=bw,CA w bw b,fun k=>if k=0 then some bw else none⟩
def n9 (w:World)(bw b:Nat):Gh:=⟨CA w bw b,fun k=>if k=0 then some bw else none,fun j=>if j=1 then some (b,0) else none⟩
theorem FT {w:World}{bw b:Nat}(hw:bw<w.heap.size)(hb:b<w.heap.size)(hne:bw≠b)(ht:ii (CA w bw b) w):GhOk (uC w bw b) (n9 w bw b) w where
 mu:=fun k b' h=>by
  simp only[n9] at h
  split at h
  ·cases h;exact ⟨.inr (.inr rfl),fun _ h=>h.2.1 rfl,hw⟩
  ·cases h
 muI:=fun k k' b' h h'=>by
  simp only[n9] at h h'
  split at h <;> split at h'
  ·rename_i e1 e2;exact e1.trans e2.symm
  ·cases h'
  ·cases h
  ·cases h
 ow:=fun i b' l h=>by
  simp only[n9] at h
  split at h
  ·cases h
   refine ⟨fun _ _ h=>h.1 rfl,.inr (.inl rfl),hb,fun k h=>?_⟩
   simp only[n9] at h
   split at h
   ·cases h;exact hne rfl
   ·cases h
  ·cases h
 owI:=fun i j b' l l' h h'=>by
  simp only[n9] at h h'
  split at h <;> split at h'
  ·rename_i e1 e2;exact e1.trans e2.symm
  ·cases h'
  ·cases h
  ·cases h
 sB:=fun b' o h=>by
  obtain ⟨_,_,v,h⟩:=h
  unfold World.cell? at h
  split at h
  ·rename_i e
   exact (Array.getElem?_eq_some_iff.1 e).1
  ·cases h
 fr:=⟨rfl,rfl,rfl,Nat.le_refl _,fun _ _ _=>rfl⟩
 sub:=fun _ _ h=>h
 sup:=fun _ _ h=>.inl h
 keep:=fun _ _ _=>rfl
 fix_:=fun _ _ h=>h
 tab:=ht
theorem CB (w:World)(xs:LI)(m v:Int)(bw b cap n:Nat)(curw cur:Array Value)(elw el:TypeId)(hw:w.heap[bw]?=some (.cells curw elw (0,0)))(hcw:curw.toList=[.slice (some ⟨b,0,none⟩) n cap,.int .i64 m])(hn:n=xs.length)
  (hh:w.heap[b]?=some (.cells cur el (0,0))) (hcs:cur.size=cap) (hle:xs.length≤cap) (hcap:cap≤maxLen) (hne:bw≠b) (ht:ii (CA w bw b) w) (h21:21≤xs.length) (hv:aS .i32 v) (hmm:aS .i64 m)
  (hx:∀(k:Nat) (x:Int),xs[k]?=some x→aS .u8 x∧cur[k]?=some (Value.int .u8 x)):
  Calls prog 41 #[.pointer (some ⟨bw,0,none⟩),.int .i64 17,.int .i32 v] w fun e w'=>e=.returned (.int .i64 0)∧(uC w bw b).ok w'∧(∀b' o,CA w bw b b' o→w'.cell? ⟨b',o,none⟩=w.cell? ⟨b',o,none⟩)∧
   ∃(b2 cap2:Nat) (curw2 cur2:Array Value) (elw2 el2:TypeId) (m':Int),w'.heap[bw]?=some (.cells curw2 elw2 (0,0))∧curw2.toList=[.slice (some ⟨b2,0,none⟩) xs.length cap2,.int .i64 m']∧(b2=b∨w.heap.size≤b2)∧b2≠bw∧b2<w'.heap.size∧
    w'.heap[b2]?=some (.cells cur2 el2 (0,0))∧cur2.size=cap2∧xs.length≤cap2∧cap2≤maxLen∧m'=m∧∀(k:Nat) (x:Int),(fu xs 17 v)[k]?=some x→aS .u8 x∧cur2[k]?=some (Value.int .u8 x):=by
 have htt:=dy Tryd.prog 400
 have hc:f32.body=some (aV oJ):=by kernel_rfl
 refine calls_of_wp (P:=prog) (fn:=f32) (by kernel_rfl) hc ?_
 have hxl:(xs.length:Int)≤9223372036854775807:=by rw[cc] at hcap;omega
 have R0:Rel (uC w bw b) (n9 w bw b) (xj (xs,17,v,m,())) (#[.pointer (some ⟨bw,0,none⟩),.int .i64 17,.int .i32 v]++Array.replicate (f32.ntmps - 3) undef) [] w:=by
  refine ⟨?_,trivial,fun k cs hk=>?_,FT (Av hw) (Av hh) hne ht⟩
  ·rw[show f32.ntmps - 3=35 by kernel_rfl,Array.toList_append,Array.toList_replicate]
   exact ⟨⟨bw,rfl,rfl⟩,⟨rfl,(⟨by decide,by decide⟩:aS .i64 17)⟩,⟨rfl,hv⟩,All2.replicate (R:=Rv (n9 w bw b) w) (a:=.any) (b:=undef) trivial 35⟩
  ·cases k with
   |succ k=>simp[xj] at hk
   |zero=>
    simp only[xj,List.getElem?_cons_zero,zC] at hk
    subst hk
    refine ⟨bw,_,rfl,hw,.inl ⟨curw,elw,rfl,?_⟩⟩
    rw[hcw]
    refine ⟨.inr ⟨b,cap,by rw[hn,Nat.zero_add],⟨by decide,by decide,.inl rfl⟩,cur,el,hh,by rw[hcs];simp[Ty.size],by rw[Nat.zero_add];exact hle,hcap,fun k x hk=>?_⟩,⟨rfl,hmm⟩,trivial⟩
    obtain ⟨h1,h2⟩:=hx k x hk
    refine ⟨[.int .u8 x],⟨rfl,h1⟩,fun q u hq=>?_⟩
    cases q with
    |succ q=>simp at hq
    |zero=>
     simp only[List.getElem?_cons_zero,zC] at hq
     subst hq
     simpa [Ty.size] using h2
 have hrun:ev tt ya dr nC 1 (eC oJ) (aV oJ) (eC oJ) [] (xj (xs,17,v,m,())) JN=some (0,fu xs 17 v,m):=by
  refine (JO xs 17 v m).trans ?_
  refine bF (by decide) ?_
  rw[ag (n:=(0:Int)+(xs.length:Int) - 4) (by omega) (by omega)]
  refine bF (decide_eq_false (by omega)) ?_
  unfold l4
  refine bT (by simp only[zA,zB];exact ⟨trivial,by decide,show (17:Int)+4≤(xs.length:Int) by omega⟩) ?_
  rfl
 have hkb:∀d,(uC w bw b).mu0 (1+d)=none:=fun d=>if_neg (by omega)
 refine cN htt hm (gS HcsOk.nil) (dj htt) hkb (lp:=nC) (aV oJ) (Kq.all) hrun R0 ?_
 intro ex A' G' a' w' R' hd hk
 cases ex with
 |normal=>cases hk
 |exit i=>cases hk
 |panic v=>cases hk
 |ret=>
  refine ⟨hd,?_⟩
  unfold JN at hk
  simp only at hk
  split at hk
  ·rename_i r0 e lo ys i j m0 rest e1 e2
   cases hz:Nat.beq lo 0 with
   |false=>rw[hz] at hk;cases hk
   |true=>
    rw[hz] at hk
    have hz:=Nat.eq_of_beq_eq_true hz
    subst hz
    simp only[cond_true,zC,zD] at hk
    obtain ⟨rfl,hys,rfl⟩:=hk
    have hyl:ys.length=xs.length:=by rw[hys];exact qL _ _ _
    have e0:f32.results.toList=[.tmp 6]:=by kernel_rfl
    obtain ⟨us,hres,hus⟩:=n8 (P:=prog) htt R' f32 (by
     rw[e0]
     intro v hv
     simp only[zL,List.map_nil,List.mem_singleton] at hv
     subst hv
     show A'.get 6≠.any
     rw[e1]
     exact fun h=>by cases h)
    rw[e0] at hus
    obtain ⟨u,rfl,hu⟩:∃u,us=[u]∧Rv G' w' (A'.get 6) u:=by
     cases us with
     |nil=>exact hus.elim
     |cons u us=>
      cases us with
      |nil=>exact ⟨u,rfl,hus.1⟩
      |cons _ _=>exact hus.2.elim
    rw[e1] at hu
    have hu:u=.int .i64 0:=hu.1
    subst hu
    obtain ⟨bo,oo,hm0,hh0,ho⟩:=R'.ob 0 [.ex e (.int .u8) 0 ys i j,.int .i64 m0] (by rw[e2];rfl)
    have hfx:=R'.gh.fix_ 0 bw rfl
    rw[hfx] at hm0
    cases hm0
    obtain ⟨curw2,elw2,rfl,hcs2⟩:=ho.cells (by simp[C.isItr])
    obtain ⟨v1,v2,hv12,hv1,hv2⟩:∃v1 v2,curw2.toList=[v1,v2]∧Rc G' w' (.ex e (.int .u8) 0 ys i j) v1∧Rc G' w' (.int .i64 m0) v2:=by
     match hl:curw2.toList with
     |[]=>rw[hl] at hcs2;exact hcs2.elim
     |[_]=>rw[hl] at hcs2;exact hcs2.2.elim
     |[v1,v2]=>rw[hl] at hcs2;exact ⟨v1,v2,rfl,hcs2.1,hcs2.2.1⟩
     |_::_::_::_=>rw[hl] at hcs2;exact hcs2.2.2.elim
    have hv2:v2=.int .i64 m0:=hv2.1
    subst hv2
    rcases hv1 with ⟨_,hnil,_⟩ | ⟨b2,cap2,rfl,⟨_,_,how⟩,cur2,el2,g1,g2,g3,g4,g5⟩
    ·rw[hnil] at hyl;simp at hyl;omega
    obtain ⟨l,how⟩:∃l,G'.ow l=some (b2,0):=by rcases how with h | h <;> exact ⟨_,h⟩
    obtain ⟨_,k2,k3,k4⟩:=R'.gh.ow l b2 0 how
    have hb2:b2≠bw:=by rintro rfl;exact k4 0 hfx
    rw[Nat.zero_add] at hv12 g3
    refine ⟨_,hres,rfl,R'.gh.fr,fun b' o hs=>R'.gh.keep b' o hs,b2,cap2,curw2,cur2,elw2,el2,m0,hh0,by rw[hv12,hyl],?_,hb2,k3,g1,by rw[g2];simp[Ty.size],by omega,g4,rfl,fun k x hk=>?_⟩
    ·rcases k2 with h | h | h
     ·exact .inr h
     ·exact .inl h
     ·exact absurd h hb2
    ·rw[← hys] at hk
     obtain ⟨c,⟨rfl,hin⟩,hq⟩:=g5 k x hk
     have:=hq 0 _ rfl
     exact ⟨hin,by simpa [Ty.size] using this⟩
  ·cases hk
end
end Go.Proofs.YtcbcbjdobbgddaaDoor.Sym
namespace Go.Proofs.YtcbcbjdobbgddaaDoor.Sym
open Go
noncomputable section
abbrev mw:Io:=fC
def zc (d:mw.In):Tr mw.Res:=
 .ite (aU (aj d.1.1.2.2.2.2.2.1) d.1.1.2.2.2.2.2.1 0&&decide (ar d.1.1≠0)) (.ret (.ret ((([]:LI),(ar d.1.1,())),()))) .no
theorem E7:HcOk prog 33 (ah mw zc):=by
 refine HcOk.weakB uq ?_
 rintro ⟨⟨(b:dm),⟨⟩⟩,⟨⟩⟩ y hw hy
 obtain ⟨hg,hy⟩:=Tr.guard hy
 simp only[zA,zB] at hg
 obtain ⟨h1,h2⟩:=hg
 rw[← hy]
 have e:ct b=([],ar b):=by unfold ct;rw[if_pos h2]
 show (kR ((b,()),())).val=some (.ret ((([]:LI),(ar b,())),()))
 unfold kR
 rw[Tr.val_ite,if_pos h1,Tr.val_ret]
 show oR (((ct b).1,((ct b).2,())),())=_
 rw[e]
abbrev my:Io:=fC
def zd (d:my.In):Tr my.Res:=
 .ite (aU (aj d.1.1.2.2.2.2.2.1) d.1.1.2.2.2.2.2.1 0&&decide (ar d.1.1=0)) (.ret (.ret (((aE d.1.1.2.2.2.2.2.1).1,(0,())),()))) .no
theorem E8:HcOk prog 33 (ah my zd):=by
 refine HcOk.weakB uq ?_
 rintro ⟨⟨(b:dm),⟨⟩⟩,⟨⟩⟩ y hw hy
 obtain ⟨hg,hy⟩:=Tr.guard hy
 simp only[zA,zB] at hg
 obtain ⟨h1,h2⟩:=hg
 rw[← hy]
 have e:ct b=((aE b.2.2.2.2.2.1).1,0):=by unfold ct;rw[if_neg (by rw[h2];exact fun h=>h rfl)]
 show (kR ((b,()),())).val=some (.ret (((aE b.2.2.2.2.2.1).1,(0,())),()))
 unfold kR
 rw[Tr.val_ite,if_pos h1,Tr.val_ret]
 show oR (((ct b).1,((ct b).2,())),())=_
 rw[e]
abbrev Ay:Io:=⟨[q9,dB],[],[],[dO,dI],none⟩
abbrev zv:List (Nat×Hc):=[(33,ah mw zc)]
def GO:Hd:=bV zv
def AE:Lp:=cb []
def rA (a0 a1 a2 a3 a4:Int)(a5:List bc.den)(a6:Bool):Option Ay.Res:=bif aU (aj a5) a5 0&&decide (ar (a0,a1,a2,a3,a4,a5,())≠0) then bif ar (a0,a1,a2,a3,a4,a5,()) != 0 then oR (([],ar (a0,a1,a2,a3,a4,a5,()),()),()) else bif a6 then none else none else none
theorem Fq (a0 a1 a2 a3 a4:Int)(a5:List bc.den)(a6:Bool):Io.run tt GO dr AE Ay Tryd.f17 (((a0,a1,a2,a3,a4,a5,()),a6,()),())=rA a0 a1 a2 a3 a4 a5 a6:=by kernel_rfl
end
end Go.Proofs.YtcbcbjdobbgddaaDoor.Sym
namespace Go.Proofs.YtcbcbjdobbgddaaDoor.Sym
open Go
open Go.IntKind (i8 i16 i32 i64 u8 u16 u32 u64)
noncomputable section
def qQ:Nat→Code→Code
 |0,c=>c
 |n+1,.seq _ b=>qQ n b
 |_+1,c=>c
def IY (tt:TT)(hd:Hd)(dr:Dr)(lr:Nat){R:Type}:Nat→Code→AS→(AS→Option R)→Option R
 |0,_,A,K=>K A
 |n+1,.seq a b,A,K=>ev tt hd dr (fun _=>none) 0 lr a lr [] A fun ex A=>match ex with
  |.normal=>IY tt hd dr lr n b A K
  |_=>none
 |_+1,_,_,_=>none
theorem xY {P:Program}{tt:TT}(htt:ca P tt)(hm:P.follows .mixedOrders=true){hd:Hd}(hh:iv P hd){okDraw:Dr}(hdr:gO P tt okDraw){R:Type}{F:Fra}{cst:List (Array Value)}{lr:Nat}(hkb:∀d,F.mu0 (0+d)=none){r:R}{Q:Exit→Act→World→Prop}:
  ∀(n:Nat) (c:Code) {G:Gh} {A:AS} {a:Act} {w:World} {K:AS→Option R},IY tt hd okDraw lr n c A K=some r→Rel F G A a.tmps cst w→
   (∀A' G' a' w',Rel F G' A' a'.tmps cst w'→a'.defers=a.defers→K A'=some r→(qQ n c).wp P Q a' w')→c.wp P Q a w:=by
 intro n
 induction n with
 |zero=>intro c G A a w K h Rl k;exact k A G a w Rl rfl h
 |succ n ih=>
  intro c G A a w K h Rl k
  cases c with
  |seq x y=>
   refine wp_seq (cN htt hm hh hdr hkb (lp:=fun _=>none) x (fun _ _ _ h=>by cases h) h Rl ?_)
   intro ex A1 G1 a1 w1 R1 hd1 h1
   cases ex with
   |normal=>exact ih y h1 R1 (by rw[hd1];exact k)
   |exit i=>cases h1
   |ret=>cases h1
   |panic v=>cases h1
  |_=>cases h
theorem Dg {G:Gh}{w:World}:∀{n:Nat} {us:List Value},us.length=n→All2 (Rv G w) (List.replicate n .any) us
 |0,[],_=>trivial
 |n+1,_::us,h=>⟨trivial,Dg (n:=n) (us:=us) (by simpa using h)⟩
 |0,_::_,h=>by cases h
 |_+1,[],h=>by cases h
abbrev fE:Func:=Tryd.f17
abbrev DA:List (Nat×Hc):=[(33,ah my zd),(30,ah gu s4),(35,ah tX Ix),(36,ah tW Iw),(37,ah tV Iv),(39,ah tU Iu),(38,ah AA Ka),(40,ah tY Iy),(43,ah gd tl),(42,ah gv s6)]
theorem tL:HcsOk prog DA:=.cons E8 (.cons Ba (.cons Jp (.cons Jo (.cons Jn (.cons Jm (.cons Kw (.cons Jq (.cons Fj (.cons Bc .nil)))))))))
def tM:Hd:=bV DA
abbrev fV:Io:=⟨[q9,dB],[],[],[dO,dI],none⟩
def IV (A:AS):Option (LI×Int×Int):=match A.stk,A.get 9,A.get 94,A.get 100 with
 |[],.one (.ptr k 0),.one (.ptr k' 0),.one (.int .i32 v)=>match A.ob[k]? with
  |some (some [.lst _ (.int .u8) xs own,.int .i64 m])=>bif Nat.beq A.tm.length 104&&(Nat.beq k k'&&!Nat.beq own 0) then some (xs,m,v) else none
  |_=>none
 |_,_,_,_=>none
def ge:Array Oper:=gg (ja (qQ 20 (aV fE)))
def nF:Code:=gj (qQ 20 (aV fE))
def KV (b:dm)(packed:Bool):Option (LI×Int×Int):=
 IY tt tM dr (eC fE) 20 (aV fE) (Io.start fV fE.ntmps ((b,packed,()),())) fun A=>jg tt tM 0 ge (List.range 7) A fun ex A=>match ex with
  |.normal=>IV A
  |_=>none
def cD {R:Type}(L:LI)(n:Nat)(p:LI)(K:LI→Option R):Option R:=bif oq L 36000 n then K (L++p) else none
def tF (a0 a1 a2 a3 a4:Int)(a5:List bc.den)(a6:Bool):Option (LI×Int×Int):=
 bif aU (aj a5) a5 0&&decide (ar (a0,a1,a2,a3,a4,a5,())=0) then bif a6 then none else
  cD [] 8 (ap a0 8) fun L=>cD L 4 (ap (i32.wrap (i64.wrap (49+((aE a5).1.length:Int)))) 4) fun L=>cD L 4 (ap a1 4) fun L=>cD L 1 (ap 2 1) fun L=>cD L 4 (ap 0 4) fun L=>cD L 2 (ap 0 2) fun L=>
  cD L 4 (ap (i32.wrap (i64.wrap ((a5.length:Int) - 1))) 4) fun L=>bif decide ((0:Int)≤0)&&decide ((0:Int)<(a5.length:Int)) then cD L 8 (ap (a5.getD (Int.toNat 0) (0,(false,[],()),(false,[],()),[],())).1 8) fun L=>
  bif decide (1≤a5.length) then cD L 8 (ap (cR a5) 8) fun L=>cD L 8 (ap a2 8) fun L=>cD L 2 (ap a3 2) fun L=>cD L 4 (ap a4 4) fun L=>cD L 4 (ap (i32.wrap (a5.length:Int)) 4) fun L=>
  cD L (bk [(aE a5).1]) (eZ [(aE a5).1]) fun L=>bif decide (List.length L≤4294967296) then bif decide ((0:Int)≤21)&&(decide ((21:Int)≤(L.length:Int))&&decide ((L.length:Int)≤(L.length:Int))) then
   some (L,36000,i32.wrap (nJ [List.drop (Int.toNat 21) (List.take (L.length:Int).toNat L)] 0)) else none else none else none else none else none
theorem IW (a0 a1 a2 a3 a4:Int)(a5:List bc.den)(a6:Bool):KV (a0,a1,a2,a3,a4,a5,()) a6=tF a0 a1 a2 a3 a4 a5 a6:=by kernel_rfl
def vP (xs:LI)(m:Int):AS:=⟨(List.replicate 104 .any).set 9 (.one (.ptr 0 0)),[],[some [.lst 5 (.int .u8) xs 1,.int .i64 m]]⟩
theorem GG (xs:LI)(m:Int):ev tt tM dr (fun _=>none) 0 (eC fE) nF (eC fE) [] (vP xs m) (Io.fin tt fV fE)=bif decide (xs.length≤4294967296) then some (.ret ((xs,0,()),())) else none:=by kernel_rfl
theorem GH {xs:LI}{m v:Int}{out:fV.Res}{F:Fra}{G2:Gh}{A2:AS}{a2:Act}{cst:List (Array Value)}{w w2:World}{R:Ending→World→Prop}
  (hkb:∀d,F.mu0 (0+d)=none) (hq:F.w0=w∧∀b,¬ F.X b) (hS0:∀b o,F.S0 b o→b<w.heap.size) (htab:ii F.S0 F.w0)
  (R2:Rel F G2 A2 a2.tmps cst w2) (hd2:a2.defers=[]) (hK:IV A2=some (xs,m,v)) (h21:21≤xs.length)
  (hrest:ev tt tM dr (fun _=>none) 0 (eC fE) nF (eC fE) [] (vP (fu xs 17 v) m) (Io.fin tt fV fE)=some out)
  (hend:∀ex A' G' a' w',Rel F G' A' a'.tmps cst w'→Io.fin tt fV fE ex A'=some out→IQ prog fE R ex G' a' w'):
  wpOps prog ge (Exit.then (nF.wp prog (bodyPost prog fE R)) (bodyPost prog fE R)) [7] a2 w2:=by
 have htt:=dy Tryd.prog 400
 have hX:∀b,F.mine b→w.heap.size≤b:=fun b h=>by
  rcases h with h | h
  ·rw[hq.1] at h;exact h
  ·exact absurd h (hq.2 b)
 unfold IV at hK
 split at hK
 rotate_left
 ·cases hK
 rename_i k k' v' hstk e9 e94 e100
 split at hK
 rotate_left
 ·cases hK
 rename_i e xs' own m' eob
 cases hck:Nat.beq A2.tm.length 104&&(Nat.beq k k'&&!Nat.beq own 0) with
 |false=>rw[hck] at hK;cases hK
 |true=>
 rw[hck] at hK
 simp only[cond_true,zC,zD] at hK
 obtain ⟨rfl,rfl,rfl⟩:=hK
 simp only[zA,Bool.not_eq_true'] at hck
 obtain ⟨hl104,hkk,hown⟩:=hck
 have hl104:=Nat.eq_of_beq_eq_true hl104
 have hkk:=Nat.eq_of_beq_eq_true hkk
 subst hkk
 have hown:own≠0:=fun h=>by rw[h] at hown;cases hown
 have hcst:cst=[]:=by
  have:=R2.stk
  rw[hstk] at this
  cases cst with
  |nil=>rfl
  |cons _ _=>exact this.elim
 have v9:=R2.get 9
 rw[e9] at v9
 obtain ⟨bw,hbw,v9⟩:=v9
 have v94:=R2.get 94
 rw[e94] at v94
 obtain ⟨bw',hbw',v94⟩:=v94
 rw[hbw] at hbw'
 cases hbw'
 have v100:=R2.get 100
 rw[e100] at v100
 obtain ⟨v100,hvr⟩:=v100
 obtain ⟨bo,curw,elw,hbo,hhw,hcs⟩:=R2.ob.cells eob (by simp[C.isItr])
 rw[hbw] at hbo
 cases hbo
 obtain ⟨v1,v2,hv12,hv1,hv2⟩:∃v1 v2,curw.toList=[v1,v2]∧Rc G2 w2 (.lst e (.int .u8) xs' own) v1∧Rc G2 w2 (.int .i64 m') v2:=by
  match hl:curw.toList with
  |[]=>rw[hl] at hcs;exact hcs.elim
  |[_]=>rw[hl] at hcs;exact hcs.2.elim
  |[v1,v2]=>rw[hl] at hcs;exact ⟨v1,v2,rfl,hcs.1,hcs.2.1⟩
  |_::_::_::_=>rw[hl] at hcs;exact hcs.2.2.elim
 obtain ⟨rfl,hmr⟩:=hv2
 obtain ⟨Ad,cap,rfl,hle,hcap,hrow,hownA⟩:=hv1
 have hne:xs'≠[]:=fun h=>by rw[h] at h21;simp at h21
 rcases hownA with h | ⟨h,h'⟩ | ⟨b,cur,el,rfl,how,hhb,hcsz⟩
 ·exact absurd h hown
 ·subst h
  obtain ⟨_,_,h,_⟩:=hrow hne
  cases h
 obtain ⟨k1,k2,k3,k4⟩:=R2.gh.ow own b _ how
 obtain ⟨m1,m2,m3⟩:=R2.gh.mu k bw hbw
 have hbne:bw≠b:=fun h=>k4 k (by rw[hbw,h])
 obtain ⟨b',o',hA,hel⟩:=hrow hne
 cases hA
 have hx:∀(k:Nat) (x:Int),xs'[k]?=some x→aS .u8 x∧cur[k]?=some (Value.int .u8 x):=by
  intro k x hk
  obtain ⟨c,⟨rfl,hin⟩,hat⟩:=hel k x hk
  obtain ⟨_,hc⟩:=hat 0 _ rfl
  refine ⟨hin,?_⟩
  rw[dP hhb] at hc
  simpa [Ty.size] using hc
 have hSne:∀b' o,F.S0 b' o→b'≠b∧b'≠bw:=by
  intro b' o h
  have:=hS0 b' o h
  have h1:=hX b k2
  have h2:=hX bw m1
  omega
 have htab2:ii (CA w2 bw b) w2:=by
  intro g i hg hi
  obtain ⟨t1,t2⟩:=htab g i hg hi
  have t3:=R2.gh.tabs g i hg hi
  exact ⟨⟨(hSne _ _ t1).1,(hSne _ _ t1).2,_,t3.2⟩,t3.2⟩
 have hcalls:=CB w2 xs' m' v' bw b cap xs'.length curw cur elw el hhw hv12 rfl hhb (by rw[hcsz];simp[Ty.size]) hle hcap hbne htab2 h21 hvr hmr hx
 simp only[wpOps]
 have ho:ge[7]?=some { dst:=some 101,op:=.call { callee:=.value (.func 41),args:=#[.tmp 94,.const (.int .i64 17),.tmp 100],argTypes:=(match ((ge[7]?).getD ge[0]!).op with | .call c=>c.argTypes | _=>#[]) },type:=((ge[7]?).getD ge[0]!).type,pos:=((ge[7]?).getD ge[0]!).pos,after:=((ge[7]?).getD ge[0]!).after,guard:=none }:=by kernel_rfl
 rw[ho]
 simp only
 rw[if_pos (by simp[Region.wanted])]
 refine .inl ?_
 have hfn:FnOk prog 41:=⟨f32,by kernel_rfl,by kernel_rfl,by kernel_rfl⟩
 have hev:a2.eval (.tmp 94)=.pointer (some ⟨bw,0,none⟩):=v94
 have hev2:a2.eval (.tmp 100)=.int .i32 v':=v100
 unfold Oper.wp
 have hrun:∀o:Oper,o.op=.call { callee:=.value (.func 41),args:=#[.tmp 94,.const (.int .i64 17),.tmp 100],argTypes:=(match ((ge[7]?).getD ge[0]!).op with | .call c=>c.argTypes | _=>#[]) }→(execOp a2.eval o).run prog w2=.ok (.enter 41 #[.pointer (some ⟨bw,0,none⟩),.int .i64 17,.int .i32 v']) w2:=by
  intro o ho
  simp[execOp,ho,resolve,Act.eval,Deferred.ofValue,invoke,hfn.run]
  exact ⟨by rw[← Array.getD_eq_getD_getElem?];exact v94,by rw[← Array.getD_eq_getD_getElem?];exact v100⟩
 rw[hrun _ rfl]
 simp only[Oper.upon]
 refine hcalls.mono fun en w3 ⟨hen,hfr,hkeep,b2,cap2,curw2,cur2,elw2,el2,m2',g1,g2,g3,g4,g5,g6,g7,g8,g9,g10,g11⟩=>?_
 subst hen
 subst g10
 show nF.wp prog (bodyPost prog fE R) (a2.put (some 101) (.int .i64 0)) w3
 have R2p:=R2.puts (v:=.any) (u:=.int .i64 0) trivial (some 101)
 have hlen:(a2.put (some 101) (.int .i64 0)).tmps.toList.length=104:=by
  rw[← R2p.tm.length]
  show (A2.put (some 101) .any).tm.length=104
  simp[AS.put,hl104]
 have hget9:(a2.put (some 101) (.int .i64 0)).tmps.toList[9]?=some (.pointer (some ⟨bw,0,none⟩)):=by
  have h9:A2.tm[9]?=some (.one (.ptr k 0)):=by
   unfold AS.get at e9
   rw[List.getD_eq_getElem?_getD] at e9
   cases h:A2.tm[9]? with
   |none=>rw[h] at e9;cases e9
   |some x=>rw[h] at e9;simpa using e9
  have h9':(A2.put (some 101) .any).tm[9]?=some (.one (.ptr k 0)):=by
   simp[AS.put,List.getElem?_set,h9]
  obtain ⟨u,hu,hr⟩:=R2p.tm.get h9'
  obtain ⟨bq,hbq,hr⟩:=hr
  rw[hbw] at hbq
  cases hbq
  rw[hu,hr]
 have hsz:w2.heap.size≤w3.heap.size:=hfr.size
 have hsz0:w.heap.size≤w2.heap.size:=by have:=R2.gh.fr.size;rw[hq.1] at this;exact this
 have hb2m:F.mine b2:=by
  rcases g3 with h | h
  ·rw[h];exact k2
  ·exact .inl (by rw[hq.1];omega)
 have hb2w:w.heap.size≤b2:=hX b2 hb2m
 have hbww:w.heap.size≤bw:=hX bw m1
 have hblk:∀j,j<w.heap.size→w3.heap[j]?=w2.heap[j]?:=by
  intro j hj
  refine hfr.block j (show j<w2.heap.size by omega) ?_
  rintro (h | h)
  ·have:=hX b k2;omega
  ·omega
 have hslen:(fu xs' 17 v').length=xs'.length:=qL _ _ _
 have gh3:GhOk F ⟨fun b' o=>F.S0 b' o∨(b'=b2∧o<xs'.length),fun k=>if k=0 then some bw else none,fun i=>if i=1 then some (b2,xs'.length) else none⟩ w3:=by
  refine { mu:=?_,muI:=?_,ow:=?_,owI:=?_,sB:=?_,fr:=?_,sub:=?_,sup:=?_,keep:=?_,fix_:=?_,tab:=htab }
  ·intro key bb h
   simp only at h
   split at h
   ·cases h
    refine ⟨m1,?_,by omega⟩
    rintro o (h | h)
    ·have:=hS0 _ _ h;omega
    ·exact g4 h.1.symm
   ·cases h
  ·intro key key' bb h h'
   simp only at h h'
   split at h <;> split at h'
   ·rename_i q1 q2;exact q1.trans q2.symm
   ·cases h'
   ·cases h
   ·cases h
  ·intro i bb l h
   simp only at h
   split at h
   ·cases h
    refine ⟨?_,hb2m,g5,?_⟩
    ·rintro o ho (h | h)
     ·have:=hS0 _ _ h;omega
     ·have:=h.2;omega
    ·intro key h
     simp only at h
     split at h
     ·cases h;exact g4 rfl
     ·cases h
   ·cases h
  ·intro i j bb l l' h h'
   simp only at h h'
   split at h <;> split at h'
   ·rename_i q1 q2;exact q1.trans q2.symm
   ·cases h'
   ·cases h
   ·cases h
  ·rintro bb o (h | h)
   ·have:=hS0 _ _ h;omega
   ·rw[h.1];exact g5
  ·have f2:=R2.gh.fr
   refine ⟨hfr.os.trans f2.os,hfr.tape.trans f2.tape,hfr.output.trans f2.output,by rw[hq.1];omega,fun j hj hx=>?_⟩
   rw[hq.1] at hj
   rw[hblk j hj]
   exact f2.block j (by rw[hq.1];exact hj) hx
  ·exact fun _ _ h=>.inl h
  ·rintro bb o (h | h)
   ·exact .inl h
   ·rw[h.1];exact .inr hb2m
  ·intro bb o h
   rw[← R2.gh.keep bb o h]
   have:=hblk bb (hS0 bb o h)
   unfold World.cell?
   rw[this]
  ·intro key bb h
   have:=hkb key
   rw[Nat.zero_add] at this
   rw[this] at h
   cases h
 have R3:Rel F ⟨fun b' o=>F.S0 b' o∨(b'=b2∧o<xs'.length),fun k=>if k=0 then some bw else none,fun i=>if i=1 then some (b2,xs'.length) else none⟩ (vP (fu xs' 17 v') m2') (a2.put (some 101) (.int .i64 0)).tmps cst w3:=by
  refine ⟨?_,by rw[hcst];exact trivial,?_,gh3⟩
  ·refine All2.set_left 9 (Dg hlen) fun u hu=>?_
   rw[hget9] at hu
   cases hu
   exact ⟨bw,rfl,rfl⟩
  ·intro key cs hk
   cases key with
   |succ key=>simp[vP] at hk
   |zero=>
    simp only[vP,List.getElem?_cons_zero,zC] at hk
    subst hk
    refine ⟨bw,_,rfl,g1,.inl ⟨curw2,elw2,rfl,?_⟩⟩
    rw[g2]
    refine ⟨⟨some ⟨b2,0,none⟩,cap2,by rw[hslen],by rw[hslen];exact g8,g9,?_,?_⟩,⟨rfl,hmr⟩,trivial⟩
    ·intro _
     refine ⟨b2,0,rfl,fun i x hx=>?_⟩
     obtain ⟨q1,q2⟩:=g11 i x hx
     have hi:i<xs'.length:=by
      rw[← hslen]
      exact (List.getElem?_eq_some_iff.1 hx).1
     refine ⟨[.int .u8 x],⟨rfl,q1⟩,fun j u hj=>?_⟩
     cases j with
     |succ j=>simp at hj
     |zero=>
      simp only[List.getElem?_cons_zero,zC] at hj
      subst hj
      refine ⟨.inr ⟨rfl,?_⟩,?_⟩
      ·simp[Ty.size];omega
      ·rw[dP g6]
       simpa [Ty.size] using q2
    ·exact .inr (.inr ⟨b2,cur2,el2,rfl,by simp[Ty.size,hslen],g6,by rw[g7];simp[Ty.size]⟩)
 refine cN htt hm (gS tL) (dj htt) hkb (lp:=fun _=>none) nF (fun _ _ _ h=>by cases h) hrest R3 ?_
 intro ex A' G' a' w' R' hdf hk
 have hdf:a'.defers=[]:=hdf.trans ((Act.put_defers' _ _ _).trans hd2)
 have:=hend ex A' G' a' w' R' hk
 cases ex with
 |normal=>exact ⟨hdf,this⟩
 |ret=>exact ⟨hdf,this⟩
 |exit i=>exact this.elim
 |panic u=>exact fun u hu=>⟨hdf,this u hu⟩
theorem tw {P:Program}{tt:TT}(htt:ca P tt)(hm:P.follows .mixedOrders=true){hd:Hd}(hh:iv P hd){okDraw:Dr}(hdr:gO P tt okDraw){f:Nat}{fn:Func}(hf:P.funcs[f]?=some fn){c:Code}(hc:fn.body=some c){io:Io}{lp:Lp}
  (hlp:∀e∈bu (eC fn) c (eC fn) [],∀h,lp (cp e.2.1)=some h→oG P io.obs.length e.2.1 h) {d:io.In} {out:io.Res} (hrun:io.run tt hd okDraw lp fn d=some out):CY P tt f fn io d out:=by
 intro F G cst w vals R Rl hkb _ hend
 simp only[Io.run,hc] at hrun
 refine calls_of_wp hf hc (cN htt hm hh hdr hkb c hlp hrun Rl ?_)
 intro ex A' G' a' w' R' hdf hk
 have:=hend ex A' G' a' w' R' hk
 cases ex with
 |normal=>exact ⟨hdf,this⟩
 |ret=>exact ⟨hdf,this⟩
 |exit i=>exact this.elim
 |panic v=>exact fun u hu=>⟨hdf,this u hu⟩
theorem F4 (v:Int){n:Nat}(h:n≤4):ap (i32.wrap v) n=ap v n:=by
 have e:∃q:Int,i32.wrap v=v+4294967296*q:=by
  refine ⟨(i32.wrap v - v) / 4294967296,?_⟩
  simp[IntKind.wrap,IntKind.signed,IntKind.bits] <;> (try split) <;> omega
 obtain ⟨q,e⟩:=e
 rw[e]
 have key:∀k:Nat,k<4→((v+4294967296*q) / 256 ^ k) % 256=(v / 256 ^ k) % 256:=by
  intro k hk
  match k,hk with
  |0,_=>omega
  |1,_=>omega
  |2,_=>omega
  |3,_=>omega
 induction n with
 |zero=>rfl
 |succ n ih=>rw[ap,ap,key n (by omega),ih (by omega)]
theorem oe {b:dm}(h:ar b=0):aY b.1=false∧aQ b.2.2.1 b.2.2.2.1 b.2.2.2.2.1=false∧1≤b.2.2.2.2.2.1.length∧b.2.2.2.2.2.1.length≤256∧(aE b.2.2.2.2.2.1).2=0∧(aE b.2.2.2.2.2.1).1.length≤32768:=by
 unfold ar at h
 split at h
 ·cases h
 rename_i h1
 split at h
 ·cases h
 rename_i h2
 split at h
 ·cases h
 rename_i h3
 split at h
 ·cases h
 rename_i h4
 refine ⟨by simpa using h1,by simpa using h2,?_,by omega,h,?_⟩
 ·cases hr:b.2.2.2.2.2.1 with
  |nil=>exact absurd hr h3
  |cons _ _=>simp
 ·unfold aE at h ⊢
  split
  ·simp
  rename_i h5
  rw[if_neg h5] at h
  split
  ·simp
  rename_i h6
  simp only
  omega
theorem bz {R:Type}{L:LI}{n:Nat}{p:LI}{K:LI→Option R}(h:L.length+n≤36000):cD L n p K=K (L++p):=aa (fK.2 ⟨rfl,h⟩) _ _
def ij (b:dm):LI:=ap b.1 8++(ap (49+((aE b.2.2.2.2.2.1).1.length:Int)) 4++(ap b.2.1 4++[2]))
theorem ke (b:dm):(ij b).length=17:=by simp[ij,be]
theorem xX {a0 a1 a2 a3 a4:Int}{a5:List bd}(hr:aU (aj a5) a5 0=true)(h:ar (a0,a1,a2,a3,a4,a5,())=0):
  tF a0 a1 a2 a3 a4 a5 false=some (ij (a0,a1,a2,a3,a4,a5,())++(0::0::0::0::ba (a0,a1,a2,a3,a4,a5,()) 0 (aE a5).1),36000,i32.wrap (cX 0 (ba (a0,a1,a2,a3,a4,a5,()) 0 (aE a5).1))):=by
 obtain ⟨-,-,h1,h2,-,h3⟩:=oe h
 have h1:1≤a5.length:=h1
 have h2:a5.length≤256:=h2
 have h3:(aE a5).1.length≤32768:=h3
 have hw:∀x:Int,0≤x→x≤2147483647→i32.wrap x=x:=fun x h h'=>bU (by simp[aS,IntKind.min,IntKind.max,IntKind.signed,IntKind.bits];omega)
 have e1:i32.wrap (i64.wrap (49+((aE a5).1.length:Int)))=49+((aE a5).1.length:Int):=by
  rw[ag (n:=49+((aE a5).1.length:Int)) (by omega) (by omega),hw _ (by omega) (by omega)]
 have e2:i32.wrap (i64.wrap ((a5.length:Int) - 1))=(a5.length:Int) - 1:=by
  rw[ag (n:=(a5.length:Int) - 1) (by omega) (by omega),hw _ (by omega) (by omega)]
 have e3:i32.wrap (a5.length:Int)=(a5.length:Int):=hw _ (by omega) (by omega)
 have e4:(a5.getD (Int.toNat 0) (0,(false,[],()),(false,[],()),[],())).1=aj a5:=by
  cases a5 with
  |nil=>simp at h1
  |cons r rs=>rfl
 have j1:bk [(aE a5).1]=(aE a5).1.length:=Nat.add_zero _
 have j2:eZ [(aE a5).1]=(aE a5).1:=List.append_nil _
 unfold tF
 refine bT (by rw[zA,zB];exact ⟨hr,h⟩) ?_
 refine (ab rfl _ _).trans ?_
 rw[e1,e2,e3,e4,j1,j2]
 generalize hblk:(aE a5).1=blk at *
 have ln:∀(v:Int) (n:Nat),(ap v n).length=n:=be
 refine (bz (by simp)).trans ?_
 refine (bz (by simp[ln])).trans ?_
 refine (bz (by simp[ln])).trans ?_
 refine (bz (by simp[ln])).trans ?_
 refine (bz (by simp[ln])).trans ?_
 refine (bz (by simp[ln])).trans ?_
 refine (bz (by simp[ln])).trans ?_
 refine bT (by simp only[zA,zB];omega) ?_
 refine (bz (by simp[ln])).trans ?_
 refine bT (decide_eq_true h1) ?_
 refine (bz (by simp[ln])).trans ?_
 refine (bz (by simp[ln])).trans ?_
 refine (bz (by simp[ln])).trans ?_
 refine (bz (by simp[ln])).trans ?_
 refine (bz (by simp[ln])).trans ?_
 refine (bz (by simp[ln];omega)).trans ?_
 have eL:[]++ap a0 8++ap (49+(blk.length:Int)) 4++ap a1 4++ap 2 1++ap 0 4++ap 0 2++ap ((a5.length:Int) - 1) 4++ap (aj a5) 8++ap (cR a5) 8++ap a2 8++ap a3 2++ap a4 4++ap (a5.length:Int) 4++blk
   = ij (a0,a1,a2,a3,a4,a5,())++(0::0::0::0::ba (a0,a1,a2,a3,a4,a5,()) 0 blk):=by
  have q1:ap 2 1=[2]:=rfl
  have q2:ap 0 4=[0,0,0,0]:=rfl
  simp only[ij,ba,hblk,q1,q2,List.nil_append,zK,List.cons_append]
 rw[eL]
 have hL:(ij (a0,a1,a2,a3,a4,a5,())++(0::0::0::0::ba (a0,a1,a2,a3,a4,a5,()) 0 blk)).length=61+blk.length:=by
  simp[ke,ba,ln];omega
 refine bT (decide_eq_true (by omega)) ?_
 refine bT (by simp only[zA,zB];omega) ?_
 have e5:List.drop (Int.toNat 21) (List.take ((ij (a0,a1,a2,a3,a4,a5,())++(0::0::0::0::ba (a0,a1,a2,a3,a4,a5,()) 0 blk)).length:Int).toNat (ij (a0,a1,a2,a3,a4,a5,())++(0::0::0::0::ba (a0,a1,a2,a3,a4,a5,()) 0 blk)))
   = ba (a0,a1,a2,a3,a4,a5,()) 0 blk:=by
  rw[zG,List.take_length]
  show List.drop 21 _=_
  have:(21:Nat)=(ij (a0,a1,a2,a3,a4,a5,())).length+4:=by rw[ke]
  rw[this,List.drop_append]
  rfl
 rw[e5]
 rfl
def zb (d:fV.In):Tr fV.Res:=
 .ite (!d.1.2.1&&aU (aj d.1.1.2.2.2.2.2.1) d.1.1.2.2.2.2.2.1 0) (.ret (.ret (((dq d.1.1).1,(dq d.1.1).2,()),()))) .no
theorem E6:HcOk prog 17 (ah fV zb):=by
 have htt:=dy Tryd.prog 400
 have hf:prog.funcs[17]?=some fE:=by kernel_rfl
 have hc:fE.body=some (aV fE):=by kernel_rfl
 refine kj htt hf (by kernel_rfl) fV zb (fun d out hw ho=>?_) (by kernel_rfl)
 obtain ⟨⟨⟨a0,a1,a2,a3,a4,a5,⟨⟩⟩,packed,⟨⟩⟩,⟨⟩⟩:=d
 obtain ⟨hg,ho⟩:=Tr.guard ho
 simp only[zA,Bool.not_eq_true'] at hg
 obtain ⟨hp,hr⟩:=hg
 subst hp
 have ho:Out.ret (((dq (a0,a1,a2,a3,a4,a5,())).1,(dq (a0,a1,a2,a3,a4,a5,())).2,()),())=out:=Option.some.inj ho
 subst ho
 by_cases he:ar (a0,a1,a2,a3,a4,a5,())=0
 rotate_left
 ·have e:dq (a0,a1,a2,a3,a4,a5,())=([],ar (a0,a1,a2,a3,a4,a5,())):=by unfold dq;rw[if_pos he]
  rw[e]
  refine tw htt hm (gS (l:=zv) (.cons E7 .nil)) (dj htt) hf hc (lp:=AE) (LpsOk.done (by kernel_rfl)).all ?_
  refine (Fq a0 a1 a2 a3 a4 a5 false).trans ?_
  unfold rA
  refine bT (by rw[zA,zB];exact ⟨hr,he⟩) ?_
  exact aa (by simpa using he) _ _
 ·have e:dq (a0,a1,a2,a3,a4,a5,())=(bY (a0,a1,a2,a3,a4,a5,()) 0 (aE a5).1,0):=by unfold dq;rw[if_neg (av he)]
  rw[e]
  intro F G cst w vals R Rl hkb hq hend
  have hq:=hq rfl
  have hrun:=(IW a0 a1 a2 a3 a4 a5 false).trans (xX hr he)
  refine calls_of_wp hf hc (xY htt hm (gS tL) (dj htt) hkb 20 (aV fE) hrun Rl ?_)
  intro A1 G1 a1' w1 R1 hd1 h1
  have hsp:qQ 20 (aV fE)=.seq (.region 27 ge false) nF:=by kernel_rfl
  rw[hsp]
  refine wp_seq (wp_region ?_)
  rw[show List.range ge.size=List.range 7++[7] by kernel_rfl]
  refine kf htt (gS tL) hkb [7] (List.range 7) h1 R1 ?_
  intro ex A2 G2 a2' w2 R2 hd2 h2
  cases ex with
  |exit i=>cases h2
  |ret=>cases h2
  |panic v=>cases h2
  |normal=>
  have hT:21≤(ij (a0,a1,a2,a3,a4,a5,())++(0::0::0::0::ba (a0,a1,a2,a3,a4,a5,()) 0 (aE a5).1)).length:=by
   simp[ke];omega
  refine GH hkb hq (fun b o h=>Rl.gh.sB b o (Rl.gh.sub b o h)) Rl.gh.tab R2 (hd2.trans hd1) h2 hT ?_ hend
  refine (GG _ _).trans ?_
  have eS:fu (ij (a0,a1,a2,a3,a4,a5,())++(0::0::0::0::ba (a0,a1,a2,a3,a4,a5,()) 0 (aE a5).1)) 17 (i32.wrap (cX 0 (ba (a0,a1,a2,a3,a4,a5,()) 0 (aE a5).1)))
    = bY (a0,a1,a2,a3,a4,a5,()) 0 (aE a5).1:=by
   have:=CN (ij (a0,a1,a2,a3,a4,a5,())) (ba (a0,a1,a2,a3,a4,a5,()) 0 (aE a5).1) 0 0 0 0 (i32.wrap (cX 0 (ba (a0,a1,a2,a3,a4,a5,()) 0 (aE a5).1)))
   rw[ke] at this
   rw[this,F4 _ (Nat.le_refl 4)]
   unfold ij bY
   simp only[zK]
  rw[eS]
  refine aa (decide_eq_true ?_) _ _
  obtain ⟨-,-,h1,h2,-,h3⟩:=oe he
  have h3:(aE a5).1.length≤32768:=h3
  simp[bY,ba,be]
  omega
end
end Go.Proofs.YtcbcbjdobbgddaaDoor.Sym
namespace Go.Proofs.YtcbcbjdobbgddaaDoor.Sym
open Go
noncomputable section
def xg:dm:=(5,1,-1,-1,-1,[(1000,(true,[],()),(false,[104,105],()),[],())],())
abbrev fZ:Io:=⟨[],[],[],[q9],none⟩
def tc (d:fZ.In):Tr fZ.Res:=.ret (.ret (((5,1,-1,-1,-1,[(1000,(true,[],()),(false,[104,105],()),[],())],()),()),()))
abbrev vE:List (Nat×Hc):=[]
def Eh:Hd:=bV vE
def wt:Lp:=cb []
def xM:Option fZ.Res:=oR (((5,1,-1,-1,-1,[(1000,(true,[],()),(false,[104,105],()),[],())],()),()),())
theorem Cr:Io.run tt Eh dr wt fZ Tryd.f19 ((),())=xM:=by kernel_rfl
theorem Fc:HcOk prog 19 (ah fZ tc):=by
 refine cq (cs:=vE) HcsOk.nil (lp:=wt) (fn:=Tryd.f19) fZ (.done (by kernel_rfl)) tc ?_
 rintro ⟨⟨⟩,⟨⟩⟩ out hw ho
 rw[← ho]
 exact Cr
abbrev fY:Io:=⟨[],[],[],[dB],none⟩
def s9 (d:fY.In):Tr fY.Res:=.ret (.ret ((true,()),()))
abbrev vD:List (Nat×Hc):=[(19,ah fZ tc),(17,ah fV zb),(12,ah iE za),(14,ah dW oT)]
def Eg:Hd:=bV vD
def ws:Lp:=cb []
def pN:Option fY.Res:=bif aU (aj [(1000,(true,[],()),(false,[104,105],()),[],())]) [(1000,(true,[],()),(false,[104,105],()),[],())] 0 then bif (dq (5,1,-1,-1,-1,[(1000,(true,[],()),(false,[104,105],()),[],())],())).2 != 0 then oR ((false,()),()) else bif (↑[0,0,0,0,0,0,0,5,0,0,0,58,0,0,0,1,2,35,61,173,68,0,0,0,0,0,0,0,0,0,0,0,0,3,232,0,0,0,0,0,0,3,232,255,255,255,255,255,255,255,255,255,255,255,255,255,255,0,0,0,1,16,0,0,0,1,4,104,105,0].length:Int) != 70 then oR ((false,()),()) else bif decide (0≤7)&&decide (7<(↑[0,0,0,0,0,0,0,5,0,0,0,58,0,0,0,1,2,35,61,173,68,0,0,0,0,0,0,0,0,0,0,0,0,3,232,0,0,0,0,0,0,3,232,255,255,255,255,255,255,255,255,255,255,255,255,255,255,0,0,0,1,16,0,0,0,1,4,104,105,0].length:Int)) then bif [0,0,0,0,0,0,0,5,0,0,0,58,0,0,0,1,2,35,61,173,68,0,0,0,0,0,0,0,0,0,0,0,0,3,232,0,0,0,0,0,0,3,232,255,255,255,255,255,255,255,255,255,255,255,255,255,255,0,0,0,1,16,0,0,0,1,4,104,105,0].getD (Int.toNat 7) 0 != 5 then oR ((false,()),()) else bif decide (0≤11)&&decide (11<(↑[0,0,0,0,0,0,0,5,0,0,0,58,0,0,0,1,2,35,61,173,68,0,0,0,0,0,0,0,0,0,0,0,0,3,232,0,0,0,0,0,0,3,232,255,255,255,255,255,255,255,255,255,255,255,255,255,255,0,0,0,1,16,0,0,0,1,4,104,105,0].length:Int)) then bif [0,0,0,0,0,0,0,5,0,0,0,58,0,0,0,1,2,35,61,173,68,0,0,0,0,0,0,0,0,0,0,0,0,3,232,0,0,0,0,0,0,3,232,255,255,255,255,255,255,255,255,255,255,255,255,255,255,0,0,0,1,16,0,0,0,1,4,104,105,0].getD (Int.toNat 11) 0 != 58 then oR ((false,()),()) else bif decide (0≤16)&&decide (16<(↑[0,0,0,0,0,0,0,5,0,0,0,58,0,0,0,1,2,35,61,173,68,0,0,0,0,0,0,0,0,0,0,0,0,3,232,0,0,0,0,0,0,3,232,255,255,255,255,255,255,255,255,255,255,255,255,255,255,0,0,0,1,16,0,0,0,1,4,104,105,0].length:Int)) then bif [0,0,0,0,0,0,0,5,0,0,0,58,0,0,0,1,2,35,61,173,68,0,0,0,0,0,0,0,0,0,0,0,0,3,232,0,0,0,0,0,0,3,232,255,255,255,255,255,255,255,255,255,255,255,255,255,255,0,0,0,1,16,0,0,0,1,4,104,105,0].getD (Int.toNat 16) 0 != 2 then oR ((false,()),()) else bif decide (0≤61)&&decide (61<(↑[0,0,0,0,0,0,0,5,0,0,0,58,0,0,0,1,2,35,61,173,68,0,0,0,0,0,0,0,0,0,0,0,0,3,232,0,0,0,0,0,0,3,232,255,255,255,255,255,255,255,255,255,255,255,255,255,255,0,0,0,1,16,0,0,0,1,4,104,105,0].length:Int)) then bif [0,0,0,0,0,0,0,5,0,0,0,58,0,0,0,1,2,35,61,173,68,0,0,0,0,0,0,0,0,0,0,0,0,3,232,0,0,0,0,0,0,3,232,255,255,255,255,255,255,255,255,255,255,255,255,255,255,0,0,0,1,16,0,0,0,1,4,104,105,0].getD (Int.toNat 61) 0 != 16 then oR ((false,()),()) else bif decide ([0,0,0,0,0,0,0,5,0,0,0,58,0,0,0,1,2,35,61,173,68,0,0,0,0,0,0,0,0,0,0,0,0,3,232,0,0,0,0,0,0,3,232,255,255,255,255,255,255,255,255,255,255,255,255,255,255,0,0,0,1,16,0,0,0,1,4,104,105,0].length≤4294960000) then bif (aH [0,0,0,0,0,0,0,5,0,0,0,58,0,0,0,1,2,35,61,173,68,0,0,0,0,0,0,0,0,0,0,0,0,3,232,0,0,0,0,0,0,3,232,255,255,255,255,255,255,255,255,255,255,255,255,255,255,0,0,0,1,16,0,0,0,1,4,104,105,0]).2 == 0 then oR ((cd (aH [0,0,0,0,0,0,0,5,0,0,0,58,0,0,0,1,2,35,61,173,68,0,0,0,0,0,0,0,0,0,0,0,0,3,232,0,0,0,0,0,0,3,232,255,255,255,255,255,255,255,255,255,255,255,255,255,255,0,0,0,1,16,0,0,0,1,4,104,105,0]).1 (5,1,-1,-1,-1,[(1000,(true,[],()),(false,[104,105],()),[],())],()),()),()) else oR ((false,()),()) else none else none else none else none else none else none
theorem Cq:Io.run tt Eg dr ws fY Tryd.f5 ((),())=pN:=by kernel_rfl
theorem Fb:HcOk prog 5 (ah fY s9):=by
 refine cq (cs:=vD) (.cons Fc (.cons E6 (.cons E4 (.cons wH .nil)))) (lp:=ws) (fn:=Tryd.f5) fY (.done (by kernel_rfl)) s9 ?_
 rintro ⟨⟨⟩,⟨⟩⟩ out hw ho
 cases ho
 have e:pN=oR ((cd xg xg,()),()):=by kernel_rfl
 refine Cq.trans (e.trans ?_)
 rw[fe.2 rfl]
abbrev qa:Io:=⟨[dL],[],[],[IF,dI],none⟩
def IR (d:qa.In):Tr qa.Res:=.ite (decide (d.1.1.length≤4294960000)) (.ret (.ret (((al d.1.1 false).1,(al d.1.1 false).2,()),()))) .no
abbrev ID:List (Nat×Hc):=[(23,ah fA s0)]
def Kn:Hd:=bV ID
def IJ:Lp:=cb []
def zp (a0:LI):Option qa.Res:=bif decide (a0.length≤4294960000) then oR (((al a0 false).1,(al a0 false).2,()),()) else none
theorem JL (a0:LI):Io.run tt Kn dr IJ qa Tryd.f9 ((a0,()),())=zp a0:=by kernel_rfl
theorem Ku:HcOk prog 9 (ah qa IR):=by
 refine cq (cs:=ID) (.cons A9 .nil) (lp:=IJ) (fn:=Tryd.f9) qa (.done (by kernel_rfl)) IR ?_
 rintro ⟨⟨(b:LI),⟨⟩⟩,⟨⟩⟩ out hw ho
 obtain ⟨hg,ho⟩:=Tr.guard ho
 cases ho
 refine (JL b).trans ?_
 unfold zp
 exact (aa hg _ _)
end
end Go.Proofs.YtcbcbjdobbgddaaDoor.Sym
namespace Go.Proofs.YtcbcbjdobbgddaaDoor.Sym
open Go
open Go.IntKind (i8 i16 i32 i64 u8 u16 u32 u64)
noncomputable section
abbrev lu:Io:=⟨[pY],[],[],[dB],none⟩
def Dc (d:lu.In):Tr lu.Res:=.ret (.ret ((bi d.1.1,()),()))
abbrev DM:List (Nat×Hc):=[]
def I9:Hd:=bV DM
def ER:Lp:=cb []
def Dn (a0:Bool)(a1:LI):Option lu.Res:=bif a0 then oR ((decide (0<(↑a1.length:Int)),()),()) else oR ((false,()),())
theorem HZ (a0:Bool)(a1:LI):Io.run tt I9 dr ER lu Tryd.f97 (((a0,a1,()),()),())=Dn a0 a1:=by kernel_rfl
theorem Jz:HcOk prog 97 (ah lu Dc):=by
 refine cq (cs:=DM) .nil (lp:=ER) (fn:=Tryd.f97) lu (.done (by kernel_rfl)) Dc ?_
 rintro ⟨⟨⟨(n:Bool),(b:LI),⟨⟩⟩,⟨⟩⟩,⟨⟩⟩ out hw ho
 cases ho
 refine (HZ n b).trans ?_
 cases n <;> rfl
abbrev gb:Io:=⟨[pY],[],[],[dO],none⟩
def tj (d:gb.In):Tr gb.Res:=.ite (decide ((aq d.1.1).length≤4294967296)) (.ret (.ret ((aq d.1.1,()),()))) .no
abbrev vI:List (Nat×Hc):=[(85,ah iL uV),(84,ah mv CZ)]
def Eo:Hd:=bV vI
def wx:Lp:=cb []
def pR (a0:Bool)(a1:LI):Option gb.Res:=bif a0 then oR ((am (ai (-1)),()),()) else bif decide ((am (ai (↑a1.length:Int))).length+a1.length≤4294967296) then oR ((am (ai (↑a1.length:Int))++a1,()),()) else none
theorem Cw (a0:Bool)(a1:LI):Io.run tt Eo dr wx gb Tryd.f99 (((a0,a1,()),()),())=pR a0 a1:=by kernel_rfl
theorem Fi:HcOk prog 99 (ah gb tj):=by
 refine cq (cs:=vI) (.cons yq (.cons E0 .nil)) (lp:=wx) (fn:=Tryd.f99) gb (.done (by kernel_rfl)) tj ?_
 rintro ⟨⟨⟨(n:Bool),(b:LI),⟨⟩⟩,⟨⟩⟩,⟨⟩⟩ out hw ho
 obtain ⟨hg,ho⟩:=Tr.guard ho
 have hg:(aq (n,b,())).length≤4294967296:=of_decide_eq_true hg
 cases ho
 refine (Cw n b).trans ?_
 show _=oR ((aq (n,b,()),()),())
 unfold pR
 cases n with
 |true=>rfl
 |false=>
  have e:aq (false,b,())=am (ai b.length)++b:=rfl
  rw[e] at hg ⊢
  simp only[zH] at hg
  rw[ab rfl,aa (by simp;omega)]
abbrev gA:Io:=⟨[tD],[],[],[dO],none⟩
def te (d:gA.In):Tr gA.Res:=.ite (cS d.1.1) (.ret (.ret ((aG d.1.1,()),()))) .no
abbrev oY:List (Nat×Hc):=[(85,ah iL uV),(84,ah mv CZ),(99,ah gb tj)]
def As:Hd:=bV oY
abbrev de:Lo:=⟨⟨(.any::.one (.ptr 1 0)::.any::.one (.onl 5 (Ty.int u8) 7)::.one hI::an (an (an (fH (di []))))),[none,some [hI,hJ,hL,.hol (.sl 5 (Ty.int u8)),hL,.hol (.sl 5 (Ty.int u8)),.hol (.sl 141 (Ty.str.prod ((Ty.bool.prod ((Ty.sl 5 (Ty.int u8)).prod Ty.unit)).prod Ty.unit)))]]⟩,[(.exit 0,⟨(.any::cr (.one (.onl 5 (Ty.int u8) 7)::.any::an (an (an (fH (di [])))))),[]⟩)]⟩
def jw (d:de.st.den):Tr (aA de.xs):=
 .ite (decide (d.1.2.1=(0:Int))&&decide (d.1.1.length+(az d.2.1.2.2.2.2.2.2.1).length≤4294967296)) (.ret (.ret ((),((d.1.1++az d.2.1.2.2.2.2.2.2.1,()),())))) .no
def pg:Lp:=cb [(8,bg de jw)]
def oy {R:Type}(h7:LI)(h8 h9 h10:Int)(h11:Bool)(h12:LI)(h13:Bool)(h14:LI)(h15:List bm.den)(next:LI→Int→Int→Int→Bool→LI→Bool→LI→List bm.den→Option R)(out:aA de.xs→Option R):Option R:=bif decide (h8<(↑h15.length:Int)) then bif decide (0≤h8)&&decide (h8<(↑h15.length:Int)) then bif decide (h7.length+(am (ai (↑(List.length (h15.getD h8.toNat ([],(false,[],()),())).1):Int))).length≤4294967296) then bif decide (List.length (h7++am (ai (↑(List.length (h15.getD h8.toNat ([],(false,[],()),())).1):Int)))+List.length (h15.getD h8.toNat ([],(false,[],()),())).1≤4294967296) then bif decide (0≤h8)&&decide (h8<(↑h15.length:Int)) then bif decide ((aq ((h15.getD h8.toNat ([],(false,[],()),())).2.1.1,(h15.getD h8.toNat ([],(false,[],()),())).2.1.2.1,())).length≤4294967296) then bif decide (List.length (h7++am (ai (↑(List.length (h15.getD h8.toNat ([],(false,[],()),())).1):Int))++(h15.getD h8.toNat ([],(false,[],()),())).1)+(aq ((h15.getD h8.toNat ([],(false,[],()),())).2.1.1,(h15.getD h8.toNat ([],(false,[],()),())).2.1.2.1,())).length≤4294967296) then next (h7++am (ai (↑(List.length (h15.getD h8.toNat ([],(false,[],()),())).1):Int))++(h15.getD h8.toNat ([],(false,[],()),())).1++aq ((h15.getD h8.toNat ([],(false,[],()),())).2.1.1,(h15.getD h8.toNat ([],(false,[],()),())).2.1.2.1,())) (i64.wrap (h8+1)) (h9) (h10) (h11) (h12) (h13) (h14) (h15) else none else none else none else none else none else none else out (.ret ((),((h7,()),())))
def nx (n:Nat)(h7:LI)(h8 h9 h10:Int)(h11:Bool)(h12:LI)(h13:Bool)(h14:LI)(h15:List bm.den):Option (aA de.xs):=kC tt As dr pg 0 Tryd.f83 (dD Tryd.f83 0) n (de.st.mk' ((h7,(h8,())),((h9,(h10,(h11,(h12,(h13,(h14,(h15,()))))))),()))) (cx de.xs)
theorem CG (n:Nat)(h7:LI)(h8 h9 h10:Int)(h11:Bool)(h12:LI)(h13:Bool)(h14:LI)(h15:List bm.den):nx (n+1) h7 h8 h9 h10 h11 h12 h13 h14 h15=oy h7 h8 h9 h10 h11 h12 h13 h14 h15 (nx n) some:=by kernel_rfl
theorem B8 (h9 h10:Int)(h11:Bool)(h12:LI)(h13:Bool)(h14:LI)(hs:List bI)(hm:hs.length≤maxLen):∀(k i:Nat) (o:LI),i≤hs.length→hs.length<i+k→o.length+(az (hs.drop i)).length≤4294967296→
  nx k o (i:Int) h9 h10 h11 h12 h13 h14 hs=some (.ret ((),((o++az (hs.drop i),()),()))):=by
 intro k
 induction k with
 |zero=>intro i o h1 h2;omega
 |succ k ih=>
  intro i o h1 h2 h3
  rw[CG]
  unfold oy
  by_cases h4:i<hs.length
  ·have e:(hs.getD (i:Int).toNat ([],(false,[],()),()):bI)=hs[i]:=aR h4
   rw[zE h4,← e] at h3 ⊢
   rw[bH h4 hm]
   generalize (hs.getD (i:Int).toNat ([],(false,[],()),()):bI)=x at *
   obtain ⟨x1,⟨x2,x3,⟨⟩⟩,⟨⟩⟩:=x
   have eW:az ((x1,(x2,x3,()),())::hs.drop (i+1))=am (ai x1.length)++(x1++aq (x2,x3,()))++az (hs.drop (i+1)):=by simp[az,gK]
   rw[eW] at h3 ⊢
   simp only[zH] at h3
   rw[aa (by simpa using h4),aa (by simp[h4]),aa (by simp;omega),aa (by simp;omega),aa (by simp[h4]),aa (by simp;omega),aa (by simp;omega)]
   refine (ih (i+1) _ h4 (by omega) (by simp only[zH];omega)).trans ?_
   simp only[zK]
  ·rw[zI (by omega)]
   rw[ab (by simpa using h4)]
   simp[az]
def rQ (a0 a1:Int)(a2:Bool)(a3:LI)(a4:Bool)(a5:LI)(a6:List bm.den):Option gA.Res:=bif decide ([0].length+(am (ai a0)).length≤4294967296) then bif decide (List.length ([0]++am (ai a0))+(am (ai (i64.wrap a1))).length≤4294967296) then bif decide ((aq (a2,a3,())).length≤4294967296) then bif decide (List.length ([0]++am (ai a0)++am (ai (i64.wrap a1)))+(aq (a2,a3,())).length≤4294967296) then bif decide ((aq (a4,a5,())).length≤4294967296) then bif decide (List.length ([0]++am (ai a0)++am (ai (i64.wrap a1))++aq (a2,a3,()))+(aq (a4,a5,())).length≤4294967296) then bif decide (List.length ([0]++am (ai a0)++am (ai (i64.wrap a1))++aq (a2,a3,())++aq (a4,a5,()))+(am (ai (↑a6.length:Int))).length≤4294967296) then (jw (([0]++am (ai a0)++am (ai (i64.wrap a1))++aq (a2,a3,())++aq (a4,a5,())++am (ai (↑a6.length:Int)),(0,())),((a0,(a1,(a2,(a3,(a4,(a5,(a6,()))))))),()))).run fun y=>match y with | .ret ((),((x26,()),()))=>(oR ((x26,()),())) else none else none else none else none else none else none else none
theorem FG (a0 a1:Int)(a2:Bool)(a3:LI)(a4:Bool)(a5:LI)(a6:List bm.den):Io.run tt As dr pg gA Tryd.f83 (((a0,a1,(a2,a3,()),(a4,a5,()),a6,()),()),())=rQ a0 a1 a2 a3 a4 a5 a6:=by kernel_rfl
theorem Bf:HcOk prog 83 (ah gA te):=by
 have hcs:HcsOk prog oY:=.cons yq (.cons E0 (.cons Fi .nil))
 refine cq (cs:=oY) hcs (lp:=pg) (fn:=Tryd.f83) gA
  (.step (h0:=bg de jw) (by kernel_rfl) (lI (cs:=oY) hcs (lp:=pg) (fn:=Tryd.f83) (.done (by kernel_rfl)) de jw ?_) (.done (by kernel_rfl))) te ?_
 ·rintro ⟨⟨(o:LI),(i:Int),⟨⟩⟩,⟨(h9:Int),(h10:Int),(h11:Bool),(h12:LI),(h13:Bool),(h14:LI),(hs:List bI),⟨⟩⟩,⟨⟩⟩ y hw hy
  obtain ⟨hg,hy⟩:=Tr.guard hy
  simp only[zA,zB] at hg
  obtain ⟨hi,hl⟩:=hg
  have hi:i=0:=hi
  subst hi
  refine ⟨hs.length+1,(B8 h9 h10 h11 h12 h13 h14 hs hw.2.1.2.2.2.2.2.2.1.1 _ 0 o (by omega) (by omega) hl).trans ?_⟩
  rw[← hy]
  rfl
 ·rintro ⟨⟨⟨(a0:Int),(a1:Int),⟨(a2:Bool),(a3:LI),⟨⟩⟩,⟨(a4:Bool),(a5:LI),⟨⟩⟩,(a6:List bI),⟨⟩⟩,⟨⟩⟩,⟨⟩⟩ out hw ho
  obtain ⟨hg,ho⟩:=Tr.guard ho
  cases ho
  refine (FG a0 a1 a2 a3 a4 a5 a6).trans ?_
  have ha1:aS .i32 a1:=hw.1.1.2.1
  have ha1 : -2147483648≤a1∧a1≤2147483647:=by simpa [aS,IntKind.min,IntKind.max,IntKind.signed,IntKind.bits] using ha1
  have hg:(aG (a0,a1,(a2,a3,()),(a4,a5,()),a6,())).length≤4294967000:=of_decide_eq_true hg
  show _=oR ((aG (a0,a1,(a2,a3,()),(a4,a5,()),a6,()),()),())
  have eb:aG (a0,a1,(a2,a3,()),(a4,a5,()),a6,())=[0]++am (ai a0)++am (ai a1)++aq (a2,a3,())++aq (a4,a5,())++am (ai a6.length)++az a6:=by
   simp[aG]
  rw[eb] at hg ⊢
  simp only[zH] at hg
  unfold rQ
  rw[ag (n:=a1) (by omega) (by omega),aa (by simp;omega),aa (by simp;omega),aa (by simp;omega),aa (by simp;omega),aa (by simp;omega),aa (by simp;omega),aa (by simp;omega)]
  unfold jw
  simp only[Tr.run_ite,Tr.run_ret]
  rw[if_pos (by simp;omega)]
abbrev f3:Io:=⟨[tD],[],[],[dI],none⟩
def td (d:f3.In):Tr f3.Res:=.ite (cS d.1.1) (.ret (.ret ((au d.1.1,()),()))) .no
abbrev ml:List (Nat×Hc):=[(97,ah lu Dc),(98,ah lm Da),(83,ah gA te)]
def v6:Hd:=bV ml
abbrev cH:Lo:=⟨⟨(.any::.one (.ptr 1 0)::.any::.one hI::an (an (an []))),[none,some [hI,hJ,hL,.hol (.sl 5 (Ty.int u8)),hL,.hol (.sl 5 (Ty.int u8)),.hol (.sl 141 (Ty.str.prod ((Ty.bool.prod ((Ty.sl 5 (Ty.int u8)).prod Ty.unit)).prod Ty.unit)))]]⟩,[(.ret,⟨(cr (.one hI::.any::an (an (an [])))),[]⟩),(.exit 0,⟨(.any::.one (.ptr 1 0)::an (an (an (cr [])))),[none,some [hI,hJ,hL,.hol (.sl 5 (Ty.int u8)),hL,.hol (.sl 5 (Ty.int u8)),.hol (.sl 141 (Ty.str.prod ((Ty.bool.prod ((Ty.sl 5 (Ty.int u8)).prod Ty.unit)).prod Ty.unit)))]]⟩)]⟩
def ic (d:cH.st.den):Tr (aA cH.xs):=
 .ite (decide (d.1.1=(0:Int))) (.ite (decide (aW d.2.1.2.2.2.2.2.2.1=(0:Int))) (.ret (.pan (.ret ((),((),(d.2.1,())))))) (.ret (.ret ((),((aW d.2.1.2.2.2.2.2.2.1,()),()))))) .no
def mC:Lp:=cb [(9,bg cH ic)]
def mZ {R:Type}(h7 h8 h9:Int)(h10:Bool)(h11:LI)(h12:Bool)(h13:LI)(h14:List bm.den)(next:Int→Int→Int→Bool→LI→Bool→LI→List bm.den→Option R)(out:aA cH.xs→Option R):Option R:=bif decide (h7<(↑h14.length:Int)) then bif decide (0≤h7)&&decide (h7<(↑h14.length:Int)) then bif !(b7 (h14.getD h7.toNat ([],(false,[],()),())).1).2 then out (.ret ((),((6,()),()))) else bif decide (0≤h7)&&decide (h7<(↑h14.length:Int)) then bif bi ((h14.getD h7.toNat ([],(false,[],()),())).2.1.1,(h14.getD h7.toNat ([],(false,[],()),())).2.1.2.1,()) then out (.ret ((),((70,()),()))) else next (i64.wrap (h7+1)) (h8) (h9) (h10) (h11) (h12) (h13) (h14) else none else none else out (.pan (.ret ((),((),((h8,(h9,(h10,(h11,(h12,(h13,(h14,()))))))),())))))
def lG (n:Nat)(h7 h8 h9:Int)(h10:Bool)(h11:LI)(h12:Bool)(h13:LI)(h14:List bm.den):Option (aA cH.xs):=kC tt v6 dr mC 0 Tryd.f82 (dD Tryd.f82 0) n (cH.st.mk' ((h7,()),((h8,(h9,(h10,(h11,(h12,(h13,(h14,()))))))),()))) (cx cH.xs)
theorem yK (n:Nat)(h7 h8 h9:Int)(h10:Bool)(h11:LI)(h12:Bool)(h13:LI)(h14:List bm.den):lG (n+1) h7 h8 h9 h10 h11 h12 h13 h14=mZ h7 h8 h9 h10 h11 h12 h13 h14 (lG n) some:=by kernel_rfl
theorem yk (h8 h9:Int)(h10:Bool)(h11:LI)(h12:Bool)(h13:LI)(hs:List bI)(hm:hs.length≤maxLen):∀(k i:Nat),i≤hs.length→hs.length<i+k→
  lG k (i:Int) h8 h9 h10 h11 h12 h13 hs=if aW (hs.drop i)=0 then some (.pan (.ret ((),((),((h8,(h9,(h10,(h11,(h12,(h13,(hs,()))))))),()))))) else some (.ret ((),((aW (hs.drop i),()),()))):=by
 intro k
 induction k with
 |zero=>intro i h1 h2;omega
 |succ k ih=>
  intro i h1 h2
  rw[yK]
  unfold mZ
  by_cases h3:i<hs.length
  ·have e:(hs.getD (i:Int).toNat ([],(false,[],()),()):bI)=hs[i]:=aR h3
   rw[zE h3,← e,bH h3 hm]
   generalize (hs.getD (i:Int).toNat ([],(false,[],()),()):bI)=x
   obtain ⟨x1,⟨x2,x3,⟨⟩⟩,⟨⟩⟩:=x
   rw[aa (by simpa using h3),aa (by simp[h3])]
   by_cases h4:(b7 x1).2=false
   ·have eE:aW ((x1,(x2,x3,()),())::hs.drop (i+1))=6:=by unfold aW;rw[if_pos h4]
    rw[eE,aa (by simpa using h4)]
    rfl
   ·rw[ab (by simpa using h4),aa (by simp[h3])]
    by_cases h5:bi (x2,x3,())=true
    ·have eE:aW ((x1,(x2,x3,()),())::hs.drop (i+1))=70:=by unfold aW;rw[if_neg h4,if_pos h5]
     rw[eE,aa h5]
     rfl
    ·have eE:aW ((x1,(x2,x3,()),())::hs.drop (i+1))=aW (hs.drop (i+1)):=by rw[aW,if_neg h4,if_neg h5]
     rw[eE,ab (by simpa using h5)]
     exact ih (i+1) h3 (by omega)
  ·rw[zI (by omega)]
   rw[ab (by simpa using h3)]
   rfl
def pP (a0 a1:Int)(a2:Bool)(a3:LI)(a4:Bool)(a5:LI)(a6:List bm.den):Option f3.Res:=bif decide (a1<0) then oR ((72,()),()) else bif bi (a2,a3,()) then oR ((70,()),()) else bif bi (a4,a5,()) then oR ((70,()),()) else bif decide (16<(↑a6.length:Int)) then oR ((9,()),()) else (ic ((0,()),((a0,(a1,(a2,(a3,(a4,(a5,(a6,()))))))),()))).run fun y=>match y with | .ret ((),((x32,()),()))=>(oR ((x32,()),())) | .pan (.ret ((),((),(x33,x34,x35,x36,x37,x38,x39,()),())))=>(bif cS (x33,x34,(x35,x36,()),(x37,x38,()),x39,()) then bif decide (16384<(↑(aG (x33,x34,(x35,x36,()),(x37,x38,()),x39,())).length:Int)) then oR ((4,()),()) else oR ((0,()),()) else none)
theorem Ct (a0 a1:Int)(a2:Bool)(a3:LI)(a4:Bool)(a5:LI)(a6:List bm.den):Io.run tt v6 dr mC f3 Tryd.f82 (((a0,a1,(a2,a3,()),(a4,a5,()),a6,()),()),())=pP a0 a1 a2 a3 a4 a5 a6:=by kernel_rfl
theorem Fg:HcOk prog 82 (ah f3 td):=by
 have hcs:HcsOk prog ml:=.cons Jz (.cons Jx (.cons Bf .nil))
 refine cq (cs:=ml) hcs (lp:=mC) (fn:=Tryd.f82) f3
  (.step (h0:=bg cH ic) (by kernel_rfl) (lI (cs:=ml) hcs (lp:=mC) (fn:=Tryd.f82) (.done (by kernel_rfl)) cH ic ?_) (.done (by kernel_rfl))) td ?_
 ·rintro ⟨⟨(i:Int),⟨⟩⟩,⟨(h8:Int),(h9:Int),(h10:Bool),(h11:LI),(h12:Bool),(h13:LI),(hs:List bI),⟨⟩⟩,⟨⟩⟩ y hw hy
  obtain ⟨hg,hy⟩:=Tr.guard hy
  have hi:i=0:=of_decide_eq_true hg
  subst hi
  refine ⟨hs.length+1,(yk h8 h9 h10 h11 h12 h13 hs hw.2.1.2.2.2.2.2.2.1.1 _ 0 (by omega) (by omega)).trans ?_⟩
  rw[← hy]
  simp only[Tr.val_ite,zB,Tr.val_ret,List.drop_zero]
 ·rintro ⟨⟨⟨(a0:Int),(a1:Int),⟨(a2:Bool),(a3:LI),⟨⟩⟩,⟨(a4:Bool),(a5:LI),⟨⟩⟩,(a6:List bI),⟨⟩⟩,⟨⟩⟩,⟨⟩⟩ out hw ho
  obtain ⟨hg,ho⟩:=Tr.guard ho
  cases ho
  refine (Ct a0 a1 a2 a3 a4 a5 a6).trans ?_
  have hg:cS (a0,a1,(a2,a3,()),(a4,a5,()),a6,())=true:=hg
  unfold pP ic
  show _=oR ((au (a0,a1,(a2,a3,()),(a4,a5,()),a6,()),()),())
  simp only[Tr.run_ite,Tr.run_ret]
  have eS:cL (a0,a1,(a2,a3,()),(a4,a5,()),a6,())=if a1<0 then 72 else if bi (a2,a3,())=true∨bi (a4,a5,())=true then 70 else if 16<(a6.length:Int) then 9 else aW a6:=rfl
  by_cases h1:a1<0
  ·rw[if_pos h1] at eS
   rw[aa (by simpa using h1)]
   unfold au
   rw[eS]
   rfl
  rw[if_neg h1] at eS
  rw[ab (by simpa using h1)]
  by_cases h2:bi (a2,a3,())=true
  ·rw[if_pos (.inl h2)] at eS
   rw[aa h2]
   unfold au
   rw[eS]
   rfl
  rw[ab (by simpa using h2)]
  by_cases h3:bi (a4,a5,())=true
  ·rw[if_pos (.inr h3)] at eS
   rw[aa h3]
   unfold au
   rw[eS]
   rfl
  rw[if_neg (show ¬(bi (a2,a3,())=true∨bi (a4,a5,())=true) from fun h=>h.elim h2 h3)] at eS
  rw[ab (by simpa using h3)]
  by_cases h4:16<(a6.length:Int)
  ·rw[if_pos h4] at eS
   rw[aa (by simpa using h4)]
   unfold au
   rw[eS]
   rfl
  rw[if_neg h4] at eS
  rw[ab (by simpa using h4),if_pos (by simp)]
  by_cases h5:aW a6=0
  ·rw[if_pos (decide_eq_true h5)]
   rw[aa hg]
   unfold au
   rw[if_neg (av (eS.trans h5))]
   simp only[cond_eq_ite,zB]
   split
   ·rfl
   ·rfl
  ·rw[if_neg (by simpa using h5)]
   unfold au
   rw[eS,if_pos h5]
abbrev iM:Io:=⟨[tD],[],[],[dL,dI],none⟩
def xy (d:iM.In):Tr iM.Res:=.ite (cS d.1.1) (.ret (.ret (((aK d.1.1).1,(aK d.1.1).2,()),()))) .no
abbrev zW:List (Nat×Hc):=[(82,ah f3 td),(83,ah gA te),(85,ah iL uV),(84,ah mv CZ)]
def GY:Hd:=bV zW
def AO:Lp:=cb []
def rP (a0 a1:Int)(a2:Bool)(a3:LI)(a4:Bool)(a5:LI)(a6:List bm.den):Option iM.Res:=bif cS (a0,a1,(a2,a3,()),(a4,a5,()),a6,()) then bif au (a0,a1,(a2,a3,()),(a4,a5,()),a6,()) != 0 then oR (([],au (a0,a1,(a2,a3,()),(a4,a5,()),a6,()),()),()) else bif cS (a0,a1,(a2,a3,()),(a4,a5,()),a6,()) then bif decide ((am (ai (↑(aG (a0,a1,(a2,a3,()),(a4,a5,()),a6,())).length:Int))).length+(aG (a0,a1,(a2,a3,()),(a4,a5,()),a6,())).length≤4294967296) then oR ((am (ai (↑(aG (a0,a1,(a2,a3,()),(a4,a5,()),a6,())).length:Int))++aG (a0,a1,(a2,a3,()),(a4,a5,()),a6,()),0,()),()) else none else none else none
theorem FF (a0 a1:Int)(a2:Bool)(a3:LI)(a4:Bool)(a5:LI)(a6:List bm.den):Io.run tt GY dr AO iM Tryd.f60 (((a0,a1,(a2,a3,()),(a4,a5,()),a6,()),()),())=rP a0 a1 a2 a3 a4 a5 a6:=by kernel_rfl
theorem Hu:HcOk prog 60 (ah iM xy):=by
 refine cq (cs:=zW) (.cons Fg (.cons Bf (.cons yq (.cons E0 .nil)))) (lp:=AO) (fn:=Tryd.f60) iM (.done (by kernel_rfl)) xy ?_
 rintro ⟨⟨⟨(a0:Int),(a1:Int),⟨(a2:Bool),(a3:LI),⟨⟩⟩,⟨(a4:Bool),(a5:LI),⟨⟩⟩,(a6:List bI),⟨⟩⟩,⟨⟩⟩,⟨⟩⟩ out hw ho
 obtain ⟨hg,ho⟩:=Tr.guard ho
 cases ho
 refine (FF a0 a1 a2 a3 a4 a5 a6).trans ?_
 show _=oR (((aK (a0,a1,(a2,a3,()),(a4,a5,()),a6,())).1,(aK (a0,a1,(a2,a3,()),(a4,a5,()),a6,())).2,()),())
 have hg:cS (a0,a1,(a2,a3,()),(a4,a5,()),a6,())=true:=hg
 unfold rP
 generalize ((a0,a1,(a2,a3,()),(a4,a5,()),a6,()):fQ)=r at *
 have hl:(aG r).length≤4294967000:=of_decide_eq_true hg
 rw[aa hg,aa hg]
 by_cases h1:au r=0
 ·have e2:aK r=(am (ai (aG r).length)++aG r,0):=by unfold aK;rw[if_pos h1]
  have:=nK (ai (aG r).length)
  rw[e2,ab (by simpa using h1),aa (by simp;omega)]
 ·have e2:aK r=([],au r):=by unfold aK;rw[if_neg h1]
  rw[e2,aa (by simpa using h1)]
abbrev lc:Io:=⟨[q9],[],[],[dI],none⟩
def C0 (d:lc.In):Tr lc.Res:=.ite (aU (aj d.1.1.2.2.2.2.2.1) d.1.1.2.2.2.2.2.1 0) (.ret (.ret ((ar d.1.1,()),()))) .no
abbrev Dy:List (Nat×Hc):=[(33,ah fC kR)]
def IZ:Hd:=bV Dy
def EH:Lp:=cb []
def vb (a0 a1 a2 a3 a4:Int)(a5:List bc.den):Option lc.Res:=bif aU (aj a5) a5 0 then oR (((ct (a0,a1,a2,a3,a4,a5,())).2,()),()) else none
theorem HJ (a0 a1 a2 a3 a4:Int)(a5:List bc.den):Io.run tt IZ dr EH lc Tryd.f16 (((a0,a1,a2,a3,a4,a5,()),()),())=vb a0 a1 a2 a3 a4 a5:=by kernel_rfl
theorem Jh:HcOk prog 16 (ah lc C0):=by
 refine cq (cs:=Dy) (.cons uq .nil) (lp:=EH) (fn:=Tryd.f16) lc (.done (by kernel_rfl)) C0 ?_
 rintro ⟨⟨⟨(b1:Int),(b2:Int),(b3:Int),(b4:Int),(b5:Int),(rs:List bd),⟨⟩⟩,⟨⟩⟩,⟨⟩⟩ out hw ho
 obtain ⟨hg,ho⟩:=Tr.guard ho
 cases ho
 refine (HJ b1 b2 b3 b4 b5 rs).trans ?_
 unfold vb
 refine (aa hg _ _).trans ?_
 have e:(ct (b1,b2,b3,b4,b5,rs,())).2=ar (b1,b2,b3,b4,b5,rs,()):=by
  unfold ct
  by_cases h:ar (b1,b2,b3,b4,b5,rs,())=0
  ·rw[if_neg (av h),h]
  ·rw[if_pos h]
 exact congrArg (fun x=>oR ((x,()),())) e
abbrev iS:Io:=⟨[q9],[],[],[dO,dI],none⟩
def xD (d:iS.In):Tr iS.Res:=.ite (aU (aj d.1.1.2.2.2.2.2.1) d.1.1.2.2.2.2.2.1 0&&decide (d.1.1.2.2.2.2.2.1.length≤256)) (.ret (.ret (((aE d.1.1.2.2.2.2.2.1).1,(aE d.1.1.2.2.2.2.2.1).2,()),()))) .no
abbrev Ah:List (Nat×Hc):=[(59,ah fF xE),(60,ah iM xy)]
def tO:Hd:=bV Ah
abbrev cI:Lo:=⟨⟨(.any::.one (.ptr 1 0)::cr (.one (.onl 5 (Ty.int u8) 9)::.one hI::.any::cr (.one (.hol (.sl 5 (Ty.int u8)))::.any::.one hI::an (an (an (an (fH []))))))),[none,some [hI,hJ,hI,hK,hJ,.hol (.sl 70 bc)]]⟩,[(.exit 2,⟨(.any::.one (.ptr 1 0)::cr (.one (.onl 5 (Ty.int u8) 9)::.one hI::an (an (an (an (fH (di (cr [])))))))),[none,some [hI,hJ,hI,hK,hJ,.hol (.sl 70 bc)]]⟩)]⟩
abbrev dh:Lo:=⟨⟨(.any::.one (.ptr 1 0)::cr (.one (.onl 5 (Ty.int u8) 9)::.one hI::an (an (an (an (fH (di (cr [])))))))),[none,some [hI,hJ,hI,hK,hJ,.hol (.sl 70 bc)]]⟩,[(.ret,⟨(cr (.one (.onl 5 (Ty.int u8) 5)::.one hI::an (an (an (an (an [])))))),[]⟩),(.exit 0,⟨(di (.one (.onl 5 (Ty.int u8) 9)::.any::an (an (an (an (fH (di (cr [])))))))),[]⟩)]⟩
def ig (d:cI.st.den):Tr (aA cI.xs):=
 .ite (decide (d.1.2.2.2.1=0)&&decide (d.1.1.length+d.1.2.2.1.length≤4294967296)) (.ret (.ret ((),((d.1.1++d.1.2.2.1,(d.1.2.1,())),(d.2.1,()))))) .no
def jz (d:dh.st.den):Tr (aA dh.xs):=
 .ite (decide (d.1.2.1=0)&&(decide (d.1.1.length=0)&&(decide (d.2.1.2.2.2.2.2.1.length≤256)&&aU (aj d.2.1.2.2.2.2.2.1) d.2.1.2.2.2.2.2.1 0)))
  (.ite (decide ((ay (aj d.2.1.2.2.2.2.2.1) d.2.1.2.2.2.2.2.1 0 []).2=0)) (.ret (.pan (.ret ((),(((ay (aj d.2.1.2.2.2.2.2.1) d.2.1.2.2.2.2.2.1 0 []).1,()),()))))) (.ret (.ret ((),(([],(ay (aj d.2.1.2.2.2.2.2.1) d.2.1.2.2.2.2.2.1 0 []).2,()),()))))) .no
def kp:Lp:=cb [(4,bg dh jz),(14,bg cI ig)]
def m6 {R:Type}(h18:LI)(h19:Int)(h20:LI)(h21 h22 h23 h24 h25 h26:Int)(h27:List bc.den)(next:LI→Int→LI→Int→Int→Int→Int→Int→Int→List bc.den→Option R)(out:aA cI.xs→Option R):Option R:=bif decide (h21<(↑h20.length:Int)) then bif decide (0≤h21)&&decide (h21<(↑h20.length:Int)) then bif decide (h18.length+1≤4294967296) then next (h18++[h20.getD h21.toNat 0]) (h19) (h20) (i64.wrap (h21+1)) (h22) (h23) (h24) (h25) (h26) (h27) else none else none else out (.ret ((),((h18,(h19,())),((h22,(h23,(h24,(h25,(h26,(h27,())))))),()))))
def lH (n:Nat)(h18:LI)(h19:Int)(h20:LI)(h21 h22 h23 h24 h25 h26:Int)(h27:List bc.den):Option (aA cI.xs):=kC tt tO dr kp 0 Tryd.f32 (KD Tryd.f32 (dD Tryd.f32 0) 0) n (cI.st.mk' ((h18,(h19,(h20,(h21,())))),((h22,(h23,(h24,(h25,(h26,(h27,())))))),()))) (cx cI.xs)
theorem yL (n:Nat)(h18:LI)(h19:Int)(h20:LI)(h21 h22 h23 h24 h25 h26:Int)(h27:List bc.den):lH (n+1) h18 h19 h20 h21 h22 h23 h24 h25 h26 h27=m6 h18 h19 h20 h21 h22 h23 h24 h25 h26 h27 (lH n) some:=by kernel_rfl
def oB {R:Type}(h6:LI)(h7 h8 h9 h10 h11 h12:Int)(h13:List bc.den)(next:LI→Int→Int→Int→Int→Int→Int→List bc.den→Option R)(out:aA dh.xs→Option R):Option R:=bif decide (h7<(↑h13.length:Int)) then bif decide (0≤h7)&&decide (h7<(↑h13.length:Int)) then bif decide (0≤0)&&decide (0<(↑h13.length:Int)) then bif !(cn (h13.getD h7.toNat (0,(false,[],()),(false,[],()),[],())).1 (h13.getD (Int.toNat 0) (0,(false,[],()),(false,[],()),[],())).1).2 then out (.ret ((),(([],(86,())),()))) else bif decide (0≤h7)&&decide (h7<(↑h13.length:Int)) then bif decide (0≤h7)&&decide (h7<(↑h13.length:Int)) then bif decide (0≤h7)&&decide (h7<(↑h13.length:Int)) then bif cS ((cn (h13.getD h7.toNat (0,(false,[],()),(false,[],()),[],())).1 (h13.getD (Int.toNat 0) (0,(false,[],()),(false,[],()),[],())).1).1,i32.wrap h7,(h13.getD h7.toNat (0,(false,[],()),(false,[],()),[],())).2) then bif (aK ((cn (h13.getD h7.toNat (0,(false,[],()),(false,[],()),[],())).1 (h13.getD (Int.toNat 0) (0,(false,[],()),(false,[],()),[],())).1).1,i32.wrap h7,(h13.getD h7.toNat (0,(false,[],()),(false,[],()),[],())).2)).2 != 0 then out (.ret ((),(([],((aK ((cn (h13.getD h7.toNat (0,(false,[],()),(false,[],()),[],())).1 (h13.getD (Int.toNat 0) (0,(false,[],()),(false,[],()),[],())).1).1,i32.wrap h7,(h13.getD h7.toNat (0,(false,[],()),(false,[],()),[],())).2)).2,())),()))) else (ig ((h6,(h7,((aK ((cn (h13.getD h7.toNat (0,(false,[],()),(false,[],()),[],())).1 (h13.getD (Int.toNat 0) (0,(false,[],()),(false,[],()),[],())).1).1,i32.wrap h7,(h13.getD h7.toNat (0,(false,[],()),(false,[],()),[],())).2)).1,(0,())))),((h8,(h9,(h10,(h11,(h12,(h13,())))))),()))).run fun y=>match y with | .ret ((),((x46,x47,()),(x48,x49,x50,x51,x52,x53,()),()))=>(next (x46) (i64.wrap (x47+1)) (x48) (x49) (x50) (x51) (x52) (x53)) else none else none else none else none else none else none else out (.pan (.ret ((),((h6,()),()))))
def kk (n:Nat)(h6:LI)(h7 h8 h9 h10 h11 h12:Int)(h13:List bc.den):Option (aA dh.xs):=kC tt tO dr kp 0 Tryd.f32 (dD Tryd.f32 0) n (dh.st.mk' ((h6,(h7,())),((h8,(h9,(h10,(h11,(h12,(h13,())))))),()))) (cx dh.xs)
theorem CJ (n:Nat)(h6:LI)(h7 h8 h9 h10 h11 h12:Int)(h13:List bc.den):kk (n+1) h6 h7 h8 h9 h10 h11 h12 h13=oB h6 h7 h8 h9 h10 h11 h12 h13 (kk n) some:=by kernel_rfl
theorem t7 (P:LI)(hP:P.length≤4294967296)(i b1 b2 b3 b4 b5:Int)(rs:List bd):∀(k j:Nat) (out:LI),P.length<j+k→j≤P.length→out.length+(P.length - j)≤4294967296→
  lH k out i P j b1 b2 b3 b4 b5 rs=some (.ret ((),((out++P.drop j,(i,())),((b1,(b2,(b3,(b4,(b5,(rs,())))))),())))):=by
 intro k
 induction k with
 |zero=>intro j out h;omega
 |succ k ih=>
  intro j out h1 h2 h3
  rw[yL]
  unfold m6
  by_cases hj:j<P.length
  ·refine bT (by simpa using hj) ?_
   refine bT (by simpa using hj) ?_
   refine bT (decide_eq_true (by omega)) ?_
   rw[ag (n:=(j:Int)+1) (by omega) (by omega)]
   have:=ih (j+1) (out++[P.getD (j:Int).toNat 0]) (by omega) (by omega) (by simp;omega)
   refine this.trans ?_
   rw[zG,aR hj,zK,zE hj]
   rfl
  ·refine bF (by simpa using hj) ?_
   rw[zI (by omega),List.append_nil]
theorem wm (b1 b2 b3 b4 b5:Int)(rs:List bd){f:Int}(hf0:aj rs=f)(hl:rs.length≤256):∀(k i:Nat) (out:LI),rs.length<i+k→i≤rs.length→aU f (rs.drop i) i=true→out.length≤i*17000→
  kk k out i b1 b2 b3 b4 b5 rs=if (ay f (rs.drop i) i out).2=0 then some (.pan (.ret ((),(((ay f (rs.drop i) i out).1,()),())))) else some (.ret ((),(([],((ay f (rs.drop i) i out).2,())),()))):=by
 intro k
 induction k with
 |zero=>intro i out h;omega
 |succ k ih=>
  intro i out h1 h2 h3 h4
  rw[CJ]
  unfold oB
  by_cases hi:i<rs.length
  ·rw[zE hi] at h3 ⊢
   have e0:(rs.getD (Int.toNat 0) (0,(false,[],()),(false,[],()),[],())).1=f:=by
    rw[← hf0]
    cases rs with
    |nil=>simp at hi
    |cons r l=>rfl
   have e1:List.getD rs (i:Int).toNat (0,(false,[],()),(false,[],()),[],())=rs[i]:=by rw[zG,aR hi]
   rw[e0,e1]
   generalize rs[i]=r at *
   simp only[aU,zA] at h3
   obtain ⟨h5,h6⟩:=h3
   have q1:(decide ((0:Int)≤(i:Int))&&decide ((i:Int)<(rs.length:Int)))=true:=by simpa using hi
   refine bT (by simpa using hi) ?_
   refine (aa q1 _ _).trans ?_
   refine bT (by simp;omega) ?_
   have eL:ay f (r::rs.drop (i+1)) i out=if aB (r.1 - f)=false then ([],86) else if au (aM f i r)≠0 then ([],au (aM f i r)) else ay f (rs.drop (i+1)) (i+1) (out++(aK (aM f i r)).1):=rfl
   rw[eL]
   cases h7:aB (r.1 - f) with
   |false=>
    have eS:cn r.1 f=(0,false):=by unfold cn;rw[h7,if_neg (by decide)]
    rw[eS]
    refine (aa rfl _ _).trans ?_
    rw[if_pos rfl,if_neg (show (86:Int)≠0 by decide)]
   |true=>
    have eS:cn r.1 f=(r.1 - f,true):=by unfold cn;rw[h7,if_pos rfl]
    rw[eS]
    refine (ab rfl _ _).trans ?_
    rw[if_neg (show ¬ true=false by decide)]
    refine (aa q1 _ _).trans ?_
    refine (aa q1 _ _).trans ?_
    refine (aa q1 _ _).trans ?_
    have eR:((r.1 - f,i32.wrap (i:Int),r.2):fQ)=aM f i r:=by
     rw[bU (k:=.i32) (by simp[aS,IntKind.min,IntKind.max,IntKind.signed,IntKind.bits];omega)]
     rfl
    rw[eR]
    refine (aa h5 _ _).trans ?_
    by_cases h9:au (aM f i r)=0
    ·obtain ⟨p1,p2⟩:=sT h9
     refine bF (by simpa using p1) ?_
     rw[if_neg (av h9)]
     unfold ig
     refine bT (by simp only[zA,zB];exact ⟨trivial,show out.length+(aK (aM f i r)).1.length≤4294967296 by omega⟩) ?_
     show kk k (out++(aK (aM f i r)).1) (i64.wrap ((i:Int)+1)) b1 b2 b3 b4 b5 rs=_
     rw[ag (n:=(i:Int)+1) (by omega) (by omega)]
     exact ih (i+1) _ (by omega) (by omega) h6 (by simp;omega)
    ·refine bT (by rw[jd h9];simpa using h9) ?_
     rw[if_pos h9,jd h9]
     rw[if_neg h9]
  ·refine bF (by simp;omega) ?_
   rw[zI (by omega)]
   rfl
def rZ (a0 a1 a2 a3 a4:Int)(a5:List bc.den):Option iS.Res:=(jz (([],(0,())),((a0,(a1,(a2,(a3,(a4,(a5,())))))),()))).run fun y=>match y with | .ret ((),((x63,x64,()),()))=>(oR ((x63,x64,()),())) | .pan (.ret ((),((x65,()),())))=>(bif decide (32768<(↑x65.length:Int)) then oR (([],4,()),()) else oR ((x65,0,()),()))
theorem FR (a0 a1 a2 a3 a4:Int)(a5:List bc.den):Io.run tt tO dr kp iS Tryd.f32 (((a0,a1,a2,a3,a4,a5,()),()),())=rZ a0 a1 a2 a3 a4 a5:=by kernel_rfl
theorem nl:HcsOk prog Ah:=.cons HC (.cons Hu .nil)
theorem HB:HcOk prog 32 (ah iS xD):=by
 refine cq nl (lp:=kp) (fn:=Tryd.f32) iS (.step (h0:=bg dh jz) (by kernel_rfl) (lI nl (lp:=kp) (fn:=Tryd.f32) (.step (h0:=bg cI ig) (by kernel_rfl) (lI nl (lp:=kp) (fn:=Tryd.f32) (.done (by kernel_rfl)) cI ig ?_) (.done (by kernel_rfl))) dh jz ?_) (.done (by kernel_rfl))) xD ?_
 ·rintro ⟨⟨(out:LI),(i:Int),(P:LI),(j:Int),⟨⟩⟩,⟨⟨(b1:Int),(b2:Int),(b3:Int),(b4:Int),(b5:Int),(rs:List bd),⟨⟩⟩,⟨⟩⟩⟩ y hw hy
  obtain ⟨hg,hy⟩:=Tr.guard hy
  simp only[zA,zB] at hg
  obtain ⟨h1,h2⟩:=hg
  have h1:j=0:=h1
  have h2:out.length+P.length≤4294967296:=h2
  subst h1
  refine ⟨P.length+1,(t7 P (by omega) i b1 b2 b3 b4 b5 rs (P.length+1) 0 out (by omega) (by omega) (by omega)).trans ?_⟩
  rw[← hy];rfl
 ·rintro ⟨⟨(out:LI),(i:Int),⟨⟩⟩,⟨⟨(b1:Int),(b2:Int),(b3:Int),(b4:Int),(b5:Int),(rs:List bd),⟨⟩⟩,⟨⟩⟩⟩ y hw hy
  obtain ⟨hg,hy⟩:=Tr.guard hy
  simp only[zA,zB] at hg
  obtain ⟨h1,h3,h6,h7⟩:=hg
  have h1:i=0:=h1
  have h3:out=[]:=List.length_eq_zero_iff.1 h3
  have h6:rs.length≤256:=h6
  subst h1 h3
  refine ⟨rs.length+1,(wm b1 b2 b3 b4 b5 rs rfl h6 (rs.length+1) 0 [] (by omega) (by omega) h7 (by simp)).trans ?_⟩
  rw[← hy]
  simp only[Tr.val_ite,zB,Tr.val_ret,List.drop_zero]
 ·rintro ⟨⟨⟨(b1:Int),(b2:Int),(b3:Int),(b4:Int),(b5:Int),(rs:List bd),⟨⟩⟩,⟨⟩⟩,⟨⟩⟩ out hw ho
  obtain ⟨hg,ho⟩:=Tr.guard ho
  simp only[zA,zB] at hg
  have hg1:aU (aj rs) rs 0=true:=hg.1
  have hg2:rs.length≤256:=hg.2
  cases ho
  refine (FR b1 b2 b3 b4 b5 rs).trans ?_
  show _=oR (((aE rs).1,(aE rs).2,()),())
  unfold rZ jz
  refine bT (by simp only[zA,zB];exact ⟨trivial,rfl,hg2,hg1⟩) ?_
  show (bif decide ((ay (aj rs) rs 0 []).2=0) then (bif decide (32768<((ay (aj rs) rs 0 []).1.length:Int)) then oR (([],4,()),()) else oR (((ay (aj rs) rs 0 []).1,0,()),())) else oR (([],(ay (aj rs) rs 0 []).2,()),()))=_
  unfold aE
  by_cases h5:(ay (aj rs) rs 0 []).2=0
  ·refine bT (decide_eq_true h5) ?_
   rw[if_neg (av h5)]
   by_cases h6:32768<((ay (aj rs) rs 0 []).1.length:Int)
   ·refine bT (decide_eq_true h6) ?_
    rw[if_pos h6]
   ·refine bF (decide_eq_false h6) ?_
    rw[if_neg h6]
  ·refine bF (decide_eq_false h5) ?_
   rw[if_pos h5]
abbrev lC:Io:=⟨[q9],[],[],[dI],none⟩
def Dd (d:lC.In):Tr lC.Res:=.ite (aU (aj d.1.1.2.2.2.2.2.1) d.1.1.2.2.2.2.2.1 0) (.ret (.ret ((ar d.1.1,()),()))) .no
abbrev DT:List (Nat×Hc):=[(26,ah gF xC),(32,ah iS xD)]
def Jf:Hd:=bV DT
def EX:Lp:=cb []
def vv (a0 a1 a2 a3 a4:Int)(a5:List bc.den):Option lC.Res:=bif decide (a0<0) then oR ((80,()),()) else bif decide (4611686018427387648<a0) then oR ((80,()),()) else bif !!aQ a2 a3 a4 then oR ((84,()),()) else bif (↑a5.length:Int) == 0 then oR ((85,()),()) else bif decide (256<(↑a5.length:Int)) then oR ((9,()),()) else bif aU (aj a5) a5 0&&decide (a5.length≤256) then oR (((aE a5).2,()),()) else none
theorem Ic (a0 a1 a2 a3 a4:Int)(a5:List bc.den):Io.run tt Jf dr EX lC Tryd.f15 (((a0,a1,a2,a3,a4,a5,()),()),())=vv a0 a1 a2 a3 a4 a5:=by kernel_rfl
theorem JG:HcOk prog 15 (ah lC Dd):=by
 refine cq (cs:=DT) (.cons HA (.cons HB .nil)) (lp:=EX) (fn:=Tryd.f15) lC (.done (by kernel_rfl)) Dd ?_
 rintro ⟨⟨⟨(b1:Int),(b2:Int),(b3:Int),(b4:Int),(b5:Int),(rs:List bd),⟨⟩⟩,⟨⟩⟩,⟨⟩⟩ out hw ho
 obtain ⟨hg,ho⟩:=Tr.guard ho
 have hg:aU (aj rs) rs 0=true:=hg
 cases ho
 refine (Ic b1 b2 b3 b4 b5 rs).trans ?_
 show _=oR ((ar (b1,b2,b3,b4,b5,rs,()),()),())
 have e:ar (b1,b2,b3,b4,b5,rs,())=if aY b1=true then 80 else if aQ b3 b4 b5=true then 84 else if rs=[] then 85 else if 256<(rs.length:Int) then 9 else (aE rs).2:=rfl
 have hB:aY b1=(decide (b1<0) || decide (4611686018427387648<b1)):=rfl
 unfold vv
 by_cases h1:b1<0
 ·refine bT (decide_eq_true h1) ?_
  rw[e,if_pos (by rw[hB,decide_eq_true h1];rfl)]
 refine bF (decide_eq_false h1) ?_
 by_cases h2:4611686018427387648<b1
 ·refine bT (decide_eq_true h2) ?_
  rw[e,if_pos (by rw[hB,decide_eq_true h2,Bool.or_true])]
 refine bF (decide_eq_false h2) ?_
 rw[e,if_neg (by rw[hB,decide_eq_false h1,decide_eq_false h2];decide)]
 cases h3:aQ b3 b4 b5 with
 |true=>
  refine (aa rfl _ _).trans ?_
  rw[if_pos rfl]
 |false=>
 refine (ab rfl _ _).trans ?_
 rw[if_neg (by decide)]
 by_cases h4:rs=[]
 ·refine bT (by simp[h4]) ?_
  rw[if_pos h4]
 refine bF (by simp[h4]) ?_
 rw[if_neg h4]
 by_cases h5:256<(rs.length:Int)
 ·refine bT (decide_eq_true h5) ?_
  rw[if_pos h5]
 refine bF (decide_eq_false h5) ?_
 rw[if_neg h5]
 exact aa (by rw[zA];exact ⟨hg,decide_eq_true (show rs.length≤256 by omega)⟩) _ _
end
end Go.Proofs.YtcbcbjdobbgddaaDoor.Sym
namespace Go.Proofs.YtcbcbjdobbgddaaDoor.Sym
open Go
noncomputable section
end
end Go.Proofs.YtcbcbjdobbgddaaDoor.Sym
namespace Go.Proofs.YtcbcbjdobbgddaaDoor.Sym
open Go
open Go.IntKind (i8 i16 i32 i64 u8 u16 u32 u64)
noncomputable section
def Can:Bool→LI→Prop
 |_,[]=>False
 |f,[c]=>0≤c∧c<128∧(f=true→c≠0)
 |_,c::d::l=>128≤c∧c≤255∧Can true (d::l)
theorem Can.pos:∀{l:LI},Can true l→1≤bf l
 |[],h=>h.elim
 |[c],h=>by
  obtain ⟨h1,h2,h3⟩:=h
  have:=h3 rfl
  simp only[bf]
  omega
 |c::d::l,h=>by
  have:=Can.pos h.2.2
  rw[bf]
  omega
theorem Can.dig:∀{l:LI} (n:Nat) (f:Bool),Can f l→l.length≤n+1→cY n (bf l)++[dv n (bf l)]=l
 |[],n,f,h,hl=>h.elim
 |[c],n,f,h,hl=>by
  obtain ⟨h1,h2,h3⟩:=h
  have e:bf [c]=c:=by simp only[bf];omega
  rw[e]
  cases n with
  |zero=>rfl
  |succ n=>
   have:¬ 127<c:=by omega
   simp[cY,dv,this]
 |c::d::l,n,f,h,hl=>by
  obtain ⟨h1,h2,h3⟩:=h
  have hp:=h3.pos
  cases n with
  |zero=>simp at hl
  |succ n=>
   have ih:=Can.dig n true h3 (by simpa using hl)
   have e:bf (c::d::l)=c % 128+128*bf (d::l):=rfl
   have e1:(c % 128+128*bf (d::l)) / 128=bf (d::l):=by omega
   have e2:(c % 128+128*bf (d::l)) % 128+128=c:=by omega
   have e3:127<c % 128+128*bf (d::l):=by omega
   rw[e,cY,dv,if_pos e3,if_pos e3,e1,e2,List.cons_append,ih]
theorem qx:∀j:Nat,(1:Int)≤128 ^ j
 |0=>by simp
 |j+1=>by
  have:=qx j
  rw[Int.pow_succ]
  omega
theorem xe (most:Nat)(top:Int)(h0:0≤top)(ht:top<128):∀(l:LI) (i:Nat),(∀c∈l,0≤c∧c≤255)→i<most→(cT most top l i).2=0→
  ∃m:Nat,(cT most top l i).1=i+m∧m<l.length∧i+m<most∧Can (decide (0<i)) (l.take (m+1))∧bf (l.take (m+1))<128 ^ (most - 1 - i)*(top+1)
 |[],i,hc,hi,h=>by simp[cT] at h
 |c::l,i,hc,hi,h=>by
  have hcc:=hc c (by simp)
  simp only[cT] at h ⊢
  split at h
  ·cases h
  rename_i h1
  rw[if_neg h1]
  split at h
  ·rename_i h2
   rw[if_pos h2]
   split at h
   ·cases h
   rename_i h3
   rw[if_neg h3]
   refine ⟨0,by simp,by simp,by omega,?_,?_⟩
   ·refine ⟨hcc.1,h2,fun hf hz=>h3 ⟨hz,by simpa using hf⟩⟩
   ·have e:bf ((c::l).take (0+1))=c:=by simp only[List.take_succ_cons,List.take_zero,bf];omega
    rw[e]
    by_cases hm:i+1=most
    ·rw[show most - 1 - i=0 by omega]
     have:¬ top<c:=fun h=>h1 ⟨hm,h⟩
     simp;omega
    ·obtain ⟨j,hj⟩:∃j,most - 1 - i=j+1:=⟨most - 2 - i,by omega⟩
     rw[hj,Int.pow_succ]
     have hp:(1:Int)≤128 ^ j:=qx j
     have:(1:Int)*128*1≤128 ^ j*128*(top+1):=Int.mul_le_mul (Int.mul_le_mul_of_nonneg_right hp (by omega)) (by omega) (by omega) (Int.mul_nonneg (by omega) (by omega))
     omega
  ·rename_i h2
   rw[if_neg h2]
   have hne:i+1<most:=by
    rcases Nat.lt_or_ge (i+1) most with h | h'
    ·exact h
    ·exact absurd ⟨by omega,by omega⟩ h1
   obtain ⟨m,g1,g2,g3,g4,g5⟩:=xe most top h0 ht l (i+1) (fun c hc'=>hc c (by simp[hc'])) hne h
   refine ⟨m+1,by rw[g1];push_cast;omega,by simp;omega,by omega,?_,?_⟩
   ·obtain ⟨d,l',rfl⟩:∃d l',l=d::l':=by
     cases l with
     |nil=>simp at g2
     |cons d l'=>exact ⟨d,l',rfl⟩
    rw[List.take_succ_cons,List.take_succ_cons] at *
    refine ⟨by omega,hcc.2,?_⟩
    simpa using g4
   ·rw[List.take_succ_cons,bf]
    obtain ⟨j,hj⟩:∃j,most - 1 - i=j+1:=⟨most - 2 - i,by omega⟩
    rw[show most - 1 - (i+1)=j by omega] at g5
    rw[hj,Int.pow_succ]
    have e:(128:Int) ^ j*128*(top+1)=128*(128 ^ j*(top+1)):=by
     rw[Int.mul_comm (128 ^ j) 128,Int.mul_assoc]
    rw[e]
    omega
def pc (b:LI)(p q:Int):LI:=(b.take q.toNat).drop p.toNat
theorem gT {b:LI}{p q r:Int}(h0:0≤p)(h1:p≤q)(h2:q≤r):pc b p q++pc b q r=pc b p r:=by
 unfold pc
 obtain ⟨P,rfl⟩:=aN h0
 obtain ⟨Q,rfl⟩:=aN (show 0≤q by omega)
 obtain ⟨R,rfl⟩:=aN (show 0≤r by omega)
 simp only[zG]
 have e:b.take Q=(b.take R).take Q:=by rw[List.take_take,Nat.min_eq_left (by omega)]
 rw[e,List.drop_take]
 have e2:(b.take R).drop Q=((b.take R).drop P).drop (Q - P):=by rw[List.drop_drop,show P+(Q - P)=Q by omega]
 rw[e2,List.take_append_drop]
theorem Bm {b:LI}{q n:Int}(h0:0≤q)(h1:0≤n):(b.drop q.toNat).take n.toNat=pc b q (q+n):=by
 unfold pc
 rw[List.drop_take,show (q+n).toNat - q.toNat=n.toNat by omega]
theorem Fl {b:LI}{p q:Int}(h0:0≤p)(h1:p≤q)(h2:q≤b.length):((pc b p q).length:Int)=q - p:=by
 unfold pc
 simp only[List.length_drop,List.length_take]
 omega
def bx (b:LI):Prop:=∀c∈b,0≤c∧c≤255
theorem sR {most:Nat}{top:Int}(h0:0≤top)(ht:top<128)(hm:0<most)(hm':most≤10)(hB:128 ^ (most - 1)*(top+1)≤18446744073709551616){b:LI}(hb:bx b){p:Int}(h:(ac most top b p).2.2=0):
  am (ac most top b p).1=pc b p (ac most top b p).2.1∧0≤(ac most top b p).1∧(ac most top b p).1<128 ^ (most - 1)*(top+1):=by
 obtain ⟨k1,k2,k3⟩:=mP h
 unfold ac at h k2 k3 ⊢
 by_cases hp:p<0∨(b.length:Int)<p
 ·rw[if_pos hp] at h;cases h
 rw[if_neg hp] at h k2 k3 ⊢
 by_cases hr:(cT most top (b.drop p.toNat) 0).2=0
 rotate_left
 ·rw[if_neg hr] at h;exact absurd h hr
 rw[if_pos hr] at k2 k3 ⊢
 obtain ⟨m,g1,g2,g3,g4,g5⟩:=xe most top h0 ht (b.drop p.toNat) 0 (fun c hc=>hb c (List.mem_of_mem_drop hc)) hm hr
 rw[g1] at k2 k3 ⊢
 simp only at k2 k3 ⊢
 have e1:((((0:Nat):Int)+(m:Int))+1).toNat=m+1:=by omega
 rw[e1]
 have hpos:=(qO ((b.drop p.toNat).take (m+1))).1
 rw[Nat.sub_zero] at g5
 rw[Int.emod_eq_of_lt hpos (by omega)]
 refine ⟨?_,hpos,g5⟩
 have hd:=Can.dig 10 _ g4 (by rw[List.length_take];omega)
 unfold am
 rw[hd]
 unfold pc
 rw[List.drop_take,show (p+(((0:Nat):Int)+m)+1).toNat - p.toNat=m+1 by omega]
theorem Ax {n:Int}:aS .i32 n↔-2147483648≤n∧n≤2147483647:=by simp[aS,IntKind.min,IntKind.max,IntKind.signed,IntKind.bits]
theorem BD {u:Int}(h:0≤u):ai (ao u)=u:=by
 unfold ai ao
 split <;> split <;> omega
theorem iq {b:LI}(hb:bx b){p:Int}(h:(af b p).2.2=0):am (ai (af b p).1)=pc b p (af b p).2.1:=by
 obtain ⟨h1,h2,h3⟩:=sR (most:=5) (top:=15) (by decide) (by decide) (by decide) (by decide) (by decide) hb (show (ac 5 15 b p).2.2=0 from h)
 have h3:(ac 5 15 b p).1<4294967296:=h3
 have e:(af b p).1=ao (ac 5 15 b p).1:=by
  show IntKind.wrap .i32 (ao (ac 5 15 b p).1)=_
  refine bU (k:=.i32) (Ax.2 ?_)
  unfold ao
  split <;> omega
 rw[e,BD h2]
 exact h1
theorem yN {b:LI}(hb:bx b){p:Int}(h:(ac 10 1 b p).2.2=0):am (ai (ao (ac 10 1 b p).1))=pc b p (ac 10 1 b p).2.1:=by
 obtain ⟨h1,h2,h3⟩:=sR (most:=10) (top:=1) (by decide) (by decide) (by decide) (by decide) (by decide) hb h
 rw[BD h2]
 exact h1
theorem CO {b:LI}{p l:Int}(hl : -1≤l)(h:(ae b p l).2.2=0):(af b p).2.2=0∧
  ((l<0∧(af b p).1 = -1∧ae b p l=((true,[],()),(af b p).2.1,0)) ∨
   (0≤(af b p).1∧(af b p).2.1+(af b p).1≤b.length∧ae b p l=((false,pc b (af b p).2.1 ((af b p).2.1+(af b p).1),()),(af b p).2.1+(af b p).1,0))):=by
 unfold ae at h ⊢
 by_cases h0:(af b p).2.2=0
 rotate_left
 ·rw[if_pos h0] at h;exact absurd h h0
 have hk:=ey h0
 rw[if_neg (av h0)] at h ⊢
 by_cases h1:(af b p).1<l
 ·rw[if_pos h1] at h;cases h
 rw[if_neg h1] at h ⊢
 by_cases h2:(af b p).1<0
 ·rw[if_pos h2]
  exact ⟨h0,.inl ⟨by omega,by omega,rfl⟩⟩
 rw[if_neg h2] at h ⊢
 by_cases h3:(b.length:Int) - (af b p).2.1<(af b p).1
 ·rw[if_pos h3] at h;cases h
 rw[if_neg h3,Bm (by omega) (by omega)]
 exact ⟨h0,.inr ⟨by omega,by omega,rfl⟩⟩
theorem gJ {b:LI}(hb:bx b){p l:Int}(hl : -1≤l)(h:(ae b p l).2.2=0):
  aq (ae b p l).1=pc b p (ae b p l).2.1∧bi (ae b p l).1=false∧0≤p∧p<(ae b p l).2.1∧(ae b p l).2.1≤b.length∧(0≤l→(ae b p l).1.1=false):=by
 obtain ⟨h0,h1 | h1⟩:=CO hl h
 ·obtain ⟨h1,h2,e⟩:=h1
  have hk:=ey h0
  have hd:=iq hb h0
  rw[e]
  refine ⟨?_,by simp[bi],hk.1,hk.2.1,hk.2.2,fun h=>by omega⟩
  rw[h2] at hd
  exact hd
 ·obtain ⟨h1,h2,e⟩:=h1
  have hk:=ey h0
  have hd:=iq hb h0
  rw[e]
  refine ⟨?_,by simp[bi],hk.1,by simp only;omega,by simpa using h2,fun _=>rfl⟩
  show am (ai ((pc b (af b p).2.1 ((af b p).2.1+(af b p).1)).length:Int))++pc b (af b p).2.1 ((af b p).2.1+(af b p).1)=_
  rw[Fl (by omega) (by omega) h2,show (af b p).2.1+(af b p).1 - (af b p).2.1=(af b p).1 by omega,hd,gT hk.1 (by omega) (by omega)]
theorem kM {b:LI}(hb:bx b):∀(n:Nat) (o:List bI) (p:Int),0≤p→p≤b.length→(aZ b n o p).2.2=0→
  ∃hs:List bI,(aZ b n o p).1=o++hs∧hs.length=n∧az hs=pc b p (aZ b n o p).2.1∧aW hs=0∧p≤(aZ b n o p).2.1∧(aZ b n o p).2.1≤b.length
 |0,o,p,h0,h1,h=>by
  refine ⟨[],by simp[aZ],rfl,?_,rfl,Int.le_refl _,h1⟩
  show []=pc b p p
  unfold pc
  rw[zI (by simp;omega)]
 |n+1,o,p,h0,h1,h=>by
  rw[gV] at h ⊢
  by_cases hH:(aI b p).2.2=0
  rotate_left
  ·rw[if_pos hH] at h;exact absurd h hH
  rw[if_neg (av hH)] at h ⊢
  unfold aI at hH
  by_cases a1:(ae b p 0).2.2=0
  rotate_left
  ·rw[if_pos a1] at hH;exact absurd hH a1
  rw[if_neg (av a1)] at hH
  by_cases a2:(b7 (ae b p 0).1.2.1).2=false
  ·rw[if_pos a2] at hH;cases hH
  rw[if_neg a2] at hH
  have hH:(ae b (ae b p 0).2.1 (-1)).2.2=0:=hH
  have eH:aI b p=(((ae b p 0).1.2.1,(ae b (ae b p 0).2.1 (-1)).1,()),(ae b (ae b p 0).2.1 (-1)).2.1,(ae b (ae b p 0).2.1 (-1)).2.2):=by
   unfold aI;rw[if_neg (av a1),if_neg a2]
  rw[eH] at h ⊢
  simp only at h ⊢
  obtain ⟨k1,k2,k3,k4,k5,k6⟩:=gJ hb (by decide) a1
  obtain ⟨q1,q2,q3,q4,q5,q6⟩:=gJ hb (by decide) hH
  have k6:=k6 (Int.le_refl 0)
  obtain ⟨hs,g1,g2,g3,g4,g5,g6⟩:=kM hb n _ _ (show 0≤(ae b (ae b p 0).2.1 (-1)).2.1 by omega) q5 h
  refine ⟨((ae b p 0).1.2.1,(ae b (ae b p 0).2.1 (-1)).1,())::hs,by rw[g1];simp,by simp[g2],?_,?_,by omega,g6⟩
  ·have e1:az (((ae b p 0).1.2.1,(ae b (ae b p 0).2.1 (-1)).1,())::hs)=(am (ai (ae b p 0).1.2.1.length)++(ae b p 0).1.2.1)++aq (ae b (ae b p 0).2.1 (-1)).1++az hs:=by
    simp[az,gK]
   have e2:am (ai (ae b p 0).1.2.1.length)++(ae b p 0).1.2.1=pc b p (ae b p 0).2.1:=by
    rw[← k1]
    unfold aq
    rw[if_neg (by rw[k6];decide)]
   rw[e1,e2,q1,g3,gT k3 (by omega) (by omega),gT k3 (by omega) (by omega)]
  ·unfold aW
   rw[if_neg a2,if_neg (by rw[q2];decide)]
   exact g4
theorem uH {b:LI}(hb:bx b){p:Int}(h:(aO b p).2.2=0):
  am (ai (aO b p).1.length)++az (aO b p).1=pc b p (aO b p).2.1∧aW (aO b p).1=0∧((aO b p).1.length:Int)≤16∧0≤p∧p<(aO b p).2.1∧(aO b p).2.1≤b.length:=by
 unfold aO at h ⊢
 by_cases c5:(af b p).2.2=0
 rotate_left
 ·rw[if_pos c5] at h;exact absurd h c5
 rw[if_neg (av c5)] at h ⊢
 by_cases c6:(af b p).1<0
 ·rw[if_pos c6] at h;cases h
 rw[if_neg c6] at h ⊢
 by_cases c7:16<(af b p).1
 ·rw[if_pos c7] at h;cases h
 rw[if_neg c7] at h ⊢
 have hk:=ey c5
 obtain ⟨hs,g1,g2,g3,g4,g5,g6⟩:=kM hb (af b p).1.toNat [] (af b p).2.1 (by omega) hk.2.2 h
 rw[List.nil_append] at g1
 have hl:(hs.length:Int)=(af b p).1:=by omega
 rw[g1,hl,iq hb c5,g3,gT hk.1 (by omega) g5]
 exact ⟨rfl,g4,by omega,hk.1,by omega,g6⟩
theorem yR {b:LI}(hb:bx b)(h:(bD b).2=0):aG (bD b).1=b∧cL (bD b).1=0:=by
 unfold bD at h ⊢
 by_cases h0:b.length=0
 ·rw[if_pos h0] at h;cases h
 rw[if_neg h0] at h ⊢
 by_cases h1:b.getD 0 0=0
 rotate_left
 ·rw[if_pos h1] at h;cases h
 rw[if_neg (av h1)] at h ⊢
 by_cases h2:(ac 10 1 b 1).2.2=0
 rotate_left
 ·rw[if_pos h2] at h;exact absurd h h2
 rw[if_neg (av h2)] at h ⊢
 have d1:=yN hb h2
 have k1:=mP h2
 generalize ao (ac 10 1 b 1).1=v1 at *
 generalize (ac 10 1 b 1).2.1=q1 at *
 by_cases c1:(af b q1).2.2=0
 rotate_left
 ·rw[if_pos c1] at h;exact absurd h c1
 rw[if_neg (av c1)] at h ⊢
 by_cases c2:(af b q1).1<0
 ·rw[if_pos c2] at h;cases h
 rw[if_neg c2] at h ⊢
 have d2:=iq hb c1
 have k2:=ey c1
 generalize (af b q1).1=v2 at *
 generalize (af b q1).2.1=q2 at *
 by_cases c3:(ae b q2 (-1)).2.2=0
 rotate_left
 ·rw[if_pos c3] at h;exact absurd h c3
 rw[if_neg (av c3)] at h ⊢
 obtain ⟨d3,b3,k3⟩:=gJ hb (by decide) c3
 generalize (ae b q2 (-1)).1=B1 at *
 generalize (ae b q2 (-1)).2.1=q3 at *
 by_cases c4:(ae b q3 (-1)).2.2=0
 rotate_left
 ·rw[if_pos c4] at h;exact absurd h c4
 rw[if_neg (av c4)] at h ⊢
 obtain ⟨d4,b4,k4⟩:=gJ hb (by decide) c4
 generalize (ae b q3 (-1)).1=B2 at *
 generalize (ae b q3 (-1)).2.1=q4 at *
 by_cases c5:(aO b q4).2.2=0
 rotate_left
 ·rw[if_pos c5] at h;exact absurd h c5
 rw[if_neg (av c5)] at h ⊢
 obtain ⟨d5,e5,n5,k5⟩:=uH hb c5
 generalize (aO b q4).1=hs at *
 generalize (aO b q4).2.1=q5 at *
 by_cases c6:q5<(b.length:Int)
 ·rw[if_pos c6] at h;cases h
 rw[if_neg c6]
 refine ⟨?_,?_⟩
 ·show 0::(am (ai v1)++(am (ai v2)++(aq B1++(aq B2++(am (ai hs.length)++az hs)))))=b
  rw[d1,d2,d3,d4,d5,gT (by omega) (by omega) (by omega),gT (by omega) (by omega) (by omega),gT (by omega) (by omega) (by omega),gT (by omega) (by omega) (by omega),show q5=b.length by omega]
  unfold pc
  rw[zG,List.take_length]
  obtain ⟨c,l,rfl⟩:∃c l,b=c::l:=by
   cases b with
   |nil=>exact absurd rfl h0
   |cons c l=>exact ⟨c,l,rfl⟩
  have h1:c=0:=h1
  rw[h1]
  rfl
 ·show (if v2<0 then 72 else if bi B1=true∨bi B2=true then 70 else if 16<(hs.length:Int) then 9 else aW hs)=0
  rw[if_neg c2,if_neg (by rw[b3,b4];simp),if_neg (by omega),e5]
theorem yO {b:LI}(hb:bx b){p:Int}(h:(ak b p).2.2=0):
  0≤p∧p<(ak b p).2.1∧(ak b p).2.1≤b.length∧au (ak b p).1=0∧aK (ak b p).1=(pc b p (ak b p).2.1,0)∧cS (ak b p).1=true:=by
 unfold ak at h ⊢
 by_cases c1:(af b p).2.2=0
 rotate_left
 ·rw[if_pos c1] at h;exact absurd h c1
 rw[if_neg (av c1)] at h ⊢
 by_cases c2:(af b p).1<0
 ·rw[if_pos c2] at h;cases h
 rw[if_neg c2] at h ⊢
 by_cases c3:16384<(af b p).1
 ·rw[if_pos c3] at h;cases h
 rw[if_neg c3] at h ⊢
 by_cases c4:(b.length:Int) - (af b p).2.1<(af b p).1
 ·rw[if_pos c4] at h;cases h
 rw[if_neg c4] at h ⊢
 have d1:=iq hb c1
 have k1:=ey c1
 generalize (af b p).1=n at *
 generalize (af b p).2.1=q at *
 rw[Bm (by omega) (by omega)] at h ⊢
 by_cases c5:(bD (pc b q (q+n))).2=0
 rotate_left
 ·rw[if_pos c5] at h;exact absurd h c5
 rw[if_neg (av c5)] at h ⊢
 have hb2:bx (pc b q (q+n)):=fun c hc=>hb c (List.mem_of_mem_take (List.mem_of_mem_drop hc))
 obtain ⟨e1,e2⟩:=yR hb2 c5
 have hl:=Fl (b:=b) (p:=q) (q:=q+n) (by omega) (by omega) (by omega)
 generalize (bD (pc b q (q+n))).1=r at *
 have hbl:((aG r).length:Int)=n:=by rw[e1];omega
 have hc:au r=0:=by
  unfold au
  rw[if_neg (av e2),if_neg (by omega)]
 refine ⟨k1.1,by simp only;omega,by simp only;omega,hc,?_,?_⟩
 ·unfold aK
  rw[if_pos hc,hbl,d1,e1,gT k1.1 (by omega) (by omega)]
 ·unfold cS
  rw[zB]
  omega
theorem bytesOf {b:LI}(h:Ty.wf bs b):bx b:=fun c hc=>by
 have:=h.2 c hc
 exact Ev.1 this
theorem Aj:∀(n:Nat) (u:Int) (f:Bool),0≤u→u<128 ^ (n+1)→(f=true→1≤u)→Can f (cY n u++[dv n u])∧bf (cY n u++[dv n u])=u∧(cY n u++[dv n u]).length≤n+1
 |0,u,f,h0,h1,hf=>by
  have h1:u<128:=h1
  refine ⟨⟨h0,h1,fun h=>by have:=hf h;show u≠0;omega⟩,?_,by simp[cY]⟩
  show u % 128+128*0=u
  omega
 |n+1,u,f,h0,h1,hf=>by
  by_cases h:127<u
  ·rw[Int.pow_succ] at h1
   obtain ⟨g1,g2,g3⟩:=Aj n (u / 128) true (by omega) (Int.ediv_lt_of_lt_mul (by omega) h1) (fun _=>by omega)
   have e:cY (n+1) u++[dv (n+1) u]=(u % 128+128)::(cY n (u / 128)++[dv n (u / 128)]):=by
    rw[cY,dv,if_pos h,if_pos h,List.cons_append]
   rw[e]
   obtain ⟨d,l,hl⟩:∃d l,cY n (u / 128)++[dv n (u / 128)]=d::l:=by
    cases hx:cY n (u / 128)++[dv n (u / 128)] with
    |nil=>simp at hx
    |cons d l=>exact ⟨d,l,rfl⟩
   rw[hl] at g1 g2 g3 ⊢
   refine ⟨⟨by omega,by omega,g1⟩,?_,by simp at g3 ⊢;omega⟩
   show (u % 128+128) % 128+128*bf (d::l)=u
   rw[g2]
   omega
  ·have e:cY (n+1) u++[dv (n+1) u]=[u]:=by
    rw[cY,dv,if_neg h,if_neg h];rfl
   rw[e]
   refine ⟨⟨h0,by omega,fun h=>by have:=hf h;omega⟩,?_,by simp⟩
   show u % 128+128*0=u
   omega
theorem CK {u:Int}(h0:0≤u)(h:u<18446744073709551616):Can false (am u)∧bf (am u)=u∧0<(am u).length:=
 have g:=Aj 10 u false h0 (Int.lt_of_lt_of_le h (by decide)) (fun h=>by cases h)
 ⟨g.1,g.2.1,by simp[am]⟩
theorem oh (most:Nat)(top:Int)(ht:top<128):∀(l rest:LI) (i:Nat),Can (decide (0<i)) l→i<most→bf l<128 ^ (most - 1 - i)*(top+1)→cT most top (l++rest) i=(((i+l.length - 1:Nat):Int),0)
 |[],rest,i,hc,_,_=>hc.elim
 |[c],rest,i,hc,hi,hv=>by
  obtain ⟨h1,h2,h3⟩:=hc
  have e:bf [c]=c:=by simp only[bf];omega
  rw[e] at hv
  simp only[List.cons_append,List.nil_append,cT]
  have hn:¬(i+1=most∧top<c):=by
   rintro ⟨h4,h5⟩
   rw[show most - 1 - i=0 by omega] at hv
   simp at hv
   omega
  have hz:¬(c=0∧0<i):=fun h=>h3 (by simpa using h.2) h.1
  rw[if_neg hn,if_pos h2,if_neg hz]
  simp
 |c::d::l,rest,i,hc,hi,hv=>by
  obtain ⟨h1,h2,h3⟩:=hc
  have hp:=h3.pos
  have e:bf (c::d::l)=c % 128+128*bf (d::l):=rfl
  rw[e] at hv
  have hne:i+1<most:=by
   rcases Nat.lt_or_ge (i+1) most with h | h
   ·exact h
   ·rw[show most - 1 - i=0 by omega] at hv
    simp at hv
    omega
  obtain ⟨j,hj⟩:∃j,most - 1 - i=j+1:=⟨most - 2 - i,by omega⟩
  rw[hj,Int.pow_succ] at hv
  have e2:(128:Int) ^ j*128*(top+1)=128*(128 ^ j*(top+1)):=by rw[Int.mul_comm (128 ^ j) 128,Int.mul_assoc]
  rw[e2] at hv
  have ih:=oh most top ht (d::l) rest (i+1) (by simpa using h3) hne (by rw[show most - 1 - (i+1)=j by omega];omega)
  rw[List.cons_append,cT,if_neg (fun h=>by omega),if_neg (by omega),ih]
  simp only[zN,zD,and_true]
  congr 1
  omega
def Has (b:LI)(p:Int)(X:LI):Prop:=0≤p∧p≤b.length∧∃rest,b.drop p.toNat=X++rest
theorem Has.left {b:LI}{p:Int}{X Y:LI}(h:Has b p (X++Y)):Has b p X:=by
 obtain ⟨h0,h1,rest,h2⟩:=h
 exact ⟨h0,h1,Y++rest,by rw[h2,zK]⟩
theorem Has.len {b:LI}{p:Int}{X:LI}(h:Has b p X):p+X.length≤b.length:=by
 obtain ⟨h0,h1,rest,h2⟩:=h
 have:=congrArg List.length h2
 simp only[List.length_drop,zH] at this
 omega
theorem Has.right {b:LI}{p:Int}{X Y:LI}(h:Has b p (X++Y)):Has b (p+X.length) Y:=by
 have hl:=h.left.len
 obtain ⟨h0,h1,rest,h2⟩:=h
 refine ⟨by omega,hl,rest,?_⟩
 rw[show (p+X.length).toNat=p.toNat+X.length by omega,← List.drop_drop,h2,zK,List.drop_left]
theorem Has.take {b:LI}{p:Int}{X:LI}(h:Has b p X):(b.drop p.toNat).take X.length=X:=by
 obtain ⟨h0,h1,rest,h2⟩:=h
 rw[h2,List.take_left]
theorem w7 {most:Nat}{top:Int}(ht:top<128)(hm:0<most)(hB:128 ^ (most - 1)*(top+1)≤18446744073709551616){b:LI}{p u:Int}(h0:0≤u)(hu:u<128 ^ (most - 1)*(top+1))(h:Has b p (am u)):
  ac most top b p=(u,p+(am u).length,0):=by
 obtain ⟨hp,hl,rest,hd⟩:=h
 obtain ⟨c1,c2,c3⟩:=CK h0 (by omega)
 have hr:=oh most top ht (am u) rest 0 c1 hm (by rw[c2];simpa using hu)
 have e1:((0+(am u).length - 1:Nat):Int)=(am u).length - 1:=by omega
 rw[e1] at hr
 unfold ac
 rw[if_neg (by omega),hd,hr,if_pos rfl]
 simp only
 rw[show ((am u).length - 1+1:Int).toNat=(am u).length by omega,List.take_left,c2,Int.emod_eq_of_lt h0 (by omega),show p+((am u).length - 1)+1=p+(am u).length by omega]
theorem BC {v:Int}:ao (ai v)=v:=by
 unfold ai ao
 split <;> split <;> omega
theorem j5 {b:LI}{p v:Int}(h1 : -2147483648≤v)(h2:v≤2147483647)(h:Has b p (am (ai v))):af b p=(v,p+(am (ai v)).length,0):=by
 have hz:0≤ai v∧ai v<4294967296:=by unfold ai;split <;> omega
 have e:=w7 (most:=5) (top:=15) (by decide) (by decide) (by decide) hz.1 hz.2 h
 unfold af
 rw[e]
 simp only
 rw[BC,bU (k:=.i32) (Ax.2 ⟨h1,h2⟩)]
theorem CL {b:LI}{p v:Int}(h1 : -9223372036854775808≤v)(h2:v≤9223372036854775807)(h:Has b p (am (ai v))):ac 10 1 b p=(ai v,p+(am (ai v)).length,0):=by
 have hz:0≤ai v∧ai v<18446744073709551616:=by unfold ai;split <;> omega
 exact w7 (most:=10) (top:=1) (by decide) (by decide) (by decide) hz.1 hz.2 h
theorem ky {b:LI}{p l:Int}{B:q8}(hb:bi B=false)(hl:B.2.1.length≤2147483647)(hll:l = -1∨l=0∧B.1=false)(h:Has b p (aq B)):ae b p l=(B,p+(aq B).length,0):=by
 obtain ⟨n,x,⟨⟩⟩:=B
 cases n with
 |true=>
  have hx:x=[]:=by
   cases x with
   |nil=>rfl
   |cons c l=>simp[bi] at hb
  subst hx
  have hl1:l = -1:=by rcases hll with h | ⟨_,h⟩;exact h;cases h
  have e:aq (true,[],())=am (ai (-1)):=rfl
  rw[e] at h ⊢
  have hn:=j5 (by decide) (by decide) h
  unfold ae
  rw[hn,hl1]
  rfl
 |false=>
  have e:aq (false,x,())=am (ai x.length)++x:=rfl
  rw[e] at h ⊢
  have hl:x.length≤2147483647:=hl
  have hn:=j5 (by omega) (by omega) h.left
  have hx:=h.right
  have hle:=hx.len
  unfold ae
  rw[hn]
  simp only
  rw[if_neg (by simp),if_neg (by rcases hll with h | ⟨h,_⟩ <;> omega),if_neg (by omega),if_neg (by omega),zG,hx.take]
  simp only[zH,zD,and_true,true_and]
  omega
theorem og {b:LI}:∀(hs o:List bI) (p:Int),aW hs=0→(∀h∈hs,h.1.length≤2147483647∧h.2.1.2.1.length≤2147483647)→Has b p (az hs)→
  aZ b hs.length o p=(o++hs,p+(az hs).length,0)
 |[],o,p,_,_,_=>by simp[aZ,az]
 |h::hs,o,p,he,hl,hH=>by
  obtain ⟨k,v,⟨⟩⟩:=h
  have hkl:=hl _ (by simp:(k,v,())∈(k,v,())::hs)
  unfold aW at he
  by_cases h1:(b7 k).2=false
  ·rw[if_pos h1] at he;cases he
  rw[if_neg h1] at he
  by_cases h2:bi v=true
  ·rw[if_pos h2] at he;cases he
  rw[if_neg h2] at he
  have eW:az ((k,v,())::hs)=aq (false,k,())++(aq v++az hs):=by
   simp[az,gK,aq]
  rw[eW] at hH ⊢
  have t1:=ky (l:=0) (B:=(false,k,())) (by simp[bi]) hkl.1 (.inr ⟨rfl,rfl⟩) hH.left
  have t2:=ky (l:=-1) (by simpa using h2) hkl.2 (.inl rfl) hH.right.left
  have eH:aI b p=((k,v,()),p+(aq (false,k,())).length+(aq v).length,0):=by
   unfold aI
   rw[t1]
   simp only
   rw[t2,if_neg (by simp),if_neg h1]
  rw[zN,gV,eH,if_neg (by simp)]
  simp only
  rw[og hs _ _ he (fun h hh=>hl h (by simp[hh])) (by have:=hH.right.right;simpa [Int.add_assoc] using this)]
  simp only[zK,zM,zD,and_true,true_and,zH]
  push_cast
  omega
structure RowOk (r:fQ):Prop where
 time : -9223372036854775808≤r.1∧r.1≤9223372036854775807
 off : -2147483648≤r.2.1∧r.2.1≤2147483647
theorem Gc {r:fQ}(hr:RowOk r)(hs:cL r=0)(hl:(aG r).length≤16384):bD (aG r)=(r,0):=by
 obtain ⟨a0,a1,B1,B2,hs0,⟨⟩⟩:=r
 have eS:cL (a0,a1,B1,B2,hs0,())=if a1<0 then 72 else if bi B1=true∨bi B2=true then 70 else if 16<(hs0.length:Int) then 9 else aW hs0:=rfl
 rw[eS] at hs
 by_cases s1:a1<0
 ·rw[if_pos s1] at hs;cases hs
 rw[if_neg s1] at hs
 by_cases s2:bi B1=true∨bi B2=true
 ·rw[if_pos s2] at hs;cases hs
 rw[if_neg s2] at hs
 by_cases s3:16<(hs0.length:Int)
 ·rw[if_pos s3] at hs;cases hs
 rw[if_neg s3] at hs
 have sb1:bi B1=false:=by cases h:bi B1 with | false=>rfl | true=>exact absurd (.inl h) s2
 have sb2:bi B2=false:=by cases h:bi B2 with | false=>rfl | true=>exact absurd (.inr h) s2
 have eb:aG (a0,a1,B1,B2,hs0,())=[0]++(am (ai a0)++(am (ai a1)++(aq B1++(aq B2++(am (ai hs0.length)++az hs0))))):=rfl
 generalize hb:aG (a0,a1,B1,B2,hs0,())=b at *
 have hblob:∀B:q8,B.2.1.length≤(aq B).length∨bi B=true∨B.2.1=[]:=by
  rintro ⟨n,x,⟨⟩⟩
  cases n with
  |true=>
   cases x with
   |nil=>exact .inr (.inr rfl)
   |cons c l=>exact .inr (.inl (by simp[bi]))
  |false=>exact .inl (by show x.length≤(am (ai x.length)++x).length;simp)
 have hll:=hl
 rw[eb] at hll
 simp only[zH] at hll
 have hl1:B1.2.1.length≤2147483647:=by
  rcases hblob B1 with h | h | h
  ·omega
  ·rw[sb1] at h;cases h
  ·rw[h];simp
 have hl2:B2.2.1.length≤2147483647:=by
  rcases hblob B2 with h | h | h
  ·omega
  ·rw[sb2] at h;cases h
  ·rw[h];simp
 have hlh:∀h∈hs0,h.1.length≤2147483647∧h.2.1.2.1.length≤2147483647:=by
  intro h hh
  have hlen:(gK h).length≤(az hs0).length:=by
   obtain ⟨s,t,rfl⟩:=List.append_of_mem hh
   simp[az]
   omega
  have hw:(gK h).length=(am (ai h.1.length)).length+(h.1.length+(aq h.2.1).length):=by simp[gK]
  refine ⟨by omega,?_⟩
  rcases hblob h.2.1 with h' | h' | h'
  ·omega
  ·have:∀(l:List bI),h∈l→aW l=0→bi h.2.1=false:=by
    intro l
    induction l with
    |nil=>intro hm;cases hm
    |cons x l ih=>
     intro hm he
     unfold aW at he
     split at he
     ·cases he
     split at he
     ·cases he
     rename_i n1 n2
     rcases List.mem_cons.1 hm with rfl | hm
     ·simpa using n2
     ·exact ih hm he
   rw[this hs0 hh hs] at h'
   cases h'
  ·rw[h'];simp
 have H:Has b 0 ([0]++(am (ai a0)++(am (ai a1)++(aq B1++(aq B2++(am (ai hs0.length)++az hs0)))))):=⟨by omega,by omega,[],by rw[← eb];simp⟩
 have H1:=H.right
 have e1:=CL hr.time.1 hr.time.2 H1.left
 have H2:=H1.right
 have e2:=j5 hr.off.1 hr.off.2 H2.left
 have H3:=H2.right
 have e3:=ky (l:=-1) sb1 hl1 (.inl rfl) H3.left
 have H4:=H3.right
 have e4:=ky (l:=-1) sb2 hl2 (.inl rfl) H4.left
 have H5:=H4.right
 have e5:=j5 (by omega) (by omega) H5.left
 have H6:=H5.right
 have e6:=og hs0 [] _ hs hlh H6
 have eh:aO b (0+((([0]:LI).length:Nat):Int)+(am (ai a0)).length+(am (ai a1)).length+(aq B1).length+(aq B2).length)=(hs0,(b.length:Int),0):=by
  unfold aO
  rw[e5]
  simp only
  rw[if_neg (by simp),if_neg (by omega),if_neg s3,zG,e6]
  simp only[List.nil_append,zD,and_true,true_and]
  rw[eb]
  simp only[zH,zN,List.length_nil]
  push_cast
  omega
 have hb0:b.length≠0:=by rw[eb];simp
 have hb1:b.getD 0 0=0:=by rw[eb];rfl
 have e1:ac 10 1 b 1=_:=e1
 unfold bD
 rw[if_neg hb0,if_neg (av hb1),e1]
 simp only
 have e2':af b (0+((([0]:LI).length:Nat):Int)+(am (ai a0)).length)=_:=e2
 rw[if_neg (by simp),e2']
 simp only
 rw[if_neg (by simp),if_neg s1,e3]
 simp only
 rw[if_neg (by simp),e4]
 simp only
 rw[if_neg (by simp),eh]
 simp only
 rw[if_neg (by simp),if_neg (by omega),BC]
end
end Go.Proofs.YtcbcbjdobbgddaaDoor.Sym
namespace Go.Proofs.YtcbcbjdobbgddaaDoor.Sym
open Go
noncomputable section
theorem uG {r:fQ}(h:au r=0):cL r=0∧(aG r).length≤16384:=by
 unfold au at h
 by_cases h1:cL r=0
 ·rw[if_neg (av h1)] at h
  refine ⟨h1,?_⟩
  by_cases h2:16384<((aG r).length:Int)
  ·rw[if_pos h2] at h;cases h
  ·omega
 ·rw[if_pos h1] at h
  exact absurd h h1
theorem xd {r:fQ}(h:au r=0):aK r=(am (ai (aG r).length)++aG r,0):=by unfold aK;rw[if_pos h]
theorem Ga {r:fQ}(hr:RowOk r)(hc:au r=0){b:LI}{p:Int}(H:Has b p (aK r).1):ak b p=(r,p+(aK r).1.length,0):=by
 obtain ⟨hs,hl⟩:=uG hc
 rw[xd hc] at H ⊢
 have hn:=j5 (by omega) (by omega) H.left
 have H2:=H.right
 have hle:=H2.len
 unfold ak
 rw[hn]
 simp only
 rw[if_neg (by simp),if_neg (by omega),if_neg (by omega),if_neg (by omega),zG,H2.take,Gc hr hs hl]
 simp only[zH]
 rw[if_neg (by simp)]
 simp only[zD,and_true,true_and]
 push_cast
 omega
end
end Go.Proofs.YtcbcbjdobbgddaaDoor.Sym
