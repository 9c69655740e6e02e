/- fetch.EncodeReq answers as the reference; what is written is read back. -/
import Derived.Test.YtomeplopmndbgaaGreatQ5

namespace Go.Proofs.YtomeplopmndbgaaGreat.Sym
open Go
set_option linter.unusedSimpArgs false
set_option linter.unusedVariables false
noncomputable section
def MF (v:Int)(p:aT.den):List Int×Int:=aI (aE p.1 4,0) (aI (if 3≤v∧v≤3 then (aE p.2.2.1 4,0) else ([],0)) (aI (aE p.2.1 8,0) (aI (aE p.2.2.2.1 4,0) ([],0))))
def MG (v:Int)(t:al.den):List Int×Int:=aI (gr t.1) (aI (cr (MF v) t.2.1) ([],0))
def Rb (v:Int)(m:bX.den):List Int×Int:=aI (aE m.1 4,0) (aI (aE m.2.1 4,0) (aI (aE m.2.2.1 4,0) (aI (if 1≤v∧v≤3 then (aE m.2.2.2.1 4,0) else ([],0)) (aI (if 2≤v∧v≤3 then (aE m.2.2.2.2.1 1,0) else ([],0)) (aI (cr (MG v) m.2.2.2.2.2.1) (([],0)))))))
theorem Wri.fqP (v:Int)(p:aT.den):Wri (MF v p) (oE v p):=(Wri.put p.1 4).seq ((Wri.hasE v 3 3 p.2.2.1 4).seq ((Wri.put p.2.1 8).seq ((Wri.put p.2.2.2.1 4).seq (Wri.nop))))
theorem Wri.fqT (v:Int)(t:al.den):Wri (MG v t) (yf v t):=(Wri.str _).seq ((Wri.items fun p hp=>Wri.fqP v p).seq Wri.nop)
abbrev UW:Fd:=bY [112,97,114,116] 10 0 3 [bY [105,110,100,101,120] 3 0 3 [],bY [101,112,111,99,104] 3 3 3 [],bY [111,102,102,115,101,116] 4 0 3 [],bY [109,97,120] 3 0 3 []]
abbrev WR:Fd:=bY [116,111,112,105,99] 10 0 3 [bY [110,97,109,101] 5 0 3 [],bY [112,97,114,116,115] 9 0 3 [UW]]
theorem TC {v:Int}{p:aT.den}(hv:0≤v∧v≤3)(h:aT.wf p):pv UW v (lW p)=MF v p:=by
 unfold lW MF
 rw[fY,aP (aw hv.1 hv.2),gL,aP (aw hv.1 hv.2),aP (aw hv.1 hv.2),bL,bq (by decide) (w:=4) rfl (bD h.1),bq (by decide) (w:=4) rfl (bD h.2.2.1),bq (by decide) (w:=4) rfl (bD h.2.2.2.1),bq (by decide) (w:=8) rfl (dk p.2.1)]
 try rfl
theorem TD {v:Int}{t:al.den}(hv:0≤v∧v≤3)(h:al.wf t):pv WR v (gi t)=MG v t:=by
 unfold gi MG
 rw[fY,aP (aw hv.1 hv.2),aP (aw hv.1 hv.2),bL,lV,dH,bO fun p hp=>TC hv (h.2.1.2 p hp)]
def ji (v:Int)(p:aT.den):Bool:=(if 3≤v∧v≤3 then true else (p.2.2.1 == 0))
theorem Mg {v:Int}{p:aT.den}(hv:0≤v∧v≤3):(db UW v (lW p)).2=ji v p:=by
 unfold lW ji
 rw[dv,aR (aw hv.1 hv.2),cv,aR (aw hv.1 hv.2),aR (aw hv.1 hv.2),ct,aD (by decide) (by decide),aD (by decide) (by decide),aD (by decide) (by decide),aD (by decide) (by decide),bI]
 simp only[Bool.true_and,Bool.and_true]
theorem Mh {v:Int}{t:al.den}(hv:0≤v∧v≤3):(db WR v (gi t)).2=t.2.1.all (ji v):=by
 unfold gi
 rw[dv,aR (aw hv.1 hv.2),aR (aw hv.1 hv.2),ct,aD (by decide) (by decide),cw]
 simp only[Mg hv,Bool.true_and,Bool.and_true]
theorem ya (m:bX.den):cN pV [aF 3 m.1,aF 3 m.2.1,aF 3 m.2.2.1,aF 3 m.2.2.2.1,aF 1 m.2.2.2.2.1,bw (m.2.2.2.2.2.1.map gi)]:=by
 unfold pV bH
 refine ar (aA (by decide) (by decide)) (ar (aA (by decide) (by decide)) (ar (aA (by decide) (by decide)) (ar (aA (by decide) (by decide)) (ar (aA (by decide) (by decide)) (ar ?_ bE)))))
 refine bW _ _ fun t=>cA rfl (ar (aA (by decide) (by decide)) (ar ?_ bE))
 exact bW _ _ fun p=>cA rfl (ar (aA (by decide) (by decide)) (ar (aA (by decide) (by decide)) (ar (aA (by decide) (by decide)) (ar (aA (by decide) (by decide)) bE))))
def pI (v:Int)(m:bX.den):Bool:=(if 1≤v∧v≤3 then true else (m.2.2.2.1 == 0))&&((if 2≤v∧v≤3 then true else (m.2.2.2.2.1 == 0))&&((m.2.2.2.2.2.1.all fun t=>t.2.1.all (ji v))))
theorem Mt {e v:Int}{p:aT.den}:qF v p (e,(false,([]:List Int)))=(eX e (ji v p),(false,[])):=by
 unfold qF ji
 rw[b8]
theorem yd {v:Int}:∀{ps:List aT.den} {e:Int},fC v ps (e,(false,([]:List Int)))=(eX e (ps.all (ji v)),(false,[]))
 |[],e=>by rw[List.all_nil,eP];rfl
 |p::ps,e=>by
  show fC v ps (qF v p (e,(false,[])))=_
  rw[Mt,yd,ce,List.all_cons]
theorem A3 {v:Int}:∀{ts:List al.den} {e:Int},tp v ts (e,(false,([]:List Int)))=(eX e (ts.all fun t=>t.2.1.all (ji v)),(false,[]))
 |[],e=>by rw[List.all_nil,eP];rfl
 |t::ts,e=>by
  show tp v ts (fC v t.2.1 (e,(false,[])))=_
  rw[yd,A3,ce,List.all_cons]
theorem T8 {v:Int}{m:bX.den}(hv:0≤v∧v≤3):(bS v pV [aF 3 m.1,aF 3 m.2.1,aF 3 m.2.2.1,aF 3 m.2.2.2.1,aF 1 m.2.2.2.2.1,bw (m.2.2.2.2.2.1.map gi)]).2=pI v m:=by
 unfold pV bH pI
 rw[aR (aw hv.1 hv.2),aR (aw hv.1 hv.2),aR (aw hv.1 hv.2),cv,cv,aR (aw hv.1 hv.2),ct,aD (by decide) (by decide),aD (by decide) (by decide),aD (by decide) (by decide),aD (by decide) (by decide),aD (by decide) (by decide),cw,bI,bI]
 simp only[Mh hv,Bool.true_and,Bool.and_true,Bool.and_assoc]
theorem UA {v:Int}{m:bX.den}(hv:0≤v∧v≤3)(hm:bX.wf m):bT v pV [aF 3 m.1,aF 3 m.2.1,aF 3 m.2.2.1,aF 3 m.2.2.2.1,aF 1 m.2.2.2.2.1,bw (m.2.2.2.2.2.1.map gi)]=Rb v m:=by
 unfold pV bH Rb
 rw[aP (aw hv.1 hv.2),aP (aw hv.1 hv.2),aP (aw hv.1 hv.2),gL,gL,aP (aw hv.1 hv.2),bL,bq (by decide) (w:=4) rfl (bD hm.1),bq (by decide) (w:=4) rfl (bD hm.2.1),bq (by decide) (w:=4) rfl (bD hm.2.2.1),bq (by decide) (w:=4) rfl (bD hm.2.2.2.1),bq (by decide) (w:=1) rfl (AP hm.2.2.2.2.1),dH,bO fun t ht=>TD hv (hm.2.2.2.2.2.1.2 t ht)]
 try rfl
theorem U0 {v:Int}{m:bX.den}(hm:bX.wf m):(bj (oD v m),aM (oD v m))=fQ v m:=by
 unfold fQ dK
 rw[jJ (t:=pV) rfl F4 rfl (ya m)]
 unfold oD
 rw[b8,b8,A3,ce,ce]
 have hr:Wri (Rb v m) _:=(Wri.put m.1 4).seq ((Wri.put m.2.1 4).seq ((Wri.put m.2.2.1 4).seq ((Wri.hasE v 1 3 m.2.2.2.1 4).seq ((Wri.hasE v 2 3 m.2.2.2.2.1 1).seq ((Wri.items fun t ht=>Wri.fqT v t).seq (Wri.nop))))))
 refine (hr.done _).trans ?_
 unfold aH
 by_cases hv:v<0∨3<v
 ·rw[if_pos hv,if_pos hv]
  exact if_pos (by simp[eX])
 rw[if_neg hv,if_neg hv]
 have hv':0≤v∧v≤3:=by omega
 rw[T8 hv',UA hv' hm]
 show (if eX 0 (pI v m)≠0 then _ else _)=_
 cases hz:pI v m
 ·exact (if_pos (by decide)).trans (show ([],eX 0 (pI v m))=_ by rw[hz];rfl)
 ·exact (if_neg (by decide)).trans (if_neg (by decide)).symm
abbrev rm:Io:=mH
def IJ (d:rm.In):Tr rm.Res:=.ret (.ret (((fQ d.1.1 d.1.2.1).1,((fQ d.1.1 d.1.2.1).2,())),()))
theorem Py:HcOk prog 44 (af rm IJ):=by
 refine HcOk.weakW Sx ?_
 rintro ⟨⟨(v:Int),m,⟨⟩⟩,⟨⟩⟩ y hw hy
 rw[← hy]
 have h:=U0 (v:=v) (m:=m) hw.1.2.1
 show some (Out.ret ((bj (oD v m),(aM (oD v m),())),()))=some (Out.ret (((fQ v m).1,((fQ v m).2,())),()))
 rw[← h]
theorem Lj {v:Int}{p:aT.den}(h:ji v p=true):(¬(3≤v∧v≤3)→p.2.2.1=0):=by
 unfold ji at h
 exact fun hv=>by have h1:=h;rw[if_neg hv] at h1;simpa using h1
theorem sY {v:Int}{m:bX.den}(h:pI v m=true):(¬(1≤v∧v≤3)→m.2.2.2.1=0)∧(¬(2≤v∧v≤3)→m.2.2.2.2.1=0)∧(m.2.2.2.2.2.1.all fun t=>t.2.1.all (ji v))=true:=by
 unfold pI at h
 simp only[Bool.and_eq_true] at h
 exact ⟨fun hv=>by have h1:=h.1;rw[if_neg hv] at h1;simpa using h1,fun hv=>by have h1:=h.2.1;rw[if_neg hv] at h1;simpa using h1,h.2.2⟩
theorem Rd.fqP {b:List Int}{p:aT.den}{v:Int}(h:aT.wf p)(hk:ji v p=true):Rd b p (MF v p) (iy v b):=
 (Rd.map (fun a=>(a.1,(a.2.2.1,(a.2.1,(a.2.2.2.1,()))))) (Rd.seq (fun a r=>(a,r)) (Rd.num (bG h.1)) (Rd.seq (fun a r=>(a,r)) (Rd.opt (bG h.2.2.1) (Lj hk)) (Rd.seq (fun a r=>(a,r)) (Rd.num (dm h.2.1)) (Rd.seq (fun a r=>(a,r)) (Rd.num (bG h.2.2.2.1)) (Rd.nop b ())))))).congr fun s=>by unfold iy;rfl
theorem Rd.fqT {b:List Int}{t:al.den}{v:Int}(h:al.wf t)(hk:t.2.1.all (ji v)=true):Rd b t (MG v t) (iz v b):=
 (Rd.seq (fun a r=>(a,r)) (Rd.txt t.1) (Rd.seq (fun a r=>(a,r)) (Rd.list fun p hp=>Rd.fqP (h.2.1.2 p hp) (List.all_eq_true.1 hk p hp)) (Rd.nop b ()))).congr fun s=>by unfold iz fD;rfl
theorem Rd.fqM {b:List Int}{m:bX.den}{v:Int}(h:bX.wf m)(hk0:pI v m=true):Rd b m (Rb v m) (lj v b):=
 have hk:=(sY hk0).2.2
 (Rd.seq (fun a r=>(a,r)) (Rd.num (bG h.1)) (Rd.seq (fun a r=>(a,r)) (Rd.num (bG h.2.1)) (Rd.seq (fun a r=>(a,r)) (Rd.num (bG h.2.2.1)) (Rd.seq (fun a r=>(a,r)) (Rd.opt (bG h.2.2.2.1) (sY hk0).1) (Rd.seq (fun a r=>(a,r)) (Rd.opt (Bs h.2.2.2.2.1) (sY hk0).2.1) (Rd.seq (fun a r=>(a,r)) (Rd.list fun t ht=>Rd.fqT (h.2.2.2.2.2.1.2 t ht) (List.all_eq_true.1 hk t ht)) (Rd.nop b ()))))))).congr fun s=>by unfold lj bd;rfl
abbrev br:Ty:=.prod (.int .i32) (.prod (.int .i16) (.prod (.int .i64) (.prod (.int .i64) (.prod (.int .i64) (.prod ni .unit)))))
abbrev ax:Ty:=.prod .str (.prod (.sl 223 br) .unit)
abbrev eS:Ty:=.prod (.int .i32) (.prod (.sl 221 ax) .unit)
def lm (v:Int)(p:br.den)(s:aV):aV:=bP p.2.2.2.2.2.1 (bV v 3 3 p.2.2.2.2.1 8 (bV v 2 3 p.2.2.2.1 8 (ab p.2.2.1 8 (ab p.2.1 2 (ab p.1 4 (s))))))
theorem Ba {s:aV}(v:Int)(p:br.den)(h:s.2.2.length≤130048):(lm v p s).2.2.length≤130048:=
 iq _ (eO _ _ _ _ _ (eO _ _ _ _ _ (av _ _ (av _ _ (av _ _ (h))))))
def RB (p:br.den):Bool:=decide (p.2.2.2.2.2.1.2.1.length≤2147483647)
def vr (xs:List br.den):Bool:=xs.all RB
abbrev j7:Io:=⟨[.dat br true false,.ptr 0 0],lI,[],[],none⟩
def BD (d:j7.In):Tr j7.Res:=.ite (dW d.2.2&&RB d.1.1) (.ret (.ret ((),dw d.2.2.1.2.1 (lm d.2.2.1.2.1 d.1.1 (dX d.2.2))))) .no
abbrev Eo:List (Nat×Hc):=[(104,af kL BA),(97,af i9 tF),(98,af cc dV),(111,af ja tG),(95,af e7 ly)]
def Ow:Hd:=bR Eo
def Fc:Lp:=bJ []
def wd (a0 a1 a2 a3 a4:Int)(a5:Bool)(a6:List Int)(a7 a8:Int)(a9:Bool)(a10:List Int)(a11:Int):Option j7.Res:=bif decide (a11=130048)&&decide (a10.length≤130048) then bif decide (130048=130048)&&decide ((ab a0 4 (a8,a9,a10)).2.2.length≤130048) then bif decide (130048=130048)&&decide ((ab a1 2 (ab a0 4 (a8,a9,a10))).2.2.length≤130048) then bif decide (130048=130048)&&decide ((ab a2 8 (ab a1 2 (ab a0 4 (a8,a9,a10)))).2.2.length≤130048) then bif decide (2≤a7)&&decide (a7≤3) then bif decide (130048=130048)&&decide ((ab a2 8 (ab a1 2 (ab a0 4 (a8,a9,a10)))).2.2.length≤130048) then bif decide (130048=130048)&&decide ((ab a3 8 (ab a2 8 (ab a1 2 (ab a0 4 (a8,a9,a10))))).2.2.length≤130048) then bif decide (3≤a7)&&decide (a7≤3) then bif decide (130048=130048)&&decide ((ab a3 8 (ab a2 8 (ab a1 2 (ab a0 4 (a8,a9,a10))))).2.2.length≤130048) then bif decide (130048=130048)&&decide ((ab a4 8 (ab a3 8 (ab a2 8 (ab a1 2 (ab a0 4 (a8,a9,a10)))))).2.2.length≤130048)&&decide (a6.length≤2147483647) then some (Out.ret ((),((),()),((),a7,(bP (a5,a6,()) (ab a4 8 (ab a3 8 (ab a2 8 (ab a1 2 (ab a0 4 (a8,a9,a10))))))).1,(bP (a5,a6,()) (ab a4 8 (ab a3 8 (ab a2 8 (ab a1 2 (ab a0 4 (a8,a9,a10))))))).2.1,()),((bP (a5,a6,()) (ab a4 8 (ab a3 8 (ab a2 8 (ab a1 2 (ab a0 4 (a8,a9,a10))))))).2.2,130048,()),())) else none else none else bif decide (130048=130048)&&decide ((ab a3 8 (ab a2 8 (ab a1 2 (ab a0 4 (a8,a9,a10))))).2.2.length≤130048)&&decide (a6.length≤2147483647) then some (Out.ret ((),((),()),((),a7,(bP (a5,a6,()) (ab a3 8 (ab a2 8 (ab a1 2 (ab a0 4 (a8,a9,a10)))))).1,(bP (a5,a6,()) (ab a3 8 (ab a2 8 (ab a1 2 (ab a0 4 (a8,a9,a10)))))).2.1,()),((bP (a5,a6,()) (ab a3 8 (ab a2 8 (ab a1 2 (ab a0 4 (a8,a9,a10)))))).2.2,130048,()),())) else none else none else none else bif decide (130048=130048)&&decide ((ab a2 8 (ab a1 2 (ab a0 4 (a8,a9,a10)))).2.2.length≤130048) then bif decide (3≤a7)&&decide (a7≤3) then bif decide (130048=130048)&&decide ((ab a2 8 (ab a1 2 (ab a0 4 (a8,a9,a10)))).2.2.length≤130048) then bif decide (130048=130048)&&decide ((ab a4 8 (ab a2 8 (ab a1 2 (ab a0 4 (a8,a9,a10))))).2.2.length≤130048)&&decide (a6.length≤2147483647) then some (Out.ret ((),((),()),((),a7,(bP (a5,a6,()) (ab a4 8 (ab a2 8 (ab a1 2 (ab a0 4 (a8,a9,a10)))))).1,(bP (a5,a6,()) (ab a4 8 (ab a2 8 (ab a1 2 (ab a0 4 (a8,a9,a10)))))).2.1,()),((bP (a5,a6,()) (ab a4 8 (ab a2 8 (ab a1 2 (ab a0 4 (a8,a9,a10)))))).2.2,130048,()),())) else none else none else bif decide (130048=130048)&&decide ((ab a2 8 (ab a1 2 (ab a0 4 (a8,a9,a10)))).2.2.length≤130048)&&decide (a6.length≤2147483647) then some (Out.ret ((),((),()),((),a7,(bP (a5,a6,()) (ab a2 8 (ab a1 2 (ab a0 4 (a8,a9,a10))))).1,(bP (a5,a6,()) (ab a2 8 (ab a1 2 (ab a0 4 (a8,a9,a10))))).2.1,()),((bP (a5,a6,()) (ab a2 8 (ab a1 2 (ab a0 4 (a8,a9,a10))))).2.2,130048,()),())) else none else none else none else none else none else none
theorem LS (a0 a1 a2 a3 a4:Int)(a5:Bool)(a6:List Int)(a7 a8:Int)(a9:Bool)(a10:List Int)(a11:Int):Io.run tt Ow dr Fc j7 Tryz.f129 (((a0,a1,a2,a3,a4,(a5,a6,()),()),(),()),((),()),((),a7,a8,a9,()),(a10,a11,()),())=wd a0 a1 a2 a3 a4 a5 a6 a7 a8 a9 a10 a11:=by kernel_rfl
theorem PC:HcOk prog 129 (af j7 BD):=by
 refine ao (n:=400) hm (cs:=Eo) (.cons Kd (.cons sX (.cons bN (.cons qr (.cons dR .nil))))) (lp:=Fc) (fn:=Tryz.f129) (by kernel_rfl) (by kernel_rfl) (by kernel_rfl) j7 (.done (by kernel_rfl)) BD ?_
 rintro ⟨⟨⟨(ix:Int),(cd:Int),(hi:Int),(st:Int),(sa:Int),⟨(rcz:Bool),(rcx:List Int),⟨⟩⟩,⟨⟩⟩,⟨⟩,⟨⟩⟩,⟨⟨⟩,⟨⟩⟩,⟨⟨⟩,(v:Int),(e:Int),(f:Bool),⟨⟩⟩,⟨(b:List Int),(m:Int),⟨⟩⟩,⟨⟩⟩ out hw ho
 obtain ⟨hg,ho⟩:=Tr.guard ho
 obtain ⟨hg,hok⟩:=Bool.and_eq_true_iff.1 hg
 obtain ⟨rfl,hb⟩:=bo (v:=v) (e:=e) (f:=f) hg
 have hbrcx:decide ((rcz,(rcx,())).2.1.length≤2147483647)=true:=hok
 cases ho
 refine (LS ix cd hi st sa rcz rcx v e f b 130048).trans ?_
 unfold wd
 have hg:∀s:aV,s.2.2.length≤130048→(decide ((130048:Int)=130048)&&decide (s.2.2.length≤130048))=true:=fun s h=>by simpa using h
 have hb:(e,(f,b)).2.2.length≤130048:=hb
 show _=some (Out.ret ((),dw v (lm v (ix,(cd,(hi,(st,(sa,((rcz,(rcx,())),())))))) (e,f,b))))
 refine (aa (hg _ hb) _ _).trans ?_
 have l0_1:=av ix 4 hb
 refine (aa (hg _ l0_1) _ _).trans ?_
 have l1_1:=av cd 2 l0_1
 refine (aa (hg _ l1_1) _ _).trans ?_
 have l2_1:=av hi 8 l1_1
 refine (aa (hg _ l2_1) _ _).trans ?_
 by_cases h3_1:2≤v∧v≤3
 ·refine (aa (by simpa using h3_1) _ _).trans ?_
  refine (aa (hg _ l2_1) _ _).trans ?_
  have l3_1:=av st 8 l2_1
  refine (aa (hg _ l3_1) _ _).trans ?_
  by_cases h4_2:3≤v∧v≤3
  ·refine (aa (by simpa using h4_2) _ _).trans ?_
   refine (aa (hg _ l3_1) _ _).trans ?_
   have l4_2:=av sa 8 l3_1
   refine (aa (Bool.and_eq_true_iff.2 ⟨hg _ l4_2,hbrcx⟩) _ _).trans ?_
   have l5_3:=iq (rcz,(rcx,())) l4_2
   simp only[lm,bp h3_1,bp h4_2]
  ·refine (ae (Bool.eq_false_iff.2 fun h'=>h4_2 (by simpa using h')) _ _).trans ?_
   refine (aa (Bool.and_eq_true_iff.2 ⟨hg _ l3_1,hbrcx⟩) _ _).trans ?_
   have l5_3:=iq (rcz,(rcx,())) l3_1
   simp only[lm,bp h3_1,aX h4_2]
 ·refine (ae (Bool.eq_false_iff.2 fun h'=>h3_1 (by simpa using h')) _ _).trans ?_
  refine (aa (hg _ l2_1) _ _).trans ?_
  by_cases h4_2:3≤v∧v≤3
  ·refine (aa (by simpa using h4_2) _ _).trans ?_
   refine (aa (hg _ l2_1) _ _).trans ?_
   have l4_2:=av sa 8 l2_1
   refine (aa (Bool.and_eq_true_iff.2 ⟨hg _ l4_2,hbrcx⟩) _ _).trans ?_
   have l5_3:=iq (rcz,(rcx,())) l4_2
   simp only[lm,aX h3_1,bp h4_2]
  ·refine (ae (Bool.eq_false_iff.2 fun h'=>h4_2 (by simpa using h')) _ _).trans ?_
   refine (aa (Bool.and_eq_true_iff.2 ⟨hg _ l2_1,hbrcx⟩) _ _).trans ?_
   have l5_3:=iq (rcz,(rcx,())) l2_1
   simp only[lm,aX h3_1,aX h4_2]
def py (v:Int)(xs:List br.den)(s:aV):aV:=bk (lm v) xs s
abbrev oV:Io:=⟨[.ptr 0 0,.dat (.sl 223 br) false false,.fnc 129 false [2]],jh,[],[],none⟩
def Dn (d:oV.In):Tr oV.Res:=.ite (gt d.2&&vr d.1.2.1) (.ret (.ret ((),d0 d.2.1.2.1 (py d.2.1.2.1 d.1.2.1 (gu d.2))))) .no
abbrev KJ:List (Nat×Hc):=[(194,af b9 d4),(98,af cc dV),(129,af j7 BD)]
theorem Lm:HcOk prog 128 (af oV Dn):=
 ry (gx:=RB) (one:=lm) (sps:=py) (fun _ _ _=>rfl) (fun v _ _ h3=>Ba v _ h3) (cs:=KJ) (.cons c7 (.cons bN (.cons PC .nil))) (fn:=Tryz.f128) (by kernel_rfl) (by kernel_rfl) (by kernel_rfl) (by kernel_rfl) (by kernel_rfl) (by kernel_rfl) (by intros;kernel_rfl) (by intros;kernel_rfl)
def yi (v:Int)(t:ax.den)(s:aV):aV:=py v t.2.1 (bn t.1 s)
def EH (t:ax.den):Bool:=vr t.2.1
def fR (xs:List ax.den):Bool:=xs.all EH
abbrev ie:Io:=⟨[.dat ax true false,.ptr 0 0],lI,[],[],none⟩
def vH (d:ie.In):Tr ie.Res:=.ite (dW d.2.2&&EH d.1.1) (.ret (.ret ((),dw d.2.2.1.2.1 (yi d.2.2.1.2.1 d.1.1 (dX d.2.2))))) .no
abbrev zZ:List (Nat×Hc):=[(101,af hY qP),(128,af oV Dn)]
def KY:Hd:=bR zZ
def Av:Lp:=bJ []
def tO (a0:List Int)(a1:List br.den)(a2 a3:Int)(a4:Bool)(a5:List Int)(a6:Int):Option ie.Res:=bif decide (a6=130048)&&decide (a5.length≤130048) then bif decide (130048=130048)&&decide ((bn a0 (a3,a4,a5)).2.2.length≤130048)&&vr a1 then some (Out.ret ((),((),()),((),a2,(py a2 a1 (bn a0 (a3,a4,a5))).1,(py a2 a1 (bn a0 (a3,a4,a5))).2.1,()),((py a2 a1 (bn a0 (a3,a4,a5))).2.2,130048,()),())) else none else none
theorem HU (a0:List Int)(a1:List br.den)(a2 a3:Int)(a4:Bool)(a5:List Int)(a6:Int):Io.run tt KY dr Av ie Tryz.f127 (((a0,a1,()),(),()),((),()),((),a2,a3,a4,()),(a5,a6,()),())=tO a0 a1 a2 a3 a4 a5 a6:=by kernel_rfl
theorem Ln:HcOk prog 127 (af ie vH):=by
 refine ao (n:=400) hm (cs:=zZ) (.cons qs (.cons Lm .nil)) (lp:=Av) (fn:=Tryz.f127) (by kernel_rfl) (by kernel_rfl) (by kernel_rfl) ie (.done (by kernel_rfl)) vH ?_
 rintro ⟨⟨⟨(t:List Int),(ps:List br.den),⟨⟩⟩,⟨⟩,⟨⟩⟩,⟨⟨⟩,⟨⟩⟩,⟨⟨⟩,(v:Int),(e:Int),(f:Bool),⟨⟩⟩,⟨(b:List Int),(m:Int),⟨⟩⟩,⟨⟩⟩ out hw ho
 obtain ⟨hg,ho⟩:=Tr.guard ho
 obtain ⟨hg,h5⟩:=Bool.and_eq_true_iff.1 hg
 have h5:vr ps=true:=h5
 obtain ⟨rfl,hb⟩:=bo (v:=v) (e:=e) (f:=f) hg
 cases ho
 refine (HU t ps v e f b 130048).trans ?_
 unfold tO
 refine (aa (by simpa using hb) _ _).trans ?_
 refine (aa (Bool.and_eq_true_iff.2 ⟨by simpa using dd (s:=(e,f,b)) t hb,h5⟩) _ _).trans ?_
 rfl
theorem tr {s:aV}(v:Int)(t:ax.den)(h:s.2.2.length≤130048):(yi v t s).2.2.length≤130048:=bF (fun x s=>Ba v x) _ (dd _ h)
def jM (v:Int)(xs:List ax.den)(s:aV):aV:=bk (yi v) xs s
abbrev mK:Io:=⟨[.ptr 0 0,.dat (.sl 221 ax) false false,.fnc 127 false [2]],jh,[],[],none⟩
def y7 (d:mK.In):Tr mK.Res:=.ite (gt d.2&&fR d.1.2.1) (.ret (.ret ((),d0 d.2.1.2.1 (jM d.2.1.2.1 d.1.2.1 (gu d.2))))) .no
abbrev Ha:List (Nat×Hc):=[(194,af b9 d4),(98,af cc dV),(127,af ie vH)]
theorem qu:HcOk prog 126 (af mK y7):=
 ry (gx:=EH) (one:=yi) (sps:=jM) (fun _ _ _=>rfl) (fun v _ _ h3=>tr v _ h3) (cs:=Ha) (.cons c7 (.cons bN (.cons Ln .nil))) (fn:=Tryz.f126) (by kernel_rfl) (by kernel_rfl) (by kernel_rfl) (by kernel_rfl) (by kernel_rfl) (by kernel_rfl) (by intros;kernel_rfl) (by intros;kernel_rfl)
def qG (v:Int)(p:br.den)(s:aV):aV:=ap v (p.2.2.2.2.1 == 0) 3 3 (ap v (p.2.2.2.1 == 0) 2 3 (s))
def fE (v:Int)(ps:List br.den)(s:aV):aV:=ps.foldl (fun s p=>qG v p s) s
def tq (v:Int)(ts:List ax.den)(s:aV):aV:=ts.foldl (fun s t=>fE v t.2.1 s) s
def lY (v:Int)(m:eS.den):aV:=jM v m.2.1 (bV v 1 3 m.1 4 (tq v m.2.1 (ap v (m.1 == 0) 1 3 (aH v,(false,([]:List Int))))))
abbrev mJ:Io:=⟨[dI,.dat eS true false],[],[],[dO,dI],none⟩
def MV (d:mJ.In):Tr mJ.Res:=.ite (fR d.1.2.1.2.1) (.ret (.ret ((bj (lY d.1.1 d.1.2.1),(aM (lY d.1.1 d.1.2.1),())),()))) .no
abbrev uY:List (Nat×Hc):=[(93,af jb tH),(94,af d5 jk),(95,af e7 ly),(98,af cc dV),(126,af mK y7),(105,af fW nF)]
def Ca:Hd:=bR uY
abbrev fj:Lo:=⟨⟨(.any::bt (.one (.ptr 3 0)::bt (.one (.ptr 6 0)::dq (bQ (.one (.hol (.sl 221 ax))::.one (.hol (.int IntKind.i64))::.one (.hol (.int IntKind.i64))::bQ (.one (.hol (.sl 223 br))::.one (.hol (.int IntKind.i64))::.one (.hol (.int IntKind.i64))::ag (dq (bQ (bt []))))))))),[none,none,none,some [.hol (.int IntKind.i32),.hol (.sl 221 ax)],none,none,some [.ptr 12 0],none,none,none,none,none,some [.ptr 13 0,.hol (.int IntKind.i64),.hol (.int IntKind.i64),.hol .bool],some [.onl 5 (Ty.int IntKind.u8) 6658,.hol (.int IntKind.i64)]]⟩,[(.exit 2,⟨(.any::bt (.one (.ptr 3 0)::bt (.one (.ptr 6 0)::dq (bQ (.one (.hol (.sl 221 ax))::.one (.hol (.int IntKind.i64))::.one (.hol (.int IntKind.i64))::.any::ag (ag (bQ []))))))),[none,none,none,some [.hol (.int IntKind.i32),.hol (.sl 221 ax)],none,none,some [.ptr 12 0],none,none,none,none,none,some [.ptr 13 0,.hol (.int IntKind.i64),.hol (.int IntKind.i64),.hol .bool],some [.onl 5 (Ty.int IntKind.u8) 6658,.hol (.int IntKind.i64)]]⟩)]⟩
abbrev fi:Lo:=⟨⟨(.any::bt (.one (.ptr 3 0)::bt (.one (.ptr 6 0)::dq (bQ (.one (.hol (.sl 221 ax))::.one (.hol (.int IntKind.i64))::.one (.hol (.int IntKind.i64))::.any::ag (ag (bQ []))))))),[none,none,none,some [.hol (.int IntKind.i32),.hol (.sl 221 ax)],none,none,some [.ptr 12 0],none,none,none,none,none,some [.ptr 13 0,.hol (.int IntKind.i64),.hol (.int IntKind.i64),.hol .bool],some [.onl 5 (Ty.int IntKind.u8) 6658,.hol (.int IntKind.i64)]]⟩,[(.exit 0,⟨(.any::bt (.one (.ptr 3 0)::bt (.one (.ptr 6 0)::ag (ag (ag (bQ [])))))),[none,none,none,some [.hol (.int IntKind.i32),.hol (.sl 221 ax)],none,none,some [.ptr 12 0],none,none,none,none,none,some [.ptr 13 0,.hol (.int IntKind.i64),.hol (.int IntKind.i64),.hol .bool],some [.onl 5 (Ty.int IntKind.u8) 6658,.hol (.int IntKind.i64)]]⟩)]⟩
abbrev s6 (th':Int)(ts':List ax.den)(v:Int)(s:aV):(Int×(List ax.den×Unit))×(Unit×((Int×(Int×(Bool×Unit)))×((List Int×(Int×Unit))×Unit))):=((th',(ts',())),((),((v,(s.1,(s.2.1,()))),((s.2.2,(130048,())),()))))
def nJ (d:fj.st.den):Tr (aJ fj.xs):=
 .ite (decide (d.1.2.2.2.2.2.1=0)&&(decide (d.1.2.2.2.2.1=(d.1.2.2.2.1.length:Int))&&(decide (d.2.2.2.2.1.2.1=130048)&&decide (d.2.2.2.2.1.1.length≤130048)))) (.ret (.ret ((),((d.1.1,(d.1.2.1,(d.1.2.2.1,()))),s6 d.2.1.1 d.2.1.2.1 d.2.2.2.1.1 (fE d.2.2.2.1.1 d.1.2.2.2.1 (d.2.2.2.1.2.1,(d.2.2.2.1.2.2.1,d.2.2.2.2.1.1))))))) .no
def nI (d:fi.st.den):Tr (aJ fi.xs):=
 .ite (decide (d.1.2.2.1=0)&&(decide (d.1.2.1=(d.1.1.length:Int))&&(decide (d.2.2.2.2.1.2.1=130048)&&decide (d.2.2.2.2.1.1.length≤130048)))) (.ret (.ret ((),((),s6 d.2.1.1 d.2.1.2.1 d.2.2.2.1.1 (tq d.2.2.2.1.1 d.1.1 (d.2.2.2.1.2.1,(d.2.2.2.1.2.2.1,d.2.2.2.2.1.1))))))) .no
def o7:Lp:=bJ [(5,bv fi nI),(8,bv fj nJ)]
def uB {R:Type}(h13:List ax.den)(h14 h15:Int)(h16:List br.den)(h17 h18 h19:Int)(h20:List ax.den)(h21 h22:Int)(h23:Bool)(h24:List Int)(h25:Int)(next:List ax.den→Int→Int→List br.den→Int→Int→Int→List ax.den→Int→Int→Bool→List Int→Int→Option R)(out:aJ fj.xs→Option R):Option R:=bif decide (h18<h17) then bif decide (0≤h18)&&decide (h18<(↑h16.length:Int)) then bif decide (h25=130048)&&decide (h24.length≤130048) then bif decide (130048=130048)&&decide ((ap h21 ((h16.getD h18.toNat (0,0,0,0,0,(false,[],()),())).2.2.2.1 == 0) 2 3 (h22,h23,h24)).2.2.length≤130048) then next (h13) (h14) (h15) (h16) (h17) (IntKind.i64.wrap (h18+1)) (h19) (h20) (h21) ((ap h21 ((h16.getD h18.toNat (0,0,0,0,0,(false,[],()),())).2.2.2.2.1 == 0) 3 3 (ap h21 ((h16.getD h18.toNat (0,0,0,0,0,(false,[],()),())).2.2.2.1 == 0) 2 3 (h22,h23,h24))).1) ((ap h21 ((h16.getD h18.toNat (0,0,0,0,0,(false,[],()),())).2.2.2.2.1 == 0) 3 3 (ap h21 ((h16.getD h18.toNat (0,0,0,0,0,(false,[],()),())).2.2.2.1 == 0) 2 3 (h22,h23,h24))).2.1) ((ap h21 ((h16.getD h18.toNat (0,0,0,0,0,(false,[],()),())).2.2.2.2.1 == 0) 3 3 (ap h21 ((h16.getD h18.toNat (0,0,0,0,0,(false,[],()),())).2.2.2.1 == 0) 2 3 (h22,h23,h24))).2.2) (130048) else none else none else none else out (.ret ((),((h13,(h14,(h15,()))),((h19,(h20,())),((),((h21,(h22,(h23,()))),((h24,(h25,())),())))))))
def sP (n:Nat)(h13:List ax.den)(h14 h15:Int)(h16:List br.den)(h17 h18 h19:Int)(h20:List ax.den)(h21 h22:Int)(h23:Bool)(h24:List Int)(h25:Int):Option (aJ fj.xs):=lD tt Ca dr o7 0 Tryz.f59 (Gw Tryz.f59 (gQ Tryz.f59 0) 0) n (fj.st.mk' ((h13,(h14,(h15,(h16,(h17,(h18,())))))),((h19,(h20,())),((),((h21,(h22,(h23,()))),((h24,(h25,())),())))))) (dc fj.xs)
theorem L9 (n:Nat)(h13:List ax.den)(h14 h15:Int)(h16:List br.den)(h17 h18 h19:Int)(h20:List ax.den)(h21 h22:Int)(h23:Bool)(h24:List Int)(h25:Int):sP (n+1) h13 h14 h15 h16 h17 h18 h19 h20 h21 h22 h23 h24 h25=uB h13 h14 h15 h16 h17 h18 h19 h20 h21 h22 h23 h24 h25 (sP n) some:=by kernel_rfl
def uA {R:Type}(h3:List ax.den)(h4 h5 h6:Int)(h7:List ax.den)(h8 h9:Int)(h10:Bool)(h11:List Int)(h12:Int)(next:List ax.den→Int→Int→Int→List ax.den→Int→Int→Bool→List Int→Int→Option R)(out:aJ fi.xs→Option R):Option R:=bif decide (h5<h4) then bif decide (0≤h5)&&decide (h5<(↑h3.length:Int)) then (nJ ((h3,(h4,(h5,((h3.getD h5.toNat ([],[],())).2.1,((↑(List.length (h3.getD h5.toNat ([],[],())).2.1):Int),(0,())))))),((h6,(h7,())),((),((h8,(h9,(h10,()))),((h11,(h12,())),())))))).run fun y=>match y with | .ret ((),((x49,x50,x51,()),(x52,x53,()),(),(x54,x55,x56,()),(x57,x58,()),()))=>(next (x49) (x50) (IntKind.i64.wrap (x51+1)) (x52) (x53) (x54) (x55) (x56) (x57) (x58)) else none else out (.ret ((),((),((h6,(h7,())),((),((h8,(h9,(h10,()))),((h11,(h12,())),())))))))
def o3 (n:Nat)(h3:List ax.den)(h4 h5 h6:Int)(h7:List ax.den)(h8 h9:Int)(h10:Bool)(h11:List Int)(h12:Int):Option (aJ fi.xs):=lD tt Ca dr o7 0 Tryz.f59 (gQ Tryz.f59 0) n (fi.st.mk' ((h3,(h4,(h5,()))),((h6,(h7,())),((),((h8,(h9,(h10,()))),((h11,(h12,())),())))))) (dc fi.xs)
theorem L8 (n:Nat)(h3:List ax.den)(h4 h5 h6:Int)(h7:List ax.den)(h8 h9:Int)(h10:Bool)(h11:List Int)(h12:Int):o3 (n+1) h3 h4 h5 h6 h7 h8 h9 h10 h11 h12=uA h3 h4 h5 h6 h7 h8 h9 h10 h11 h12 (o3 n) some:=by kernel_rfl
theorem A8 {s:aV}(v:Int)(p:br.den)(h:s.2.2.length≤130048):(qG v p s).2.2.length≤130048:=ba _ _ _ _ (ba _ _ _ _ h)
theorem yg {s:aV}(v:Int)(ps:List br.den)(h:s.2.2.length≤130048):(fE v ps s).2.2.length≤130048:=eH (fun x s=>A8 v x) ps s h
theorem Mw {s:aV}(v:Int)(ts:List ax.den)(h:s.2.2.length≤130048):(tq v ts s).2.2.length≤130048:=eH (one:=fun (t:ax.den) (s:aV)=>fE v t.2.1 s) (fun x s h=>yg v x.2.1 h) ts s h
theorem EP (us:List ax.den)(n i th':Int)(ts':List ax.den)(v:Int){ps:List br.den}(hl:ps.length≤maxLen):∀(k j:Nat) (s:aV),ps.length<j+k→j≤ps.length→s.2.2.length≤130048→
  sP k us n i ps (ps.length:Int) j th' ts' v s.1 s.2.1 s.2.2 130048=some (.ret ((),((us,(n,(i,()))),s6 th' ts' v ((ps.drop j).foldl (fun s p=>qG v p s) s)))):=by
 intro k
 have hg:∀s:aV,s.2.2.length≤130048→(decide ((130048:Int)=130048)&&decide (s.2.2.length≤130048))=true:=fun s h=>by simpa using h
 induction k with
 |zero=>intro j s h;omega
 |succ k ih=>
  intro j s h1 h2 q0
  rw[L9]
  unfold uB
  by_cases hi:j<ps.length
  ·refine (aa (decide_eq_true (show (j:Int)<(ps.length:Int) by omega)) _ _).trans ?_
   refine (aa (by simpa using hi) _ _).trans ?_
   simp only[Int.toNat_natCast,bh hi,bM hi hl]
   refine (aa (hg _ q0) _ _).trans ?_
   have q1:=ba (s:=s) v (ps[j].2.2.2.1 == 0) 2 3 q0
   refine (aa (hg _ q1) _ _).trans ?_
   have q2:=ba (s:=ap v (ps[j].2.2.2.1 == 0) 2 3 s) v (ps[j].2.2.2.2.1 == 0) 3 3 q1
   rw[List.drop_eq_getElem_cons hi]
   exact ih (j+1) (qG v ps[j] s) (by omega) (by omega) (A8 _ _ q0)
  ·refine (ae (by simp;omega) _ _).trans ?_
   rw[List.drop_of_length_le (by omega)]
   rfl
theorem EO {us:List ax.den}(th':Int)(ts':List ax.den)(v:Int)(hl:us.length≤maxLen):∀(k j:Nat) (s:aV),us.length<j+k→j≤us.length→s.2.2.length≤130048→
  o3 k us (us.length:Int) j th' ts' v s.1 s.2.1 s.2.2 130048=some (.ret ((),((),s6 th' ts' v ((us.drop j).foldl (fun s t=>fE v t.2.1 s) s)))):=by
 intro k
 induction k with
 |zero=>intro j s h;omega
 |succ k ih=>
  intro j s h1 h2 h3
  rw[L8]
  unfold uA
  by_cases hi:j<us.length
  ·refine (aa (decide_eq_true (show (j:Int)<(us.length:Int) by omega)) _ _).trans ?_
   refine (aa (by simpa using hi) _ _).trans ?_
   simp only[Int.toNat_natCast,bh hi]
   have c1:(decide ((0:Int)=0)&&(decide ((us[j].2.1.length:Int)=(us[j].2.1.length:Int))&&(decide ((130048:Int)=130048)&&decide (s.2.2.length≤130048))))=true:=by simpa using h3
   have e1:nJ ((us,((us.length:Int),((j:Int),(us[j].2.1,((us[j].2.1.length:Int),(0,())))))),((th',(ts',())),((),((v,(s.1,(s.2.1,()))),((s.2.2,(130048,())),())))))=
     .ite true (.ret (.ret ((),((us,((us.length:Int),((j:Int),()))),s6 th' ts' v (fE v us[j].2.1 s))))) .no:=congrArg (fun c=>Tr.ite c _ _) c1
   rw[e1]
   show o3 k us (us.length:Int) (IntKind.i64.wrap ((j:Int)+1)) th' ts' v (fE v us[j].2.1 s).1 (fE v us[j].2.1 s).2.1 (fE v us[j].2.1 s).2.2 130048=_
   rw[bM hi hl,List.drop_eq_getElem_cons hi]
   exact ih (j+1) (fE v us[j].2.1 s) (by omega) (by omega) (yg _ _ h3)
  ·refine (ae (by simp;omega) _ _).trans ?_
   rw[List.drop_of_length_le (by omega)]
   rfl
def zG (a0 a1:Int)(a2:List ax.den):Option mJ.Res:=(nI ((a2,((↑a2.length:Int),(0,()))),((a1,(a2,())),((),((a0,((ap a0 (a1 == 0) 1 3 (aH a0,false,[])).1,((ap a0 (a1 == 0) 1 3 (aH a0,false,[])).2.1,()))),(((ap a0 (a1 == 0) 1 3 (aH a0,false,[])).2.2,(130048,())),())))))).run fun y=>match y with | .ret ((),((),(x76,x77,()),(),(x78,x79,x80,()),(x81,x82,()),()))=>(bif decide (x82=130048)&&decide (x81.length≤130048) then bif decide (1≤x78)&&decide (x78≤3) then bif decide (130048=130048)&&decide (x81.length≤130048) then bif decide (130048=130048)&&decide ((ab x76 4 (x79,x80,x81)).2.2.length≤130048)&&fR x77 then bif decide (130048=130048)&&decide ((jM x78 x77 (ab x76 4 (x79,x80,x81))).2.2.length≤130048) then some (Out.ret ((bj (jM x78 x77 (ab x76 4 (x79,x80,x81))),aM (jM x78 x77 (ab x76 4 (x79,x80,x81))),()),())) else none else none else none else bif decide (130048=130048)&&decide (x81.length≤130048)&&fR x77 then bif decide (130048=130048)&&decide ((jM x78 x77 (x79,x80,x81)).2.2.length≤130048) then some (Out.ret ((bj (jM x78 x77 (x79,x80,x81)),aM (jM x78 x77 (x79,x80,x81)),()),())) else none else none else none)
theorem Qc (a0 a1:Int)(a2:List ax.den):Io.run tt Ca dr o7 mJ Tryz.f59 ((a0,(a1,a2,()),()),())=zG a0 a1 a2:=by kernel_rfl
theorem Sy:HcOk prog 59 (af mJ MV):=by
 refine ao (n:=400) hm (cs:=uY) (.cons fL (.cons cH (.cons dR (.cons bN (.cons qu (.cons d2 .nil)))))) (lp:=o7) (fn:=Tryz.f59) (by kernel_rfl) (by kernel_rfl) (by kernel_rfl) mJ (.step (h0:=bv fi nI) (by kernel_rfl) (aQ (n:=400) hm (cs:=uY) (.cons fL (.cons cH (.cons dR (.cons bN (.cons qu (.cons d2 .nil)))))) (lp:=o7) (fn:=Tryz.f59) (.step (h0:=bv fj nJ) (by kernel_rfl) (aQ (n:=400) hm (cs:=uY) (.cons fL (.cons cH (.cons dR (.cons bN (.cons qu (.cons d2 .nil)))))) (lp:=o7) (fn:=Tryz.f59) (.done (by kernel_rfl)) fj nJ ?_) (.done (by kernel_rfl))) fi nI ?_) (.done (by kernel_rfl))) MV ?_
 ·rintro ⟨⟨(us:List ax.den),(n:Int),(i:Int),(ps:List br.den),(pn:Int),(pj:Int),⟨⟩⟩,⟨⟨(th':Int),(ts':List ax.den),⟨⟩⟩,⟨⟩,⟨(v:Int),(e:Int),(f:Bool),⟨⟩⟩,⟨(b:List Int),(m:Int),⟨⟩⟩,⟨⟩⟩⟩ y hw hy
  obtain ⟨hg,hy⟩:=Tr.guard hy
  simp only[Bool.and_eq_true,decide_eq_true_eq] at hg
  obtain ⟨rfl,rfl,rfl,h4⟩:=hg
  have h4:b.length≤130048:=h4
  have hl:ps.length≤maxLen:=hw.1.2.2.2.1.1
  refine ⟨ps.length+1,(EP us n i th' ts' v hl (ps.length+1) 0 (e,(f,b)) (by omega) (by omega) h4).trans ?_⟩
  rw[← hy];rfl
 ·rintro ⟨⟨(us:List ax.den),(n:Int),(i:Int),⟨⟩⟩,⟨⟨(th':Int),(ts':List ax.den),⟨⟩⟩,⟨⟩,⟨(v:Int),(e:Int),(f:Bool),⟨⟩⟩,⟨(b:List Int),(m:Int),⟨⟩⟩,⟨⟩⟩⟩ y hw hy
  obtain ⟨hg,hy⟩:=Tr.guard hy
  simp only[Bool.and_eq_true,decide_eq_true_eq] at hg
  obtain ⟨rfl,rfl,rfl,h4⟩:=hg
  have h4:b.length≤130048:=h4
  have hl:us.length≤maxLen:=hw.1.1.1
  refine ⟨us.length+1,(EO th' ts' v hl (us.length+1) 0 (e,(f,b)) (by omega) (by omega) h4).trans ?_⟩
  rw[← hy];rfl
 ·rintro ⟨⟨(v:Int),⟨(th:Int),(ts:List ax.den),⟨⟩⟩,⟨⟩⟩,⟨⟩⟩ out hw ho
  obtain ⟨hg,ho⟩:=Tr.guard ho
  have hok:fR ts=true:=hg
  clear hg
  cases ho
  refine (Qc v th ts).trans ?_
  unfold zG
  have hg:∀s:aV,s.2.2.length≤130048→(decide ((130048:Int)=130048)&&decide (s.2.2.length≤130048))=true:=fun s h=>by simpa using h
  have q0:(aH v,(false,([]:List Int))).2.2.length≤130048:=by simp
  have q1:=ba (s:=(aH v,(false,([]:List Int)))) v (th == 0) 1 3 q0
  have c1:(decide ((0:Int)=0)&&(decide ((ts.length:Int)=(ts.length:Int))&&(decide ((130048:Int)=130048)&&decide ((ap v (th == 0) 1 3 (aH v,(false,([]:List Int)))).2.2.length≤130048))))=true:=by simpa using q1
  have e1:nI ((ts,((ts.length:Int),(0,()))),((th,(ts,())),((),((v,((ap v (th == 0) 1 3 (aH v,(false,([]:List Int)))).1,((ap v (th == 0) 1 3 (aH v,(false,([]:List Int)))).2.1,()))),(((ap v (th == 0) 1 3 (aH v,(false,([]:List Int)))).2.2,(130048,())),())))))=
    .ite true (.ret (.ret ((),((),s6 th ts v (tq v ts (ap v (th == 0) 1 3 (aH v,(false,([]:List Int))))))))) .no:=congrArg (fun c=>Tr.ite c _ _) c1
  rw[e1]
  have r0:=Mw v ts q1
  refine (aa (hg _ r0) _ _).trans ?_
  by_cases h0_0:1≤v∧v≤3
  ·refine (aa (by simpa using h0_0) _ _).trans ?_
   refine (aa (hg _ r0) _ _).trans ?_
   have l0_0:=av th 4 r0
   refine (aa (by rw[hok,Bool.and_true];exact hg _ l0_0) _ _).trans ?_
   have l1_1:=bF (fun x s=>tr v x) ts l0_0
   refine (aa (hg _ l1_1) _ _).trans ?_
   simp only[lY,bp h0_0]
  ·refine (ae (Bool.eq_false_iff.2 fun h'=>h0_0 (by simpa using h')) _ _).trans ?_
   refine (aa (by rw[hok,Bool.and_true];exact hg _ r0) _ _).trans ?_
   have l1_1:=bF (fun x s=>tr v x) ts r0
   refine (aa (hg _ l1_1) _ _).trans ?_
   simp only[lY,aX h0_0]
@[irreducible] noncomputable def Iv (v:Int)(b:List Int)(s:aC):br.den×aC:=
 (((ac .i32 4 b s).1,((ac .i16 2 b (ac .i32 4 b s).2).1,((ac .i64 8 b (ac .i16 2 b (ac .i32 4 b s).2).2).1,((aq .i64 8 v 2 3 b (ac .i64 8 b (ac .i16 2 b (ac .i32 4 b s).2).2).2).1,((aq .i64 8 v 3 3 b (aq .i64 8 v 2 3 b (ac .i64 8 b (ac .i16 2 b (ac .i32 4 b s).2).2).2).2).1,((cP b (aq .i64 8 v 3 3 b (aq .i64 8 v 2 3 b (ac .i64 8 b (ac .i16 2 b (ac .i32 4 b s).2).2).2).2).2).1,())))))),(cP b (aq .i64 8 v 3 3 b (aq .i64 8 v 2 3 b (ac .i64 8 b (ac .i16 2 b (ac .i32 4 b s).2).2).2).2).2).2)
@[irreducible] noncomputable def Db (v:Int)(b:List Int)(s:aC):List br.den×aC:=eB (Iv v b) b s
@[irreducible] noncomputable def Q1 (v:Int)(b:List Int)(s:aC):ax.den×aC:=(((bf b s).1,((Db v b (bf b s).2).1,())),(Db v b (bf b s).2).2)
def A7 (p:br.den):Nd:=cj [aF 3 p.1,aF 2 p.2.1,aF 4 p.2.2.1,aF 4 p.2.2.2.1,aF 4 p.2.2.2.2.1,lF p.2.2.2.2.2.1]
def lk (t:ax.den):Nd:=cj [kh t.1,bw (t.2.1.map A7)]
@[irreducible] def oF (m:eS.den):Nd:=cj [aF 3 m.1,bw (m.2.1.map lk)]
def Uu (x:Nd):br.den:=(IntKind.i32.wrap (cJ x 0).lab.2.1,(IntKind.i16.wrap (cJ x 1).lab.2.1,((cJ x 2).lab.2.1,((cJ x 3).lab.2.1,((cJ x 4).lab.2.1,((cJ x 5).lab.2.2,()))))))
def VS (x:Nd):ax.den:=((cJ x 0).lab.2.2.2.1,((cJ x 1).kids.map Uu,()))
def Gr (l:List ax.den):Bool:=decide (l.length≤4294967296)&&l.all fun t=>decide (t.2.1.length≤4294967296)
abbrev uc:Lo:=⟨⟨(.any::.one (.ptr 1 0)::.one (.ptr 2 0)::.one (.onl 91 az 7)::.one (.hol (.int IntKind.i64))::.one (.onl 91 az 11)::.one (.hol (.int IntKind.i64))::.any::ag (ag (ag (ag (dq (bQ (bt []))))))),[none,some [.hol (.int IntKind.i32),.hol (.sl 221 ax)],some [.hol (.int IntKind.i64),.hol (.int IntKind.i64),.hol .bool,.onl 5 (Ty.int IntKind.u8) 1032,.onl 91 az 1034]]⟩,[(.exit 2,⟨(.any::.one (.ptr 1 0)::.one (.ptr 2 0)::.one (.onl 91 az 7)::.one (.hol (.int IntKind.i64))::.one (.onl 91 az 11)::ag (ag (ag (ag (ag []))))),[none,some [.hol (.int IntKind.i32),.hol (.sl 221 ax)],some [.hol (.int IntKind.i64),.hol (.int IntKind.i64),.hol .bool,.onl 5 (Ty.int IntKind.u8) 1032,.onl 91 az 1034]]⟩)]⟩
abbrev ua:Lo:=⟨⟨(.any::.one (.ptr 1 0)::.one (.ptr 2 0)::.one (.onl 91 az 7)::.one (.hol (.int IntKind.i64))::.any::ag (ag (ag (ag (ag []))))),[none,some [.hol (.int IntKind.i32),.hol (.sl 221 ax)],some [.hol (.int IntKind.i64),.hol (.int IntKind.i64),.hol .bool,.onl 5 (Ty.int IntKind.u8) 1032,.onl 91 az 1034]]⟩,[(.exit 0,⟨(.any::.one (.ptr 1 0)::.one (.ptr 2 0)::.one (.onl 91 az 7)::ag (ag (ag (ag (ag (bt [])))))),[none,some [.hol (.int IntKind.i32),.hol (.sl 221 ax)],some [.hol (.int IntKind.i64),.hol (.int IntKind.i64),.hol .bool,.onl 5 (Ty.int IntKind.u8) 1032,.onl 91 az 1034]]⟩)]⟩
def UP (d:uc.st.den):Tr (aJ uc.xs):=
 .ite ((decide ((0:Int)≤d.1.2.1)&&decide (d.1.2.1<(d.2.1.2.1.length:Int)))&&((decide (d.1.2.2.1.length=0)&&decide (d.1.2.2.2.1=0))&&decide ((d.2.1.2.1.getD d.1.2.1.toNat ax.zero).2.1.length≤4294967296)))
  (.ret (.ret ((),((d.1.1,(d.1.2.1,((d.2.1.2.1.getD d.1.2.1.toNat ax.zero).2.1.map A7,()))),(d.2.1,(d.2.2.1,())))))) .no
def UO (d:ua.st.den):Tr (aJ ua.xs):=
 .ite ((decide (d.1.1.length=0)&&decide (d.1.2.1=0))&&Gr d.2.1.2.1)
  (.ret (.ret ((),((d.2.1.2.1.map lk,()),(d.2.1,(d.2.2.1,())))))) .no
abbrev w9:Lo:=⟨⟨(bt (.one (.ptr 2 0)::.one (.ptr 3 0)::.one (.hol (.sl 91 az))::.one (.hol (.int IntKind.i64))::.one (.ptr 6 0)::.one (.hol (.sl 91 az))::.one (.hol (.int IntKind.i64))::.any::ag (ag (ag (ag (dq (bQ []))))))),[none,none,some [.hol (.int IntKind.i32),.onl 221 ax 1028],some [.hol (.int IntKind.i32),.onl 221 ax 1540],none,none,some [.hol .str,.onl 223 br 3076]]⟩,[(.exit 2,⟨(bt (.one (.ptr 2 0)::.one (.ptr 3 0)::.one (.hol (.sl 91 az))::.one (.hol (.int IntKind.i64))::.one (.ptr 6 0)::.any::ag (ag (ag (ag (dq (bQ (bt [])))))))),[none,none,some [.hol (.int IntKind.i32),.onl 221 ax 1028],some [.hol (.int IntKind.i32),.onl 221 ax 1540],none,none,some [.hol .str,.onl 223 br 3076]]⟩)]⟩
abbrev Al:Lo:=⟨⟨(bt (.one (.ptr 2 0)::.one (.ptr 3 0)::.one (.hol (.sl 91 az))::.one (.hol (.int IntKind.i64))::ag (ag (ag (ag (ag [])))))),[none,none,some [.hol (.int IntKind.i32),.onl 221 ax 1028],some [.hol (.int IntKind.i32),.onl 221 ax 1540]]⟩,[(.exit 0,⟨(bt (.one (.ptr 2 0)::.one (.ptr 3 0)::ag (ag (ag (ag (ag (bt []))))))),[none,none,some [.hol (.int IntKind.i32),.onl 221 ax 1028],some [.hol (.int IntKind.i32),.onl 221 ax 1540]]⟩)]⟩
def Wk (d:w9.st.den):Tr (aJ w9.xs):=
 .ite ((decide (d.1.2.2.2.1=0)&&decide (d.2.2.2.1.2.1.length=0))&&decide (cO d.1.2.2.1≤4294967296))
  (.ret (.ret ((),((d.1.1,(d.1.2.1,())),(d.2.1,(d.2.2.1,((d.2.2.2.1.1,(d.1.2.2.1.map Uu,())),()))))))) .no
def WC (d:Al.st.den):Tr (aJ Al.xs):=
 .ite ((decide (d.1.2.1=0)&&decide (d.2.2.1.2.1.length=0))&&decide (cO d.1.1≤4294967296))
  (.ret (.ret ((),((),(d.2.1,((d.2.2.1.1,(d.1.1.map VS,())),())))))) .no
@[irreducible] noncomputable def i5 (v:Int)(m:eS.den):List Int×Int:=qC 1 true v (oF m)
def Re (v:Int)(p:br.den):List Int×Int:=aI (aE p.1 4,0) (aI (aE p.2.1 2,0) (aI (aE p.2.2.1 8,0) (aI (if 2≤v∧v≤3 then (aE p.2.2.2.1 8,0) else ([],0)) (aI (if 3≤v∧v≤3 then (aE p.2.2.2.2.1 8,0) else ([],0)) (aI (pN p.2.2.2.2.2.1) (([],0)))))))
def Rf (v:Int)(t:ax.den):List Int×Int:=aI (gr t.1) (aI (cr (Re v) t.2.1) ([],0))
def V1 (v:Int)(m:eS.den):List Int×Int:=aI (if 1≤v∧v≤3 then (aE m.1 4,0) else ([],0)) (aI (cr (Rf v) m.2.1) (([],0)))
theorem Wri.frP (v:Int)(p:br.den)(h:RB p=true):Wri (Re v p) (lm v p):=(Wri.put p.1 4).seq ((Wri.put p.2.1 2).seq ((Wri.put p.2.2.1 8).seq ((Wri.hasE v 2 3 p.2.2.2.1 8).seq ((Wri.hasE v 3 3 p.2.2.2.2.1 8).seq ((Wri.blob p.2.2.2.2.2.1 (of_decide_eq_true h)).seq (Wri.nop))))))
theorem Wri.frT (v:Int)(t:ax.den)(h:EH t=true):Wri (Rf v t) (yi v t):=(Wri.str _).seq ((Wri.items fun p hp=>Wri.frP v p (List.all_eq_true.1 h p hp)).seq Wri.nop)
abbrev UX:Fd:=bY [112,97,114,116] 10 0 3 [bY [105,110,100,101,120] 3 0 3 [],bY [99,111,100,101] 2 0 3 [],bY [104,105,103,104] 4 0 3 [],bY [115,116,97,98,108,101] 4 2 3 [],bY [115,116,97,114,116] 4 3 3 [],bY [114,101,99,115] 8 0 3 []]
abbrev WS:Fd:=bY [116,111,112,105,99] 10 0 3 [bY [110,97,109,101] 5 0 3 [],bY [112,97,114,116,115] 9 0 3 [UX]]
theorem TE {v:Int}{p:br.den}(hv:0≤v∧v≤3)(h:br.wf p):pv UX v (A7 p)=Re v p:=by
 unfold A7 Re
 rw[fY,aP (aw hv.1 hv.2),aP (aw hv.1 hv.2),aP (aw hv.1 hv.2),gL,gL,aP (aw hv.1 hv.2),bL,bq (by decide) (w:=4) rfl (bD h.1),bq (by decide) (w:=2) rfl (ko h.2.1),bq (by decide) (w:=8) rfl (dk p.2.2.1),bq (by decide) (w:=8) rfl (dk p.2.2.2.1),bq (by decide) (w:=8) rfl (dk p.2.2.2.2.1),x7]
 try rfl
theorem TF {v:Int}{t:ax.den}(hv:0≤v∧v≤3)(h:ax.wf t):pv WS v (lk t)=Rf v t:=by
 unfold lk Rf
 rw[fY,aP (aw hv.1 hv.2),aP (aw hv.1 hv.2),bL,lV,dH,bO fun p hp=>TE hv (h.2.1.2 p hp)]
def nr (v:Int)(p:br.den):Bool:=(if 2≤v∧v≤3 then true else (p.2.2.2.1 == 0))&&((if 3≤v∧v≤3 then true else (p.2.2.2.2.1 == 0)))
theorem Mi {v:Int}{p:br.den}(hv:0≤v∧v≤3):(db UX v (A7 p)).2=nr v p:=by
 unfold A7 nr
 rw[dv,aR (aw hv.1 hv.2),aR (aw hv.1 hv.2),aR (aw hv.1 hv.2),cv,cv,aR (aw hv.1 hv.2),ct,aD (by decide) (by decide),aD (by decide) (by decide),aD (by decide) (by decide),aD (by decide) (by decide),aD (by decide) (by decide),aD (by decide) (by decide),bI,bI]
 simp only[Bool.true_and,Bool.and_true]
theorem Mj {v:Int}{t:ax.den}(hv:0≤v∧v≤3):(db WS v (lk t)).2=t.2.1.all (nr v):=by
 unfold lk
 rw[dv,aR (aw hv.1 hv.2),aR (aw hv.1 hv.2),ct,aD (by decide) (by decide),cw]
 simp only[Mi hv,Bool.true_and,Bool.and_true]
theorem Ir (m:eS.den):cN r5 [aF 3 m.1,bw (m.2.1.map lk)]:=by
 unfold r5 bH
 refine ar (aA (by decide) (by decide)) (ar ?_ bE)
 refine bW _ _ fun t=>cA rfl (ar (aA (by decide) (by decide)) (ar ?_ bE))
 exact bW _ _ fun p=>cA rfl (ar (aA (by decide) (by decide)) (ar (aA (by decide) (by decide)) (ar (aA (by decide) (by decide)) (ar (aA (by decide) (by decide)) (ar (aA (by decide) (by decide)) (ar (aA (by decide) (by decide)) bE))))))
def FB (v:Int)(m:eS.den):Bool:=(if 1≤v∧v≤3 then true else (m.1 == 0))&&((m.2.1.all fun t=>t.2.1.all (nr v)))
theorem Mv {e v:Int}{p:br.den}:qG v p (e,(false,([]:List Int)))=(eX e (nr v p),(false,[])):=by
 unfold qG nr
 rw[b8,b8,ce]
theorem yh {v:Int}:∀{ps:List br.den} {e:Int},fE v ps (e,(false,([]:List Int)))=(eX e (ps.all (nr v)),(false,[]))
 |[],e=>by rw[List.all_nil,eP];rfl
 |p::ps,e=>by
  show fE v ps (qG v p (e,(false,[])))=_
  rw[Mv,yh,ce,List.all_cons]
theorem A9 {v:Int}:∀{ts:List ax.den} {e:Int},tq v ts (e,(false,([]:List Int)))=(eX e (ts.all fun t=>t.2.1.all (nr v)),(false,[]))
 |[],e=>by rw[List.all_nil,eP];rfl
 |t::ts,e=>by
  show tq v ts (fE v t.2.1 (e,(false,[])))=_
  rw[yh,A9,ce,List.all_cons]
theorem WM {v:Int}{m:eS.den}(hv:0≤v∧v≤3):(bS v r5 [aF 3 m.1,bw (m.2.1.map lk)]).2=FB v m:=by
 unfold r5 bH FB
 rw[cv,aR (aw hv.1 hv.2),ct,aD (by decide) (by decide),cw,bI]
 simp only[Mj hv,Bool.true_and,Bool.and_true,Bool.and_assoc]
theorem Xo {v:Int}{m:eS.den}(hv:0≤v∧v≤3)(hm:eS.wf m):bT v r5 [aF 3 m.1,bw (m.2.1.map lk)]=V1 v m:=by
 unfold r5 bH V1
 rw[gL,aP (aw hv.1 hv.2),bL,bq (by decide) (w:=4) rfl (bD hm.1),dH,bO fun t ht=>TF hv (hm.2.1.2 t ht)]
 try rfl
theorem Od {v:Int}{m:eS.den}(hm:eS.wf m)(hok:fR m.2.1=true):(bj (lY v m),aM (lY v m))=i5 v m:=by
 unfold i5 oF
 rw[jJ (t:=r5) rfl QI rfl (Ir m)]
 unfold lY
 rw[b8,A9,ce]
 have hr:Wri (V1 v m) _:=(Wri.hasE v 1 3 m.1 4).seq ((Wri.items fun t ht=>Wri.frT v t (List.all_eq_true.1 hok t ht)).seq (Wri.nop))
 refine (hr.done _).trans ?_
 unfold aH
 by_cases hv:v<0∨3<v
 ·rw[if_pos hv,if_pos hv]
  exact if_pos (by simp[eX])
 rw[if_neg hv,if_neg hv]
 have hv':0≤v∧v≤3:=by omega
 rw[WM hv',Xo hv' hm]
 show (if eX 0 (FB v m)≠0 then _ else _)=_
 cases hz:FB v m
 ·exact (if_pos (by decide)).trans (show ([],eX 0 (FB v m))=_ by rw[hz];rfl)
 ·exact (if_neg (by decide)).trans (if_neg (by decide)).symm
abbrev rn:Io:=mJ
def IK (d:rn.In):Tr rn.Res:=.ite (fR d.1.2.1.2.1) (.ret (.ret (((i5 d.1.1 d.1.2.1).1,((i5 d.1.1 d.1.2.1).2,())),()))) .no
theorem Pz:HcOk prog 59 (af rn IK):=by
 refine HcOk.weakW Sy ?_
 rintro ⟨⟨(v:Int),m,⟨⟩⟩,⟨⟩⟩ y hw hy
 obtain ⟨hg,hy⟩:=Tr.guard hy
 refine (aa hg _ _).trans ?_
 rw[← hy]
 have h:=Od (v:=v) (m:=m) hw.1.2.1 hg
 show some (Out.ret ((bj (lY v m),(aM (lY v m),())),()))=some (Out.ret (((i5 v m).1,((i5 v m).2,())),()))
 rw[← h]
theorem AI {v:Int}{p:br.den}(h:nr v p=true):(¬(2≤v∧v≤3)→p.2.2.2.1=0)∧(¬(3≤v∧v≤3)→p.2.2.2.2.1=0):=by
 unfold nr at h
 simp only[Bool.and_eq_true] at h
 exact ⟨fun hv=>by have h1:=h.1;rw[if_neg hv] at h1;simpa using h1,fun hv=>by have h1:=h.2;rw[if_neg hv] at h1;simpa using h1⟩
theorem Rd.frP {b:List Int}{p:br.den}{v:Int}(h:br.wf p)(hk:nr v p=true)(hb:p.2.2.2.2.2.1.2.1.length≤2147483647):Rd b p (Re v p) (Iv v b):=
 (Rd.seq (fun a r=>(a,r)) (Rd.num (bG h.1)) (Rd.seq (fun a r=>(a,r)) (Rd.num (gk h.2.1)) (Rd.seq (fun a r=>(a,r)) (Rd.num (dm h.2.2.1)) (Rd.seq (fun a r=>(a,r)) (Rd.opt (dm h.2.2.2.1) (AI hk).1) (Rd.seq (fun a r=>(a,r)) (Rd.opt (dm h.2.2.2.2.1) (AI hk).2) (Rd.seq (fun a r=>(a,r)) (Rd.blo p.2.2.2.2.2.1 hb) (Rd.nop b ()))))))).congr fun s=>by unfold Iv;rfl
theorem Rd.frT {b:List Int}{t:ax.den}{v:Int}(h:ax.wf t)(hk:t.2.1.all (nr v)=true)(hb:EH t=true):Rd b t (Rf v t) (Q1 v b):=
 (Rd.seq (fun a r=>(a,r)) (Rd.txt t.1) (Rd.seq (fun a r=>(a,r)) (Rd.list fun p hp=>Rd.frP (h.2.1.2 p hp) (List.all_eq_true.1 hk p hp) (of_decide_eq_true (List.all_eq_true.1 hb p hp))) (Rd.nop b ()))).congr fun s=>by unfold Q1 Db;rfl
abbrev aU:Ty:=.prod (.int .i32) (.prod (.int .i32) (.prod (.int .i64) (.prod (.int .i32) .unit)))
abbrev aj:Ty:=.prod .str (.prod (.sl 198 aU) .unit)
abbrev cg:Ty:=.prod (.int .i32) (.prod (.int .i8) (.prod (.sl 196 aj) .unit))
def ls (v:Int)(p:aU.den)(s:aV):aV:=bV v 0 0 p.2.2.2.1 4 (ab p.2.2.1 8 (bV v 3 3 p.2.1 4 (ab p.1 4 (s))))
theorem Be {s:aV}(v:Int)(p:aU.den)(h:s.2.2.length≤130048):(ls v p s).2.2.length≤130048:=
 eO _ _ _ _ _ (av _ _ (eO _ _ _ _ _ (av _ _ (h))))
abbrev j8:Io:=⟨[.dat aU true false,.ptr 0 0],lI,[],[],none⟩
def BE (d:j8.In):Tr j8.Res:=.ite (dW d.2.2) (.ret (.ret ((),dw d.2.2.1.2.1 (ls d.2.2.1.2.1 d.1.1 (dX d.2.2))))) .no
abbrev Ep:List (Nat×Hc):=[(98,af cc dV),(111,af ja tG),(95,af e7 ly)]
def Ox:Hd:=bR Ep
def Fe:Lp:=bJ []
def we (a0 a1 a2 a3 a4 a5:Int)(a6:Bool)(a7:List Int)(a8:Int):Option j8.Res:=bif decide (a8=130048)&&decide (a7.length≤130048) then bif decide (130048=130048)&&decide ((ab a0 4 (a5,a6,a7)).2.2.length≤130048) then bif decide (3≤a4)&&decide (a4≤3) then bif decide (130048=130048)&&decide ((ab a0 4 (a5,a6,a7)).2.2.length≤130048) then bif decide (130048=130048)&&decide ((ab a1 4 (ab a0 4 (a5,a6,a7))).2.2.length≤130048) then bif decide (130048=130048)&&decide ((ab a2 8 (ab a1 4 (ab a0 4 (a5,a6,a7)))).2.2.length≤130048) then bif decide (0≤a4)&&decide (a4≤0) then bif decide (130048=130048)&&decide ((ab a2 8 (ab a1 4 (ab a0 4 (a5,a6,a7)))).2.2.length≤130048) then some (Out.ret ((),((),()),((),a4,(ab a3 4 (ab a2 8 (ab a1 4 (ab a0 4 (a5,a6,a7))))).1,(ab a3 4 (ab a2 8 (ab a1 4 (ab a0 4 (a5,a6,a7))))).2.1,()),((ab a3 4 (ab a2 8 (ab a1 4 (ab a0 4 (a5,a6,a7))))).2.2,130048,()),())) else none else some (Out.ret ((),((),()),((),a4,(ab a2 8 (ab a1 4 (ab a0 4 (a5,a6,a7)))).1,(ab a2 8 (ab a1 4 (ab a0 4 (a5,a6,a7)))).2.1,()),((ab a2 8 (ab a1 4 (ab a0 4 (a5,a6,a7)))).2.2,130048,()),())) else none else none else none else bif decide (130048=130048)&&decide ((ab a0 4 (a5,a6,a7)).2.2.length≤130048) then bif decide (130048=130048)&&decide ((ab a2 8 (ab a0 4 (a5,a6,a7))).2.2.length≤130048) then bif decide (0≤a4)&&decide (a4≤0) then bif decide (130048=130048)&&decide ((ab a2 8 (ab a0 4 (a5,a6,a7))).2.2.length≤130048) then some (Out.ret ((),((),()),((),a4,(ab a3 4 (ab a2 8 (ab a0 4 (a5,a6,a7)))).1,(ab a3 4 (ab a2 8 (ab a0 4 (a5,a6,a7)))).2.1,()),((ab a3 4 (ab a2 8 (ab a0 4 (a5,a6,a7)))).2.2,130048,()),())) else none else some (Out.ret ((),((),()),((),a4,(ab a2 8 (ab a0 4 (a5,a6,a7))).1,(ab a2 8 (ab a0 4 (a5,a6,a7))).2.1,()),((ab a2 8 (ab a0 4 (a5,a6,a7))).2.2,130048,()),())) else none else none else none else none
theorem LT (a0 a1 a2 a3 a4 a5:Int)(a6:Bool)(a7:List Int)(a8:Int):Io.run tt Ox dr Fe j8 Tryz.f115 (((a0,a1,a2,a3,()),(),()),((),()),((),a4,a5,a6,()),(a7,a8,()),())=we a0 a1 a2 a3 a4 a5 a6 a7 a8:=by kernel_rfl
theorem PD:HcOk prog 115 (af j8 BE):=by
 refine ao (n:=400) hm (cs:=Ep) (.cons bN (.cons qr (.cons dR .nil))) (lp:=Fe) (fn:=Tryz.f115) (by kernel_rfl) (by kernel_rfl) (by kernel_rfl) j8 (.done (by kernel_rfl)) BE ?_
 rintro ⟨⟨⟨(ix:Int),(ep:Int),(ti:Int),(mo:Int),⟨⟩⟩,⟨⟩,⟨⟩⟩,⟨⟨⟩,⟨⟩⟩,⟨⟨⟩,(v:Int),(e:Int),(f:Bool),⟨⟩⟩,⟨(b:List Int),(m:Int),⟨⟩⟩,⟨⟩⟩ out hw ho
 obtain ⟨hg,ho⟩:=Tr.guard ho
 obtain ⟨rfl,hb⟩:=bo (v:=v) (e:=e) (f:=f) hg
 cases ho
 refine (LT ix ep ti mo v e f b 130048).trans ?_
 unfold we
 have hg:∀s:aV,s.2.2.length≤130048→(decide ((130048:Int)=130048)&&decide (s.2.2.length≤130048))=true:=fun s h=>by simpa using h
 have hb:(e,(f,b)).2.2.length≤130048:=hb
 show _=some (Out.ret ((),dw v (ls v (ix,(ep,(ti,(mo,())))) (e,f,b))))
 refine (aa (hg _ hb) _ _).trans ?_
 have l0_1:=av ix 4 hb
 refine (aa (hg _ l0_1) _ _).trans ?_
 by_cases h1_1:3≤v∧v≤3
 ·refine (aa (by simpa using h1_1) _ _).trans ?_
  refine (aa (hg _ l0_1) _ _).trans ?_
  have l1_1:=av ep 4 l0_1
  refine (aa (hg _ l1_1) _ _).trans ?_
  have l2_2:=av ti 8 l1_1
  refine (aa (hg _ l2_2) _ _).trans ?_
  by_cases h3_2:0≤v∧v≤0
  ·refine (aa (by simpa using h3_2) _ _).trans ?_
   refine (aa (hg _ l2_2) _ _).trans ?_
   have l3_2:=av mo 4 l2_2
   simp only[ls,bp h1_1,bp h3_2]
  ·refine (ae (Bool.eq_false_iff.2 fun h'=>h3_2 (by simpa using h')) _ _).trans ?_
   simp only[ls,bp h1_1,aX h3_2]
 ·refine (ae (Bool.eq_false_iff.2 fun h'=>h1_1 (by simpa using h')) _ _).trans ?_
  refine (aa (hg _ l0_1) _ _).trans ?_
  have l2_2:=av ti 8 l0_1
  refine (aa (hg _ l2_2) _ _).trans ?_
  by_cases h3_2:0≤v∧v≤0
  ·refine (aa (by simpa using h3_2) _ _).trans ?_
   refine (aa (hg _ l2_2) _ _).trans ?_
   have l3_2:=av mo 4 l2_2
   simp only[ls,aX h1_1,bp h3_2]
  ·refine (ae (Bool.eq_false_iff.2 fun h'=>h3_2 (by simpa using h')) _ _).trans ?_
   simp only[ls,aX h1_1,aX h3_2]
def pz (v:Int)(xs:List aU.den)(s:aV):aV:=bk (ls v) xs s
abbrev oW:Io:=⟨[.ptr 0 0,.dat (.sl 198 aU) false false,.fnc 115 false [2]],jh,[],[],none⟩
def Do (d:oW.In):Tr oW.Res:=.ite (gt d.2) (.ret (.ret ((),d0 d.2.1.2.1 (pz d.2.1.2.1 d.1.2.1 (gu d.2))))) .no
abbrev KK:List (Nat×Hc):=[(194,af b9 d4),(98,af cc dV),(115,af j8 BE)]
theorem Lq:HcOk prog 114 (af oW Do):=
 kO (one:=ls) (sps:=pz) (fun _ _ _=>rfl) (fun v _ _ h3=>Be v _ h3) (cs:=KK) (.cons c7 (.cons bN (.cons PD .nil))) (fn:=Tryz.f114) (by kernel_rfl) (by kernel_rfl) (by kernel_rfl) (by kernel_rfl) (by kernel_rfl) (by kernel_rfl) (by intros;kernel_rfl) (by intros;kernel_rfl)
def ym (v:Int)(t:aj.den)(s:aV):aV:=pz v t.2.1 (bn t.1 s)
abbrev ig:Io:=⟨[.dat aj true false,.ptr 0 0],lI,[],[],none⟩
def vI (d:ig.In):Tr ig.Res:=.ite (dW d.2.2) (.ret (.ret ((),dw d.2.2.1.2.1 (ym d.2.2.1.2.1 d.1.1 (dX d.2.2))))) .no
abbrev z0:List (Nat×Hc):=[(101,af hY qP),(114,af oW Do)]
def KZ:Hd:=bR z0
def Aw:Lp:=bJ []
def tP (a0:List Int)(a1:List aU.den)(a2 a3:Int)(a4:Bool)(a5:List Int)(a6:Int):Option ig.Res:=bif decide (a6=130048)&&decide (a5.length≤130048) then bif decide (130048=130048)&&decide ((bn a0 (a3,a4,a5)).2.2.length≤130048) then some (Out.ret ((),((),()),((),a2,(pz a2 a1 (bn a0 (a3,a4,a5))).1,(pz a2 a1 (bn a0 (a3,a4,a5))).2.1,()),((pz a2 a1 (bn a0 (a3,a4,a5))).2.2,130048,()),())) else none else none
theorem HV (a0:List Int)(a1:List aU.den)(a2 a3:Int)(a4:Bool)(a5:List Int)(a6:Int):Io.run tt KZ dr Aw ig Tryz.f113 (((a0,a1,()),(),()),((),()),((),a2,a3,a4,()),(a5,a6,()),())=tP a0 a1 a2 a3 a4 a5 a6:=by kernel_rfl
theorem Lr:HcOk prog 113 (af ig vI):=by
 refine ao (n:=400) hm (cs:=z0) (.cons qs (.cons Lq .nil)) (lp:=Aw) (fn:=Tryz.f113) (by kernel_rfl) (by kernel_rfl) (by kernel_rfl) ig (.done (by kernel_rfl)) vI ?_
 rintro ⟨⟨⟨(t:List Int),(ps:List aU.den),⟨⟩⟩,⟨⟩,⟨⟩⟩,⟨⟨⟩,⟨⟩⟩,⟨⟨⟩,(v:Int),(e:Int),(f:Bool),⟨⟩⟩,⟨(b:List Int),(m:Int),⟨⟩⟩,⟨⟩⟩ out hw ho
 obtain ⟨hg,ho⟩:=Tr.guard ho
 obtain ⟨rfl,hb⟩:=bo (v:=v) (e:=e) (f:=f) hg
 cases ho
 refine (HV t ps v e f b 130048).trans ?_
 unfold tP
 refine (aa (by simpa using hb) _ _).trans ?_
 refine (aa (by simpa using dd (s:=(e,f,b)) t hb) _ _).trans ?_
 rfl
theorem tv {s:aV}(v:Int)(t:aj.den)(h:s.2.2.length≤130048):(ym v t s).2.2.length≤130048:=bF (fun x s=>Be v x) _ (dd _ h)
def jN (v:Int)(xs:List aj.den)(s:aV):aV:=bk (ym v) xs s
abbrev mM:Io:=⟨[.ptr 0 0,.dat (.sl 196 aj) false false,.fnc 113 false [2]],jh,[],[],none⟩
def y8 (d:mM.In):Tr mM.Res:=.ite (gt d.2) (.ret (.ret ((),d0 d.2.1.2.1 (jN d.2.1.2.1 d.1.2.1 (gu d.2))))) .no
abbrev Hb:List (Nat×Hc):=[(194,af b9 d4),(98,af cc dV),(113,af ig vI)]
theorem qv:HcOk prog 112 (af mM y8):=
 kO (one:=ym) (sps:=jN) (fun _ _ _=>rfl) (fun v _ _ h3=>tv v _ h3) (cs:=Hb) (.cons c7 (.cons bN (.cons Lr .nil))) (fn:=Tryz.f112) (by kernel_rfl) (by kernel_rfl) (by kernel_rfl) (by kernel_rfl) (by kernel_rfl) (by kernel_rfl) (by intros;kernel_rfl) (by intros;kernel_rfl)
def qH (v:Int)(p:aU.den)(s:aV):aV:=ap v (p.2.2.2.1 == 0) 0 0 (ap v (p.2.1 == 0) 3 3 (s))
def fF (v:Int)(ps:List aU.den)(s:aV):aV:=ps.foldl (fun s p=>qH v p s) s
def tu (v:Int)(ts:List aj.den)(s:aV):aV:=ts.foldl (fun s t=>fF v t.2.1 s) s
def sb (v:Int)(m:cg.den):aV:=jN v m.2.2.1 (bV v 2 3 m.2.1 1 (ab m.1 4 (tu v m.2.2.1 (ap v (m.2.1 == 0) 2 3 (aH v,(false,([]:List Int)))))))
abbrev mL:Io:=⟨[dI,.dat cg true false],[],[],[dO,dI],none⟩
def MW (d:mL.In):Tr mL.Res:=.ret (.ret ((bj (sb d.1.1 d.1.2.1),(aM (sb d.1.1 d.1.2.1),())),()))
abbrev uZ:List (Nat×Hc):=[(93,af jb tH),(94,af d5 jk),(95,af e7 ly),(98,af cc dV),(106,af t4 Rn),(112,af mM y8),(105,af fW nF)]
def Cb:Hd:=bR uZ
abbrev fp:Lo:=⟨⟨(.any::bt (.one (.ptr 3 0)::bt (.one (.ptr 6 0)::dq (bQ (.one (.hol (.sl 196 aj))::.one (.hol (.int IntKind.i64))::.one (.hol (.int IntKind.i64))::bQ (.one (.hol (.sl 198 aU))::.one (.hol (.int IntKind.i64))::.one (.hol (.int IntKind.i64))::ag (ag (bt [])))))))),[none,none,none,some [.hol (.int IntKind.i32),.hol (.int IntKind.i8),.hol (.sl 196 aj)],none,none,some [.ptr 12 0],none,none,none,none,none,some [.ptr 13 0,.hol (.int IntKind.i64),.hol (.int IntKind.i64),.hol .bool],some [.onl 5 (Ty.int IntKind.u8) 6658,.hol (.int IntKind.i64)]]⟩,[(.exit 2,⟨(.any::bt (.one (.ptr 3 0)::bt (.one (.ptr 6 0)::dq (bQ (.one (.hol (.sl 196 aj))::.one (.hol (.int IntKind.i64))::.one (.hol (.int IntKind.i64))::.any::ag (ag (dq []))))))),[none,none,none,some [.hol (.int IntKind.i32),.hol (.int IntKind.i8),.hol (.sl 196 aj)],none,none,some [.ptr 12 0],none,none,none,none,none,some [.ptr 13 0,.hol (.int IntKind.i64),.hol (.int IntKind.i64),.hol .bool],some [.onl 5 (Ty.int IntKind.u8) 6658,.hol (.int IntKind.i64)]]⟩)]⟩
abbrev fk:Lo:=⟨⟨(.any::bt (.one (.ptr 3 0)::bt (.one (.ptr 6 0)::dq (bQ (.one (.hol (.sl 196 aj))::.one (.hol (.int IntKind.i64))::.one (.hol (.int IntKind.i64))::.any::ag (ag (dq []))))))),[none,none,none,some [.hol (.int IntKind.i32),.hol (.int IntKind.i8),.hol (.sl 196 aj)],none,none,some [.ptr 12 0],none,none,none,none,none,some [.ptr 13 0,.hol (.int IntKind.i64),.hol (.int IntKind.i64),.hol .bool],some [.onl 5 (Ty.int IntKind.u8) 6658,.hol (.int IntKind.i64)]]⟩,[(.exit 0,⟨(.any::bt (.one (.ptr 3 0)::bt (.one (.ptr 6 0)::ag (ag (ag (dq [])))))),[none,none,none,some [.hol (.int IntKind.i32),.hol (.int IntKind.i8),.hol (.sl 196 aj)],none,none,some [.ptr 12 0],none,none,none,none,none,some [.ptr 13 0,.hol (.int IntKind.i64),.hol (.int IntKind.i64),.hol .bool],some [.onl 5 (Ty.int IntKind.u8) 6658,.hol (.int IntKind.i64)]]⟩)]⟩
abbrev s7 (re' lv':Int)(ts':List aj.den)(v:Int)(s:aV):(Int×(Int×(List aj.den×Unit)))×(Unit×((Int×(Int×(Bool×Unit)))×((List Int×(Int×Unit))×Unit))):=((re',(lv',(ts',()))),((),((v,(s.1,(s.2.1,()))),((s.2.2,(130048,())),()))))
def nL (d:fp.st.den):Tr (aJ fp.xs):=
 .ite (decide (d.1.2.2.2.2.2.1=0)&&(decide (d.1.2.2.2.2.1=(d.1.2.2.2.1.length:Int))&&(decide (d.2.2.2.2.1.2.1=130048)&&decide (d.2.2.2.2.1.1.length≤130048)))) (.ret (.ret ((),((d.1.1,(d.1.2.1,(d.1.2.2.1,()))),s7 d.2.1.1 d.2.1.2.1 d.2.1.2.2.1 d.2.2.2.1.1 (fF d.2.2.2.1.1 d.1.2.2.2.1 (d.2.2.2.1.2.1,(d.2.2.2.1.2.2.1,d.2.2.2.2.1.1))))))) .no
def nK (d:fk.st.den):Tr (aJ fk.xs):=
 .ite (decide (d.1.2.2.1=0)&&(decide (d.1.2.1=(d.1.1.length:Int))&&(decide (d.2.2.2.2.1.2.1=130048)&&decide (d.2.2.2.2.1.1.length≤130048)))) (.ret (.ret ((),((),s7 d.2.1.1 d.2.1.2.1 d.2.1.2.2.1 d.2.2.2.1.1 (tu d.2.2.2.1.1 d.1.1 (d.2.2.2.1.2.1,(d.2.2.2.1.2.2.1,d.2.2.2.2.1.1))))))) .no
def o8:Lp:=bJ [(5,bv fk nK),(8,bv fp nL)]
def uD {R:Type}(h15:List aj.den)(h16 h17:Int)(h18:List aU.den)(h19 h20 h21 h22:Int)(h23:List aj.den)(h24 h25:Int)(h26:Bool)(h27:List Int)(h28:Int)(next:List aj.den→Int→Int→List aU.den→Int→Int→Int→Int→List aj.den→Int→Int→Bool→List Int→Int→Option R)(out:aJ fp.xs→Option R):Option R:=bif decide (h20<h19) then bif decide (0≤h20)&&decide (h20<(↑h18.length:Int)) then bif decide (h28=130048)&&decide (h27.length≤130048) then bif decide (130048=130048)&&decide ((ap h24 ((h18.getD h20.toNat (0,0,0,0,())).2.1 == 0) 3 3 (h25,h26,h27)).2.2.length≤130048) then next (h15) (h16) (h17) (h18) (h19) (IntKind.i64.wrap (h20+1)) (h21) (h22) (h23) (h24) ((ap h24 ((h18.getD h20.toNat (0,0,0,0,())).2.2.2.1 == 0) 0 0 (ap h24 ((h18.getD h20.toNat (0,0,0,0,())).2.1 == 0) 3 3 (h25,h26,h27))).1) ((ap h24 ((h18.getD h20.toNat (0,0,0,0,())).2.2.2.1 == 0) 0 0 (ap h24 ((h18.getD h20.toNat (0,0,0,0,())).2.1 == 0) 3 3 (h25,h26,h27))).2.1) ((ap h24 ((h18.getD h20.toNat (0,0,0,0,())).2.2.2.1 == 0) 0 0 (ap h24 ((h18.getD h20.toNat (0,0,0,0,())).2.1 == 0) 3 3 (h25,h26,h27))).2.2) (130048) else none else none else none else out (.ret ((),((h15,(h16,(h17,()))),((h21,(h22,(h23,()))),((),((h24,(h25,(h26,()))),((h27,(h28,())),())))))))
def sQ (n:Nat)(h15:List aj.den)(h16 h17:Int)(h18:List aU.den)(h19 h20 h21 h22:Int)(h23:List aj.den)(h24 h25:Int)(h26:Bool)(h27:List Int)(h28:Int):Option (aJ fp.xs):=lD tt Cb dr o8 0 Tryz.f45 (Gw Tryz.f45 (gQ Tryz.f45 0) 0) n (fp.st.mk' ((h15,(h16,(h17,(h18,(h19,(h20,())))))),((h21,(h22,(h23,()))),((),((h24,(h25,(h26,()))),((h27,(h28,())),())))))) (dc fp.xs)
theorem Mb (n:Nat)(h15:List aj.den)(h16 h17:Int)(h18:List aU.den)(h19 h20 h21 h22:Int)(h23:List aj.den)(h24 h25:Int)(h26:Bool)(h27:List Int)(h28:Int):sQ (n+1) h15 h16 h17 h18 h19 h20 h21 h22 h23 h24 h25 h26 h27 h28=uD h15 h16 h17 h18 h19 h20 h21 h22 h23 h24 h25 h26 h27 h28 (sQ n) some:=by kernel_rfl
def uC {R:Type}(h4:List aj.den)(h5 h6 h7 h8:Int)(h9:List aj.den)(h10 h11:Int)(h12:Bool)(h13:List Int)(h14:Int)(next:List aj.den→Int→Int→Int→Int→List aj.den→Int→Int→Bool→List Int→Int→Option R)(out:aJ fk.xs→Option R):Option R:=bif decide (h6<h5) then bif decide (0≤h6)&&decide (h6<(↑h4.length:Int)) then (nL ((h4,(h5,(h6,((h4.getD h6.toNat ([],[],())).2.1,((↑(List.length (h4.getD h6.toNat ([],[],())).2.1):Int),(0,())))))),((h7,(h8,(h9,()))),((),((h10,(h11,(h12,()))),((h13,(h14,())),())))))).run fun y=>match y with | .ret ((),((x54,x55,x56,()),(x57,x58,x59,()),(),(x60,x61,x62,()),(x63,x64,()),()))=>(next (x54) (x55) (IntKind.i64.wrap (x56+1)) (x57) (x58) (x59) (x60) (x61) (x62) (x63) (x64)) else none else out (.ret ((),((),((h7,(h8,(h9,()))),((),((h10,(h11,(h12,()))),((h13,(h14,())),())))))))
def o4 (n:Nat)(h4:List aj.den)(h5 h6 h7 h8:Int)(h9:List aj.den)(h10 h11:Int)(h12:Bool)(h13:List Int)(h14:Int):Option (aJ fk.xs):=lD tt Cb dr o8 0 Tryz.f45 (gQ Tryz.f45 0) n (fk.st.mk' ((h4,(h5,(h6,()))),((h7,(h8,(h9,()))),((),((h10,(h11,(h12,()))),((h13,(h14,())),())))))) (dc fk.xs)
theorem Ma (n:Nat)(h4:List aj.den)(h5 h6 h7 h8:Int)(h9:List aj.den)(h10 h11:Int)(h12:Bool)(h13:List Int)(h14:Int):o4 (n+1) h4 h5 h6 h7 h8 h9 h10 h11 h12 h13 h14=uC h4 h5 h6 h7 h8 h9 h10 h11 h12 h13 h14 (o4 n) some:=by kernel_rfl
theorem Bb {s:aV}(v:Int)(p:aU.den)(h:s.2.2.length≤130048):(qH v p s).2.2.length≤130048:=ba _ _ _ _ (ba _ _ _ _ h)
theorem yj {s:aV}(v:Int)(ps:List aU.den)(h:s.2.2.length≤130048):(fF v ps s).2.2.length≤130048:=eH (fun x s=>Bb v x) ps s h
theorem My {s:aV}(v:Int)(ts:List aj.den)(h:s.2.2.length≤130048):(tu v ts s).2.2.length≤130048:=eH (one:=fun (t:aj.den) (s:aV)=>fF v t.2.1 s) (fun x s h=>yj v x.2.1 h) ts s h
theorem ER (us:List aj.den)(n i re' lv':Int)(ts':List aj.den)(v:Int){ps:List aU.den}(hl:ps.length≤maxLen):∀(k j:Nat) (s:aV),ps.length<j+k→j≤ps.length→s.2.2.length≤130048→
  sQ k us n i ps (ps.length:Int) j re' lv' ts' v s.1 s.2.1 s.2.2 130048=some (.ret ((),((us,(n,(i,()))),s7 re' lv' ts' v ((ps.drop j).foldl (fun s p=>qH v p s) s)))):=by
 intro k
 have hg:∀s:aV,s.2.2.length≤130048→(decide ((130048:Int)=130048)&&decide (s.2.2.length≤130048))=true:=fun s h=>by simpa using h
 induction k with
 |zero=>intro j s h;omega
 |succ k ih=>
  intro j s h1 h2 q0
  rw[Mb]
  unfold uD
  by_cases hi:j<ps.length
  ·refine (aa (decide_eq_true (show (j:Int)<(ps.length:Int) by omega)) _ _).trans ?_
   refine (aa (by simpa using hi) _ _).trans ?_
   simp only[Int.toNat_natCast,bh hi,bM hi hl]
   refine (aa (hg _ q0) _ _).trans ?_
   have q1:=ba (s:=s) v (ps[j].2.1 == 0) 3 3 q0
   refine (aa (hg _ q1) _ _).trans ?_
   have q2:=ba (s:=ap v (ps[j].2.1 == 0) 3 3 s) v (ps[j].2.2.2.1 == 0) 0 0 q1
   rw[List.drop_eq_getElem_cons hi]
   exact ih (j+1) (qH v ps[j] s) (by omega) (by omega) (Bb _ _ q0)
  ·refine (ae (by simp;omega) _ _).trans ?_
   rw[List.drop_of_length_le (by omega)]
   rfl
theorem EQ {us:List aj.den}(re' lv':Int)(ts':List aj.den)(v:Int)(hl:us.length≤maxLen):∀(k j:Nat) (s:aV),us.length<j+k→j≤us.length→s.2.2.length≤130048→
  o4 k us (us.length:Int) j re' lv' ts' v s.1 s.2.1 s.2.2 130048=some (.ret ((),((),s7 re' lv' ts' v ((us.drop j).foldl (fun s t=>fF v t.2.1 s) s)))):=by
 intro k
 induction k with
 |zero=>intro j s h;omega
 |succ k ih=>
  intro j s h1 h2 h3
  rw[Ma]
  unfold uC
  by_cases hi:j<us.length
  ·refine (aa (decide_eq_true (show (j:Int)<(us.length:Int) by omega)) _ _).trans ?_
   refine (aa (by simpa using hi) _ _).trans ?_
   simp only[Int.toNat_natCast,bh hi]
   have c1:(decide ((0:Int)=0)&&(decide ((us[j].2.1.length:Int)=(us[j].2.1.length:Int))&&(decide ((130048:Int)=130048)&&decide (s.2.2.length≤130048))))=true:=by simpa using h3
   have e1:nL ((us,((us.length:Int),((j:Int),(us[j].2.1,((us[j].2.1.length:Int),(0,())))))),((re',(lv',(ts',()))),((),((v,(s.1,(s.2.1,()))),((s.2.2,(130048,())),())))))=
     .ite true (.ret (.ret ((),((us,((us.length:Int),((j:Int),()))),s7 re' lv' ts' v (fF v us[j].2.1 s))))) .no:=congrArg (fun c=>Tr.ite c _ _) c1
   rw[e1]
   show o4 k us (us.length:Int) (IntKind.i64.wrap ((j:Int)+1)) re' lv' ts' v (fF v us[j].2.1 s).1 (fF v us[j].2.1 s).2.1 (fF v us[j].2.1 s).2.2 130048=_
   rw[bM hi hl,List.drop_eq_getElem_cons hi]
   exact ih (j+1) (fF v us[j].2.1 s) (by omega) (by omega) (yj _ _ h3)
  ·refine (ae (by simp;omega) _ _).trans ?_
   rw[List.drop_of_length_le (by omega)]
   rfl
def zH (a0 a1 a2:Int)(a3:List aj.den):Option mL.Res:=(nK ((a3,((↑a3.length:Int),(0,()))),((a1,(a2,(a3,()))),((),((a0,((ap a0 (a2 == 0) 2 3 (aH a0,false,[])).1,((ap a0 (a2 == 0) 2 3 (aH a0,false,[])).2.1,()))),(((ap a0 (a2 == 0) 2 3 (aH a0,false,[])).2.2,(130048,())),())))))).run fun y=>match y with | .ret ((),((),(x84,x85,x86,()),(),(x87,x88,x89,()),(x90,x91,()),()))=>(bif decide (x91=130048)&&decide (x90.length≤130048) then bif decide (130048=130048)&&decide ((ab x84 4 (x88,x89,x90)).2.2.length≤130048) then bif decide (2≤x87)&&decide (x87≤3) then bif decide (130048=130048)&&decide ((ab x84 4 (x88,x89,x90)).2.2.length≤130048) then bif decide (130048=130048)&&decide ((ab x85 1 (ab x84 4 (x88,x89,x90))).2.2.length≤130048) then bif decide (130048=130048)&&decide ((jN x87 x86 (ab x85 1 (ab x84 4 (x88,x89,x90)))).2.2.length≤130048) then some (Out.ret ((bj (jN x87 x86 (ab x85 1 (ab x84 4 (x88,x89,x90)))),aM (jN x87 x86 (ab x85 1 (ab x84 4 (x88,x89,x90)))),()),())) else none else none else none else bif decide (130048=130048)&&decide ((ab x84 4 (x88,x89,x90)).2.2.length≤130048) then bif decide (130048=130048)&&decide ((jN x87 x86 (ab x84 4 (x88,x89,x90))).2.2.length≤130048) then some (Out.ret ((bj (jN x87 x86 (ab x84 4 (x88,x89,x90))),aM (jN x87 x86 (ab x84 4 (x88,x89,x90))),()),())) else none else none else none else none)
theorem Qd (a0 a1 a2:Int)(a3:List aj.den):Io.run tt Cb dr o8 mL Tryz.f45 ((a0,(a1,a2,a3,()),()),())=zH a0 a1 a2 a3:=by kernel_rfl
theorem Sz:HcOk prog 45 (af mL MW):=by
 refine ao (n:=400) hm (cs:=uZ) (.cons fL (.cons cH (.cons dR (.cons bN (.cons AH (.cons qv (.cons d2 .nil))))))) (lp:=o8) (fn:=Tryz.f45) (by kernel_rfl) (by kernel_rfl) (by kernel_rfl) mL (.step (h0:=bv fk nK) (by kernel_rfl) (aQ (n:=400) hm (cs:=uZ) (.cons fL (.cons cH (.cons dR (.cons bN (.cons AH (.cons qv (.cons d2 .nil))))))) (lp:=o8) (fn:=Tryz.f45) (.step (h0:=bv fp nL) (by kernel_rfl) (aQ (n:=400) hm (cs:=uZ) (.cons fL (.cons cH (.cons dR (.cons bN (.cons AH (.cons qv (.cons d2 .nil))))))) (lp:=o8) (fn:=Tryz.f45) (.done (by kernel_rfl)) fp nL ?_) (.done (by kernel_rfl))) fk nK ?_) (.done (by kernel_rfl))) MW ?_
 ·rintro ⟨⟨(us:List aj.den),(n:Int),(i:Int),(ps:List aU.den),(pn:Int),(pj:Int),⟨⟩⟩,⟨⟨(re':Int),(lv':Int),(ts':List aj.den),⟨⟩⟩,⟨⟩,⟨(v:Int),(e:Int),(f:Bool),⟨⟩⟩,⟨(b:List Int),(m:Int),⟨⟩⟩,⟨⟩⟩⟩ y hw hy
  obtain ⟨hg,hy⟩:=Tr.guard hy
  simp only[Bool.and_eq_true,decide_eq_true_eq] at hg
  obtain ⟨rfl,rfl,rfl,h4⟩:=hg
  have h4:b.length≤130048:=h4
  have hl:ps.length≤maxLen:=hw.1.2.2.2.1.1
  refine ⟨ps.length+1,(ER us n i re' lv' ts' v hl (ps.length+1) 0 (e,(f,b)) (by omega) (by omega) h4).trans ?_⟩
  rw[← hy];rfl
 ·rintro ⟨⟨(us:List aj.den),(n:Int),(i:Int),⟨⟩⟩,⟨⟨(re':Int),(lv':Int),(ts':List aj.den),⟨⟩⟩,⟨⟩,⟨(v:Int),(e:Int),(f:Bool),⟨⟩⟩,⟨(b:List Int),(m:Int),⟨⟩⟩,⟨⟩⟩⟩ y hw hy
  obtain ⟨hg,hy⟩:=Tr.guard hy
  simp only[Bool.and_eq_true,decide_eq_true_eq] at hg
  obtain ⟨rfl,rfl,rfl,h4⟩:=hg
  have h4:b.length≤130048:=h4
  have hl:us.length≤maxLen:=hw.1.1.1
  refine ⟨us.length+1,(EQ re' lv' ts' v hl (us.length+1) 0 (e,(f,b)) (by omega) (by omega) h4).trans ?_⟩
  rw[← hy];rfl
 ·rintro ⟨⟨(v:Int),⟨(re:Int),(lv:Int),(ts:List aj.den),⟨⟩⟩,⟨⟩⟩,⟨⟩⟩ out hw ho
  cases ho
  refine (Qd v re lv ts).trans ?_
  unfold zH
  have hg:∀s:aV,s.2.2.length≤130048→(decide ((130048:Int)=130048)&&decide (s.2.2.length≤130048))=true:=fun s h=>by simpa using h
  have q0:(aH v,(false,([]:List Int))).2.2.length≤130048:=by simp
  have q1:=ba (s:=(aH v,(false,([]:List Int)))) v (lv == 0) 2 3 q0
  have c1:(decide ((0:Int)=0)&&(decide ((ts.length:Int)=(ts.length:Int))&&(decide ((130048:Int)=130048)&&decide ((ap v (lv == 0) 2 3 (aH v,(false,([]:List Int)))).2.2.length≤130048))))=true:=by simpa using q1
  have e1:nK ((ts,((ts.length:Int),(0,()))),((re,(lv,(ts,()))),((),((v,((ap v (lv == 0) 2 3 (aH v,(false,([]:List Int)))).1,((ap v (lv == 0) 2 3 (aH v,(false,([]:List Int)))).2.1,()))),(((ap v (lv == 0) 2 3 (aH v,(false,([]:List Int)))).2.2,(130048,())),())))))=
    .ite true (.ret (.ret ((),((),s7 re lv ts v (tu v ts (ap v (lv == 0) 2 3 (aH v,(false,([]:List Int))))))))) .no:=congrArg (fun c=>Tr.ite c _ _) c1
  rw[e1]
  have r0:=My v ts q1
  refine (aa (hg _ r0) _ _).trans ?_
  have l0_0:=av re 4 r0
  refine (aa (hg _ l0_0) _ _).trans ?_
  by_cases h1_0:2≤v∧v≤3
  ·refine (aa (by simpa using h1_0) _ _).trans ?_
   refine (aa (hg _ l0_0) _ _).trans ?_
   have l1_0:=av lv 1 l0_0
   refine (aa (hg _ l1_0) _ _).trans ?_
   have l2_1:=bF (fun x s=>tv v x) ts l1_0
   refine (aa (hg _ l2_1) _ _).trans ?_
   simp only[sb,bp h1_0]
  ·refine (ae (Bool.eq_false_iff.2 fun h'=>h1_0 (by simpa using h')) _ _).trans ?_
   refine (aa (hg _ l0_0) _ _).trans ?_
   have l2_1:=bF (fun x s=>tv v x) ts l0_0
   refine (aa (hg _ l2_1) _ _).trans ?_
   simp only[sb,aX h1_0]
@[irreducible] noncomputable def iA (v:Int)(b:List Int)(s:aC):aU.den×aC:=
 (((ac .i32 4 b s).1,((aq .i32 4 v 3 3 b (ac .i32 4 b s).2).1,((ac .i64 8 b (aq .i32 4 v 3 3 b (ac .i32 4 b s).2).2).1,((aq .i32 4 v 0 0 b (ac .i64 8 b (aq .i32 4 v 3 3 b (ac .i32 4 b s).2).2).2).1,())))),(aq .i32 4 v 0 0 b (ac .i64 8 b (aq .i32 4 v 3 3 b (ac .i32 4 b s).2).2).2).2)
theorem Bd {v:Int}{b:List Int}{s:aC}(h:an b s.2=true):an b (iA v b s).2.2=true:=by
 unfold iA
 exact ir (aL _ _ (ir (aL _ _ (h))))
abbrev hC:Io:=⟨[.ptr 0 0],rJ,[],[.dat aU true false],none⟩
def vz (d:hC.In):Tr hC.Res:=.ite (an d.2.2.2.1.1 d.2.2.2.1.2.1) (.ret (.ret (((iA d.2.2.1.2.1 d.2.2.2.1.1 (cx d.2.2)).1,()),dZ d.2.2.1.2.1 d.2.2.2.1.1 (iA d.2.2.1.2.1 d.2.2.2.1.1 (cx d.2.2)).2))) .no
abbrev zW:List (Nat×Hc):=[(143,af cC eT),(156,af k8 yW),(140,af gY qN)]
def KV:Hd:=bR zW
def Ar:Lp:=bJ []
def tL (a0 a1:Int)(a2:List Int)(a3:Int):Option hC.Res:=bif an a2 a3 then bif aS a0 3 3 (ac IntKind.i32 4 a2 (a1,a3)).2.1 then bif an a2 (ac IntKind.i32 4 a2 (a1,a3)).2.2 then bif an a2 (ac IntKind.i32 4 a2 (ac IntKind.i32 4 a2 (a1,a3)).2).2.2 then bif aS a0 0 0 (ac IntKind.i64 8 a2 (ac IntKind.i32 4 a2 (ac IntKind.i32 4 a2 (a1,a3)).2).2).2.1 then bif an a2 (ac IntKind.i64 8 a2 (ac IntKind.i32 4 a2 (ac IntKind.i32 4 a2 (a1,a3)).2).2).2.2 then some (Out.ret ((((ac IntKind.i32 4 a2 (a1,a3)).1,(ac IntKind.i32 4 a2 (ac IntKind.i32 4 a2 (a1,a3)).2).1,(ac IntKind.i64 8 a2 (ac IntKind.i32 4 a2 (ac IntKind.i32 4 a2 (a1,a3)).2).2).1,(ac IntKind.i32 4 a2 (ac IntKind.i64 8 a2 (ac IntKind.i32 4 a2 (ac IntKind.i32 4 a2 (a1,a3)).2).2).2).1,()),()),((),()),((),a0,(ac IntKind.i32 4 a2 (ac IntKind.i64 8 a2 (ac IntKind.i32 4 a2 (ac IntKind.i32 4 a2 (a1,a3)).2).2).2).2.1,()),(a2,(ac IntKind.i32 4 a2 (ac IntKind.i64 8 a2 (ac IntKind.i32 4 a2 (ac IntKind.i32 4 a2 (a1,a3)).2).2).2).2.2,()),())) else none else some (Out.ret ((((ac IntKind.i32 4 a2 (a1,a3)).1,(ac IntKind.i32 4 a2 (ac IntKind.i32 4 a2 (a1,a3)).2).1,(ac IntKind.i64 8 a2 (ac IntKind.i32 4 a2 (ac IntKind.i32 4 a2 (a1,a3)).2).2).1,0,()),()),((),()),((),a0,(ac IntKind.i64 8 a2 (ac IntKind.i32 4 a2 (ac IntKind.i32 4 a2 (a1,a3)).2).2).2.1,()),(a2,(ac IntKind.i64 8 a2 (ac IntKind.i32 4 a2 (ac IntKind.i32 4 a2 (a1,a3)).2).2).2.2,()),())) else none else none else bif an a2 (ac IntKind.i32 4 a2 (a1,a3)).2.2 then bif aS a0 0 0 (ac IntKind.i64 8 a2 (ac IntKind.i32 4 a2 (a1,a3)).2).2.1 then bif an a2 (ac IntKind.i64 8 a2 (ac IntKind.i32 4 a2 (a1,a3)).2).2.2 then some (Out.ret ((((ac IntKind.i32 4 a2 (a1,a3)).1,0,(ac IntKind.i64 8 a2 (ac IntKind.i32 4 a2 (a1,a3)).2).1,(ac IntKind.i32 4 a2 (ac IntKind.i64 8 a2 (ac IntKind.i32 4 a2 (a1,a3)).2).2).1,()),()),((),()),((),a0,(ac IntKind.i32 4 a2 (ac IntKind.i64 8 a2 (ac IntKind.i32 4 a2 (a1,a3)).2).2).2.1,()),(a2,(ac IntKind.i32 4 a2 (ac IntKind.i64 8 a2 (ac IntKind.i32 4 a2 (a1,a3)).2).2).2.2,()),())) else none else some (Out.ret ((((ac IntKind.i32 4 a2 (a1,a3)).1,0,(ac IntKind.i64 8 a2 (ac IntKind.i32 4 a2 (a1,a3)).2).1,0,()),()),((),()),((),a0,(ac IntKind.i64 8 a2 (ac IntKind.i32 4 a2 (a1,a3)).2).2.1,()),(a2,(ac IntKind.i64 8 a2 (ac IntKind.i32 4 a2 (a1,a3)).2).2.2,()),())) else none else none
theorem HR (a0 a1:Int)(a2:List Int)(a3:Int):Io.run tt KV dr Ar hC Tryz.f160 (((),()),((),()),((),a0,a1,()),(a2,a3,()),())=tL a0 a1 a2 a3:=by kernel_rfl
theorem Lg:HcOk prog 160 (af hC vz):=by
 refine ao (n:=400) hm (cs:=zW) (.cons dg (.cons xm (.cons qq .nil))) (lp:=Ar) (fn:=Tryz.f160) (by kernel_rfl) (by kernel_rfl) (by kernel_rfl) hC (.done (by kernel_rfl)) vz ?_
 rintro ⟨⟨⟨⟩,⟨⟩⟩,⟨⟨⟩,⟨⟩⟩,⟨⟨⟩,(v:Int),(e:Int),⟨⟩⟩,⟨(b:List Int),(p:Int),⟨⟩⟩,⟨⟩⟩ out hw ho
 obtain ⟨hg,ho⟩:=Tr.guard ho
 have hg:an b p=true:=hg
 cases ho
 refine (HR v e b p).trans ?_
 unfold tL
 show _=some (Out.ret (((iA v b (e,p)).1,()),dZ v b (iA v b (e,p)).2))
 unfold iA
 have hg:an b ((e,p):aC).2=true:=hg
 refine (aa hg _ _).trans ?_
 have g0:an b (ac .i32 4 b ((e,p):aC)).2.2=true:=aL .i32 4 (s:=((e,p):aC)) hg
 show (bif aS v 3 3 (ac .i32 4 b ((e,p):aC)).2.1 then _ else _)=_
 cases h1:aS v 3 3 (ac .i32 4 b ((e,p):aC)).2.1
 ·have e1:aq .i32 4 v 3 3 b (ac .i32 4 b ((e,p):aC)).2=(0,(ac .i32 4 b ((e,p):aC)).2):=by unfold aq;rw[if_neg (by rw[h1];decide)]
  rw[e1]
  refine (aa g0 _ _).trans ?_
  have gf2:an b (ac .i64 8 b (ac .i32 4 b ((e,p):aC)).2).2.2=true:=aL .i64 8 (s:=(ac .i32 4 b ((e,p):aC)).2) g0
  show (bif aS v 0 0 (ac .i64 8 b (ac .i32 4 b ((e,p):aC)).2).2.1 then _ else _)=_
  cases hf3:aS v 0 0 (ac .i64 8 b (ac .i32 4 b ((e,p):aC)).2).2.1
  ·have ef3:aq .i32 4 v 0 0 b (ac .i64 8 b (ac .i32 4 b ((e,p):aC)).2).2=(0,(ac .i64 8 b (ac .i32 4 b ((e,p):aC)).2).2):=by unfold aq;rw[if_neg (by rw[hf3];decide)]
   rw[ef3]
   rfl
  ·have ef3:aq .i32 4 v 0 0 b (ac .i64 8 b (ac .i32 4 b ((e,p):aC)).2).2=ac .i32 4 b (ac .i64 8 b (ac .i32 4 b ((e,p):aC)).2).2:=by unfold aq;rw[if_pos hf3]
   rw[ef3]
   refine (aa gf2 _ _).trans ?_
   have gf3:an b (ac .i32 4 b (ac .i64 8 b (ac .i32 4 b ((e,p):aC)).2).2).2.2=true:=aL .i32 4 (s:=(ac .i64 8 b (ac .i32 4 b ((e,p):aC)).2).2) gf2
   rfl
 ·have e1:aq .i32 4 v 3 3 b (ac .i32 4 b ((e,p):aC)).2=ac .i32 4 b (ac .i32 4 b ((e,p):aC)).2:=by unfold aq;rw[if_pos h1]
  rw[e1]
  refine (aa g0 _ _).trans ?_
  have g1:an b (ac .i32 4 b (ac .i32 4 b ((e,p):aC)).2).2.2=true:=aL .i32 4 (s:=(ac .i32 4 b ((e,p):aC)).2) g0
  refine (aa g1 _ _).trans ?_
  have gt2:an b (ac .i64 8 b (ac .i32 4 b (ac .i32 4 b ((e,p):aC)).2).2).2.2=true:=aL .i64 8 (s:=(ac .i32 4 b (ac .i32 4 b ((e,p):aC)).2).2) g1
  show (bif aS v 0 0 (ac .i64 8 b (ac .i32 4 b (ac .i32 4 b ((e,p):aC)).2).2).2.1 then _ else _)=_
  cases ht3:aS v 0 0 (ac .i64 8 b (ac .i32 4 b (ac .i32 4 b ((e,p):aC)).2).2).2.1
  ·have et3:aq .i32 4 v 0 0 b (ac .i64 8 b (ac .i32 4 b (ac .i32 4 b ((e,p):aC)).2).2).2=(0,(ac .i64 8 b (ac .i32 4 b (ac .i32 4 b ((e,p):aC)).2).2).2):=by unfold aq;rw[if_neg (by rw[ht3];decide)]
   rw[et3]
   rfl
  ·have et3:aq .i32 4 v 0 0 b (ac .i64 8 b (ac .i32 4 b (ac .i32 4 b ((e,p):aC)).2).2).2=ac .i32 4 b (ac .i64 8 b (ac .i32 4 b (ac .i32 4 b ((e,p):aC)).2).2).2:=by unfold aq;rw[if_pos ht3]
   rw[et3]
   refine (aa gt2 _ _).trans ?_
   have gt3:an b (ac .i32 4 b (ac .i64 8 b (ac .i32 4 b (ac .i32 4 b ((e,p):aC)).2).2).2).2.2=true:=aL .i32 4 (s:=(ac .i64 8 b (ac .i32 4 b (ac .i32 4 b ((e,p):aC)).2).2).2) gt2
   rfl
@[irreducible] noncomputable def fG (v:Int)(b:List Int)(s:aC):List aU.den×aC:=eB (iA v b) b s
theorem Ix {v:Int}{b:List Int}{s:aC}(h:an b s.2=true):an b (fG v b s).2.2=true:=by
 unfold fG
 exact gq (fun s h=>Bd h) h
abbrev mE:Io:=⟨[.ptr 0 0,.fnc 160 false [2]],n6,[],[.dat (.sl 198 aU) false false],none⟩
def y4 (d:mE.In):Tr mE.Res:=.ite (an d.2.2.1.1 d.2.2.1.2.1) (.ret (.ret (((fG d.2.1.2.1 d.2.2.1.1 (eQ d.2)).1,()),iF d.2.1.2.1 d.2.2.1.1 (fG d.2.1.2.1 d.2.2.1.1 (eQ d.2)).2))) .no
abbrev G7:List (Nat×Hc):=[(143,af cC eT),(160,af hC vz)]
theorem HB:HcOk prog 159 (af mE y4):=
 n4 (one:=iA) (sps:=fG) (fun _ _ _=>by unfold fG;rfl) (fun _ _ _ h4=>Bd h4) (cs:=G7) (.cons dg (.cons Lg .nil)) (fn:=Tryz.f159) (by kernel_rfl) (by kernel_rfl) (by kernel_rfl) (by kernel_rfl) (by kernel_rfl) (by kernel_rfl) (by intros;kernel_rfl) (by intros;kernel_rfl)
@[irreducible] noncomputable def iB (v:Int)(b:List Int)(s:aC):aj.den×aC:=(((bf b s).1,((fG v b (bf b s).2).1,())),(fG v b (bf b s).2).2)
theorem Bf {v:Int}{b:List Int}{s:aC}(h:an b s.2=true):an b (iB v b s).2.2=true:=by
 unfold iB
 exact Ix (fz h)
abbrev f6:Io:=⟨[.ptr 0 0],rJ,[],[.dat aj true false],none⟩
def sk (d:f6.In):Tr f6.Res:=.ite (an d.2.2.2.1.1 d.2.2.2.1.2.1) (.ret (.ret (((iB d.2.2.1.2.1 d.2.2.2.1.1 (cx d.2.2)).1,()),dZ d.2.2.1.2.1 d.2.2.2.1.1 (iB d.2.2.1.2.1 d.2.2.2.1.1 (cx d.2.2)).2))) .no
abbrev ws:List (Nat×Hc):=[(146,af la yY),(159,af mE y4)]
def Hk:Hd:=bR ws
def xg:Lp:=bJ []
def q4 (a0 a1:Int)(a2:List Int)(a3:Int):Option f6.Res:=bif an a2 a3 then bif an a2 (bf a2 (a1,a3)).2.2 then some (Out.ret ((((bf a2 (a1,a3)).1,(fG a0 a2 (bf a2 (a1,a3)).2).1,()),()),((),()),((),a0,(fG a0 a2 (bf a2 (a1,a3)).2).2.1,()),(a2,(fG a0 a2 (bf a2 (a1,a3)).2).2.2,()),())) else none else none
theorem FO (a0 a1:Int)(a2:List Int)(a3:Int):Io.run tt Hk dr xg f6 Tryz.f158 (((),()),((),()),((),a0,a1,()),(a2,a3,()),())=q4 a0 a1 a2 a3:=by kernel_rfl
theorem HC:HcOk prog 158 (af f6 sk):=by
 refine ao (n:=400) hm (cs:=ws) (.cons CD (.cons HB .nil)) (lp:=xg) (fn:=Tryz.f158) (by kernel_rfl) (by kernel_rfl) (by kernel_rfl) f6 (.done (by kernel_rfl)) sk ?_
 rintro ⟨⟨⟨⟩,⟨⟩⟩,⟨⟨⟩,⟨⟩⟩,⟨⟨⟩,(v:Int),(e:Int),⟨⟩⟩,⟨(b:List Int),(p:Int),⟨⟩⟩,⟨⟩⟩ out hw ho
 obtain ⟨hg,ho⟩:=Tr.guard ho
 have hg:an b p=true:=hg
 cases ho
 refine (FO v e b p).trans ?_
 unfold q4
 show _=some (Out.ret (((iB v b (e,p)).1,()),dZ v b (iB v b (e,p)).2))
 unfold iB
 refine (aa hg _ _).trans ?_
 exact aa (fz (s:=(e,p)) hg) _ _
@[irreducible] noncomputable def ca (v:Int)(b:List Int)(s:aC):List aj.den×aC:=eB (iB v b) b s
theorem yn {v:Int}{b:List Int}{s:aC}(h:an b s.2=true):an b (ca v b s).2.2=true:=by
 unfold ca
 exact gq (fun s h=>Bf h) h
abbrev kJ:Io:=⟨[.ptr 0 0,.fnc 158 false [2]],n6,[],[.dat (.sl 196 aj) false false],none⟩
def vC (d:kJ.In):Tr kJ.Res:=.ite (an d.2.2.1.1 d.2.2.1.2.1) (.ret (.ret (((ca d.2.1.2.1 d.2.2.1.1 (eQ d.2)).1,()),iF d.2.1.2.1 d.2.2.1.1 (ca d.2.1.2.1 d.2.2.1.1 (eQ d.2)).2))) .no
abbrev Ei:List (Nat×Hc):=[(143,af cC eT),(158,af f6 sk)]
theorem Fy:HcOk prog 157 (af kJ vC):=
 n4 (one:=iB) (sps:=ca) (fun _ _ _=>by unfold ca;rfl) (fun _ _ _ h4=>Bf h4) (cs:=Ei) (.cons dg (.cons HC .nil)) (fn:=Tryz.f157) (by kernel_rfl) (by kernel_rfl) (by kernel_rfl) (by kernel_rfl) (by kernel_rfl) (by kernel_rfl) (by intros;kernel_rfl) (by intros;kernel_rfl)
abbrev jw:Io:=⟨[.ptr 0 0,.fnc 158 false [1]],xk,[],[.dat (.sl 196 aj) false false],none⟩
def tD (d:jw.In):Tr jw.Res:=.ite (decide (d.2.1.2.2.1≠0)) (.ret (.ret ((([]:List aj.den),()),d.2))) .no
abbrev BU:List (Nat×Hc):=[(143,eR de (af er jY) (af cC eT))]
theorem CG:HcOk prog 157 (af jw tD):=
 vf (cs:=BU) (.cons (aZ jF dg) .nil) (fn:=Tryz.f157) (by kernel_rfl) (by kernel_rfl) (by kernel_rfl) (by kernel_rfl) (by kernel_rfl) (by kernel_rfl) (by intros;kernel_rfl) (by intros;kernel_rfl)
def Uv:cg.den:=(0,(0,(([]:List aj.den),())))
def ln (v:Int)(b:List Int)(s:aC):cg.den×aC:=
 (((ac .i32 4 b s).1,((aq .i8 1 v 2 3 b (ac .i32 4 b s).2).1,((ca v b (aq .i8 1 v 2 3 b (ac .i32 4 b s).2).2).1,()))),(ca v b (aq .i8 1 v 2 3 b (ac .i32 4 b s).2).2).2)
def ei (v:Int)(b:List Int):cg.den×Int:=if 0≤v∧v≤3∧(b.length:Int)≤130048 then (if aK b (ln v b (0,0)).2=0 then ((ln v b (0,0)).1,0) else (Uv,aK b (ln v b (0,0)).2)) else (Uv,bB v)
abbrev iW:Io:=⟨[dI,dL],[],[],[.dat cg true false,dI],none⟩
def uT (d:iW.In):Tr iW.Res:=.ret (.ret (((ei d.1.1 d.1.2.1).1,((ei d.1.1 d.1.2.1).2,())),()))
abbrev Eh:List (Nat×Hc):=[(139,eR Cu (af iJ nE) (af k9 yX)),(140,eR de (af iI si) (af gY qN)),(143,eR de (af er jY) (af cC eT)),(151,eR de (af nW II) (af t3 Rm)),(157,eR de (af jw tD) (af kJ vC)),(150,eR de (af iH sh) (af k6 yU))]
def Oq:Hd:=bR Eh
def E7:Lp:=bJ []
def v8 (a0:Int)(a1:List Int):Option iW.Res:=bif !(decide (0≤a0)&&(decide (a0≤3)&&decide ((↑a1.length:Int)≤130048))) then bif decide (0≤a0)&&(decide (a0≤3)&&decide ((↑a1.length:Int)≤130048)) then none else bif decide (bB a0≠0) then bif decide (bB a0≠0) then bif decide (bB a0≠0) then bif decide (bB a0≠0) then bif bB a0 != 0 then some (Out.ret (((0,0,[],()),bB a0,()),())) else some (Out.ret (((0,0,[],()),0,()),())) else none else none else none else none else bif decide (0≤a0)&&(decide (a0≤3)&&decide ((↑a1.length:Int)≤130048)) then bif an a1 0 then bif aS a0 2 3 (am a1 0 4).2.2 then bif an a1 (am a1 0 4).2.1 then bif an a1 (ac IntKind.i8 1 a1 ((am a1 0 4).2.2,(am a1 0 4).2.1)).2.2 then bif aK a1 (ca a0 a1 (ac IntKind.i8 1 a1 ((am a1 0 4).2.2,(am a1 0 4).2.1)).2).2 != 0 then some (Out.ret (((0,0,[],()),aK a1 (ca a0 a1 (ac IntKind.i8 1 a1 ((am a1 0 4).2.2,(am a1 0 4).2.1)).2).2,()),())) else some (Out.ret (((IntKind.i32.wrap (am a1 0 4).1,(ac IntKind.i8 1 a1 ((am a1 0 4).2.2,(am a1 0 4).2.1)).1,(ca a0 a1 (ac IntKind.i8 1 a1 ((am a1 0 4).2.2,(am a1 0 4).2.1)).2).1,()),0,()),())) else none else none else bif an a1 (am a1 0 4).2.1 then bif aK a1 (ca a0 a1 ((am a1 0 4).2.2,(am a1 0 4).2.1)).2 != 0 then some (Out.ret (((0,0,[],()),aK a1 (ca a0 a1 ((am a1 0 4).2.2,(am a1 0 4).2.1)).2,()),())) else some (Out.ret (((IntKind.i32.wrap (am a1 0 4).1,0,(ca a0 a1 ((am a1 0 4).2.2,(am a1 0 4).2.1)).1,()),0,()),())) else none else none else none
theorem LM (a0:Int)(a1:List Int):Io.run tt Oq dr E7 iW Tryz.f67 ((a0,a1,()),())=v8 a0 a1:=by kernel_rfl
theorem Fx:HcOk prog 67 (af iW uT):=by
 refine ao (n:=400) hm (cs:=Eh) (.cons (aZ vm CC) (.cons (aZ vj qq) (.cons (aZ jF dg) (.cons (aZ Pv Un) (.cons (aZ CG Fy) (.cons (aZ vi Cz) .nil)))))) (lp:=E7) (fn:=Tryz.f67) (by kernel_rfl) (by kernel_rfl) (by kernel_rfl) iW (.done (by kernel_rfl)) uT ?_
 rintro ⟨⟨(v:Int),(b:List Int),⟨⟩⟩,⟨⟩⟩ out hw ho
 cases ho
 refine (LM v b).trans ?_
 unfold v8
 show _=some (Out.ret (((ei v b).1,((ei v b).2,())),()))
 by_cases h:0≤v∧v≤3∧(b.length:Int)≤130048
 ·have hc:(decide (0≤v)&&(decide (v≤3)&&decide ((b.length:Int)≤130048)))=true:=by simpa using h
  refine (ae (by rw[hc];rfl) _ _).trans ?_
  refine (aa hc _ _).trans ?_
  have hg:an b ((0,0):aC).2=true:=by simp[an];omega
  unfold ei ln
  rw[if_pos h]
  refine (aa hg _ _).trans ?_
  have g0:an b (ac .i32 4 b ((0,0):aC)).2.2=true:=aL .i32 4 (s:=((0,0):aC)) hg
  show (bif aS v 2 3 (ac .i32 4 b ((0,0):aC)).2.1 then _ else _)=_
  cases h1:aS v 2 3 (ac .i32 4 b ((0,0):aC)).2.1
  ·have e1:aq .i8 1 v 2 3 b (ac .i32 4 b ((0,0):aC)).2=(0,(ac .i32 4 b ((0,0):aC)).2):=by unfold aq;rw[if_neg (by rw[h1];decide)]
   rw[e1]
   refine (aa g0 _ _).trans ?_
   have gf2:an b (ca v b (ac .i32 4 b ((0,0):aC)).2).2.2=true:=yn (s:=(ac .i32 4 b ((0,0):aC)).2) g0
   show _=some (Out.ret (((if aK b (ca v b (ac .i32 4 b ((0,0):aC)).2).2=0 then _ else _:cg.den×Int).1,_),()))
   by_cases hE:aK b (ca v b (ac .i32 4 b ((0,0):aC)).2).2=0
   ·rw[if_pos hE]
    exact ae (show (aK b (ca v b (ac .i32 4 b ((0,0):aC)).2).2 != 0)=false by simpa using hE) _ _
   ·rw[if_neg hE]
    exact aa (show (aK b (ca v b (ac .i32 4 b ((0,0):aC)).2).2 != 0)=true by simpa using hE) _ _
  ·have e1:aq .i8 1 v 2 3 b (ac .i32 4 b ((0,0):aC)).2=ac .i8 1 b (ac .i32 4 b ((0,0):aC)).2:=by unfold aq;rw[if_pos h1]
   rw[e1]
   refine (aa g0 _ _).trans ?_
   have g1:an b (ac .i8 1 b (ac .i32 4 b ((0,0):aC)).2).2.2=true:=aL .i8 1 (s:=(ac .i32 4 b ((0,0):aC)).2) g0
   refine (aa g1 _ _).trans ?_
   have gt2:an b (ca v b (ac .i8 1 b (ac .i32 4 b ((0,0):aC)).2).2).2.2=true:=yn (s:=(ac .i8 1 b (ac .i32 4 b ((0,0):aC)).2).2) g1
   show _=some (Out.ret (((if aK b (ca v b (ac .i8 1 b (ac .i32 4 b ((0,0):aC)).2).2).2=0 then _ else _:cg.den×Int).1,_),()))
   by_cases hE:aK b (ca v b (ac .i8 1 b (ac .i32 4 b ((0,0):aC)).2).2).2=0
   ·rw[if_pos hE]
    exact ae (show (aK b (ca v b (ac .i8 1 b (ac .i32 4 b ((0,0):aC)).2).2).2 != 0)=false by simpa using hE) _ _
   ·rw[if_neg hE]
    exact aa (show (aK b (ca v b (ac .i8 1 b (ac .i32 4 b ((0,0):aC)).2).2).2 != 0)=true by simpa using hE) _ _
 ·have hc:(decide (0≤v)&&(decide (v≤3)&&decide ((b.length:Int)≤130048)))=false:=by
   rw[Bool.eq_false_iff]
   intro h'
   simp only[Bool.and_eq_true,decide_eq_true_eq] at h'
   exact h h'
  have hn:bB v≠0:=by unfold bB;split <;> decide
  unfold ei
  rw[if_neg h]
  refine (aa (by rw[hc];rfl) _ _).trans ?_
  refine (ae hc _ _).trans ?_
  repeat refine (aa (decide_eq_true hn) _ _).trans ?_
  exact aa (by simpa using hn) _ _
def lZ (p:aU.den):Nd:=cj [aF 3 p.1,aF 3 p.2.1,aF 4 p.2.2.1,aF 3 p.2.2.2.1]
theorem Q2 {p:aU.den}(h:aU.wf p):cj [aF 3 (IntKind.i64.wrap p.1),aF 3 (IntKind.i64.wrap p.2.1),aF 4 p.2.2.1,aF 3 (IntKind.i64.wrap p.2.2.2.1)]=lZ p:=by
 rw[fc (n:=p.1) h.1,fc (n:=p.2.1) h.2.1,fc (n:=p.2.2.2.1) h.2.2.2.1];rfl
def gj (t:aj.den):Nd:=cj [kh t.1,bw (t.2.1.map lZ)]
@[irreducible] def dM (m:cg.den):Nd:=cj [aF 3 m.1,aF 1 m.2.1,bw (m.2.2.1.map gj)]
def Gs (x:Nd):aU.den:=(IntKind.i32.wrap (cJ x 0).lab.2.1,(IntKind.i32.wrap (cJ x 1).lab.2.1,((cJ x 2).lab.2.1,(IntKind.i32.wrap (cJ x 3).lab.2.1,()))))
def yl (x:Nd):aj.den:=((cJ x 0).lab.2.2.2.1,((cJ x 1).kids.map Gs,()))
@[irreducible] def Q3 (n:Nd):cg.den:=(IntKind.i32.wrap (cJ n 0).lab.2.1,(IntKind.i8.wrap (cJ n 1).lab.2.1,((cJ n 2).kids.map yl,())))
theorem Iw {p:aU.den}(h:aU.wf p):Gs (lZ p)=p:=by
 obtain ⟨(ix:Int),(ep:Int),(ti:Int),(mo:Int),⟨⟩⟩:=p
 show (IntKind.i32.wrap ix,(IntKind.i32.wrap ep,(ti,(IntKind.i32.wrap mo,()))))=_
 rw[gV (n:=ix) h.1,gV (n:=ep) h.2.1,gV (n:=mo) h.2.2.2.1]
 try rfl
theorem Gt {t:aj.den}(h:aj.wf t):yl (gj t)=t:=by
 obtain ⟨n,l,⟨⟩⟩:=t
 show (n,((l.map lZ).map Gs,()))=_
 rw[List.map_map,jT (f:=Gs ∘ lZ) (l:=l) fun p hp=>Iw (h.2.1.2 p hp)]
theorem uw {m:cg.den}(h:cg.wf m):Q3 (dM m)=m:=by
 obtain ⟨(re:Int),(lv:Int),(ts:List aj.den),⟨⟩⟩:=m
 unfold Q3 dM
 show (IntKind.i32.wrap re,(IntKind.i8.wrap lv,((ts.map gj).map yl,())))=_
 rw[gV (n:=re) h.1,Ue (n:=lv) h.2.1,List.map_map,jT (f:=yl ∘ gj) (l:=ts) fun t ht=>Gt (h.2.2.1.2 t ht)]
abbrev im:Io:=⟨[.dat cg true false],[],[],[np],none⟩
def gO (l:List aj.den):Bool:=decide (l.length≤4294967296)&&l.all fun t=>decide (t.2.1.length≤4294967296)
def vT (d:im.In):Tr im.Res:=.ite (gO d.1.1.2.2.1) (.ret (.ret ((dM d.1.1,()),()))) .no
abbrev oO:List (Nat×Hc):=[(181,af mU Dt),(180,af mW Du),(183,af jB vQ),(184,af jA vP)]
def sI:Hd:=bR oO
abbrev dD:Lo:=⟨⟨(.any::.one (.ptr 1 0)::.one (.ptr 2 0)::.one (.onl 91 az 7)::.one (.hol (.int IntKind.i64))::.one (.onl 91 az 11)::.one (.hol (.int IntKind.i64))::ag (ag (ag (ag (dq (bQ (bt []))))))),[none,some [.hol (.int IntKind.i32),.hol (.int IntKind.i8),.hol (.sl 196 aj)],some [.hol (.int IntKind.i64),.hol (.int IntKind.i64),.hol .bool,.onl 5 (Ty.int IntKind.u8) 1032,.onl 91 az 1034]]⟩,[(.exit 2,⟨(.any::.one (.ptr 1 0)::.one (.ptr 2 0)::.one (.onl 91 az 7)::.one (.hol (.int IntKind.i64))::.one (.onl 91 az 11)::.any::ag (ag (ag (ag (dq (bQ (bt []))))))),[none,some [.hol (.int IntKind.i32),.hol (.int IntKind.i8),.hol (.sl 196 aj)],some [.hol (.int IntKind.i64),.hol (.int IntKind.i64),.hol .bool,.onl 5 (Ty.int IntKind.u8) 1032,.onl 91 az 1034]]⟩)]⟩
abbrev dC:Lo:=⟨⟨(.any::.one (.ptr 1 0)::.one (.ptr 2 0)::.one (.onl 91 az 7)::.one (.hol (.int IntKind.i64))::ag (ag (ag (ag (ag []))))),[none,some [.hol (.int IntKind.i32),.hol (.int IntKind.i8),.hol (.sl 196 aj)],some [.hol (.int IntKind.i64),.hol (.int IntKind.i64),.hol .bool,.onl 5 (Ty.int IntKind.u8) 1032,.onl 91 az 1034]]⟩,[(.exit 0,⟨(.any::.one (.ptr 1 0)::.one (.ptr 2 0)::.one (.onl 91 az 7)::.any::ag (ag (ag (ag (ag []))))),[none,some [.hol (.int IntKind.i32),.hol (.int IntKind.i8),.hol (.sl 196 aj)],some [.hol (.int IntKind.i64),.hol (.int IntKind.i64),.hol .bool,.onl 5 (Ty.int IntKind.u8) 1032,.onl 91 az 1034]]⟩)]⟩
def mg (d:dD.st.den):Tr (aJ dD.xs):=
 .ite ((decide ((0:Int)≤d.1.2.1)&&decide (d.1.2.1<(d.2.1.2.2.1.length:Int)))&&((decide (d.1.2.2.1.length=0)&&decide (d.1.2.2.2.1=0))&&decide ((d.2.1.2.2.1.getD d.1.2.1.toNat aj.zero).2.1.length≤4294967296)))
  (.ret (.ret ((),((d.1.1,(d.1.2.1,((d.2.1.2.2.1.getD d.1.2.1.toNat aj.zero).2.1.map lZ,()))),(d.2.1,(d.2.2.1,())))))) .no
def mf (d:dC.st.den):Tr (aJ dC.xs):=
 .ite ((decide (d.1.1.length=0)&&decide (d.1.2.1=0))&&gO d.2.1.2.2.1)
  (.ret (.ret ((),((d.2.1.2.2.1.map gj,()),(d.2.1,(d.2.2.1,())))))) .no
def jS:Lp:=bJ [(4,bv dC mf),(8,bv dD mg)]
def p3 {R:Type}(h13:List az.den)(h14:Int)(h15:List az.den)(h16 h17 h18:Int)(h19:List aj.den)(h20 h21:Int)(h22:Bool)(h23:List Int)(h24:List az.den)(next:List az.den→Int→List az.den→Int→Int→Int→List aj.den→Int→Int→Bool→List Int→List az.den→Option R)(out:aJ dD.xs→Option R):Option R:=bif decide (0≤h14)&&decide (h14<(↑h19.length:Int)) then bif decide (h16<(↑(List.length (h19.getD h14.toNat ([],[],())).2.1):Int)) then bif decide (0≤h14)&&decide (h14<(↑h19.length:Int)) then bif decide (0≤h16)&&decide (h16<(↑(List.length (h19.getD h14.toNat ([],[],())).2.1):Int)) then bif decide (h15.length+1≤4294967296) then next (h13) (h14) (h15++[Tre.mk (10,0,false,[],()) [Tre.mk (3,IntKind.i64.wrap (List.getD (h19.getD h14.toNat ([],[],())).2.1 h16.toNat (0,0,0,0,())).1,false,[],()) [],Tre.mk (3,IntKind.i64.wrap (List.getD (h19.getD h14.toNat ([],[],())).2.1 h16.toNat (0,0,0,0,())).2.1,false,[],()) [],Tre.mk (4,(List.getD (h19.getD h14.toNat ([],[],())).2.1 h16.toNat (0,0,0,0,())).2.2.1,false,[],()) [],Tre.mk (3,IntKind.i64.wrap (List.getD (h19.getD h14.toNat ([],[],())).2.1 h16.toNat (0,0,0,0,())).2.2.2.1,false,[],()) []]]) (IntKind.i64.wrap (h16+1)) (h17) (h18) (h19) (h20) (h21) (h22) (h23) (h24) else none else none else none else out (.ret ((),((h13,(h14,(h15,()))),((h17,(h18,(h19,()))),((h20,(h21,(h22,(h23,(h24,()))))),()))))) else none
def kS (n:Nat)(h13:List az.den)(h14:Int)(h15:List az.den)(h16 h17 h18:Int)(h19:List aj.den)(h20 h21:Int)(h22:Bool)(h23:List Int)(h24:List az.den):Option (aJ dD.xs):=lD tt sI dr jS 0 Tryz.f86 (Gw Tryz.f86 (gQ Tryz.f86 0) 0) n (dD.st.mk' ((h13,(h14,(h15,(h16,())))),((h17,(h18,(h19,()))),((h20,(h21,(h22,(h23,(h24,()))))),())))) (dc dD.xs)
theorem FY (n:Nat)(h13:List az.den)(h14:Int)(h15:List az.den)(h16 h17 h18:Int)(h19:List aj.den)(h20 h21:Int)(h22:Bool)(h23:List Int)(h24:List az.den):kS (n+1) h13 h14 h15 h16 h17 h18 h19 h20 h21 h22 h23 h24=p3 h13 h14 h15 h16 h17 h18 h19 h20 h21 h22 h23 h24 (kS n) some:=by kernel_rfl
def p2 {R:Type}(h3:List az.den)(h4 h5 h6:Int)(h7:List aj.den)(h8 h9:Int)(h10:Bool)(h11:List Int)(h12:List az.den)(next:List az.den→Int→Int→Int→List aj.den→Int→Int→Bool→List Int→List az.den→Option R)(out:aJ dC.xs→Option R):Option R:=bif decide (h4<(↑h7.length:Int)) then (mg ((h3,(h4,([],(0,())))),((h5,(h6,(h7,()))),((h8,(h9,(h10,(h11,(h12,()))))),())))).run fun y=>match y with | .ret ((),((x48,x49,x50,()),(x51,x52,x53,()),(x54,x55,x56,x57,x58,()),()))=>(bif decide (0≤x49)&&decide (x49<(↑x53.length:Int)) then bif decide (x48.length+1≤4294967296) then next (x48++[Tre.mk (10,0,false,[],()) [Tre.mk (5,0,false,(x53.getD x49.toNat ([],[],())).1,()) [],Tre.mk (9,0,false,[],()) x50]]) (IntKind.i64.wrap (x49+1)) (x51) (x52) (x53) (x54) (x55) (x56) (x57) (x58) else none else none) else out (.ret ((),((h3,()),((h5,(h6,(h7,()))),((h8,(h9,(h10,(h11,(h12,()))))),())))))
def kR (n:Nat)(h3:List az.den)(h4 h5 h6:Int)(h7:List aj.den)(h8 h9:Int)(h10:Bool)(h11:List Int)(h12:List az.den):Option (aJ dC.xs):=lD tt sI dr jS 0 Tryz.f86 (gQ Tryz.f86 0) n (dC.st.mk' ((h3,(h4,())),((h5,(h6,(h7,()))),((h8,(h9,(h10,(h11,(h12,()))))),())))) (dc dC.xs)
theorem FX (n:Nat)(h3:List az.den)(h4 h5 h6:Int)(h7:List aj.den)(h8 h9:Int)(h10:Bool)(h11:List Int)(h12:List az.den):kR (n+1) h3 h4 h5 h6 h7 h8 h9 h10 h11 h12=p2 h3 h4 h5 h6 h7 h8 h9 h10 h11 h12 (kR n) some:=by kernel_rfl
theorem yK {ts:List aj.den}(hw:∀t∈ts,aj.wf t)(hl:ts.length≤maxLen){i:Nat}(hi:i<ts.length)(hp:(ts[i]).2.1.length≤4294967296)(acc:List Nd)(re lv a' b':Int)(z':Bool)(x':List Int)(l':List Nd):∀(k j:Nat) (o:List Nd),(ts[i]).2.1.length<j+k→j≤(ts[i]).2.1.length→o.length≤j→
  kS k acc i o j re lv ts a' b' z' x' l'=some (.ret ((),((acc,((i:Int),(o++((ts[i]).2.1.drop j).map lZ,()))),((re,(lv,(ts,()))),((a',(b',(z',(x',(l',()))))),()))))):=by
 intro k
 induction k with
 |zero=>intro j o h1 h2;omega
 |succ k ih=>
  intro j o h1 h2 h3
  rw[FY]
  unfold p3
  refine (aa (by simp;omega) _ _).trans ?_
  have hti:=hw _ (List.getElem_mem hi)
  simp only[Int.toNat_natCast,bh hi]
  generalize ts[i]=t at hp h1 h2 ih hti ⊢
  by_cases hj:j<t.2.1.length
  ·refine (aa (decide_eq_true (show (j:Int)<(t.2.1.length:Int) by omega)) _ _).trans ?_
   refine (aa (by simp;omega) _ _).trans ?_
   refine (aa (by simp;omega) _ _).trans ?_
   refine (aa (decide_eq_true (show o.length+1≤4294967296 by omega)) _ _).trans ?_
   have hpw:=hti.2.1.2 _ (List.getElem_mem hj)
   have ih':=ih (j+1) (o++[lZ t.2.1[j]]) (by omega) (by omega) (by simp;omega)
   have hd:t.2.1.drop j=t.2.1[j]::t.2.1.drop (j+1):=List.drop_eq_getElem_cons hj
   rw[hd,bx (n:=(j:Int)+1) (by omega) (by omega)]
   have hgp:List.getD t.2.1 ((j:Int)).toNat aU.zero=t.2.1[j]:=by simp only[Int.toNat_natCast];exact bh hj
   refine Eq.trans ?_ (ih'.trans ?_)
   ·refine congrArg (fun x=>kS k acc i (o++[x]) _ re lv ts a' b' z' x' l') ?_
    show cj [aF 3 (IntKind.i64.wrap (List.getD t.2.1 ((j:Int)).toNat aU.zero).1),aF 3 (IntKind.i64.wrap (List.getD t.2.1 ((j:Int)).toNat aU.zero).2.1),aF 4 (List.getD t.2.1 ((j:Int)).toNat aU.zero).2.2.1,aF 3 (IntKind.i64.wrap (List.getD t.2.1 ((j:Int)).toNat aU.zero).2.2.2.1)]=_
    rw[hgp]
    exact Q2 hpw
   ·simp only[List.map_cons,List.append_assoc,List.singleton_append]
  ·refine (ae (decide_eq_false (show ¬(j:Int)<(t.2.1.length:Int) by omega)) _ _).trans ?_
   rw[List.drop_of_length_le (by omega)]
   simp
theorem yJ {ts:List aj.den}(hw:∀t∈ts,aj.wf t)(hl:ts.length≤maxLen)(hs:gO ts=true)(re lv a' b':Int)(z':Bool)(x':List Int)(l':List Nd):∀(k j:Nat) (o:List Nd),ts.length<j+k→j≤ts.length→o.length≤j→
  kR k o j re lv ts a' b' z' x' l'=some (.ret ((),((o++(ts.drop j).map gj,()),((re,(lv,(ts,()))),((a',(b',(z',(x',(l',()))))),()))))):=by
 intro k
 have hs1:=(Bool.and_eq_true _ _▸hs).1
 have hs2:=(Bool.and_eq_true _ _▸hs).2
 have hs1:ts.length≤4294967296:=of_decide_eq_true hs1
 induction k with
 |zero=>intro j o h1 h2;omega
 |succ k ih=>
  intro j o h1 h2 h3
  rw[FX]
  unfold p2
  by_cases hj:j<ts.length
  ·refine (aa (decide_eq_true (show (j:Int)<(ts.length:Int) by omega)) _ _).trans ?_
   have hgp:ts.getD ((j:Int)).toNat aj.zero=ts[j]:=by simp only[Int.toNat_natCast];exact bh hj
   have hpl:(ts[j]).2.1.length≤4294967296:=of_decide_eq_true (List.all_eq_true.1 hs2 _ (List.getElem_mem hj))
   have c8:((decide ((0:Int)≤(j:Int))&&decide ((j:Int)<(ts.length:Int)))&&((decide (([]:List Nd).length=0)&&decide ((0:Int)=0))&&decide ((ts.getD ((j:Int)).toNat aj.zero).2.1.length≤4294967296)))=true:=by
    rw[hgp];simp;omega
   refine (aa c8 _ _).trans ?_
   refine (aa (by simp;omega) _ _).trans ?_
   refine (aa (decide_eq_true (show o.length+1≤4294967296 by omega)) _ _).trans ?_
   rw[bx (n:=(j:Int)+1) (by omega) (by omega)]
   have ih':=ih (j+1) (o++[gj ts[j]]) (by omega) (by omega) (by simp;omega)
   have hd:ts.drop j=ts[j]::ts.drop (j+1):=List.drop_eq_getElem_cons hj
   rw[hd]
   refine Eq.trans ?_ (ih'.trans ?_)
   ·refine congrArg (fun x=>kR k (o++[x]) _ re lv ts a' b' z' x' l') ?_
    show (cj [kh (ts.getD ((j:Int)).toNat aj.zero).1,bw ((ts.getD ((j:Int)).toNat aj.zero).2.1.map lZ)])=_
    rw[hgp];rfl
   ·simp only[List.map_cons,List.append_assoc,List.singleton_append]
  ·refine (ae (decide_eq_false (show ¬(j:Int)<(ts.length:Int) by omega)) _ _).trans ?_
   rw[List.drop_of_length_le (by omega)]
   simp
def tV (a0 a1:Int)(a2:List aj.den):Option im.Res:=(mf (([],(0,())),((a0,(a1,(a2,()))),((0,(0,(false,([],([],()))))),())))).run fun y=>match y with | .ret ((),((x78,()),(x79,x80,x81,()),(x82,x83,x84,x85,x86,()),()))=>(some (Out.ret ((Tre.mk (10,0,false,[],()) [Tre.mk (3,IntKind.i64.wrap x79,false,[],()) [],Tre.mk (1,IntKind.i64.wrap x80,false,[],()) [],Tre.mk (9,0,false,[],()) x78],()),())))
theorem H2 (a0 a1:Int)(a2:List aj.den):Io.run tt sI dr jS im Tryz.f86 (((a0,a1,a2,()),()),())=tV a0 a1 a2:=by kernel_rfl
theorem LC:HcOk prog 86 (af im vT):=by
 refine ao (n:=400) hm (cs:=oO) (.cons m6 (.cons m7 (.cons jH (.cons jG .nil)))) (lp:=jS) (fn:=Tryz.f86) (by kernel_rfl) (by kernel_rfl) (by kernel_rfl) im (.step (h0:=bv dC mf) (by kernel_rfl) (aQ (n:=400) hm (cs:=oO) (.cons m6 (.cons m7 (.cons jH (.cons jG .nil)))) (lp:=jS) (fn:=Tryz.f86) (.step (h0:=bv dD mg) (by kernel_rfl) (aQ (n:=400) hm (cs:=oO) (.cons m6 (.cons m7 (.cons jH (.cons jG .nil)))) (lp:=jS) (fn:=Tryz.f86) (.done (by kernel_rfl)) dD mg ?_) (.done (by kernel_rfl))) dC mf ?_) (.done (by kernel_rfl))) vT ?_
 ·rintro ⟨⟨(acc:List Nd),(i:Int),(o:List Nd),(j:Int),⟨⟩⟩,⟨⟨(re:Int),(lv:Int),(ts:List aj.den),⟨⟩⟩,⟨(a':Int),(b':Int),(z':Bool),(x':List Int),(l':List Nd),⟨⟩⟩,⟨⟩⟩⟩ y hw hy
  obtain ⟨hg,hy⟩:=Tr.guard hy
  simp only[Bool.and_eq_true,decide_eq_true_eq] at hg
  obtain ⟨⟨h1,h2⟩,⟨h3,h4⟩,h5⟩:=hg
  have h1:0≤i:=h1
  have h2:i<(ts.length:Int):=h2
  have h3:o=[]:=List.eq_nil_of_length_eq_zero h3
  have h4:j=0:=h4
  obtain ⟨i,rfl⟩:=eM h1
  subst h3
  subst h4
  have hi:i<ts.length:=by omega
  have hgp:ts.getD ((i:Int)).toNat aj.zero=ts[i]:=by simp only[Int.toNat_natCast];exact bh hi
  have h5:(ts.getD ((i:Int)).toNat aj.zero).2.1.length≤4294967296:=h5
  rw[hgp] at h5
  have hwt:ts.length≤maxLen∧∀t∈ts,aj.wf t:=by have:=hw.2.1.2.2.1;exact this
  refine ⟨(ts[i]).2.1.length+1,(yK hwt.2 hwt.1 hi h5 acc re lv a' b' z' x' l' ((ts[i]).2.1.length+1) 0 [] (by omega) (by omega) (by simp)).trans ?_⟩
  rw[← hy,← hgp,List.drop_zero]
  rfl
 ·rintro ⟨⟨(o:List Nd),(j:Int),⟨⟩⟩,⟨⟨(re:Int),(lv:Int),(ts:List aj.den),⟨⟩⟩,⟨(a':Int),(b':Int),(z':Bool),(x':List Int),(l':List Nd),⟨⟩⟩,⟨⟩⟩⟩ y hw hy
  obtain ⟨hg,hy⟩:=Tr.guard hy
  simp only[Bool.and_eq_true,decide_eq_true_eq] at hg
  obtain ⟨⟨h3,h4⟩,h5⟩:=hg
  have h3:o=[]:=List.eq_nil_of_length_eq_zero h3
  have h4:j=0:=h4
  have h5:gO ts=true:=h5
  subst h3
  subst h4
  have hwt:ts.length≤maxLen∧∀t∈ts,aj.wf t:=by have:=hw.2.1.2.2.1;exact this
  refine ⟨ts.length+1,(yJ hwt.2 hwt.1 h5 re lv a' b' z' x' l' (ts.length+1) 0 [] (by omega) (by omega) (by simp)).trans ?_⟩
  rw[← hy,List.drop_zero]
  rfl
 ·rintro ⟨⟨⟨(re:Int),(lv:Int),(ts:List aj.den),⟨⟩⟩,⟨⟩⟩,⟨⟩⟩ out hw ho
  obtain ⟨hg,ho⟩:=Tr.guard ho
  have hg:gO ts=true:=hg
  cases ho
  refine (H2 re lv ts).trans ?_
  unfold tV
  have c1:((decide (([]:List Nd).length=0)&&decide ((0:Int)=0))&&gO ts)=true:=by rw[hg];rfl
  refine (aa c1 _ _).trans ?_
  show _=some (Out.ret ((dM (re,(lv,(ts,()))),()),()))
  unfold dM
  have hre:IntKind.i64.wrap re=re:=fc hw.1.1.1
  have hlv:IntKind.i64.wrap lv=lv:=OI hw.1.1.2.1
  show some (Out.ret ((cj [aF 3 (IntKind.i64.wrap re),aF 1 (IntKind.i64.wrap lv),bw (ts.map gj)],()),()))=_
  rw[hre,hlv]
abbrev xc:Lo:=⟨⟨(bt (.one (.ptr 2 0)::.one (.ptr 3 0)::.one (.hol (.sl 91 az))::.one (.hol (.int IntKind.i64))::.one (.ptr 6 0)::.one (.hol (.sl 91 az))::.one (.hol (.int IntKind.i64))::ag (ag (ag (ag (ag (bt []))))))),[none,none,some [.hol (.int IntKind.i32),.hol (.int IntKind.i8),.onl 196 aj 1030],some [.hol (.int IntKind.i32),.hol (.int IntKind.i8),.onl 196 aj 1542],none,none,some [.hol .str,.onl 198 aU 3076]]⟩,[(.exit 2,⟨(bt (.one (.ptr 2 0)::.one (.ptr 3 0)::.one (.hol (.sl 91 az))::.one (.hol (.int IntKind.i64))::.one (.ptr 6 0)::ag (ag (ag (ag (ag (bQ []))))))),[none,none,some [.hol (.int IntKind.i32),.hol (.int IntKind.i8),.onl 196 aj 1030],some [.hol (.int IntKind.i32),.hol (.int IntKind.i8),.onl 196 aj 1542],none,none,some [.hol .str,.onl 198 aU 3076]]⟩)]⟩
abbrev Am:Lo:=⟨⟨(bt (.one (.ptr 2 0)::.one (.ptr 3 0)::.one (.hol (.sl 91 az))::.one (.hol (.int IntKind.i64))::.any::ag (ag (ag (ag (ag (bQ []))))))),[none,none,some [.hol (.int IntKind.i32),.hol (.int IntKind.i8),.onl 196 aj 1030],some [.hol (.int IntKind.i32),.hol (.int IntKind.i8),.onl 196 aj 1542]]⟩,[(.exit 0,⟨(bt (.one (.ptr 2 0)::.one (.ptr 3 0)::.any::ag (ag (ag (ag (ag (bQ (bt [])))))))),[none,none,some [.hol (.int IntKind.i32),.hol (.int IntKind.i8),.onl 196 aj 1030],some [.hol (.int IntKind.i32),.hol (.int IntKind.i8),.onl 196 aj 1542]]⟩)]⟩
def Wl (d:xc.st.den):Tr (aJ xc.xs):=
 .ite ((decide (d.1.2.2.2.1=0)&&decide (d.2.2.2.1.2.1.length=0))&&decide (cO d.1.2.2.1≤4294967296))
  (.ret (.ret ((),((d.1.1,(d.1.2.1,())),(d.2.1,(d.2.2.1,((d.2.2.2.1.1,(d.1.2.2.1.map Gs,())),()))))))) .no
def WD (d:Am.st.den):Tr (aJ Am.xs):=
 .ite ((decide (d.1.2.1=0)&&decide (d.2.2.1.2.2.1.length=0))&&decide (cO d.1.1≤4294967296))
  (.ret (.ret ((),((),(d.2.1,((d.2.2.1.1,(d.2.2.1.2.1,(d.1.1.map yl,()))),())))))) .no
@[irreducible] noncomputable def fI (v:Int)(m:cg.den):List Int×Int:=qC 2 false v (dM m)
def MH (v:Int)(p:aU.den):List Int×Int:=aI (aE p.1 4,0) (aI (if 3≤v∧v≤3 then (aE p.2.1 4,0) else ([],0)) (aI (aE p.2.2.1 8,0) (aI (if 0≤v∧v≤0 then (aE p.2.2.2.1 4,0) else ([],0)) ([],0))))
def MI (v:Int)(t:aj.den):List Int×Int:=aI (gr t.1) (aI (cr (MH v) t.2.1) ([],0))
def Rg (v:Int)(m:cg.den):List Int×Int:=aI (aE m.1 4,0) (aI (if 2≤v∧v≤3 then (aE m.2.1 1,0) else ([],0)) (aI (cr (MI v) m.2.2.1) (([],0))))
theorem Wri.oqP (v:Int)(p:aU.den):Wri (MH v p) (ls v p):=(Wri.put p.1 4).seq ((Wri.hasE v 3 3 p.2.1 4).seq ((Wri.put p.2.2.1 8).seq ((Wri.hasE v 0 0 p.2.2.2.1 4).seq (Wri.nop))))
theorem Wri.oqT (v:Int)(t:aj.den):Wri (MI v t) (ym v t):=(Wri.str _).seq ((Wri.items fun p hp=>Wri.oqP v p).seq Wri.nop)
abbrev UY:Fd:=bY [112,97,114,116] 10 0 3 [bY [105,110,100,101,120] 3 0 3 [],bY [101,112,111,99,104] 3 3 3 [],bY [116,105,109,101] 4 0 3 [],bY [109,111,115,116] 3 0 0 []]
abbrev WT:Fd:=bY [116,111,112,105,99] 10 0 3 [bY [110,97,109,101] 5 0 3 [],bY [112,97,114,116,115] 9 0 3 [UY]]
theorem TG {v:Int}{p:aU.den}(hv:0≤v∧v≤3)(h:aU.wf p):pv UY v (lZ p)=MH v p:=by
 unfold lZ MH
 rw[fY,aP (aw hv.1 hv.2),gL,aP (aw hv.1 hv.2),gL,bL,bq (by decide) (w:=4) rfl (bD h.1),bq (by decide) (w:=4) rfl (bD h.2.1),bq (by decide) (w:=4) rfl (bD h.2.2.2.1),bq (by decide) (w:=8) rfl (dk p.2.2.1)]
 try rfl
theorem TH {v:Int}{t:aj.den}(hv:0≤v∧v≤3)(h:aj.wf t):pv WT v (gj t)=MI v t:=by
 unfold gj MI
 rw[fY,aP (aw hv.1 hv.2),aP (aw hv.1 hv.2),bL,lV,dH,bO fun p hp=>TG hv (h.2.1.2 p hp)]
def jj (v:Int)(p:aU.den):Bool:=(if 3≤v∧v≤3 then true else (p.2.1 == 0))&&((if 0≤v∧v≤0 then true else (p.2.2.2.1 == 0)))
theorem Mk {v:Int}{p:aU.den}(hv:0≤v∧v≤3):(db UY v (lZ p)).2=jj v p:=by
 unfold lZ jj
 rw[dv,aR (aw hv.1 hv.2),cv,aR (aw hv.1 hv.2),cv,ct,aD (by decide) (by decide),aD (by decide) (by decide),aD (by decide) (by decide),aD (by decide) (by decide),bI,bI]
 simp only[Bool.true_and,Bool.and_true]
theorem Ml {v:Int}{t:aj.den}(hv:0≤v∧v≤3):(db WT v (gj t)).2=t.2.1.all (jj v):=by
 unfold gj
 rw[dv,aR (aw hv.1 hv.2),aR (aw hv.1 hv.2),ct,aD (by decide) (by decide),cw]
 simp only[Mk hv,Bool.true_and,Bool.and_true]
theorem yb (m:cg.den):cN pW [aF 3 m.1,aF 1 m.2.1,bw (m.2.2.1.map gj)]:=by
 unfold pW bH
 refine ar (aA (by decide) (by decide)) (ar (aA (by decide) (by decide)) (ar ?_ bE))
 refine bW _ _ fun t=>cA rfl (ar (aA (by decide) (by decide)) (ar ?_ bE))
 exact bW _ _ fun p=>cA rfl (ar (aA (by decide) (by decide)) (ar (aA (by decide) (by decide)) (ar (aA (by decide) (by decide)) (ar (aA (by decide) (by decide)) bE))))
def pJ (v:Int)(m:cg.den):Bool:=(if 2≤v∧v≤3 then true else (m.2.1 == 0))&&((m.2.2.1.all fun t=>t.2.1.all (jj v)))
theorem Mx {e v:Int}{p:aU.den}:qH v p (e,(false,([]:List Int)))=(eX e (jj v p),(false,[])):=by
 unfold qH jj
 rw[b8,b8,ce]
theorem yk {v:Int}:∀{ps:List aU.den} {e:Int},fF v ps (e,(false,([]:List Int)))=(eX e (ps.all (jj v)),(false,[]))
 |[],e=>by rw[List.all_nil,eP];rfl
 |p::ps,e=>by
  show fF v ps (qH v p (e,(false,[])))=_
  rw[Mx,yk,ce,List.all_cons]
theorem Bc {v:Int}:∀{ts:List aj.den} {e:Int},tu v ts (e,(false,([]:List Int)))=(eX e (ts.all fun t=>t.2.1.all (jj v)),(false,[]))
 |[],e=>by rw[List.all_nil,eP];rfl
 |t::ts,e=>by
  show tu v ts (fF v t.2.1 (e,(false,[])))=_
  rw[yk,Bc,ce,List.all_cons]
theorem T9 {v:Int}{m:cg.den}(hv:0≤v∧v≤3):(bS v pW [aF 3 m.1,aF 1 m.2.1,bw (m.2.2.1.map gj)]).2=pJ v m:=by
 unfold pW bH pJ
 rw[aR (aw hv.1 hv.2),cv,aR (aw hv.1 hv.2),ct,aD (by decide) (by decide),aD (by decide) (by decide),cw,bI]
 simp only[Ml hv,Bool.true_and,Bool.and_true,Bool.and_assoc]
theorem UB {v:Int}{m:cg.den}(hv:0≤v∧v≤3)(hm:cg.wf m):bT v pW [aF 3 m.1,aF 1 m.2.1,bw (m.2.2.1.map gj)]=Rg v m:=by
 unfold pW bH Rg
 rw[aP (aw hv.1 hv.2),gL,aP (aw hv.1 hv.2),bL,bq (by decide) (w:=4) rfl (bD hm.1),bq (by decide) (w:=1) rfl (AP hm.2.1),dH,bO fun t ht=>TH hv (hm.2.2.1.2 t ht)]
 try rfl
theorem PN {v:Int}{m:cg.den}(hm:cg.wf m):(bj (sb v m),aM (sb v m))=fI v m:=by
 unfold fI dM
 rw[jJ (t:=pW) rfl F5 rfl (yb m)]
 unfold sb
 rw[b8,Bc,ce]
 have hr:Wri (Rg v m) _:=(Wri.put m.1 4).seq ((Wri.hasE v 2 3 m.2.1 1).seq ((Wri.items fun t ht=>Wri.oqT v t).seq (Wri.nop)))
 refine (hr.done _).trans ?_
 unfold aH
 by_cases hv:v<0∨3<v
 ·rw[if_pos hv,if_pos hv]
  exact if_pos (by simp[eX])
 rw[if_neg hv,if_neg hv]
 have hv':0≤v∧v≤3:=by omega
 rw[T9 hv',UB hv' hm]
 show (if eX 0 (pJ v m)≠0 then _ else _)=_
 cases hz:pJ v m
 ·exact (if_pos (by decide)).trans (show ([],eX 0 (pJ v m))=_ by rw[hz];rfl)
 ·exact (if_neg (by decide)).trans (if_neg (by decide)).symm
abbrev rp:Io:=mL
def IL (d:rp.In):Tr rp.Res:=.ret (.ret (((fI d.1.1 d.1.2.1).1,((fI d.1.1 d.1.2.1).2,())),()))
theorem PA:HcOk prog 45 (af rp IL):=by
 refine HcOk.weakW Sz ?_
 rintro ⟨⟨(v:Int),m,⟨⟩⟩,⟨⟩⟩ y hw hy
 rw[← hy]
 have h:=PN (v:=v) (m:=m) hw.1.2.1
 show some (Out.ret ((bj (sb v m),(aM (sb v m),())),()))=some (Out.ret (((fI v m).1,((fI v m).2,())),()))
 rw[← h]
theorem AK {v:Int}{p:aU.den}(h:jj v p=true):(¬(3≤v∧v≤3)→p.2.1=0)∧(¬(0≤v∧v≤0)→p.2.2.2.1=0):=by
 unfold jj at h
 simp only[Bool.and_eq_true] at h
 exact ⟨fun hv=>by have h1:=h.1;rw[if_neg hv] at h1;simpa using h1,fun hv=>by have h1:=h.2;rw[if_neg hv] at h1;simpa using h1⟩
theorem AJ {v:Int}{m:cg.den}(h:pJ v m=true):(¬(2≤v∧v≤3)→m.2.1=0)∧(m.2.2.1.all fun t=>t.2.1.all (jj v))=true:=by
 unfold pJ at h
 simp only[Bool.and_eq_true] at h
 exact ⟨fun hv=>by have h1:=h.1;rw[if_neg hv] at h1;simpa using h1,h.2⟩
theorem Rd.oqP {b:List Int}{p:aU.den}{v:Int}(h:aU.wf p)(hk:jj v p=true):Rd b p (MH v p) (iA v b):=
 (Rd.seq (fun a r=>(a,r)) (Rd.num (bG h.1)) (Rd.seq (fun a r=>(a,r)) (Rd.opt (bG h.2.1) (AK hk).1) (Rd.seq (fun a r=>(a,r)) (Rd.num (dm h.2.2.1)) (Rd.seq (fun a r=>(a,r)) (Rd.opt (bG h.2.2.2.1) (AK hk).2) (Rd.nop b ()))))).congr fun s=>by unfold iA;rfl
theorem Rd.oqT {b:List Int}{t:aj.den}{v:Int}(h:aj.wf t)(hk:t.2.1.all (jj v)=true):Rd b t (MI v t) (iB v b):=
 (Rd.seq (fun a r=>(a,r)) (Rd.txt t.1) (Rd.seq (fun a r=>(a,r)) (Rd.list fun p hp=>Rd.oqP (h.2.1.2 p hp) (List.all_eq_true.1 hk p hp)) (Rd.nop b ()))).congr fun s=>by unfold iB fG;rfl
theorem Rd.oqM {b:List Int}{m:cg.den}{v:Int}(h:cg.wf m)(hk0:pJ v m=true):Rd b m (Rg v m) (ln v b):=
 have hk:=(AJ hk0).2
 (Rd.seq (fun a r=>(a,r)) (Rd.num (bG h.1)) (Rd.seq (fun a r=>(a,r)) (Rd.opt (Bs h.2.1) (AJ hk0).1) (Rd.seq (fun a r=>(a,r)) (Rd.list fun t ht=>Rd.oqT (h.2.2.1.2 t ht) (List.all_eq_true.1 hk t ht)) (Rd.nop b ())))).congr fun s=>by unfold ln ca;rfl
def xX (x:Int)(s:aV):aV:=ab x 8 s
def eK (xs:List Int)(s:aV):aV:=bk xX xs s
theorem Gd {s:aV}(x:Int)(h:s.2.2.length≤130048):(xX x s).2.2.length≤130048:=av _ _ h
theorem Gf {s:aV}(xs:List Int)(h:s.2.2.length≤130048):(eK xs s).2.2.length≤130048:=bF (fun x s=>Gd x) xs h
def iM (v lo hi:Int)(xs:List Int)(s:aV):aV:=if lo≤v∧v≤hi then eK xs s else s
theorem kp {v lo hi:Int}{xs:List Int}{s:aV}(h:lo≤v∧v≤hi):iM v lo hi xs s=eK xs s:=by unfold iM;rw[if_pos h]
theorem iZ {v lo hi:Int}{xs:List Int}{s:aV}(h:¬(lo≤v∧v≤hi)):iM v lo hi xs s=s:=by unfold iM;rw[if_neg h]
theorem Ig {s:aV}(v lo hi:Int)(xs:List Int)(h:s.2.2.length≤130048):(iM v lo hi xs s).2.2.length≤130048:=by
 unfold iM
 split
 ·exact Gf xs h
 ·exact h
abbrev B1 (v:Int)(s:aV):(Int×(Int×(Bool×Unit)))×((List Int×(Int×Unit))×Unit):=((v,(s.1,(s.2.1,()))),((s.2.2,(130048,())),()))
@[irreducible] noncomputable def bm (b:List Int)(s:aC):List Int×aC:=eB (ac .i64 8 b) b s
theorem Ge {b:List Int}{s:aC}(h:an b s.2=true):an b (bm b s).2.2=true:=by
 unfold bm
 exact gq (fun s h=>aL .i64 8 h) h
def cK (v lo hi:Int)(b:List Int)(s:aC):List Int×aC:=if aS v lo hi s.1=true then bm b s else ([],s)
theorem F6 {v lo hi:Int}{b:List Int}{s:aC}(h:an b s.2=true):an b (cK v lo hi b s).2.2=true:=by
 unfold cK
 split
 ·exact Ge h
 ·exact h
theorem xM {v lo hi e:Int}(h:aS v lo hi e=true):lo≤v∧v≤hi:=by
 unfold aS at h
 split at h
 ·rename_i h';exact h'.2
 ·cases h
theorem xL {k:IntKind}{n:Nat}{v lo hi:Int}{b:List Int}(h:lo≤v∧v≤hi)(s:aC):aq k n v lo hi b s=ac k n b s:=by
 unfold aq aS
 by_cases he:s.1=0
 ·rw[if_pos (by rw[if_pos ⟨he,h⟩])]
 ·rw[if_neg (by rw[if_neg (fun hh=>he hh.1)];decide)]
  unfold ac;rw[if_neg he]
abbrev B0 (v:Int)(b:List Int)(s:aC):(Int×(Int×Unit))×((List Int×(Int×Unit))×Unit):=((v,(s.1,())),((b,(s.2,())),()))
abbrev wI:Io:=⟨[.ptr 0 0,.dat (.sl 2 (.int .i64)) false false,.fnc 111 true [0]],pD,[],[],none⟩
def UH (d:wI.In):Tr wI.Res:=.ite (dW d.2) (.ret (.ret ((),cb d.2.1.2.1 (eK d.1.2.1 (dX d.2))))) .no
abbrev NL:List (Nat×Hc):=[(194,af b9 d4),(98,af cc dV),(111,af ja tG)]
def Ud:Hd:=bR NL
abbrev jE:Lo:=⟨⟨[.any,.any,.one (.fnp 111 true [0]),.any,.any,.any,.any,.any,.any,.any,.any,.any,.any,.any,.any,.any,.any,.any,.one (.hol (.sl 2 (Ty.int IntKind.i64))),.one (.hol (.int IntKind.i64)),.one (.hol (.int IntKind.i64)),.any,.any,.any,.any,.any,.any,.any],[some [.ptr 1 0,.hol (.int IntKind.i64),.hol (.int IntKind.i64),.hol .bool],some [.onl 5 (Ty.int IntKind.u8) 514,.hol (.int IntKind.i64)]]⟩,[(.exit 0,⟨(ag (dq (bQ []))),[some [.ptr 1 0,.hol (.int IntKind.i64),.hol (.int IntKind.i64),.hol .bool],some [.onl 5 (Ty.int IntKind.u8) 514,.hol (.int IntKind.i64)]]⟩)]⟩
def vF (d:jE.st.den):Tr (aJ jE.xs):=
 .ite (decide (d.1.2.2.1=0)&&(decide (d.1.2.1=(d.1.1.length:Int))&&(decide (d.2.2.1.2.1=130048)&&decide (d.2.2.1.1.length≤130048)))) (.ret (.ret ((),((),B1 d.2.1.1 (d.1.1.foldl (fun s x=>xX x s) (d.2.1.2.1,(d.2.1.2.2.1,d.2.2.1.1))))))) .no
def JV:Lp:=bJ [(5,bv jE vF)]
def Bo {R:Type}(h6:List Int)(h7 h8 h9 h10:Int)(h11:Bool)(h12:List Int)(h13:Int)(next:List Int→Int→Int→Int→Int→Bool→List Int→Int→Option R)(out:aJ jE.xs→Option R):Option R:=bif decide (h8<h7) then bif decide (0≤h8)&&decide (h8<(↑h6.length:Int)) then bif decide (h13=130048)&&decide (h12.length≤130048) then next (h6) (h7) (IntKind.i64.wrap (h8+1)) (h9) ((ab (h6.getD h8.toNat 0) 8 (h10,h11,h12)).1) ((ab (h6.getD h8.toNat 0) 8 (h10,h11,h12)).2.1) ((ab (h6.getD h8.toNat 0) 8 (h10,h11,h12)).2.2) (130048) else none else none else out (.ret ((),((),((h9,(h10,(h11,()))),((h12,(h13,())),())))))
def Cf (n:Nat)(h6:List Int)(h7 h8 h9 h10:Int)(h11:Bool)(h12:List Int)(h13:Int):Option (aJ jE.xs):=lD tt Ud dr JV 2 Tryz.f135 (gQ Tryz.f135 0) n (jE.st.mk' ((h6,(h7,(h8,()))),((h9,(h10,(h11,()))),((h12,(h13,())),())))) (dc jE.xs)
theorem Ts (n:Nat)(h6:List Int)(h7 h8 h9 h10:Int)(h11:Bool)(h12:List Int)(h13:Int):Cf (n+1) h6 h7 h8 h9 h10 h11 h12 h13=Bo h6 h7 h8 h9 h10 h11 h12 h13 (Cf n) some:=by kernel_rfl
theorem Sj {xs:List Int}(v:Int)(hl:xs.length≤maxLen):∀(k i:Nat) (s:aV),xs.length<i+k→i≤xs.length→s.2.2.length≤130048→
  Cf k xs (xs.length:Int) i v s.1 s.2.1 s.2.2 130048=some (.ret ((),((),B1 v ((xs.drop i).foldl (fun s x=>xX x s) s)))):=by
 intro k
 induction k with
 |zero=>intro i s h;omega
 |succ k ih=>
  intro i s h1 h2 h3
  rw[Ts]
  unfold Bo
  by_cases hi:i<xs.length
  ·refine (aa (decide_eq_true (show (i:Int)<(xs.length:Int) by omega)) _ _).trans ?_
   refine (aa (by simpa using hi) _ _).trans ?_
   simp only[Int.toNat_natCast,bh hi,bM hi hl]
   have g:(decide ((130048:Int)=130048)&&decide (s.2.2.length≤130048))=true:=by
    simpa using h3
   refine (aa g _ _).trans ?_
   rw[List.drop_eq_getElem_cons hi]
   exact ih (i+1) (xX xs[i] s) (by omega) (by omega) (Gd _ h3)
  ·refine (ae (by simp;omega) _ _).trans ?_
   rw[List.drop_of_length_le (by omega)]
   rfl
def IY (a0:List Int)(a1 a2:Int)(a3:Bool)(a4:List Int)(a5:Int):Option wI.Res:=bif decide (16<(↑a0.length:Int)) then bif decide (a5=130048)&&decide (a4.length≤130048) then some (Out.ret ((),((),a1,(bA 9 (a2,a3,a4)).1,(bA 9 (a2,a3,a4)).2.1,()),((bA 9 (a2,a3,a4)).2.2,130048,()),())) else none else bif decide (a5=130048)&&decide (a4.length≤130048) then (vF ((a0,((↑a0.length:Int),(0,()))),((a1,((ab (IntKind.i32.wrap (↑a0.length:Int)) 4 (a2,a3,a4)).1,((ab (IntKind.i32.wrap (↑a0.length:Int)) 4 (a2,a3,a4)).2.1,()))),(((ab (IntKind.i32.wrap (↑a0.length:Int)) 4 (a2,a3,a4)).2.2,(130048,())),())))).run fun y=>match y with | .ret ((),((),(x27,x28,x29,()),(x30,x31,()),()))=>(some (Out.ret ((),((),x27,x28,x29,()),(x30,x31,()),()))) else none
theorem VN (a0:List Int)(a1 a2:Int)(a3:Bool)(a4:List Int)(a5:Int):Io.run tt Ud dr JV wI Tryz.f135 (((),a0,(),()),((),a1,a2,a3,()),(a4,a5,()),())=IY a0 a1 a2 a3 a4 a5:=by kernel_rfl
theorem Xb:HcOk prog 135 (af wI UH):=by
 refine ao (n:=400) hm (cs:=NL) (.cons c7 (.cons bN (.cons qr .nil))) (lp:=JV) (fn:=Tryz.f135) (by kernel_rfl) (by kernel_rfl) (by kernel_rfl) wI (.step (h0:=bv jE vF) (by kernel_rfl) (aQ (n:=400) hm (cs:=NL) (.cons c7 (.cons bN (.cons qr .nil))) (lp:=JV) (fn:=Tryz.f135) (.done (by kernel_rfl)) jE vF ?_) (.done (by kernel_rfl))) UH ?_
 ·rintro ⟨⟨(xs:List Int),(n:Int),(i:Int),⟨⟩⟩,⟨⟨(v:Int),(e:Int),(f:Bool),⟨⟩⟩,⟨(b:List Int),(m:Int),⟨⟩⟩,⟨⟩⟩⟩ y hw hy
  obtain ⟨hg,hy⟩:=Tr.guard hy
  simp only[Bool.and_eq_true,decide_eq_true_eq] at hg
  obtain ⟨rfl,rfl,rfl,h4⟩:=hg
  have h4:b.length≤130048:=h4
  have hl:xs.length≤maxLen:=hw.1.1.1
  refine ⟨xs.length+1,(Sj v hl (xs.length+1) 0 (e,(f,b)) (by omega) (by omega) h4).trans ?_⟩
  rw[← hy];rfl
 ·rintro ⟨⟨⟨⟩,(xs:List Int),⟨⟩,⟨⟩⟩,⟨⟨⟩,(v:Int),(e:Int),(f:Bool),⟨⟩⟩,⟨(b:List Int),(m:Int),⟨⟩⟩,⟨⟩⟩ out hw ho
  obtain ⟨hg,ho⟩:=Tr.guard ho
  obtain ⟨rfl,hb⟩:=bo (v:=v) (e:=e) (f:=f) hg
  cases ho
  refine (VN xs v e f b 130048).trans ?_
  unfold IY
  have g:(decide ((130048:Int)=130048)&&decide (b.length≤130048))=true:=by simpa using hb
  show _=some (Out.ret ((),cb v (bk (xX) xs (e,f,b))))
  unfold bk
  by_cases h:16<(xs.length:Int)
  ·rw[if_pos h]
   refine (aa (decide_eq_true h) _ _).trans ?_
   exact aa g _ _
  ·rw[if_neg h]
   refine (ae (decide_eq_false h) _ _).trans ?_
   refine (aa g _ _).trans ?_
   have hw32:IntKind.i32.wrap (xs.length:Int)=xs.length:=dP (by simp[cT,IntKind.min,IntKind.max,IntKind.signed,IntKind.bits];omega)
   rw[hw32]
   have c1:(decide ((0:Int)=0)&&(decide ((xs.length:Int)=(xs.length:Int))&&(decide ((130048:Int)=130048)&&decide ((ab xs.length 4 (e,f,b)).2.2.length≤130048))))=true:=by
    simpa using av (s:=(e,f,b)) _ 4 hb
   have e1:vF ((xs,((xs.length:Int),(0,()))),((v,((ab xs.length 4 (e,f,b)).1,((ab xs.length 4 (e,f,b)).2.1,()))),(((ab xs.length 4 (e,f,b)).2.2,(130048,())),())))=
     .ite true (.ret (.ret ((),((),B1 v (xs.foldl (fun s x=>xX x s) (ab xs.length 4 (e,f,b))))))) .no:=congrArg (fun c=>Tr.ite c _ _) c1
   rw[e1]
   rfl
abbrev wG:Io:=⟨[.ptr 0 0,.fnc 156 true [0]],lH,[],[.dat (.sl 2 (.int .i64)) false false],none⟩
def UF (d:wG.In):Tr wG.Res:=.ite (an d.2.2.1.1 d.2.2.1.2.1) (.ret (.ret (((bm d.2.2.1.1 (cx d.2)).1,()),cB d.2.1.2.1 d.2.2.1.1 (bm d.2.2.1.1 (cx d.2)).2))) .no
abbrev NE:List (Nat×Hc):=[(143,af cC eT),(156,af k8 yW)]
def Uc:Hd:=bR NE
abbrev gC:Lo:=⟨⟨[.one (.ptr 0 0),.one (.fnp 156 true [0]),.any,.any,.any,.one (.hol (.int IntKind.i32)),.one (.onl 2 (Ty.int IntKind.i64) 17),.one (.hol (.int IntKind.i32)),.any,.any,.any,.any,.any,.any,.any,.any,.any,.any,.any,.any,.any,.any,.any,.any,.any,.any,.any,.any,.any,.any,.any,.any,.any,.any,.any,.any,.any,.any,.any,.any,.any,.any,.any,.any,.any,.any],[some [.ptr 1 0,.hol (.int IntKind.i64),.hol (.int IntKind.i64)],some [.hol (.sl 5 (Ty.int IntKind.u8)),.hol (.int IntKind.i64)]]⟩,[(.exit 1,⟨(bQ (bt (.one (.onl 2 (Ty.int IntKind.i64) 17)::.any::ag (ag (bQ (bt [])))))),[some [.ptr 1 0,.hol (.int IntKind.i64),.hol (.int IntKind.i64)],some [.hol (.sl 5 (Ty.int IntKind.u8)),.hol (.int IntKind.i64)]]⟩)]⟩
def fT (d:gC.st.den):Tr (aJ gC.xs):=
 .ite (decide (d.1.2.2.1=0)&&(decide (d.1.2.1.length=0)&&(an d.2.2.1.1 d.2.2.1.2.1&&(decide (d.1.1≤(16:Int)) || decide (d.2.1.2.1≠0))))) (.ret (.ret ((),(((cS (ac .i64 8 d.2.2.1.1) d.1.1.toNat (d.2.1.2.1,d.2.2.1.2.1)).1,()),B0 d.2.1.1 d.2.2.1.1 (cS (ac .i64 8 d.2.2.1.1) d.1.1.toNat (d.2.1.2.1,d.2.2.1.2.1)).2)))) .no
def JO:Lp:=bJ [(10,bv gC fT)]
def yv {R:Type}(h4:Int)(h5:List Int)(h6 h7 h8:Int)(h9:List Int)(h10:Int)(next:Int→List Int→Int→Int→Int→List Int→Int→Option R)(out:aJ gC.xs→Option R):Option R:=bif decide (h6<h4) then bif h8 == 0 then bif an h9 h10 then bif decide (h5.length+1≤4294967296) then next (h4) (h5++[(ac IntKind.i64 8 h9 (h8,h10)).1]) (IntKind.i32.wrap (h6+1)) (h7) ((ac IntKind.i64 8 h9 (h8,h10)).2.1) (h9) ((ac IntKind.i64 8 h9 (h8,h10)).2.2) else none else none else out (.ret ((),((h5,()),((h7,(h8,())),((h9,(h10,())),()))))) else out (.ret ((),((h5,()),((h7,(h8,())),((h9,(h10,())),())))))
def wN (n:Nat)(h4:Int)(h5:List Int)(h6 h7 h8:Int)(h9:List Int)(h10:Int):Option (aJ gC.xs):=lD tt Uc dr JO 2 Tryz.f179 (gQ Tryz.f179 0) n (gC.st.mk' ((h4,(h5,(h6,()))),((h7,(h8,())),((h9,(h10,())),())))) (dc gC.xs)
theorem Qx (n:Nat)(h4:Int)(h5:List Int)(h6 h7 h8:Int)(h9:List Int)(h10:Int):wN (n+1) h4 h5 h6 h7 h8 h9 h10=yv h4 h5 h6 h7 h8 h9 h10 (wN n) some:=by kernel_rfl
theorem Si (n v:Int)(b:List Int):∀(k j:Nat) (xs:List Int) (s:aC),n.toNat<j+k→j≤n.toNat→xs.length=j→an b s.2=true→(s.1=0→n≤16)→
  wN k n xs j v s.1 b s.2=some (.ret ((),((xs++(cS (ac .i64 8 b) (n.toNat - j) s).1,()),B0 v b (cS (ac .i64 8 b) (n.toNat - j) s).2))):=by
 intro k
 induction k with
 |zero=>intro j xs s h;omega
 |succ k ih=>
  intro j xs s h1 h2 h3 h4 h5
  rw[Qx]
  unfold yv
  by_cases hj:(j:Int)<n
  ·refine (aa (by simpa using hj) _ _).trans ?_
   obtain ⟨m,hm⟩:∃m,n.toNat - j=m+1:=⟨n.toNat - j - 1,by omega⟩
   rw[hm]
   by_cases he:s.1=0
   ·refine (aa (by simpa using he) _ _).trans ?_
    have hn:=h5 he
    refine (aa h4 _ _).trans ?_
    refine (aa (decide_eq_true (show xs.length+1≤4294967296 by omega)) _ _).trans ?_
    have hw:IntKind.i32.wrap ((j:Int)+1)=((j+1:Nat):Int):=dP (by simp[cT,IntKind.min,IntKind.max,IntKind.signed,IntKind.bits];omega)
    rw[hw]
    refine (ih (j+1) (xs++[(ac .i64 8 b s).1]) (ac .i64 8 b s).2 (by omega) (by omega) (by simp[h3]) (aL .i64 8 h4) (fun _=>hn)).trans ?_
    rw[show n.toNat - (j+1)=m by omega,cS,if_pos he]
    simp
   ·refine (ae (by simpa using he) _ _).trans ?_
    rw[cS,if_neg he]
    simp
  ·refine (ae (by simpa using hj) _ _).trans ?_
   rw[show n.toNat - j=0 by omega,cS]
   simp
def IW (a0 a1:Int)(a2:List Int)(a3:Int):Option wG.Res:=bif an a2 a3 then bif (ac IntKind.i32 4 a2 (a1,a3)).2.1 != 0 then (fT (((ac IntKind.i32 4 a2 (a1,a3)).1,([],(0,()))),((a0,((ac IntKind.i32 4 a2 (a1,a3)).2.1,())),((a2,((ac IntKind.i32 4 a2 (a1,a3)).2.2,())),())))).run fun y=>match y with | .ret ((),((x28,()),(x29,x30,()),(x31,x32,()),()))=>(some (Out.ret ((x28,()),((),x29,x30,()),(x31,x32,()),()))) else bif decide ((ac IntKind.i32 4 a2 (a1,a3)).1<0) then (fT (((ac IntKind.i32 4 a2 (a1,a3)).1,([],(0,()))),((a0,(5,())),((a2,((ac IntKind.i32 4 a2 (a1,a3)).2.2,())),())))).run fun y=>match y with | .ret ((),((x40,()),(x41,x42,()),(x43,x44,()),()))=>(some (Out.ret ((x40,()),((),x41,x42,()),(x43,x44,()),()))) else bif decide (16<(ac IntKind.i32 4 a2 (a1,a3)).1) then (fT (((ac IntKind.i32 4 a2 (a1,a3)).1,([],(0,()))),((a0,(9,())),((a2,((ac IntKind.i32 4 a2 (a1,a3)).2.2,())),())))).run fun y=>match y with | .ret ((),((x52,()),(x53,x54,()),(x55,x56,()),()))=>(some (Out.ret ((x52,()),((),x53,x54,()),(x55,x56,()),()))) else (fT (((ac IntKind.i32 4 a2 (a1,a3)).1,([],(0,()))),((a0,((ac IntKind.i32 4 a2 (a1,a3)).2.1,())),((a2,((ac IntKind.i32 4 a2 (a1,a3)).2.2,())),())))).run fun y=>match y with | .ret ((),((x64,()),(x65,x66,()),(x67,x68,()),()))=>(some (Out.ret ((x64,()),((),x65,x66,()),(x67,x68,()),()))) else none
theorem VK (a0 a1:Int)(a2:List Int)(a3:Int):Io.run tt Uc dr JO wG Tryz.f179 (((),(),()),((),a0,a1,()),(a2,a3,()),())=IW a0 a1 a2 a3:=by kernel_rfl
theorem W9:HcOk prog 179 (af wG UF):=by
 refine ao (n:=400) hm (cs:=NE) (.cons dg (.cons xm .nil)) (lp:=JO) (fn:=Tryz.f179) (by kernel_rfl) (by kernel_rfl) (by kernel_rfl) wG (.step (h0:=bv gC fT) (by kernel_rfl) (aQ (n:=400) hm (cs:=NE) (.cons dg (.cons xm .nil)) (lp:=JO) (fn:=Tryz.f179) (.done (by kernel_rfl)) gC fT ?_) (.done (by kernel_rfl))) UF ?_
 ·rintro ⟨⟨(n:Int),(xs:List Int),(i:Int),⟨⟩⟩,⟨⟨(v:Int),(e:Int),⟨⟩⟩,⟨(b:List Int),(p:Int),⟨⟩⟩,⟨⟩⟩⟩ y hw hy
  obtain ⟨hg,hy⟩:=Tr.guard hy
  simp only[Bool.and_eq_true,decide_eq_true_eq,Bool.or_eq_true] at hg
  obtain ⟨h1,h2,h3,h4⟩:=hg
  have h1:i=0:=h1
  have h2:xs=[]:=List.eq_nil_of_length_eq_zero h2
  have h3:an b p=true:=h3
  have h4:n≤16∨e≠0:=h4
  subst h1
  subst h2
  refine ⟨n.toNat+1,(Si n v b (n.toNat+1) 0 [] (e,p) (by omega) (by omega) rfl h3 (fun he=>h4.resolve_right (fun h=>h he))).trans ?_⟩
  rw[← hy];rfl
 ·rintro ⟨⟨⟨⟩,⟨⟩,⟨⟩⟩,⟨⟨⟩,(v:Int),(e:Int),⟨⟩⟩,⟨(b:List Int),(p:Int),⟨⟩⟩,⟨⟩⟩ out hw ho
  obtain ⟨hg,ho⟩:=Tr.guard ho
  have hg:an b p=true:=hg
  cases ho
  refine (VK v e b p).trans ?_
  unfold IW
  show _=some (Out.ret (((bm b (e,p)).1,()),cB v b (bm b (e,p)).2))
  unfold bm eB
  refine (aa hg _ _).trans ?_
  have hr:an b (ac .i32 4 b (e,p)).2.2=true:=aL .i32 4 (s:=(e,p)) hg
  generalize ac .i32 4 b (e,p)=r at hr ⊢
  obtain ⟨n,e1,q⟩:=r
  have hr:an b q=true:=hr
  have key:∀e':Int,(e'=0→n≤16)→fT ((n,([],(0,()))),((v,(e',())),((b,(q,())),())))=.ite true (.ret (.ret ((),(((cS (ac .i64 8 b) n.toNat (e',q)).1,()),B0 v b (cS (ac .i64 8 b) n.toNat (e',q)).2)))) .no:=by
   intro e' he
   refine congrArg (fun c=>Tr.ite c _ _) ?_
   show (decide ((0:Int)=0)&&(decide (([]:List Int).length=0)&&(an b q&&(decide (n≤16) || decide (e'≠0)))))=true
   rw[hr]
   by_cases h:e'=0
   ·simp[he h]
   ·simp[h]
  unfold kr
  show (bif e1 != 0 then _ else _)=_
  by_cases h1:e1=0
  ·refine (ae (by simpa using h1) _ _).trans ?_
   show (bif decide (n<0) then _ else _)=_
   rw[if_pos h1]
   by_cases h2:n<0
   ·refine (aa (by simpa using h2) _ _).trans ?_
    show (fT ((n,([],(0,()))),((v,(5,())),((b,(q,())),())))).run _=_
    rw[key 5 (by omega),if_pos h2]
    rfl
   ·refine (ae (by simpa using h2) _ _).trans ?_
    show (bif decide (16<n) then _ else _)=_
    rw[if_neg h2]
    by_cases h3:16<n
    ·refine (aa (by simpa using h3) _ _).trans ?_
     show (fT ((n,([],(0,()))),((v,(9,())),((b,(q,())),())))).run _=_
     rw[key 9 (by omega),if_pos h3]
     rfl
    ·refine (ae (by simpa using h3) _ _).trans ?_
     show (fT ((n,([],(0,()))),((v,(e1,())),((b,(q,())),())))).run _=_
     rw[key e1 (by omega),if_neg h3]
     rfl
  ·refine (aa (by simpa using h1) _ _).trans ?_
   show (fT ((n,([],(0,()))),((v,(e1,())),((b,(q,())),())))).run _=_
   rw[key e1 (fun h=>absurd h h1),if_neg h1]
   rfl
abbrev be:Ty:=.prod (.int .i32) (.prod (.int .i16) (.prod (.sl 2 (.int .i64)) (.prod (.int .i64) (.prod (.int .i64) (.prod (.int .i32) .unit)))))
abbrev au:Ty:=.prod .str (.prod (.sl 233 be) .unit)
abbrev da:Ty:=.prod (.int .i32) (.prod (.sl 230 au) .unit)
def gP (v:Int)(p:be.den)(s:aV):aV:=bV v 3 3 p.2.2.2.2.2.1 4 (bV v 1 3 p.2.2.2.2.1 8 (bV v 1 3 p.2.2.2.1 8 (iM v 0 0 p.2.2.1 (ab p.2.1 2 (ab p.1 4 (s))))))
theorem Bk {s:aV}(v:Int)(p:be.den)(h:s.2.2.length≤130048):(gP v p s).2.2.length≤130048:=
 eO _ _ _ _ _ (eO _ _ _ _ _ (eO _ _ _ _ _ (Ig _ _ _ _ (av _ _ (av _ _ (h))))))
abbrev j9:Io:=⟨[.dat be true false,.ptr 0 0],lI,[],[],none⟩
def BF (d:j9.In):Tr j9.Res:=.ite (dW d.2.2) (.ret (.ret ((),dw d.2.2.1.2.1 (gP d.2.2.1.2.1 d.1.1 (dX d.2.2))))) .no
abbrev Er:List (Nat×Hc):=[(97,af i9 tF),(98,af cc dV),(111,af ja tG),(135,af wI UH),(95,af e7 ly)]
def Oy:Hd:=bR Er
def Ff:Lp:=bJ []
def wg (a0 a1:Int)(a2:List Int)(a3 a4 a5 a6 a7:Int)(a8:Bool)(a9:List Int)(a10:Int):Option j9.Res:=bif decide (a10=130048)&&decide (a9.length≤130048) then bif decide (130048=130048)&&decide ((ab a0 4 (a7,a8,a9)).2.2.length≤130048) then bif decide (130048=130048)&&decide ((ab a1 2 (ab a0 4 (a7,a8,a9))).2.2.length≤130048) then bif decide (0≤a6)&&decide (a6≤0) then bif decide (130048=130048)&&decide ((ab a1 2 (ab a0 4 (a7,a8,a9))).2.2.length≤130048) then bif decide (130048=130048)&&decide ((eK a2 (ab a1 2 (ab a0 4 (a7,a8,a9)))).2.2.length≤130048) then bif decide (1≤a6)&&decide (a6≤3) then bif decide (130048=130048)&&decide ((eK a2 (ab a1 2 (ab a0 4 (a7,a8,a9)))).2.2.length≤130048) then bif decide (130048=130048)&&decide ((ab a3 8 (eK a2 (ab a1 2 (ab a0 4 (a7,a8,a9))))).2.2.length≤130048) then bif decide (130048=130048)&&decide ((ab a4 8 (ab a3 8 (eK a2 (ab a1 2 (ab a0 4 (a7,a8,a9)))))).2.2.length≤130048) then bif decide (3≤a6)&&decide (a6≤3) then bif decide (130048=130048)&&decide ((ab a4 8 (ab a3 8 (eK a2 (ab a1 2 (ab a0 4 (a7,a8,a9)))))).2.2.length≤130048) then some (Out.ret ((),((),()),((),a6,(ab a5 4 (ab a4 8 (ab a3 8 (eK a2 (ab a1 2 (ab a0 4 (a7,a8,a9))))))).1,(ab a5 4 (ab a4 8 (ab a3 8 (eK a2 (ab a1 2 (ab a0 4 (a7,a8,a9))))))).2.1,()),((ab a5 4 (ab a4 8 (ab a3 8 (eK a2 (ab a1 2 (ab a0 4 (a7,a8,a9))))))).2.2,130048,()),())) else none else some (Out.ret ((),((),()),((),a6,(ab a4 8 (ab a3 8 (eK a2 (ab a1 2 (ab a0 4 (a7,a8,a9)))))).1,(ab a4 8 (ab a3 8 (eK a2 (ab a1 2 (ab a0 4 (a7,a8,a9)))))).2.1,()),((ab a4 8 (ab a3 8 (eK a2 (ab a1 2 (ab a0 4 (a7,a8,a9)))))).2.2,130048,()),())) else none else none else none else bif decide (130048=130048)&&decide ((eK a2 (ab a1 2 (ab a0 4 (a7,a8,a9)))).2.2.length≤130048) then bif decide (3≤a6)&&decide (a6≤3) then bif decide (130048=130048)&&decide ((eK a2 (ab a1 2 (ab a0 4 (a7,a8,a9)))).2.2.length≤130048) then some (Out.ret ((),((),()),((),a6,(ab a5 4 (eK a2 (ab a1 2 (ab a0 4 (a7,a8,a9))))).1,(ab a5 4 (eK a2 (ab a1 2 (ab a0 4 (a7,a8,a9))))).2.1,()),((ab a5 4 (eK a2 (ab a1 2 (ab a0 4 (a7,a8,a9))))).2.2,130048,()),())) else none else some (Out.ret ((),((),()),((),a6,(eK a2 (ab a1 2 (ab a0 4 (a7,a8,a9)))).1,(eK a2 (ab a1 2 (ab a0 4 (a7,a8,a9)))).2.1,()),((eK a2 (ab a1 2 (ab a0 4 (a7,a8,a9)))).2.2,130048,()),())) else none else none else none else bif decide (130048=130048)&&decide ((ab a1 2 (ab a0 4 (a7,a8,a9))).2.2.length≤130048) then bif decide (1≤a6)&&decide (a6≤3) then bif decide (130048=130048)&&decide ((ab a1 2 (ab a0 4 (a7,a8,a9))).2.2.length≤130048) then bif decide (130048=130048)&&decide ((ab a3 8 (ab a1 2 (ab a0 4 (a7,a8,a9)))).2.2.length≤130048) then bif decide (130048=130048)&&decide ((ab a4 8 (ab a3 8 (ab a1 2 (ab a0 4 (a7,a8,a9))))).2.2.length≤130048) then bif decide (3≤a6)&&decide (a6≤3) then bif decide (130048=130048)&&decide ((ab a4 8 (ab a3 8 (ab a1 2 (ab a0 4 (a7,a8,a9))))).2.2.length≤130048) then some (Out.ret ((),((),()),((),a6,(ab a5 4 (ab a4 8 (ab a3 8 (ab a1 2 (ab a0 4 (a7,a8,a9)))))).1,(ab a5 4 (ab a4 8 (ab a3 8 (ab a1 2 (ab a0 4 (a7,a8,a9)))))).2.1,()),((ab a5 4 (ab a4 8 (ab a3 8 (ab a1 2 (ab a0 4 (a7,a8,a9)))))).2.2,130048,()),())) else none else some (Out.ret ((),((),()),((),a6,(ab a4 8 (ab a3 8 (ab a1 2 (ab a0 4 (a7,a8,a9))))).1,(ab a4 8 (ab a3 8 (ab a1 2 (ab a0 4 (a7,a8,a9))))).2.1,()),((ab a4 8 (ab a3 8 (ab a1 2 (ab a0 4 (a7,a8,a9))))).2.2,130048,()),())) else none else none else none else bif decide (130048=130048)&&decide ((ab a1 2 (ab a0 4 (a7,a8,a9))).2.2.length≤130048) then bif decide (3≤a6)&&decide (a6≤3) then bif decide (130048=130048)&&decide ((ab a1 2 (ab a0 4 (a7,a8,a9))).2.2.length≤130048) then some (Out.ret ((),((),()),((),a6,(ab a5 4 (ab a1 2 (ab a0 4 (a7,a8,a9)))).1,(ab a5 4 (ab a1 2 (ab a0 4 (a7,a8,a9)))).2.1,()),((ab a5 4 (ab a1 2 (ab a0 4 (a7,a8,a9)))).2.2,130048,()),())) else none else some (Out.ret ((),((),()),((),a6,(ab a1 2 (ab a0 4 (a7,a8,a9))).1,(ab a1 2 (ab a0 4 (a7,a8,a9))).2.1,()),((ab a1 2 (ab a0 4 (a7,a8,a9))).2.2,130048,()),())) else none else none else none else none else none
theorem LU (a0 a1:Int)(a2:List Int)(a3 a4 a5 a6 a7:Int)(a8:Bool)(a9:List Int)(a10:Int):Io.run tt Oy dr Ff j9 Tryz.f134 (((a0,a1,a2,a3,a4,a5,()),(),()),((),()),((),a6,a7,a8,()),(a9,a10,()),())=wg a0 a1 a2 a3 a4 a5 a6 a7 a8 a9 a10:=by kernel_rfl
theorem PE:HcOk prog 134 (af j9 BF):=by
 refine ao (n:=400) hm (cs:=Er) (.cons sX (.cons bN (.cons qr (.cons Xb (.cons dR .nil))))) (lp:=Ff) (fn:=Tryz.f134) (by kernel_rfl) (by kernel_rfl) (by kernel_rfl) j9 (.done (by kernel_rfl)) BF ?_
 rintro ⟨⟨⟨(ix:Int),(cd:Int),(of:List Int),(ti:Int),(fo:Int),(ep:Int),⟨⟩⟩,⟨⟩,⟨⟩⟩,⟨⟨⟩,⟨⟩⟩,⟨⟨⟩,(v:Int),(e:Int),(f:Bool),⟨⟩⟩,⟨(b:List Int),(m:Int),⟨⟩⟩,⟨⟩⟩ out hw ho
 obtain ⟨hg,ho⟩:=Tr.guard ho
 obtain ⟨rfl,hb⟩:=bo (v:=v) (e:=e) (f:=f) hg
 cases ho
 refine (LU ix cd of ti fo ep v e f b 130048).trans ?_
 unfold wg
 have hg:∀s:aV,s.2.2.length≤130048→(decide ((130048:Int)=130048)&&decide (s.2.2.length≤130048))=true:=fun s h=>by simpa using h
 have hb:(e,(f,b)).2.2.length≤130048:=hb
 show _=some (Out.ret ((),dw v (gP v (ix,(cd,(of,(ti,(fo,(ep,())))))) (e,f,b))))
 refine (aa (hg _ hb) _ _).trans ?_
 have l0_1:=av ix 4 hb
 refine (aa (hg _ l0_1) _ _).trans ?_
 have l1_1:=av cd 2 l0_1
 refine (aa (hg _ l1_1) _ _).trans ?_
 by_cases h2_1:0≤v∧v≤0
 ·refine (aa (by simpa using h2_1) _ _).trans ?_
  refine (aa (hg _ l1_1) _ _).trans ?_
  have l2_1:=Gf of l1_1
  refine (aa (hg _ l2_1) _ _).trans ?_
  by_cases h3_2:1≤v∧v≤3
  ·refine (aa (by simpa using h3_2) _ _).trans ?_
   refine (aa (hg _ l2_1) _ _).trans ?_
   have l3_2:=av ti 8 l2_1
   refine (aa (hg _ l3_2) _ _).trans ?_
   have l4_3:=av fo 8 l3_2
   refine (aa (hg _ l4_3) _ _).trans ?_
   by_cases h5_3:3≤v∧v≤3
   ·refine (aa (by simpa using h5_3) _ _).trans ?_
    refine (aa (hg _ l4_3) _ _).trans ?_
    have l5_3:=av ep 4 l4_3
    simp only[gP,kp h2_1,bp h3_2,bp h3_2,bp h5_3]
   ·refine (ae (Bool.eq_false_iff.2 fun h'=>h5_3 (by simpa using h')) _ _).trans ?_
    simp only[gP,kp h2_1,bp h3_2,bp h3_2,aX h5_3]
  ·refine (ae (Bool.eq_false_iff.2 fun h'=>h3_2 (by simpa using h')) _ _).trans ?_
   refine (aa (hg _ l2_1) _ _).trans ?_
   by_cases h5_3:3≤v∧v≤3
   ·refine (aa (by simpa using h5_3) _ _).trans ?_
    refine (aa (hg _ l2_1) _ _).trans ?_
    have l5_3:=av ep 4 l2_1
    simp only[gP,kp h2_1,aX h3_2,aX h3_2,bp h5_3]
   ·refine (ae (Bool.eq_false_iff.2 fun h'=>h5_3 (by simpa using h')) _ _).trans ?_
    simp only[gP,kp h2_1,aX h3_2,aX h3_2,aX h5_3]
 ·refine (ae (Bool.eq_false_iff.2 fun h'=>h2_1 (by simpa using h')) _ _).trans ?_
  refine (aa (hg _ l1_1) _ _).trans ?_
  by_cases h3_2:1≤v∧v≤3
  ·refine (aa (by simpa using h3_2) _ _).trans ?_
   refine (aa (hg _ l1_1) _ _).trans ?_
   have l3_2:=av ti 8 l1_1
   refine (aa (hg _ l3_2) _ _).trans ?_
   have l4_3:=av fo 8 l3_2
   refine (aa (hg _ l4_3) _ _).trans ?_
   by_cases h5_3:3≤v∧v≤3
   ·refine (aa (by simpa using h5_3) _ _).trans ?_
    refine (aa (hg _ l4_3) _ _).trans ?_
    have l5_3:=av ep 4 l4_3
    simp only[gP,iZ h2_1,bp h3_2,bp h3_2,bp h5_3]
   ·refine (ae (Bool.eq_false_iff.2 fun h'=>h5_3 (by simpa using h')) _ _).trans ?_
    simp only[gP,iZ h2_1,bp h3_2,bp h3_2,aX h5_3]
  ·refine (ae (Bool.eq_false_iff.2 fun h'=>h3_2 (by simpa using h')) _ _).trans ?_
   refine (aa (hg _ l1_1) _ _).trans ?_
   by_cases h5_3:3≤v∧v≤3
   ·refine (aa (by simpa using h5_3) _ _).trans ?_
    refine (aa (hg _ l1_1) _ _).trans ?_
    have l5_3:=av ep 4 l1_1
    simp only[gP,iZ h2_1,aX h3_2,aX h3_2,bp h5_3]
   ·refine (ae (Bool.eq_false_iff.2 fun h'=>h5_3 (by simpa using h')) _ _).trans ?_
    simp only[gP,iZ h2_1,aX h3_2,aX h3_2,aX h5_3]
def pA (v:Int)(xs:List be.den)(s:aV):aV:=bk (gP v) xs s
abbrev oX:Io:=⟨[.ptr 0 0,.dat (.sl 233 be) false false,.fnc 134 false [2]],jh,[],[],none⟩
def Dp (d:oX.In):Tr oX.Res:=.ite (gt d.2) (.ret (.ret ((),d0 d.2.1.2.1 (pA d.2.1.2.1 d.1.2.1 (gu d.2))))) .no
abbrev KL:List (Nat×Hc):=[(194,af b9 d4),(98,af cc dV),(134,af j9 BF)]
theorem Lt:HcOk prog 133 (af oX Dp):=
 kO (one:=gP) (sps:=pA) (fun _ _ _=>rfl) (fun v _ _ h3=>Bk v _ h3) (cs:=KL) (.cons c7 (.cons bN (.cons PE .nil))) (fn:=Tryz.f133) (by kernel_rfl) (by kernel_rfl) (by kernel_rfl) (by kernel_rfl) (by kernel_rfl) (by kernel_rfl) (by intros;kernel_rfl) (by intros;kernel_rfl)
def yq (v:Int)(t:au.den)(s:aV):aV:=pA v t.2.1 (bn t.1 s)
abbrev ij:Io:=⟨[.dat au true false,.ptr 0 0],lI,[],[],none⟩
def vK (d:ij.In):Tr ij.Res:=.ite (dW d.2.2) (.ret (.ret ((),dw d.2.2.1.2.1 (yq d.2.2.1.2.1 d.1.1 (dX d.2.2))))) .no
abbrev z2:List (Nat×Hc):=[(101,af hY qP),(133,af oX Dp)]
def K1:Hd:=bR z2
def Ay:Lp:=bJ []
def tR (a0:List Int)(a1:List be.den)(a2 a3:Int)(a4:Bool)(a5:List Int)(a6:Int):Option ij.Res:=bif decide (a6=130048)&&decide (a5.length≤130048) then bif decide (130048=130048)&&decide ((bn a0 (a3,a4,a5)).2.2.length≤130048) then some (Out.ret ((),((),()),((),a2,(pA a2 a1 (bn a0 (a3,a4,a5))).1,(pA a2 a1 (bn a0 (a3,a4,a5))).2.1,()),((pA a2 a1 (bn a0 (a3,a4,a5))).2.2,130048,()),())) else none else none
theorem HX (a0:List Int)(a1:List be.den)(a2 a3:Int)(a4:Bool)(a5:List Int)(a6:Int):Io.run tt K1 dr Ay ij Tryz.f132 (((a0,a1,()),(),()),((),()),((),a2,a3,a4,()),(a5,a6,()),())=tR a0 a1 a2 a3 a4 a5 a6:=by kernel_rfl
theorem Lu:HcOk prog 132 (af ij vK):=by
 refine ao (n:=400) hm (cs:=z2) (.cons qs (.cons Lt .nil)) (lp:=Ay) (fn:=Tryz.f132) (by kernel_rfl) (by kernel_rfl) (by kernel_rfl) ij (.done (by kernel_rfl)) vK ?_
 rintro ⟨⟨⟨(t:List Int),(ps:List be.den),⟨⟩⟩,⟨⟩,⟨⟩⟩,⟨⟨⟩,⟨⟩⟩,⟨⟨⟩,(v:Int),(e:Int),(f:Bool),⟨⟩⟩,⟨(b:List Int),(m:Int),⟨⟩⟩,⟨⟩⟩ out hw ho
 obtain ⟨hg,ho⟩:=Tr.guard ho
 obtain ⟨rfl,hb⟩:=bo (v:=v) (e:=e) (f:=f) hg
 cases ho
 refine (HX t ps v e f b 130048).trans ?_
 unfold tR
 refine (aa (by simpa using hb) _ _).trans ?_
 refine (aa (by simpa using dd (s:=(e,f,b)) t hb) _ _).trans ?_
 rfl
theorem tz {s:aV}(v:Int)(t:au.den)(h:s.2.2.length≤130048):(yq v t s).2.2.length≤130048:=bF (fun x s=>Bk v x) _ (dd _ h)
def jO (v:Int)(xs:List au.den)(s:aV):aV:=bk (yq v) xs s
abbrev mO:Io:=⟨[.ptr 0 0,.dat (.sl 230 au) false false,.fnc 132 false [2]],jh,[],[],none⟩
def y9 (d:mO.In):Tr mO.Res:=.ite (gt d.2) (.ret (.ret ((),d0 d.2.1.2.1 (jO d.2.1.2.1 d.1.2.1 (gu d.2))))) .no
abbrev He:List (Nat×Hc):=[(194,af b9 d4),(98,af cc dV),(132,af ij vK)]
theorem qw:HcOk prog 131 (af mO y9):=
 kO (one:=yq) (sps:=jO) (fun _ _ _=>rfl) (fun v _ _ h3=>tz v _ h3) (cs:=He) (.cons c7 (.cons bN (.cons Lu .nil))) (fn:=Tryz.f131) (by kernel_rfl) (by kernel_rfl) (by kernel_rfl) (by kernel_rfl) (by kernel_rfl) (by kernel_rfl) (by intros;kernel_rfl) (by intros;kernel_rfl)
def iC (v:Int)(p:be.den)(s:aV):aV:=ap v (p.2.2.2.2.2.1 == 0) 3 3 (ap v ((p.2.2.2.1 == 0)&&(p.2.2.2.2.1 == 0)) 1 3 (ap v ((p.2.2.1.length:Int) == 0) 0 0 s))
abbrev ii:Io:=⟨[.ptr 0 0,.dat be true false],pD,[],[],none⟩
def vJ (d:ii.In):Tr ii.Res:=.ite (dW d.2) (.ret (.ret ((),cb d.2.1.2.1 (iC d.2.1.2.1 d.1.2.1 (dX d.2))))) .no
abbrev z1:List (Nat×Hc):=[(94,af d5 jk)]
def K0:Hd:=bR z1
def Ax:Lp:=bJ []
def tQ (a0 a1:Int)(a2:List Int)(a3 a4 a5 a6 a7:Int)(a8:Bool)(a9:List Int)(a10:Int):Option ii.Res:=bif decide (a10=130048)&&decide (a9.length≤130048) then bif a3 == 0 then bif decide (130048=130048)&&decide ((ap a6 ((↑a2.length:Int) == 0) 0 0 (a7,a8,a9)).2.2.length≤130048) then bif decide (130048=130048)&&decide ((ap a6 (a4 == 0) 1 3 (ap a6 ((↑a2.length:Int) == 0) 0 0 (a7,a8,a9))).2.2.length≤130048) then some (Out.ret ((),((),a6,(ap a6 (a5 == 0) 3 3 (ap a6 (a4 == 0) 1 3 (ap a6 ((↑a2.length:Int) == 0) 0 0 (a7,a8,a9)))).1,(ap a6 (a5 == 0) 3 3 (ap a6 (a4 == 0) 1 3 (ap a6 ((↑a2.length:Int) == 0) 0 0 (a7,a8,a9)))).2.1,()),((ap a6 (a5 == 0) 3 3 (ap a6 (a4 == 0) 1 3 (ap a6 ((↑a2.length:Int) == 0) 0 0 (a7,a8,a9)))).2.2,130048,()),())) else none else none else bif decide (130048=130048)&&decide ((ap a6 ((↑a2.length:Int) == 0) 0 0 (a7,a8,a9)).2.2.length≤130048) then bif decide (130048=130048)&&decide ((ap a6 false 1 3 (ap a6 ((↑a2.length:Int) == 0) 0 0 (a7,a8,a9))).2.2.length≤130048) then some (Out.ret ((),((),a6,(ap a6 (a5 == 0) 3 3 (ap a6 false 1 3 (ap a6 ((↑a2.length:Int) == 0) 0 0 (a7,a8,a9)))).1,(ap a6 (a5 == 0) 3 3 (ap a6 false 1 3 (ap a6 ((↑a2.length:Int) == 0) 0 0 (a7,a8,a9)))).2.1,()),((ap a6 (a5 == 0) 3 3 (ap a6 false 1 3 (ap a6 ((↑a2.length:Int) == 0) 0 0 (a7,a8,a9)))).2.2,130048,()),())) else none else none else none
theorem HW (a0 a1:Int)(a2:List Int)(a3 a4 a5 a6 a7:Int)(a8:Bool)(a9:List Int)(a10:Int):Io.run tt K0 dr Ax ii Tryz.f130 (((),(a0,a1,a2,a3,a4,a5,()),()),((),a6,a7,a8,()),(a9,a10,()),())=tQ a0 a1 a2 a3 a4 a5 a6 a7 a8 a9 a10:=by kernel_rfl
theorem sZ:HcOk prog 130 (af ii vJ):=by
 refine ao (n:=400) hm (cs:=z1) (.cons cH .nil) (lp:=Ax) (fn:=Tryz.f130) (by kernel_rfl) (by kernel_rfl) (by kernel_rfl) ii (.done (by kernel_rfl)) vJ ?_
 rintro ⟨⟨⟨⟩,⟨(ix:Int),(cd:Int),(of:List Int),(ti:Int),(fo:Int),(ep:Int),⟨⟩⟩,⟨⟩⟩,⟨⟨⟩,(v:Int),(e:Int),(f:Bool),⟨⟩⟩,⟨(b:List Int),(m:Int),⟨⟩⟩,⟨⟩⟩ out hw ho
 obtain ⟨hg,ho⟩:=Tr.guard ho
 obtain ⟨rfl,hb⟩:=bo (v:=v) (e:=e) (f:=f) hg
 cases ho
 refine (HW ix cd of ti fo ep v e f b 130048).trans ?_
 unfold tQ
 have hg:∀s:aV,s.2.2.length≤130048→(decide ((130048:Int)=130048)&&decide (s.2.2.length≤130048))=true:=fun s h=>by simpa using h
 have hb:(e,(f,b)).2.2.length≤130048:=hb
 show _=some (Out.ret ((),cb v (iC v (ix,(cd,(of,(ti,(fo,(ep,())))))) (e,f,b))))
 refine (aa (hg _ hb) _ _).trans ?_
 have q1:=ba (s:=(e,f,b)) v ((of.length:Int) == 0) 0 0 hb
 by_cases ht:ti=0
 ·refine (aa (by simpa using ht) _ _).trans ?_
  refine (aa (hg _ q1) _ _).trans ?_
  have q2:=ba (s:=ap v ((of.length:Int) == 0) 0 0 (e,f,b)) v (fo == 0) 1 3 q1
  refine (aa (hg _ q2) _ _).trans ?_
  subst ht
  rfl
 ·have ht':(ti == 0)=false:=by simpa using ht
  refine (ae ht' _ _).trans ?_
  refine (aa (hg _ q1) _ _).trans ?_
  have q2:=ba (s:=ap v ((of.length:Int) == 0) 0 0 (e,f,b)) v false 1 3 q1
  refine (aa (hg _ q2) _ _).trans ?_
  unfold iC
  dsimp only
  rw[ht']
  rfl
def fH (v:Int)(ps:List be.den)(s:aV):aV:=ps.foldl (fun s p=>iC v p s) s
def tw (v:Int)(ts:List au.den)(s:aV):aV:=ts.foldl (fun s t=>fH v t.2.1 s) s
def l7 (v:Int)(m:da.den):aV:=jO v m.2.1 (bV v 2 3 m.1 4 (tw v m.2.1 (ap v (m.1 == 0) 2 3 (aH v,(false,([]:List Int))))))
abbrev mN:Io:=⟨[dI,.dat da true false],[],[],[dO,dI],none⟩
def MX (d:mN.In):Tr mN.Res:=.ret (.ret ((bj (l7 d.1.1 d.1.2.1),(aM (l7 d.1.1 d.1.2.1),())),()))
abbrev u9:List (Nat×Hc):=[(93,af jb tH),(94,af d5 jk),(95,af e7 ly),(98,af cc dV),(130,af ii vJ),(131,af mO y9),(105,af fW nF)]
def Cc:Hd:=bR u9
abbrev fu:Lo:=⟨⟨(.any::bt (.one (.ptr 3 0)::bt (.one (.ptr 6 0)::dq (bQ (.one (.hol (.sl 230 au))::.one (.hol (.int IntKind.i64))::.one (.hol (.int IntKind.i64))::bQ (.one (.hol (.sl 233 be))::.one (.hol (.int IntKind.i64))::.one (.hol (.int IntKind.i64))::.any::ag (bQ (bt [])))))))),[none,none,none,some [.hol (.int IntKind.i32),.hol (.sl 230 au)],none,none,some [.ptr 12 0],none,none,none,none,none,some [.ptr 13 0,.hol (.int IntKind.i64),.hol (.int IntKind.i64),.hol .bool],some [.onl 5 (Ty.int IntKind.u8) 6658,.hol (.int IntKind.i64)]]⟩,[(.exit 2,⟨(.any::bt (.one (.ptr 3 0)::bt (.one (.ptr 6 0)::dq (bQ (.one (.hol (.sl 230 au))::.one (.hol (.int IntKind.i64))::.one (.hol (.int IntKind.i64))::ag (dq (bQ (bt [])))))))),[none,none,none,some [.hol (.int IntKind.i32),.hol (.sl 230 au)],none,none,some [.ptr 12 0],none,none,none,none,none,some [.ptr 13 0,.hol (.int IntKind.i64),.hol (.int IntKind.i64),.hol .bool],some [.onl 5 (Ty.int IntKind.u8) 6658,.hol (.int IntKind.i64)]]⟩)]⟩
abbrev fq:Lo:=⟨⟨(.any::bt (.one (.ptr 3 0)::bt (.one (.ptr 6 0)::dq (bQ (.one (.hol (.sl 230 au))::.one (.hol (.int IntKind.i64))::.one (.hol (.int IntKind.i64))::ag (dq (bQ (bt [])))))))),[none,none,none,some [.hol (.int IntKind.i32),.hol (.sl 230 au)],none,none,some [.ptr 12 0],none,none,none,none,none,some [.ptr 13 0,.hol (.int IntKind.i64),.hol (.int IntKind.i64),.hol .bool],some [.onl 5 (Ty.int IntKind.u8) 6658,.hol (.int IntKind.i64)]]⟩,[(.exit 0,⟨(.any::bt (.one (.ptr 3 0)::bt (.one (.ptr 6 0)::.any::ag (ag (dq (bQ [])))))),[none,none,none,some [.hol (.int IntKind.i32),.hol (.sl 230 au)],none,none,some [.ptr 12 0],none,none,none,none,none,some [.ptr 13 0,.hol (.int IntKind.i64),.hol (.int IntKind.i64),.hol .bool],some [.onl 5 (Ty.int IntKind.u8) 6658,.hol (.int IntKind.i64)]]⟩)]⟩
abbrev s8 (th':Int)(ts':List au.den)(v:Int)(s:aV):(Int×(List au.den×Unit))×(Unit×((Int×(Int×(Bool×Unit)))×((List Int×(Int×Unit))×Unit))):=((th',(ts',())),((),((v,(s.1,(s.2.1,()))),((s.2.2,(130048,())),()))))
def nN (d:fu.st.den):Tr (aJ fu.xs):=
 .ite (decide (d.1.2.2.2.2.2.1=0)&&(decide (d.1.2.2.2.2.1=(d.1.2.2.2.1.length:Int))&&(decide (d.2.2.2.2.1.2.1=130048)&&decide (d.2.2.2.2.1.1.length≤130048)))) (.ret (.ret ((),((d.1.1,(d.1.2.1,(d.1.2.2.1,()))),s8 d.2.1.1 d.2.1.2.1 d.2.2.2.1.1 (fH d.2.2.2.1.1 d.1.2.2.2.1 (d.2.2.2.1.2.1,(d.2.2.2.1.2.2.1,d.2.2.2.2.1.1))))))) .no
def nM (d:fq.st.den):Tr (aJ fq.xs):=
 .ite (decide (d.1.2.2.1=0)&&(decide (d.1.2.1=(d.1.1.length:Int))&&(decide (d.2.2.2.2.1.2.1=130048)&&decide (d.2.2.2.2.1.1.length≤130048)))) (.ret (.ret ((),((),s8 d.2.1.1 d.2.1.2.1 d.2.2.2.1.1 (tw d.2.2.2.1.1 d.1.1 (d.2.2.2.1.2.1,(d.2.2.2.1.2.2.1,d.2.2.2.2.1.1))))))) .no
def o9:Lp:=bJ [(5,bv fq nM),(8,bv fu nN)]
def uF {R:Type}(h13:List au.den)(h14 h15:Int)(h16:List be.den)(h17 h18 h19:Int)(h20:List au.den)(h21 h22:Int)(h23:Bool)(h24:List Int)(h25:Int)(next:List au.den→Int→Int→List be.den→Int→Int→Int→List au.den→Int→Int→Bool→List Int→Int→Option R)(out:aJ fu.xs→Option R):Option R:=bif decide (h18<h17) then bif decide (0≤h18)&&decide (h18<(↑h16.length:Int)) then bif decide (h25=130048)&&decide (h24.length≤130048) then next (h13) (h14) (h15) (h16) (h17) (IntKind.i64.wrap (h18+1)) (h19) (h20) (h21) ((iC h21 (h16.getD h18.toNat (0,0,[],0,0,0,())) (h22,h23,h24)).1) ((iC h21 (h16.getD h18.toNat (0,0,[],0,0,0,())) (h22,h23,h24)).2.1) ((iC h21 (h16.getD h18.toNat (0,0,[],0,0,0,())) (h22,h23,h24)).2.2) (130048) else none else none else out (.ret ((),((h13,(h14,(h15,()))),((h19,(h20,())),((),((h21,(h22,(h23,()))),((h24,(h25,())),())))))))
def sR (n:Nat)(h13:List au.den)(h14 h15:Int)(h16:List be.den)(h17 h18 h19:Int)(h20:List au.den)(h21 h22:Int)(h23:Bool)(h24:List Int)(h25:Int):Option (aJ fu.xs):=lD tt Cc dr o9 0 Tryz.f60 (Gw Tryz.f60 (gQ Tryz.f60 0) 0) n (fu.st.mk' ((h13,(h14,(h15,(h16,(h17,(h18,())))))),((h19,(h20,())),((),((h21,(h22,(h23,()))),((h24,(h25,())),())))))) (dc fu.xs)
theorem Md (n:Nat)(h13:List au.den)(h14 h15:Int)(h16:List be.den)(h17 h18 h19:Int)(h20:List au.den)(h21 h22:Int)(h23:Bool)(h24:List Int)(h25:Int):sR (n+1) h13 h14 h15 h16 h17 h18 h19 h20 h21 h22 h23 h24 h25=uF h13 h14 h15 h16 h17 h18 h19 h20 h21 h22 h23 h24 h25 (sR n) some:=by kernel_rfl
def uE {R:Type}(h3:List au.den)(h4 h5 h6:Int)(h7:List au.den)(h8 h9:Int)(h10:Bool)(h11:List Int)(h12:Int)(next:List au.den→Int→Int→Int→List au.den→Int→Int→Bool→List Int→Int→Option R)(out:aJ fq.xs→Option R):Option R:=bif decide (h5<h4) then bif decide (0≤h5)&&decide (h5<(↑h3.length:Int)) then (nN ((h3,(h4,(h5,((h3.getD h5.toNat ([],[],())).2.1,((↑(List.length (h3.getD h5.toNat ([],[],())).2.1):Int),(0,())))))),((h6,(h7,())),((),((h8,(h9,(h10,()))),((h11,(h12,())),())))))).run fun y=>match y with | .ret ((),((x49,x50,x51,()),(x52,x53,()),(),(x54,x55,x56,()),(x57,x58,()),()))=>(next (x49) (x50) (IntKind.i64.wrap (x51+1)) (x52) (x53) (x54) (x55) (x56) (x57) (x58)) else none else out (.ret ((),((),((h6,(h7,())),((),((h8,(h9,(h10,()))),((h11,(h12,())),())))))))
def o5 (n:Nat)(h3:List au.den)(h4 h5 h6:Int)(h7:List au.den)(h8 h9:Int)(h10:Bool)(h11:List Int)(h12:Int):Option (aJ fq.xs):=lD tt Cc dr o9 0 Tryz.f60 (gQ Tryz.f60 0) n (fq.st.mk' ((h3,(h4,(h5,()))),((h6,(h7,())),((),((h8,(h9,(h10,()))),((h11,(h12,())),())))))) (dc fq.xs)
theorem Mc (n:Nat)(h3:List au.den)(h4 h5 h6:Int)(h7:List au.den)(h8 h9:Int)(h10:Bool)(h11:List Int)(h12:Int):o5 (n+1) h3 h4 h5 h6 h7 h8 h9 h10 h11 h12=uE h3 h4 h5 h6 h7 h8 h9 h10 h11 h12 (o5 n) some:=by kernel_rfl
theorem Bh {s:aV}(v:Int)(p:be.den)(h:s.2.2.length≤130048):(iC v p s).2.2.length≤130048:=ba _ _ _ _ (ba _ _ _ _ (ba _ _ _ _ h))
theorem yo {s:aV}(v:Int)(ps:List be.den)(h:s.2.2.length≤130048):(fH v ps s).2.2.length≤130048:=eH (fun x s=>Bh v x) ps s h
theorem MA {s:aV}(v:Int)(ts:List au.den)(h:s.2.2.length≤130048):(tw v ts s).2.2.length≤130048:=eH (one:=fun (t:au.den) (s:aV)=>fH v t.2.1 s) (fun x s h=>yo v x.2.1 h) ts s h
theorem ET (us:List au.den)(n i th':Int)(ts':List au.den)(v:Int){ps:List be.den}(hl:ps.length≤maxLen):∀(k j:Nat) (s:aV),ps.length<j+k→j≤ps.length→s.2.2.length≤130048→
  sR k us n i ps (ps.length:Int) j th' ts' v s.1 s.2.1 s.2.2 130048=some (.ret ((),((us,(n,(i,()))),s8 th' ts' v ((ps.drop j).foldl (fun s p=>iC v p s) s)))):=by
 intro k
 have hg:∀s:aV,s.2.2.length≤130048→(decide ((130048:Int)=130048)&&decide (s.2.2.length≤130048))=true:=fun s h=>by simpa using h
 induction k with
 |zero=>intro j s h;omega
 |succ k ih=>
  intro j s h1 h2 q0
  rw[Md]
  unfold uF
  by_cases hi:j<ps.length
  ·refine (aa (decide_eq_true (show (j:Int)<(ps.length:Int) by omega)) _ _).trans ?_
   refine (aa (by simpa using hi) _ _).trans ?_
   simp only[Int.toNat_natCast,bh hi,bM hi hl]
   refine (aa (hg _ q0) _ _).trans ?_
   rw[List.drop_eq_getElem_cons hi]
   exact ih (j+1) (iC v ps[j] s) (by omega) (by omega) (Bh _ _ q0)
  ·refine (ae (by simp;omega) _ _).trans ?_
   rw[List.drop_of_length_le (by omega)]
   rfl
theorem ES {us:List au.den}(th':Int)(ts':List au.den)(v:Int)(hl:us.length≤maxLen):∀(k j:Nat) (s:aV),us.length<j+k→j≤us.length→s.2.2.length≤130048→
  o5 k us (us.length:Int) j th' ts' v s.1 s.2.1 s.2.2 130048=some (.ret ((),((),s8 th' ts' v ((us.drop j).foldl (fun s t=>fH v t.2.1 s) s)))):=by
 intro k
 induction k with
 |zero=>intro j s h;omega
 |succ k ih=>
  intro j s h1 h2 h3
  rw[Mc]
  unfold uE
  by_cases hi:j<us.length
  ·refine (aa (decide_eq_true (show (j:Int)<(us.length:Int) by omega)) _ _).trans ?_
   refine (aa (by simpa using hi) _ _).trans ?_
   simp only[Int.toNat_natCast,bh hi]
   have c1:(decide ((0:Int)=0)&&(decide ((us[j].2.1.length:Int)=(us[j].2.1.length:Int))&&(decide ((130048:Int)=130048)&&decide (s.2.2.length≤130048))))=true:=by simpa using h3
   have e1:nN ((us,((us.length:Int),((j:Int),(us[j].2.1,((us[j].2.1.length:Int),(0,())))))),((th',(ts',())),((),((v,(s.1,(s.2.1,()))),((s.2.2,(130048,())),())))))=
     .ite true (.ret (.ret ((),((us,((us.length:Int),((j:Int),()))),s8 th' ts' v (fH v us[j].2.1 s))))) .no:=congrArg (fun c=>Tr.ite c _ _) c1
   rw[e1]
   show o5 k us (us.length:Int) (IntKind.i64.wrap ((j:Int)+1)) th' ts' v (fH v us[j].2.1 s).1 (fH v us[j].2.1 s).2.1 (fH v us[j].2.1 s).2.2 130048=_
   rw[bM hi hl,List.drop_eq_getElem_cons hi]
   exact ih (j+1) (fH v us[j].2.1 s) (by omega) (by omega) (yo _ _ h3)
  ·refine (ae (by simp;omega) _ _).trans ?_
   rw[List.drop_of_length_le (by omega)]
   rfl
def zI (a0 a1:Int)(a2:List au.den):Option mN.Res:=(nM ((a2,((↑a2.length:Int),(0,()))),((a1,(a2,())),((),((a0,((ap a0 (a1 == 0) 2 3 (aH a0,false,[])).1,((ap a0 (a1 == 0) 2 3 (aH a0,false,[])).2.1,()))),(((ap a0 (a1 == 0) 2 3 (aH a0,false,[])).2.2,(130048,())),())))))).run fun y=>match y with | .ret ((),((),(x76,x77,()),(),(x78,x79,x80,()),(x81,x82,()),()))=>(bif decide (x82=130048)&&decide (x81.length≤130048) then bif decide (2≤x78)&&decide (x78≤3) then bif decide (130048=130048)&&decide (x81.length≤130048) then bif decide (130048=130048)&&decide ((ab x76 4 (x79,x80,x81)).2.2.length≤130048) then bif decide (130048=130048)&&decide ((jO x78 x77 (ab x76 4 (x79,x80,x81))).2.2.length≤130048) then some (Out.ret ((bj (jO x78 x77 (ab x76 4 (x79,x80,x81))),aM (jO x78 x77 (ab x76 4 (x79,x80,x81))),()),())) else none else none else none else bif decide (130048=130048)&&decide (x81.length≤130048) then bif decide (130048=130048)&&decide ((jO x78 x77 (x79,x80,x81)).2.2.length≤130048) then some (Out.ret ((bj (jO x78 x77 (x79,x80,x81)),aM (jO x78 x77 (x79,x80,x81)),()),())) else none else none else none)
theorem Qe (a0 a1:Int)(a2:List au.den):Io.run tt Cc dr o9 mN Tryz.f60 ((a0,(a1,a2,()),()),())=zI a0 a1 a2:=by kernel_rfl
theorem SA:HcOk prog 60 (af mN MX):=by
 refine ao (n:=400) hm (cs:=u9) (.cons fL (.cons cH (.cons dR (.cons bN (.cons sZ (.cons qw (.cons d2 .nil))))))) (lp:=o9) (fn:=Tryz.f60) (by kernel_rfl) (by kernel_rfl) (by kernel_rfl) mN (.step (h0:=bv fq nM) (by kernel_rfl) (aQ (n:=400) hm (cs:=u9) (.cons fL (.cons cH (.cons dR (.cons bN (.cons sZ (.cons qw (.cons d2 .nil))))))) (lp:=o9) (fn:=Tryz.f60) (.step (h0:=bv fu nN) (by kernel_rfl) (aQ (n:=400) hm (cs:=u9) (.cons fL (.cons cH (.cons dR (.cons bN (.cons sZ (.cons qw (.cons d2 .nil))))))) (lp:=o9) (fn:=Tryz.f60) (.done (by kernel_rfl)) fu nN ?_) (.done (by kernel_rfl))) fq nM ?_) (.done (by kernel_rfl))) MX ?_
 ·rintro ⟨⟨(us:List au.den),(n:Int),(i:Int),(ps:List be.den),(pn:Int),(pj:Int),⟨⟩⟩,⟨⟨(th':Int),(ts':List au.den),⟨⟩⟩,⟨⟩,⟨(v:Int),(e:Int),(f:Bool),⟨⟩⟩,⟨(b:List Int),(m:Int),⟨⟩⟩,⟨⟩⟩⟩ y hw hy
  obtain ⟨hg,hy⟩:=Tr.guard hy
  simp only[Bool.and_eq_true,decide_eq_true_eq] at hg
  obtain ⟨rfl,rfl,rfl,h4⟩:=hg
  have h4:b.length≤130048:=h4
  have hl:ps.length≤maxLen:=hw.1.2.2.2.1.1
  refine ⟨ps.length+1,(ET us n i th' ts' v hl (ps.length+1) 0 (e,(f,b)) (by omega) (by omega) h4).trans ?_⟩
  rw[← hy];rfl
 ·rintro ⟨⟨(us:List au.den),(n:Int),(i:Int),⟨⟩⟩,⟨⟨(th':Int),(ts':List au.den),⟨⟩⟩,⟨⟩,⟨(v:Int),(e:Int),(f:Bool),⟨⟩⟩,⟨(b:List Int),(m:Int),⟨⟩⟩,⟨⟩⟩⟩ y hw hy
  obtain ⟨hg,hy⟩:=Tr.guard hy
  simp only[Bool.and_eq_true,decide_eq_true_eq] at hg
  obtain ⟨rfl,rfl,rfl,h4⟩:=hg
  have h4:b.length≤130048:=h4
  have hl:us.length≤maxLen:=hw.1.1.1
  refine ⟨us.length+1,(ES th' ts' v hl (us.length+1) 0 (e,(f,b)) (by omega) (by omega) h4).trans ?_⟩
  rw[← hy];rfl
 ·rintro ⟨⟨(v:Int),⟨(th:Int),(ts:List au.den),⟨⟩⟩,⟨⟩⟩,⟨⟩⟩ out hw ho
  cases ho
  refine (Qe v th ts).trans ?_
  unfold zI
  have hg:∀s:aV,s.2.2.length≤130048→(decide ((130048:Int)=130048)&&decide (s.2.2.length≤130048))=true:=fun s h=>by simpa using h
  have q0:(aH v,(false,([]:List Int))).2.2.length≤130048:=by simp
  have q1:=ba (s:=(aH v,(false,([]:List Int)))) v (th == 0) 2 3 q0
  have c1:(decide ((0:Int)=0)&&(decide ((ts.length:Int)=(ts.length:Int))&&(decide ((130048:Int)=130048)&&decide ((ap v (th == 0) 2 3 (aH v,(false,([]:List Int)))).2.2.length≤130048))))=true:=by simpa using q1
  have e1:nM ((ts,((ts.length:Int),(0,()))),((th,(ts,())),((),((v,((ap v (th == 0) 2 3 (aH v,(false,([]:List Int)))).1,((ap v (th == 0) 2 3 (aH v,(false,([]:List Int)))).2.1,()))),(((ap v (th == 0) 2 3 (aH v,(false,([]:List Int)))).2.2,(130048,())),())))))=
    .ite true (.ret (.ret ((),((),s8 th ts v (tw v ts (ap v (th == 0) 2 3 (aH v,(false,([]:List Int))))))))) .no:=congrArg (fun c=>Tr.ite c _ _) c1
  rw[e1]
  have r0:=MA v ts q1
  refine (aa (hg _ r0) _ _).trans ?_
  by_cases h0_0:2≤v∧v≤3
  ·refine (aa (by simpa using h0_0) _ _).trans ?_
   refine (aa (hg _ r0) _ _).trans ?_
   have l0_0:=av th 4 r0
   refine (aa (hg _ l0_0) _ _).trans ?_
   have l1_1:=bF (fun x s=>tz v x) ts l0_0
   refine (aa (hg _ l1_1) _ _).trans ?_
   simp only[l7,bp h0_0]
  ·refine (ae (Bool.eq_false_iff.2 fun h'=>h0_0 (by simpa using h')) _ _).trans ?_
   refine (aa (hg _ r0) _ _).trans ?_
   have l1_1:=bF (fun x s=>tz v x) ts r0
   refine (aa (hg _ l1_1) _ _).trans ?_
   simp only[l7,aX h0_0]
@[irreducible] noncomputable def kw (v:Int)(b:List Int)(s:aC):be.den×aC:=
 (((ac .i32 4 b s).1,((ac .i16 2 b (ac .i32 4 b s).2).1,((cK v 0 0 b (ac .i16 2 b (ac .i32 4 b s).2).2).1,((aq .i64 8 v 1 3 b (cK v 0 0 b (ac .i16 2 b (ac .i32 4 b s).2).2).2).1,((aq .i64 8 v 1 3 b (aq .i64 8 v 1 3 b (cK v 0 0 b (ac .i16 2 b (ac .i32 4 b s).2).2).2).2).1,((aq .i32 4 v 3 3 b (aq .i64 8 v 1 3 b (aq .i64 8 v 1 3 b (cK v 0 0 b (ac .i16 2 b (ac .i32 4 b s).2).2).2).2).2).1,())))))),(aq .i32 4 v 3 3 b (aq .i64 8 v 1 3 b (aq .i64 8 v 1 3 b (cK v 0 0 b (ac .i16 2 b (ac .i32 4 b s).2).2).2).2).2).2)
theorem Bj {v:Int}{b:List Int}{s:aC}(h:an b s.2=true):an b (kw v b s).2.2=true:=by
 unfold kw
 exact ir (ir (ir (F6 (aL _ _ (aL _ _ (h))))))
abbrev hJ:Io:=⟨[.ptr 0 0],rJ,[],[.dat be true false],none⟩
def vD (d:hJ.In):Tr hJ.Res:=.ite (an d.2.2.2.1.1 d.2.2.2.1.2.1) (.ret (.ret (((kw d.2.2.1.2.1 d.2.2.2.1.1 (cx d.2.2)).1,()),dZ d.2.2.1.2.1 d.2.2.2.1.1 (kw d.2.2.1.2.1 d.2.2.2.1.1 (cx d.2.2)).2))) .no
abbrev zX:List (Nat×Hc):=[(142,af k7 yV),(143,af cC eT),(156,af k8 yW),(179,af wG UF),(140,af gY qN)]
def KW:Hd:=bR zX
def As:Lp:=bJ []
def tM (a0 a1:Int)(a2:List Int)(a3:Int):Option hJ.Res:=bif an a2 a3 then bif an a2 (ac IntKind.i32 4 a2 (a1,a3)).2.2 then bif aS a0 0 0 (ac IntKind.i16 2 a2 (ac IntKind.i32 4 a2 (a1,a3)).2).2.1 then bif an a2 (ac IntKind.i16 2 a2 (ac IntKind.i32 4 a2 (a1,a3)).2).2.2 then bif aS a0 1 3 (bm a2 (ac IntKind.i16 2 a2 (ac IntKind.i32 4 a2 (a1,a3)).2).2).2.1 then bif an a2 (bm a2 (ac IntKind.i16 2 a2 (ac IntKind.i32 4 a2 (a1,a3)).2).2).2.2 then bif an a2 (ac IntKind.i64 8 a2 (bm a2 (ac IntKind.i16 2 a2 (ac IntKind.i32 4 a2 (a1,a3)).2).2).2).2.2 then bif aS a0 3 3 (ac IntKind.i64 8 a2 (ac IntKind.i64 8 a2 (bm a2 (ac IntKind.i16 2 a2 (ac IntKind.i32 4 a2 (a1,a3)).2).2).2).2).2.1 then bif an a2 (ac IntKind.i64 8 a2 (ac IntKind.i64 8 a2 (bm a2 (ac IntKind.i16 2 a2 (ac IntKind.i32 4 a2 (a1,a3)).2).2).2).2).2.2 then some (Out.ret ((((ac IntKind.i32 4 a2 (a1,a3)).1,(ac IntKind.i16 2 a2 (ac IntKind.i32 4 a2 (a1,a3)).2).1,(bm a2 (ac IntKind.i16 2 a2 (ac IntKind.i32 4 a2 (a1,a3)).2).2).1,(ac IntKind.i64 8 a2 (bm a2 (ac IntKind.i16 2 a2 (ac IntKind.i32 4 a2 (a1,a3)).2).2).2).1,(ac IntKind.i64 8 a2 (ac IntKind.i64 8 a2 (bm a2 (ac IntKind.i16 2 a2 (ac IntKind.i32 4 a2 (a1,a3)).2).2).2).2).1,(ac IntKind.i32 4 a2 (ac IntKind.i64 8 a2 (ac IntKind.i64 8 a2 (bm a2 (ac IntKind.i16 2 a2 (ac IntKind.i32 4 a2 (a1,a3)).2).2).2).2).2).1,()),()),((),()),((),a0,(ac IntKind.i32 4 a2 (ac IntKind.i64 8 a2 (ac IntKind.i64 8 a2 (bm a2 (ac IntKind.i16 2 a2 (ac IntKind.i32 4 a2 (a1,a3)).2).2).2).2).2).2.1,()),(a2,(ac IntKind.i32 4 a2 (ac IntKind.i64 8 a2 (ac IntKind.i64 8 a2 (bm a2 (ac IntKind.i16 2 a2 (ac IntKind.i32 4 a2 (a1,a3)).2).2).2).2).2).2.2,()),())) else none else some (Out.ret ((((ac IntKind.i32 4 a2 (a1,a3)).1,(ac IntKind.i16 2 a2 (ac IntKind.i32 4 a2 (a1,a3)).2).1,(bm a2 (ac IntKind.i16 2 a2 (ac IntKind.i32 4 a2 (a1,a3)).2).2).1,(ac IntKind.i64 8 a2 (bm a2 (ac IntKind.i16 2 a2 (ac IntKind.i32 4 a2 (a1,a3)).2).2).2).1,(ac IntKind.i64 8 a2 (ac IntKind.i64 8 a2 (bm a2 (ac IntKind.i16 2 a2 (ac IntKind.i32 4 a2 (a1,a3)).2).2).2).2).1,0,()),()),((),()),((),a0,(ac IntKind.i64 8 a2 (ac IntKind.i64 8 a2 (bm a2 (ac IntKind.i16 2 a2 (ac IntKind.i32 4 a2 (a1,a3)).2).2).2).2).2.1,()),(a2,(ac IntKind.i64 8 a2 (ac IntKind.i64 8 a2 (bm a2 (ac IntKind.i16 2 a2 (ac IntKind.i32 4 a2 (a1,a3)).2).2).2).2).2.2,()),())) else none else none else bif aS a0 3 3 (bm a2 (ac IntKind.i16 2 a2 (ac IntKind.i32 4 a2 (a1,a3)).2).2).2.1 then bif an a2 (bm a2 (ac IntKind.i16 2 a2 (ac IntKind.i32 4 a2 (a1,a3)).2).2).2.2 then some (Out.ret ((((ac IntKind.i32 4 a2 (a1,a3)).1,(ac IntKind.i16 2 a2 (ac IntKind.i32 4 a2 (a1,a3)).2).1,(bm a2 (ac IntKind.i16 2 a2 (ac IntKind.i32 4 a2 (a1,a3)).2).2).1,0,0,(ac IntKind.i32 4 a2 (bm a2 (ac IntKind.i16 2 a2 (ac IntKind.i32 4 a2 (a1,a3)).2).2).2).1,()),()),((),()),((),a0,(ac IntKind.i32 4 a2 (bm a2 (ac IntKind.i16 2 a2 (ac IntKind.i32 4 a2 (a1,a3)).2).2).2).2.1,()),(a2,(ac IntKind.i32 4 a2 (bm a2 (ac IntKind.i16 2 a2 (ac IntKind.i32 4 a2 (a1,a3)).2).2).2).2.2,()),())) else none else some (Out.ret ((((ac IntKind.i32 4 a2 (a1,a3)).1,(ac IntKind.i16 2 a2 (ac IntKind.i32 4 a2 (a1,a3)).2).1,(bm a2 (ac IntKind.i16 2 a2 (ac IntKind.i32 4 a2 (a1,a3)).2).2).1,0,0,0,()),()),((),()),((),a0,(bm a2 (ac IntKind.i16 2 a2 (ac IntKind.i32 4 a2 (a1,a3)).2).2).2.1,()),(a2,(bm a2 (ac IntKind.i16 2 a2 (ac IntKind.i32 4 a2 (a1,a3)).2).2).2.2,()),())) else none else bif aS a0 1 3 (ac IntKind.i16 2 a2 (ac IntKind.i32 4 a2 (a1,a3)).2).2.1 then bif an a2 (ac IntKind.i16 2 a2 (ac IntKind.i32 4 a2 (a1,a3)).2).2.2 then bif an a2 (ac IntKind.i64 8 a2 (ac IntKind.i16 2 a2 (ac IntKind.i32 4 a2 (a1,a3)).2).2).2.2 then bif aS a0 3 3 (ac IntKind.i64 8 a2 (ac IntKind.i64 8 a2 (ac IntKind.i16 2 a2 (ac IntKind.i32 4 a2 (a1,a3)).2).2).2).2.1 then bif an a2 (ac IntKind.i64 8 a2 (ac IntKind.i64 8 a2 (ac IntKind.i16 2 a2 (ac IntKind.i32 4 a2 (a1,a3)).2).2).2).2.2 then some (Out.ret ((((ac IntKind.i32 4 a2 (a1,a3)).1,(ac IntKind.i16 2 a2 (ac IntKind.i32 4 a2 (a1,a3)).2).1,[],(ac IntKind.i64 8 a2 (ac IntKind.i16 2 a2 (ac IntKind.i32 4 a2 (a1,a3)).2).2).1,(ac IntKind.i64 8 a2 (ac IntKind.i64 8 a2 (ac IntKind.i16 2 a2 (ac IntKind.i32 4 a2 (a1,a3)).2).2).2).1,(ac IntKind.i32 4 a2 (ac IntKind.i64 8 a2 (ac IntKind.i64 8 a2 (ac IntKind.i16 2 a2 (ac IntKind.i32 4 a2 (a1,a3)).2).2).2).2).1,()),()),((),()),((),a0,(ac IntKind.i32 4 a2 (ac IntKind.i64 8 a2 (ac IntKind.i64 8 a2 (ac IntKind.i16 2 a2 (ac IntKind.i32 4 a2 (a1,a3)).2).2).2).2).2.1,()),(a2,(ac IntKind.i32 4 a2 (ac IntKind.i64 8 a2 (ac IntKind.i64 8 a2 (ac IntKind.i16 2 a2 (ac IntKind.i32 4 a2 (a1,a3)).2).2).2).2).2.2,()),())) else none else some (Out.ret ((((ac IntKind.i32 4 a2 (a1,a3)).1,(ac IntKind.i16 2 a2 (ac IntKind.i32 4 a2 (a1,a3)).2).1,[],(ac IntKind.i64 8 a2 (ac IntKind.i16 2 a2 (ac IntKind.i32 4 a2 (a1,a3)).2).2).1,(ac IntKind.i64 8 a2 (ac IntKind.i64 8 a2 (ac IntKind.i16 2 a2 (ac IntKind.i32 4 a2 (a1,a3)).2).2).2).1,0,()),()),((),()),((),a0,(ac IntKind.i64 8 a2 (ac IntKind.i64 8 a2 (ac IntKind.i16 2 a2 (ac IntKind.i32 4 a2 (a1,a3)).2).2).2).2.1,()),(a2,(ac IntKind.i64 8 a2 (ac IntKind.i64 8 a2 (ac IntKind.i16 2 a2 (ac IntKind.i32 4 a2 (a1,a3)).2).2).2).2.2,()),())) else none else none else bif aS a0 3 3 (ac IntKind.i16 2 a2 (ac IntKind.i32 4 a2 (a1,a3)).2).2.1 then bif an a2 (ac IntKind.i16 2 a2 (ac IntKind.i32 4 a2 (a1,a3)).2).2.2 then some (Out.ret ((((ac IntKind.i32 4 a2 (a1,a3)).1,(ac IntKind.i16 2 a2 (ac IntKind.i32 4 a2 (a1,a3)).2).1,[],0,0,(ac IntKind.i32 4 a2 (ac IntKind.i16 2 a2 (ac IntKind.i32 4 a2 (a1,a3)).2).2).1,()),()),((),()),((),a0,(ac IntKind.i32 4 a2 (ac IntKind.i16 2 a2 (ac IntKind.i32 4 a2 (a1,a3)).2).2).2.1,()),(a2,(ac IntKind.i32 4 a2 (ac IntKind.i16 2 a2 (ac IntKind.i32 4 a2 (a1,a3)).2).2).2.2,()),())) else none else some (Out.ret ((((ac IntKind.i32 4 a2 (a1,a3)).1,(ac IntKind.i16 2 a2 (ac IntKind.i32 4 a2 (a1,a3)).2).1,[],0,0,0,()),()),((),()),((),a0,(ac IntKind.i16 2 a2 (ac IntKind.i32 4 a2 (a1,a3)).2).2.1,()),(a2,(ac IntKind.i16 2 a2 (ac IntKind.i32 4 a2 (a1,a3)).2).2.2,()),())) else none else none
theorem HS (a0 a1:Int)(a2:List Int)(a3:Int):Io.run tt KW dr As hJ Tryz.f178 (((),()),((),()),((),a0,a1,()),(a2,a3,()),())=tM a0 a1 a2 a3:=by kernel_rfl
theorem Li:HcOk prog 178 (af hJ vD):=by
 refine ao (n:=400) hm (cs:=zX) (.cons CA (.cons dg (.cons xm (.cons W9 (.cons qq .nil))))) (lp:=As) (fn:=Tryz.f178) (by kernel_rfl) (by kernel_rfl) (by kernel_rfl) hJ (.done (by kernel_rfl)) vD ?_
 rintro ⟨⟨⟨⟩,⟨⟩⟩,⟨⟨⟩,⟨⟩⟩,⟨⟨⟩,(v:Int),(e:Int),⟨⟩⟩,⟨(b:List Int),(p:Int),⟨⟩⟩,⟨⟩⟩ out hw ho
 obtain ⟨hg,ho⟩:=Tr.guard ho
 have hg:an b p=true:=hg
 cases ho
 refine (HS v e b p).trans ?_
 unfold tM
 show _=some (Out.ret (((kw v b (e,p)).1,()),dZ v b (kw v b (e,p)).2))
 unfold kw
 have hg:an b ((e,p):aC).2=true:=hg
 refine (aa hg _ _).trans ?_
 have g0:an b (ac .i32 4 b ((e,p):aC)).2.2=true:=aL .i32 4 (s:=((e,p):aC)) hg
 refine (aa g0 _ _).trans ?_
 have g1:an b (ac .i16 2 b (ac .i32 4 b ((e,p):aC)).2).2.2=true:=aL .i16 2 (s:=(ac .i32 4 b ((e,p):aC)).2) g0
 show (bif aS v 0 0 (ac .i16 2 b (ac .i32 4 b ((e,p):aC)).2).2.1 then _ else _)=_
 cases h2:aS v 0 0 (ac .i16 2 b (ac .i32 4 b ((e,p):aC)).2).2.1
 ·have e2:cK v 0 0 b (ac .i16 2 b (ac .i32 4 b ((e,p):aC)).2).2=([],(ac .i16 2 b (ac .i32 4 b ((e,p):aC)).2).2):=by unfold cK;rw[if_neg (by rw[h2];decide)]
  rw[e2]
  show (bif aS v 1 3 (ac .i16 2 b (ac .i32 4 b ((e,p):aC)).2).2.1 then _ else _)=_
  cases hf3:aS v 1 3 (ac .i16 2 b (ac .i32 4 b ((e,p):aC)).2).2.1
  ·have ef3:aq .i64 8 v 1 3 b (ac .i16 2 b (ac .i32 4 b ((e,p):aC)).2).2=(0,(ac .i16 2 b (ac .i32 4 b ((e,p):aC)).2).2):=by unfold aq;rw[if_neg (by rw[hf3];decide)]
   rw[ef3]
   have eff4:aq .i64 8 v 1 3 b (ac .i16 2 b (ac .i32 4 b ((e,p):aC)).2).2=(0,(ac .i16 2 b (ac .i32 4 b ((e,p):aC)).2).2):=by unfold aq;rw[if_neg (by rw[hf3];decide)]
   rw[eff4]
   show (bif aS v 3 3 (ac .i16 2 b (ac .i32 4 b ((e,p):aC)).2).2.1 then _ else _)=_
   cases hff5:aS v 3 3 (ac .i16 2 b (ac .i32 4 b ((e,p):aC)).2).2.1
   ·have eff5:aq .i32 4 v 3 3 b (ac .i16 2 b (ac .i32 4 b ((e,p):aC)).2).2=(0,(ac .i16 2 b (ac .i32 4 b ((e,p):aC)).2).2):=by unfold aq;rw[if_neg (by rw[hff5];decide)]
    rw[eff5]
    rfl
   ·have eff5:aq .i32 4 v 3 3 b (ac .i16 2 b (ac .i32 4 b ((e,p):aC)).2).2=ac .i32 4 b (ac .i16 2 b (ac .i32 4 b ((e,p):aC)).2).2:=by unfold aq;rw[if_pos hff5]
    rw[eff5]
    refine (aa g1 _ _).trans ?_
    have gff5:an b (ac .i32 4 b (ac .i16 2 b (ac .i32 4 b ((e,p):aC)).2).2).2.2=true:=aL .i32 4 (s:=(ac .i16 2 b (ac .i32 4 b ((e,p):aC)).2).2) g1
    rfl
  ·have ef3:aq .i64 8 v 1 3 b (ac .i16 2 b (ac .i32 4 b ((e,p):aC)).2).2=ac .i64 8 b (ac .i16 2 b (ac .i32 4 b ((e,p):aC)).2).2:=by unfold aq;rw[if_pos hf3]
   rw[ef3]
   refine (aa g1 _ _).trans ?_
   have gf3:an b (ac .i64 8 b (ac .i16 2 b (ac .i32 4 b ((e,p):aC)).2).2).2.2=true:=aL .i64 8 (s:=(ac .i16 2 b (ac .i32 4 b ((e,p):aC)).2).2) g1
   have eft4:aq .i64 8 v 1 3 b (ac .i64 8 b (ac .i16 2 b (ac .i32 4 b ((e,p):aC)).2).2).2=ac .i64 8 b (ac .i64 8 b (ac .i16 2 b (ac .i32 4 b ((e,p):aC)).2).2).2:=xL (xM hf3) _
   rw[eft4]
   refine (aa gf3 _ _).trans ?_
   have gft4:an b (ac .i64 8 b (ac .i64 8 b (ac .i16 2 b (ac .i32 4 b ((e,p):aC)).2).2).2).2.2=true:=aL .i64 8 (s:=(ac .i64 8 b (ac .i16 2 b (ac .i32 4 b ((e,p):aC)).2).2).2) gf3
   show (bif aS v 3 3 (ac .i64 8 b (ac .i64 8 b (ac .i16 2 b (ac .i32 4 b ((e,p):aC)).2).2).2).2.1 then _ else _)=_
   cases hft5:aS v 3 3 (ac .i64 8 b (ac .i64 8 b (ac .i16 2 b (ac .i32 4 b ((e,p):aC)).2).2).2).2.1
   ·have eft5:aq .i32 4 v 3 3 b (ac .i64 8 b (ac .i64 8 b (ac .i16 2 b (ac .i32 4 b ((e,p):aC)).2).2).2).2=(0,(ac .i64 8 b (ac .i64 8 b (ac .i16 2 b (ac .i32 4 b ((e,p):aC)).2).2).2).2):=by unfold aq;rw[if_neg (by rw[hft5];decide)]
    rw[eft5]
    rfl
   ·have eft5:aq .i32 4 v 3 3 b (ac .i64 8 b (ac .i64 8 b (ac .i16 2 b (ac .i32 4 b ((e,p):aC)).2).2).2).2=ac .i32 4 b (ac .i64 8 b (ac .i64 8 b (ac .i16 2 b (ac .i32 4 b ((e,p):aC)).2).2).2).2:=by unfold aq;rw[if_pos hft5]
    rw[eft5]
    refine (aa gft4 _ _).trans ?_
    have gft5:an b (ac .i32 4 b (ac .i64 8 b (ac .i64 8 b (ac .i16 2 b (ac .i32 4 b ((e,p):aC)).2).2).2).2).2.2=true:=aL .i32 4 (s:=(ac .i64 8 b (ac .i64 8 b (ac .i16 2 b (ac .i32 4 b ((e,p):aC)).2).2).2).2) gft4
    rfl
 ·have e2:cK v 0 0 b (ac .i16 2 b (ac .i32 4 b ((e,p):aC)).2).2=bm b (ac .i16 2 b (ac .i32 4 b ((e,p):aC)).2).2:=by unfold cK;rw[if_pos h2]
  rw[e2]
  refine (aa g1 _ _).trans ?_
  have g2:an b (bm b (ac .i16 2 b (ac .i32 4 b ((e,p):aC)).2).2).2.2=true:=Ge (s:=(ac .i16 2 b (ac .i32 4 b ((e,p):aC)).2).2) g1
  show (bif aS v 1 3 (bm b (ac .i16 2 b (ac .i32 4 b ((e,p):aC)).2).2).2.1 then _ else _)=_
  cases ht3:aS v 1 3 (bm b (ac .i16 2 b (ac .i32 4 b ((e,p):aC)).2).2).2.1
  ·have et3:aq .i64 8 v 1 3 b (bm b (ac .i16 2 b (ac .i32 4 b ((e,p):aC)).2).2).2=(0,(bm b (ac .i16 2 b (ac .i32 4 b ((e,p):aC)).2).2).2):=by unfold aq;rw[if_neg (by rw[ht3];decide)]
   rw[et3]
   have etf4:aq .i64 8 v 1 3 b (bm b (ac .i16 2 b (ac .i32 4 b ((e,p):aC)).2).2).2=(0,(bm b (ac .i16 2 b (ac .i32 4 b ((e,p):aC)).2).2).2):=by unfold aq;rw[if_neg (by rw[ht3];decide)]
   rw[etf4]
   show (bif aS v 3 3 (bm b (ac .i16 2 b (ac .i32 4 b ((e,p):aC)).2).2).2.1 then _ else _)=_
   cases htf5:aS v 3 3 (bm b (ac .i16 2 b (ac .i32 4 b ((e,p):aC)).2).2).2.1
   ·have etf5:aq .i32 4 v 3 3 b (bm b (ac .i16 2 b (ac .i32 4 b ((e,p):aC)).2).2).2=(0,(bm b (ac .i16 2 b (ac .i32 4 b ((e,p):aC)).2).2).2):=by unfold aq;rw[if_neg (by rw[htf5];decide)]
    rw[etf5]
    rfl
   ·have etf5:aq .i32 4 v 3 3 b (bm b (ac .i16 2 b (ac .i32 4 b ((e,p):aC)).2).2).2=ac .i32 4 b (bm b (ac .i16 2 b (ac .i32 4 b ((e,p):aC)).2).2).2:=by unfold aq;rw[if_pos htf5]
    rw[etf5]
    refine (aa g2 _ _).trans ?_
    have gtf5:an b (ac .i32 4 b (bm b (ac .i16 2 b (ac .i32 4 b ((e,p):aC)).2).2).2).2.2=true:=aL .i32 4 (s:=(bm b (ac .i16 2 b (ac .i32 4 b ((e,p):aC)).2).2).2) g2
    rfl
  ·have et3:aq .i64 8 v 1 3 b (bm b (ac .i16 2 b (ac .i32 4 b ((e,p):aC)).2).2).2=ac .i64 8 b (bm b (ac .i16 2 b (ac .i32 4 b ((e,p):aC)).2).2).2:=by unfold aq;rw[if_pos ht3]
   rw[et3]
   refine (aa g2 _ _).trans ?_
   have gt3:an b (ac .i64 8 b (bm b (ac .i16 2 b (ac .i32 4 b ((e,p):aC)).2).2).2).2.2=true:=aL .i64 8 (s:=(bm b (ac .i16 2 b (ac .i32 4 b ((e,p):aC)).2).2).2) g2
   have ett4:aq .i64 8 v 1 3 b (ac .i64 8 b (bm b (ac .i16 2 b (ac .i32 4 b ((e,p):aC)).2).2).2).2=ac .i64 8 b (ac .i64 8 b (bm b (ac .i16 2 b (ac .i32 4 b ((e,p):aC)).2).2).2).2:=xL (xM ht3) _
   rw[ett4]
   refine (aa gt3 _ _).trans ?_
   have gtt4:an b (ac .i64 8 b (ac .i64 8 b (bm b (ac .i16 2 b (ac .i32 4 b ((e,p):aC)).2).2).2).2).2.2=true:=aL .i64 8 (s:=(ac .i64 8 b (bm b (ac .i16 2 b (ac .i32 4 b ((e,p):aC)).2).2).2).2) gt3
   show (bif aS v 3 3 (ac .i64 8 b (ac .i64 8 b (bm b (ac .i16 2 b (ac .i32 4 b ((e,p):aC)).2).2).2).2).2.1 then _ else _)=_
   cases htt5:aS v 3 3 (ac .i64 8 b (ac .i64 8 b (bm b (ac .i16 2 b (ac .i32 4 b ((e,p):aC)).2).2).2).2).2.1
   ·have ett5:aq .i32 4 v 3 3 b (ac .i64 8 b (ac .i64 8 b (bm b (ac .i16 2 b (ac .i32 4 b ((e,p):aC)).2).2).2).2).2=(0,(ac .i64 8 b (ac .i64 8 b (bm b (ac .i16 2 b (ac .i32 4 b ((e,p):aC)).2).2).2).2).2):=by unfold aq;rw[if_neg (by rw[htt5];decide)]
    rw[ett5]
    rfl
   ·have ett5:aq .i32 4 v 3 3 b (ac .i64 8 b (ac .i64 8 b (bm b (ac .i16 2 b (ac .i32 4 b ((e,p):aC)).2).2).2).2).2=ac .i32 4 b (ac .i64 8 b (ac .i64 8 b (bm b (ac .i16 2 b (ac .i32 4 b ((e,p):aC)).2).2).2).2).2:=by unfold aq;rw[if_pos htt5]
    rw[ett5]
    refine (aa gtt4 _ _).trans ?_
    have gtt5:an b (ac .i32 4 b (ac .i64 8 b (ac .i64 8 b (bm b (ac .i16 2 b (ac .i32 4 b ((e,p):aC)).2).2).2).2).2).2.2=true:=aL .i32 4 (s:=(ac .i64 8 b (ac .i64 8 b (bm b (ac .i16 2 b (ac .i32 4 b ((e,p):aC)).2).2).2).2).2) gtt4
    rfl
@[irreducible] noncomputable def fZ (v:Int)(b:List Int)(s:aC):List be.den×aC:=eB (kw v b) b s
theorem Iy {v:Int}{b:List Int}{s:aC}(h:an b s.2=true):an b (fZ v b s).2.2=true:=by
 unfold fZ
 exact gq (fun s h=>Bj h) h
abbrev mF:Io:=⟨[.ptr 0 0,.fnc 178 false [2]],n6,[],[.dat (.sl 233 be) false false],none⟩
def y5 (d:mF.In):Tr mF.Res:=.ite (an d.2.2.1.1 d.2.2.1.2.1) (.ret (.ret (((fZ d.2.1.2.1 d.2.2.1.1 (eQ d.2)).1,()),iF d.2.1.2.1 d.2.2.1.1 (fZ d.2.1.2.1 d.2.2.1.1 (eQ d.2)).2))) .no
abbrev G8:List (Nat×Hc):=[(143,af cC eT),(178,af hJ vD)]
theorem HD:HcOk prog 177 (af mF y5):=
 n4 (one:=kw) (sps:=fZ) (fun _ _ _=>by unfold fZ;rfl) (fun _ _ _ h4=>Bj h4) (cs:=G8) (.cons dg (.cons Li .nil)) (fn:=Tryz.f177) (by kernel_rfl) (by kernel_rfl) (by kernel_rfl) (by kernel_rfl) (by kernel_rfl) (by kernel_rfl) (by intros;kernel_rfl) (by intros;kernel_rfl)
@[irreducible] noncomputable def kx (v:Int)(b:List Int)(s:aC):au.den×aC:=(((bf b s).1,((fZ v b (bf b s).2).1,())),(fZ v b (bf b s).2).2)
theorem Bl {v:Int}{b:List Int}{s:aC}(h:an b s.2=true):an b (kx v b s).2.2=true:=by
 unfold kx
 exact Iy (fz h)
abbrev f9:Io:=⟨[.ptr 0 0],rJ,[],[.dat au true false],none⟩
def sm (d:f9.In):Tr f9.Res:=.ite (an d.2.2.2.1.1 d.2.2.2.1.2.1) (.ret (.ret (((kx d.2.2.1.2.1 d.2.2.2.1.1 (cx d.2.2)).1,()),dZ d.2.2.1.2.1 d.2.2.2.1.1 (kx d.2.2.1.2.1 d.2.2.2.1.1 (cx d.2.2)).2))) .no
abbrev wu:List (Nat×Hc):=[(146,af la yY),(177,af mF y5)]
def Hl:Hd:=bR wu
def xh:Lp:=bJ []
def q5 (a0 a1:Int)(a2:List Int)(a3:Int):Option f9.Res:=bif an a2 a3 then bif an a2 (bf a2 (a1,a3)).2.2 then some (Out.ret ((((bf a2 (a1,a3)).1,(fZ a0 a2 (bf a2 (a1,a3)).2).1,()),()),((),()),((),a0,(fZ a0 a2 (bf a2 (a1,a3)).2).2.1,()),(a2,(fZ a0 a2 (bf a2 (a1,a3)).2).2.2,()),())) else none else none
theorem FP (a0 a1:Int)(a2:List Int)(a3:Int):Io.run tt Hl dr xh f9 Tryz.f176 (((),()),((),()),((),a0,a1,()),(a2,a3,()),())=q5 a0 a1 a2 a3:=by kernel_rfl
theorem HE:HcOk prog 176 (af f9 sm):=by
 refine ao (n:=400) hm (cs:=wu) (.cons CD (.cons HD .nil)) (lp:=xh) (fn:=Tryz.f176) (by kernel_rfl) (by kernel_rfl) (by kernel_rfl) f9 (.done (by kernel_rfl)) sm ?_
 rintro ⟨⟨⟨⟩,⟨⟩⟩,⟨⟨⟩,⟨⟩⟩,⟨⟨⟩,(v:Int),(e:Int),⟨⟩⟩,⟨(b:List Int),(p:Int),⟨⟩⟩,⟨⟩⟩ out hw ho
 obtain ⟨hg,ho⟩:=Tr.guard ho
 have hg:an b p=true:=hg
 cases ho
 refine (FP v e b p).trans ?_
 unfold q5
 show _=some (Out.ret (((kx v b (e,p)).1,()),dZ v b (kx v b (e,p)).2))
 unfold kx
 refine (aa hg _ _).trans ?_
 exact aa (fz (s:=(e,p)) hg) _ _
@[irreducible] noncomputable def cm (v:Int)(b:List Int)(s:aC):List au.den×aC:=eB (kx v b) b s
theorem yr {v:Int}{b:List Int}{s:aC}(h:an b s.2=true):an b (cm v b s).2.2=true:=by
 unfold cm
 exact gq (fun s h=>Bl h) h
abbrev kK:Io:=⟨[.ptr 0 0,.fnc 176 false [2]],n6,[],[.dat (.sl 230 au) false false],none⟩
def vE (d:kK.In):Tr kK.Res:=.ite (an d.2.2.1.1 d.2.2.1.2.1) (.ret (.ret (((cm d.2.1.2.1 d.2.2.1.1 (eQ d.2)).1,()),iF d.2.1.2.1 d.2.2.1.1 (cm d.2.1.2.1 d.2.2.1.1 (eQ d.2)).2))) .no
abbrev Ek:List (Nat×Hc):=[(143,af cC eT),(176,af f9 sm)]
theorem Fz:HcOk prog 175 (af kK vE):=
 n4 (one:=kx) (sps:=cm) (fun _ _ _=>by unfold cm;rfl) (fun _ _ _ h4=>Bl h4) (cs:=Ek) (.cons dg (.cons HE .nil)) (fn:=Tryz.f175) (by kernel_rfl) (by kernel_rfl) (by kernel_rfl) (by kernel_rfl) (by kernel_rfl) (by kernel_rfl) (by intros;kernel_rfl) (by intros;kernel_rfl)
abbrev jx:Io:=⟨[.ptr 0 0,.fnc 176 false [1]],xk,[],[.dat (.sl 230 au) false false],none⟩
def tE (d:jx.In):Tr jx.Res:=.ite (decide (d.2.1.2.2.1≠0)) (.ret (.ret ((([]:List au.den),()),d.2))) .no
abbrev BV:List (Nat×Hc):=[(143,eR de (af er jY) (af cC eT))]
theorem CH:HcOk prog 175 (af jx tE):=
 vf (cs:=BV) (.cons (aZ jF dg) .nil) (fn:=Tryz.f175) (by kernel_rfl) (by kernel_rfl) (by kernel_rfl) (by kernel_rfl) (by kernel_rfl) (by kernel_rfl) (by intros;kernel_rfl) (by intros;kernel_rfl)
def Ux:da.den:=(0,(([]:List au.den),()))
def Dc (v:Int)(b:List Int)(s:aC):da.den×aC:=
 (((aq .i32 4 v 2 3 b s).1,((cm v b (aq .i32 4 v 2 3 b s).2).1,())),(cm v b (aq .i32 4 v 2 3 b s).2).2)
def l6 (v:Int)(b:List Int):da.den×Int:=if 0≤v∧v≤3∧(b.length:Int)≤130048 then (if aK b (Dc v b (0,0)).2=0 then ((Dc v b (0,0)).1,0) else (Ux,aK b (Dc v b (0,0)).2)) else (Ux,bB v)
abbrev j5:Io:=⟨[dI,dL],[],[],[.dat da true false,dI],none⟩
def Bz (d:j5.In):Tr j5.Res:=.ret (.ret (((l6 d.1.1 d.1.2.1).1,((l6 d.1.1 d.1.2.1).2,())),()))
abbrev Ej:List (Nat×Hc):=[(139,eR Cu (af iJ nE) (af k9 yX)),(140,eR de (af iI si) (af gY qN)),(143,eR de (af er jY) (af cC eT)),(175,eR de (af jx tE) (af kK vE)),(150,eR de (af iH sh) (af k6 yU))]
def Or:Hd:=bR Ej
def E8:Lp:=bJ []
def v9 (a0:Int)(a1:List Int):Option j5.Res:=bif !(decide (0≤a0)&&(decide (a0≤3)&&decide ((↑a1.length:Int)≤130048))) then bif decide (0≤a0)&&(decide (a0≤3)&&decide ((↑a1.length:Int)≤130048)) then none else bif decide (bB a0≠0) then bif decide (bB a0≠0) then bif decide (bB a0≠0) then bif bB a0 != 0 then some (Out.ret (((0,[],()),bB a0,()),())) else some (Out.ret (((0,[],()),0,()),())) else none else none else none else bif decide (0≤a0)&&(decide (a0≤3)&&decide ((↑a1.length:Int)≤130048)) then bif aS a0 2 3 0 then bif an a1 0 then bif an a1 (am a1 0 4).2.1 then bif aK a1 (cm a0 a1 ((am a1 0 4).2.2,(am a1 0 4).2.1)).2 != 0 then some (Out.ret (((0,[],()),aK a1 (cm a0 a1 ((am a1 0 4).2.2,(am a1 0 4).2.1)).2,()),())) else some (Out.ret (((IntKind.i32.wrap (am a1 0 4).1,(cm a0 a1 ((am a1 0 4).2.2,(am a1 0 4).2.1)).1,()),0,()),())) else none else none else bif an a1 0 then bif aK a1 (cm a0 a1 (0,0)).2 != 0 then some (Out.ret (((0,[],()),aK a1 (cm a0 a1 (0,0)).2,()),())) else some (Out.ret (((0,(cm a0 a1 (0,0)).1,()),0,()),())) else none else none
theorem LN (a0:Int)(a1:List Int):Io.run tt Or dr E8 j5 Tryz.f77 ((a0,a1,()),())=v9 a0 a1:=by kernel_rfl
theorem Px:HcOk prog 77 (af j5 Bz):=by
 refine ao (n:=400) hm (cs:=Ej) (.cons (aZ vm CC) (.cons (aZ vj qq) (.cons (aZ jF dg) (.cons (aZ CH Fz) (.cons (aZ vi Cz) .nil))))) (lp:=E8) (fn:=Tryz.f77) (by kernel_rfl) (by kernel_rfl) (by kernel_rfl) j5 (.done (by kernel_rfl)) Bz ?_
 rintro ⟨⟨(v:Int),(b:List Int),⟨⟩⟩,⟨⟩⟩ out hw ho
 cases ho
 refine (LN v b).trans ?_
 unfold v9
 show _=some (Out.ret (((l6 v b).1,((l6 v b).2,())),()))
 by_cases h:0≤v∧v≤3∧(b.length:Int)≤130048
 ·have hc:(decide (0≤v)&&(decide (v≤3)&&decide ((b.length:Int)≤130048)))=true:=by simpa using h
  refine (ae (by rw[hc];rfl) _ _).trans ?_
  refine (aa hc _ _).trans ?_
  have hg:an b ((0,0):aC).2=true:=by simp[an];omega
  unfold l6 Dc
  rw[if_pos h]
  show (bif aS v 2 3 ((0,0):aC).1 then _ else _)=_
  cases h0:aS v 2 3 ((0,0):aC).1
  ·have e0:aq .i32 4 v 2 3 b ((0,0):aC)=(0,((0,0):aC)):=by unfold aq;rw[if_neg (by rw[h0];decide)]
   rw[e0]
   refine (aa hg _ _).trans ?_
   have gf1:an b (cm v b ((0,0):aC)).2.2=true:=yr (s:=((0,0):aC)) hg
   show _=some (Out.ret (((if aK b (cm v b ((0,0):aC)).2=0 then _ else _:da.den×Int).1,_),()))
   by_cases hE:aK b (cm v b ((0,0):aC)).2=0
   ·rw[if_pos hE]
    exact ae (show (aK b (cm v b ((0,0):aC)).2 != 0)=false by simpa using hE) _ _
   ·rw[if_neg hE]
    exact aa (show (aK b (cm v b ((0,0):aC)).2 != 0)=true by simpa using hE) _ _
  ·have e0:aq .i32 4 v 2 3 b ((0,0):aC)=ac .i32 4 b ((0,0):aC):=by unfold aq;rw[if_pos h0]
   rw[e0]
   refine (aa hg _ _).trans ?_
   have g0:an b (ac .i32 4 b ((0,0):aC)).2.2=true:=aL .i32 4 (s:=((0,0):aC)) hg
   refine (aa g0 _ _).trans ?_
   have gt1:an b (cm v b (ac .i32 4 b ((0,0):aC)).2).2.2=true:=yr (s:=(ac .i32 4 b ((0,0):aC)).2) g0
   show _=some (Out.ret (((if aK b (cm v b (ac .i32 4 b ((0,0):aC)).2).2=0 then _ else _:da.den×Int).1,_),()))
   by_cases hE:aK b (cm v b (ac .i32 4 b ((0,0):aC)).2).2=0
   ·rw[if_pos hE]
    exact ae (show (aK b (cm v b (ac .i32 4 b ((0,0):aC)).2).2 != 0)=false by simpa using hE) _ _
   ·rw[if_neg hE]
    exact aa (show (aK b (cm v b (ac .i32 4 b ((0,0):aC)).2).2 != 0)=true by simpa using hE) _ _
 ·have hc:(decide (0≤v)&&(decide (v≤3)&&decide ((b.length:Int)≤130048)))=false:=by
   rw[Bool.eq_false_iff]
   intro h'
   simp only[Bool.and_eq_true,decide_eq_true_eq] at h'
   exact h h'
  have hn:bB v≠0:=by unfold bB;split <;> decide
  unfold l6
  rw[if_neg h]
  refine (aa (by rw[hc];rfl) _ _).trans ?_
  refine (ae hc _ _).trans ?_
  repeat refine (aa (decide_eq_true hn) _ _).trans ?_
  exact aa (by simpa using hn) _ _
@[irreducible] def qE (xs:List Int):Nd:=bw (xs.map (aF 4))
theorem pq (xs:List Int):qE xs=bw (xs.map (aF 4)):=by unfold qE;rfl
def Ur (x:Nd):Int:=x.lab.2.1
def VY (xs:List Int):List Int×Int:=cr (fun x=>(aE x 8,0)) xs
theorem QU {nm nm2:List Int}{lo hi lo2 hi2:Int}{e:List Fd}{v:Int}(xs:List Int):pv (bY nm 9 lo hi [bY nm2 4 lo2 hi2 e]) v (qE xs)=VY xs:=by
 rw[pq,dH]
 unfold VY
 exact bO fun x _=>bq (by decide) (w:=8) rfl (dk x)
theorem H9 {nm nm2:List Int}{lo hi lo2 hi2:Int}{e:List Fd}{v:Int}(xs:List Int):(db (bY nm 9 lo hi [bY nm2 4 lo2 hi2 e]) v (qE xs)).2=true:=by
 rw[pq,cw]
 exact List.all_eq_true.2 fun x _=>aD (by decide) (by decide)
theorem Gn {xs:List Int}:dJ (qE xs)=((xs.length:Int) == 0):=by
 rw[pq]
 unfold dJ
 by_cases h:xs=[]
 ·subst h;rfl
 ·have h1:(xs.map (aF 4)).length≠0:=by simpa using h
  have h2:((xs.length:Int) == 0)=false:=by simpa using h
  rw[h2]
  exact if_neg h1
theorem C9 {nm nm2:List Int}{lo hi lo2 hi2:Int}{e:List Fd}(xs:List Int):eC (bY nm 9 lo hi [bY nm2 4 lo2 hi2 e]) (qE xs):=by
 rw[pq]
 exact bW _ _ fun x=>aA (by decide) (by decide)
theorem Wri.ns (xs:List Int):Wri (VY xs) (eK xs):=Wri.items fun x _=>Wri.put x 8
theorem Wri.hasNs (v lo hi:Int)(xs:List Int):Wri (if lo≤v∧v≤hi then VY xs else ([],0)) (iM v lo hi xs):=by
 by_cases h:lo≤v∧v≤hi
 ·rw[if_pos h,show iM v lo hi xs=eK xs from funext fun s=>kp h]
  exact Wri.ns xs
 ·rw[if_neg h,show iM v lo hi xs=(fun s=>s) from funext fun s=>iZ h]
  exact Wri.nop
theorem Rd.ns {b:List Int}{xs:List Int}(hx:∀x∈xs,cT .i64 x):Rd b xs (VY xs) (bm b):=
 (Rd.list fun x h=>Rd.num (dm (hx x h))).congr fun s=>by unfold bm;rfl
theorem Rd.optNs {b:List Int}{xs:List Int}{v lo hi:Int}(hx:∀x∈xs,cT .i64 x)(h0:¬(lo≤v∧v≤hi)→xs=[]):Rd b xs (if lo≤v∧v≤hi then VY xs else ([],0)) (cK v lo hi b):=by
 by_cases h:lo≤v∧v≤hi
 ·rw[if_pos h]
  intro hz
  have hn:=Rd.ns (b:=b) hx hz
  refine ⟨fun p rest hp hd=>?_,fun p t hp ht hd=>?_,fun s hs=>?_⟩
  ·unfold cK
   rw[if_pos (lP h)];exact hn.full p rest hp hd
  ·unfold cK
   rw[if_pos (lP h)];exact hn.short p t hp ht hd
  ·unfold cK
   rw[if_neg (by rw[qA hs];decide)]
 ·rw[if_neg h]
  intro _
  refine Rea.nop b xs (fun p=>?_) (fun s hs=>?_)
  ·unfold cK
   rw[if_neg (by rw[ge h];decide),h0 h]
  ·unfold cK
   rw[if_neg (by rw[ge h];decide)]
theorem OM {c:Prop}[Decidable c]{x y:Bool}:(if c then true else (x&&y))=((if c then true else x)&&(if c then true else y)):=by split <;> rfl
abbrev JB:Lo:=⟨⟨(.one (.hol (.sl 2 (Ty.int IntKind.i64)))::.any::.one (.ptr 2 0)::.one (.onl 91 az 7)::.one (.hol (.int IntKind.i64))::.any::ag []),[none,none,some [.hol (.int IntKind.i64),.hol (.int IntKind.i64),.hol .bool,.onl 5 (Ty.int IntKind.u8) 1032,.onl 91 az 1034]]⟩,[(.exit 0,⟨(bt (.one (.ptr 2 0)::.one (.onl 91 az 7)::ag (bt []))),[none,none,some [.hol (.int IntKind.i64),.hol (.int IntKind.i64),.hol .bool,.onl 5 (Ty.int IntKind.u8) 1032,.onl 91 az 1034]]⟩)]⟩
def XC (d:JB.st.den):Tr (aJ JB.xs):=
 .ite ((decide (d.1.2.1.length=0)&&decide (d.1.2.2.1=0))&&decide (d.1.1.length≤4294967296)) (.ret (.ret ((),((d.1.1.map (aF 4),()),(d.2.1,()))))) .no
def Bg (p:be.den):Nd:=cj [aF 3 p.1,aF 2 p.2.1,qE p.2.2.1,aF 4 p.2.2.2.1,aF 4 p.2.2.2.2.1,aF 3 p.2.2.2.2.2.1]
def lu (t:au.den):Nd:=cj [kh t.1,bw (t.2.1.map Bg)]
@[irreducible] def oG (m:da.den):Nd:=cj [aF 3 m.1,bw (m.2.1.map lu)]
def Uw (x:Nd):be.den:=(IntKind.i32.wrap (cJ x 0).lab.2.1,(IntKind.i16.wrap (cJ x 1).lab.2.1,((cJ x 2).kids.map Ur,((cJ x 3).lab.2.1,((cJ x 4).lab.2.1,(IntKind.i32.wrap (cJ x 5).lab.2.1,()))))))
def VT (x:Nd):au.den:=((cJ x 0).lab.2.2.2.1,((cJ x 1).kids.map Uw,()))
def Gu (t:au.den):Bool:=decide (t.2.1.length≤4294967296)&&t.2.1.all fun p=>decide (p.2.2.1.length≤4294967296)
def Gv (l:List au.den):Bool:=decide (l.length≤4294967296)&&l.all Gu
abbrev uf:Lo:=⟨⟨(.any::.one (.ptr 1 0)::.one (.ptr 2 0)::.one (.onl 91 az 7)::.one (.hol (.int IntKind.i64))::.one (.onl 91 az 11)::.one (.hol (.int IntKind.i64))::ag (ag (ag (ag (ag []))))),[none,some [.hol (.int IntKind.i32),.hol (.sl 230 au)],some [.hol (.int IntKind.i64),.hol (.int IntKind.i64),.hol .bool,.onl 5 (Ty.int IntKind.u8) 1032,.onl 91 az 1034]]⟩,[(.exit 2,⟨(.any::.one (.ptr 1 0)::.one (.ptr 2 0)::.one (.onl 91 az 7)::.one (.hol (.int IntKind.i64))::.one (.onl 91 az 11)::.any::ag (ag (ag (ag (ag []))))),[none,some [.hol (.int IntKind.i32),.hol (.sl 230 au)],some [.hol (.int IntKind.i64),.hol (.int IntKind.i64),.hol .bool,.onl 5 (Ty.int IntKind.u8) 1032,.onl 91 az 1034]]⟩)]⟩
abbrev ue:Lo:=⟨⟨(.any::.one (.ptr 1 0)::.one (.ptr 2 0)::.one (.onl 91 az 7)::.one (.hol (.int IntKind.i64))::ag (ag (ag (ag (ag (bt [])))))),[none,some [.hol (.int IntKind.i32),.hol (.sl 230 au)],some [.hol (.int IntKind.i64),.hol (.int IntKind.i64),.hol .bool,.onl 5 (Ty.int IntKind.u8) 1032,.onl 91 az 1034]]⟩,[(.exit 0,⟨(.any::.one (.ptr 1 0)::.one (.ptr 2 0)::.one (.onl 91 az 7)::.any::ag (ag (ag (ag (ag (bt [])))))),[none,some [.hol (.int IntKind.i32),.hol (.sl 230 au)],some [.hol (.int IntKind.i64),.hol (.int IntKind.i64),.hol .bool,.onl 5 (Ty.int IntKind.u8) 1032,.onl 91 az 1034]]⟩)]⟩
def UR (d:uf.st.den):Tr (aJ uf.xs):=
 .ite ((decide ((0:Int)≤d.1.2.1)&&decide (d.1.2.1<(d.2.1.2.1.length:Int)))&&((decide (d.1.2.2.1.length=0)&&decide (d.1.2.2.2.1=0))&&Gu (d.2.1.2.1.getD d.1.2.1.toNat au.zero)))
  (.ret (.ret ((),((d.1.1,(d.1.2.1,((d.2.1.2.1.getD d.1.2.1.toNat au.zero).2.1.map Bg,()))),(d.2.1,(d.2.2.1,())))))) .no
def UQ (d:ue.st.den):Tr (aJ ue.xs):=
 .ite ((decide (d.1.1.length=0)&&decide (d.1.2.1=0))&&Gv d.2.1.2.1)
  (.ret (.ret ((),((d.2.1.2.1.map lu,()),(d.2.1,(d.2.2.1,())))))) .no
abbrev xe:Lo:=⟨⟨(bt (.one (.ptr 2 0)::.one (.ptr 3 0)::.one (.hol (.sl 91 az))::.one (.hol (.int IntKind.i64))::.one (.ptr 6 0)::.one (.hol (.sl 91 az))::.one (.hol (.int IntKind.i64))::.one (.ptr 9 0)::.one (.ptr 10 0)::.one (.hol (.sl 91 az))::.one (.hol (.int IntKind.i64))::ag (ag (ag (ag (ag (dq (bQ [])))))))),[none,none,some [.hol (.int IntKind.i32),.onl 230 au 1028],some [.hol (.int IntKind.i32),.onl 230 au 1540],none,none,some [.hol .str,.onl 233 be 3076],none,none,some [.hol (.int IntKind.i64),.hol (.int IntKind.i64),.hol .bool,.hol (.sl 5 (Ty.int IntKind.u8)),.hol (.sl 91 az)],some [.hol (.int IntKind.i32),.hol (.int IntKind.i16),.onl 2 (Ty.int IntKind.i64) 5126,.hol (.int IntKind.i64),.hol (.int IntKind.i64),.hol (.int IntKind.i32)]]⟩,[(.exit 4,⟨(bt (.one (.ptr 2 0)::.one (.ptr 3 0)::.one (.hol (.sl 91 az))::.one (.hol (.int IntKind.i64))::.one (.ptr 6 0)::.one (.hol (.sl 91 az))::.one (.hol (.int IntKind.i64))::.one (.ptr 9 0)::.one (.ptr 10 0)::ag (ag (ag (ag (ag (dq (bQ (bt []))))))))),[none,none,some [.hol (.int IntKind.i32),.onl 230 au 1028],some [.hol (.int IntKind.i32),.onl 230 au 1540],none,none,some [.hol .str,.onl 233 be 3076],none,none,some [.hol (.int IntKind.i64),.hol (.int IntKind.i64),.hol .bool,.hol (.sl 5 (Ty.int IntKind.u8)),.hol (.sl 91 az)],some [.hol (.int IntKind.i32),.hol (.int IntKind.i16),.onl 2 (Ty.int IntKind.i64) 5126,.hol (.int IntKind.i64),.hol (.int IntKind.i64),.hol (.int IntKind.i32)]]⟩)]⟩
abbrev xd:Lo:=⟨⟨(bt (.one (.ptr 2 0)::.one (.ptr 3 0)::.one (.hol (.sl 91 az))::.one (.hol (.int IntKind.i64))::.one (.ptr 6 0)::.one (.hol (.sl 91 az))::.one (.hol (.int IntKind.i64))::ag (ag (ag (ag (ag (ag ([])))))))),[none,none,some [.hol (.int IntKind.i32),.onl 230 au 1028],some [.hol (.int IntKind.i32),.onl 230 au 1540],none,none,some [.hol .str,.onl 233 be 3076]]⟩,[(.exit 2,⟨(bt (.one (.ptr 2 0)::.one (.ptr 3 0)::.one (.hol (.sl 91 az))::.one (.hol (.int IntKind.i64))::.one (.ptr 6 0)::ag (ag (ag (ag (ag (ag (bt [])))))))),[none,none,some [.hol (.int IntKind.i32),.onl 230 au 1028],some [.hol (.int IntKind.i32),.onl 230 au 1540],none,none,some [.hol .str,.onl 233 be 3076]]⟩)]⟩
abbrev An:Lo:=⟨⟨(bt (.one (.ptr 2 0)::.one (.ptr 3 0)::.one (.hol (.sl 91 az))::.one (.hol (.int IntKind.i64))::.any::ag (ag (ag (ag (ag (ag (bt [])))))))),[none,none,some [.hol (.int IntKind.i32),.onl 230 au 1028],some [.hol (.int IntKind.i32),.onl 230 au 1540]]⟩,[(.exit 0,⟨(bt (.one (.ptr 2 0)::.one (.ptr 3 0)::.any::ag (ag (ag (ag (ag (ag (bQ [])))))))),[none,none,some [.hol (.int IntKind.i32),.onl 230 au 1028],some [.hol (.int IntKind.i32),.onl 230 au 1540]]⟩)]⟩
def Wn (d:xe.st.den):Tr (aJ xe.xs):=
 .ite ((decide (d.1.2.2.2.2.2.1=0)&&decide (d.2.2.2.2.2.1.2.2.1.length=0))&&decide (d.1.2.2.2.2.1.length≤4294967296))
  (.ret (.ret ((),((d.1.1,(d.1.2.1,(d.1.2.2.1,(d.1.2.2.2.1,())))),(d.2.1,(d.2.2.1,(d.2.2.2.1,(d.2.2.2.2.1,((d.2.2.2.2.2.1.1,(d.2.2.2.2.2.1.2.1,(d.1.2.2.2.2.1.map Ur,d.2.2.2.2.2.1.2.2.2))),()))))))))) .no
def Wm (d:xd.st.den):Tr (aJ xd.xs):=
 .ite ((decide (d.1.2.2.2.1=0)&&decide (d.2.2.2.1.2.1.length=0))&&decide (cO d.1.2.2.1≤4294967296))
  (.ret (.ret ((),((d.1.1,(d.1.2.1,())),(d.2.1,(d.2.2.1,((d.2.2.2.1.1,(d.1.2.2.1.map Uw,())),()))))))) .no
def WE (d:An.st.den):Tr (aJ An.xs):=
 .ite ((decide (d.1.2.1=0)&&decide (d.2.2.1.2.1.length=0))&&decide (cO d.1.1≤4294967296))
  (.ret (.ret ((),((),(d.2.1,((d.2.2.1.1,(d.1.1.map VT,())),())))))) .no
@[irreducible] noncomputable def dN (v:Int)(m:da.den):List Int×Int:=qC 2 true v (oG m)
def Rh (v:Int)(p:be.den):List Int×Int:=aI (aE p.1 4,0) (aI (aE p.2.1 2,0) (aI (if 0≤v∧v≤0 then VY p.2.2.1 else ([],0)) (aI (if 1≤v∧v≤3 then (aE p.2.2.2.1 8,0) else ([],0)) (aI (if 1≤v∧v≤3 then (aE p.2.2.2.2.1 8,0) else ([],0)) (aI (if 3≤v∧v≤3 then (aE p.2.2.2.2.2.1 4,0) else ([],0)) ([],0))))))
def Ri (v:Int)(t:au.den):List Int×Int:=aI (gr t.1) (aI (cr (Rh v) t.2.1) ([],0))
def V2 (v:Int)(m:da.den):List Int×Int:=aI (if 2≤v∧v≤3 then (aE m.1 4,0) else ([],0)) (aI (cr (Ri v) m.2.1) (([],0)))
theorem Wri.orP (v:Int)(p:be.den):Wri (Rh v p) (gP v p):=(Wri.put p.1 4).seq ((Wri.put p.2.1 2).seq ((Wri.hasNs v 0 0 p.2.2.1).seq ((Wri.hasE v 1 3 p.2.2.2.1 8).seq ((Wri.hasE v 1 3 p.2.2.2.2.1 8).seq ((Wri.hasE v 3 3 p.2.2.2.2.2.1 4).seq (Wri.nop))))))
theorem Wri.orT (v:Int)(t:au.den):Wri (Ri v t) (yq v t):=(Wri.str _).seq ((Wri.items fun p hp=>Wri.orP v p).seq Wri.nop)
abbrev UZ:Fd:=bY [112,97,114,116] 10 0 3 [bY [105,110,100,101,120] 3 0 3 [],bY [99,111,100,101] 2 0 3 [],bY [111,102,102,115,101,116,115] 9 0 0 [bY [111,102,102,115,101,116] 4 0 0 []],bY [116,105,109,101] 4 1 3 [],bY [111,102,102,115,101,116] 4 1 3 [],bY [101,112,111,99,104] 3 3 3 []]
abbrev WU:Fd:=bY [116,111,112,105,99] 10 0 3 [bY [110,97,109,101] 5 0 3 [],bY [112,97,114,116,115] 9 0 3 [UZ]]
theorem TJ {v:Int}{p:be.den}(hv:0≤v∧v≤3)(h:be.wf p):pv UZ v (Bg p)=Rh v p:=by
 unfold Bg Rh
 rw[fY,aP (aw hv.1 hv.2),aP (aw hv.1 hv.2),gL,gL,gL,gL,bL,QU,bq (by decide) (w:=4) rfl (bD h.1),bq (by decide) (w:=2) rfl (ko h.2.1),bq (by decide) (w:=4) rfl (bD h.2.2.2.2.2.1),bq (by decide) (w:=8) rfl (dk p.2.2.2.1),bq (by decide) (w:=8) rfl (dk p.2.2.2.2.1)]
 try rfl
theorem TK {v:Int}{t:au.den}(hv:0≤v∧v≤3)(h:au.wf t):pv WU v (lu t)=Ri v t:=by
 unfold lu Ri
 rw[fY,aP (aw hv.1 hv.2),aP (aw hv.1 hv.2),bL,lV,dH,bO fun p hp=>TJ hv (h.2.1.2 p hp)]
def nu (v:Int)(p:be.den):Bool:=(if 0≤v∧v≤0 then true else ((p.2.2.1.length:Int) == 0))&&((if 1≤v∧v≤3 then true else (p.2.2.2.1 == 0))&&((if 1≤v∧v≤3 then true else (p.2.2.2.2.1 == 0))&&((if 3≤v∧v≤3 then true else (p.2.2.2.2.2.1 == 0)))))
theorem Mm {v:Int}{p:be.den}(hv:0≤v∧v≤3):(db UZ v (Bg p)).2=nu v p:=by
 unfold Bg nu
 rw[dv,aR (aw hv.1 hv.2),aR (aw hv.1 hv.2),cv,cv,cv,cv,ct,H9,aD (by decide) (by decide),aD (by decide) (by decide),aD (by decide) (by decide),aD (by decide) (by decide),aD (by decide) (by decide),Gn,bI,bI,bI]
 simp only[Bool.true_and,Bool.and_true]
theorem Mn {v:Int}{t:au.den}(hv:0≤v∧v≤3):(db WU v (lu t)).2=t.2.1.all (nu v):=by
 unfold lu
 rw[dv,aR (aw hv.1 hv.2),aR (aw hv.1 hv.2),ct,aD (by decide) (by decide),cw]
 simp only[Mm hv,Bool.true_and,Bool.and_true]
theorem Is (m:da.den):cN r6 [aF 3 m.1,bw (m.2.1.map lu)]:=by
 unfold r6 bH
 refine ar (aA (by decide) (by decide)) (ar ?_ bE)
 refine bW _ _ fun t=>cA rfl (ar (aA (by decide) (by decide)) (ar ?_ bE))
 exact bW _ _ fun p=>cA rfl (ar (aA (by decide) (by decide)) (ar (aA (by decide) (by decide)) (ar (C9 _) (ar (aA (by decide) (by decide)) (ar (aA (by decide) (by decide)) (ar (aA (by decide) (by decide)) bE))))))
def FC (v:Int)(m:da.den):Bool:=(if 2≤v∧v≤3 then true else (m.1 == 0))&&((m.2.1.all fun t=>t.2.1.all (nu v)))
theorem Mz {e v:Int}{p:be.den}:iC v p (e,(false,([]:List Int)))=(eX e (nu v p),(false,[])):=by
 unfold iC nu
 rw[b8,b8,b8,OM,ce,ce,Bool.and_assoc]
theorem yp {v:Int}:∀{ps:List be.den} {e:Int},fH v ps (e,(false,([]:List Int)))=(eX e (ps.all (nu v)),(false,[]))
 |[],e=>by rw[List.all_nil,eP];rfl
 |p::ps,e=>by
  show fH v ps (iC v p (e,(false,[])))=_
  rw[Mz,yp,ce,List.all_cons]
theorem Bi {v:Int}:∀{ts:List au.den} {e:Int},tw v ts (e,(false,([]:List Int)))=(eX e (ts.all fun t=>t.2.1.all (nu v)),(false,[]))
 |[],e=>by rw[List.all_nil,eP];rfl
 |t::ts,e=>by
  show tw v ts (fH v t.2.1 (e,(false,[])))=_
  rw[yp,Bi,ce,List.all_cons]
theorem WN {v:Int}{m:da.den}(hv:0≤v∧v≤3):(bS v r6 [aF 3 m.1,bw (m.2.1.map lu)]).2=FC v m:=by
 unfold r6 bH FC
 rw[cv,aR (aw hv.1 hv.2),ct,aD (by decide) (by decide),cw,bI]
 simp only[Mn hv,Bool.true_and,Bool.and_true,Bool.and_assoc]
theorem Xp {v:Int}{m:da.den}(hv:0≤v∧v≤3)(hm:da.wf m):bT v r6 [aF 3 m.1,bw (m.2.1.map lu)]=V2 v m:=by
 unfold r6 bH V2
 rw[gL,aP (aw hv.1 hv.2),bL,bq (by decide) (w:=4) rfl (bD hm.1),dH,bO fun t ht=>TK hv (hm.2.1.2 t ht)]
 try rfl
theorem HH {v:Int}{m:da.den}(hm:da.wf m):(bj (l7 v m),aM (l7 v m))=dN v m:=by
 unfold dN oG
 rw[jJ (t:=r6) rfl QJ rfl (Is m)]
 unfold l7
 rw[b8,Bi,ce]
 have hr:Wri (V2 v m) _:=(Wri.hasE v 2 3 m.1 4).seq ((Wri.items fun t ht=>Wri.orT v t).seq (Wri.nop))
 refine (hr.done _).trans ?_
 unfold aH
 by_cases hv:v<0∨3<v
 ·rw[if_pos hv,if_pos hv]
  exact if_pos (by simp[eX])
 rw[if_neg hv,if_neg hv]
 have hv':0≤v∧v≤3:=by omega
 rw[WN hv',Xp hv' hm]
 show (if eX 0 (FC v m)≠0 then _ else _)=_
 cases hz:FC v m
 ·exact (if_pos (by decide)).trans (show ([],eX 0 (FC v m))=_ by rw[hz];rfl)
 ·exact (if_neg (by decide)).trans (if_neg (by decide)).symm
abbrev nX:Io:=mN
def BB (d:nX.In):Tr nX.Res:=.ret (.ret (((dN d.1.1 d.1.2.1).1,((dN d.1.1 d.1.2.1).2,())),()))
theorem FA:HcOk prog 60 (af nX BB):=by
 refine HcOk.weakW SA ?_
 rintro ⟨⟨(v:Int),m,⟨⟩⟩,⟨⟩⟩ y hw hy
 rw[← hy]
 have h:=HH (v:=v) (m:=m) hw.1.2.1
 show some (Out.ret ((bj (l7 v m),(aM (l7 v m),())),()))=some (Out.ret (((dN v m).1,((dN v m).2,())),()))
 rw[← h]
theorem pi {v:Int}{p:be.den}(h:nu v p=true):(¬(0≤v∧v≤0)→p.2.2.1=[])∧(¬(1≤v∧v≤3)→p.2.2.2.1=0)∧(¬(1≤v∧v≤3)→p.2.2.2.2.1=0)∧(¬(3≤v∧v≤3)→p.2.2.2.2.2.1=0):=by
 unfold nu at h
 simp only[Bool.and_eq_true] at h
 exact ⟨fun hv=>by have h1:=h.1;rw[if_neg hv] at h1;simpa using h1,fun hv=>by have h1:=h.2.1;rw[if_neg hv] at h1;simpa using h1,fun hv=>by have h1:=h.2.2.1;rw[if_neg hv] at h1;simpa using h1,fun hv=>by have h1:=h.2.2.2;rw[if_neg hv] at h1;simpa using h1⟩
theorem Rd.orP {b:List Int}{p:be.den}{v:Int}(h:be.wf p)(hk:nu v p=true):Rd b p (Rh v p) (kw v b):=
 (Rd.seq (fun a r=>(a,r)) (Rd.num (bG h.1)) (Rd.seq (fun a r=>(a,r)) (Rd.num (gk h.2.1)) (Rd.seq (fun a r=>(a,r)) (Rd.optNs h.2.2.1.2 (pi hk).1) (Rd.seq (fun a r=>(a,r)) (Rd.opt (dm h.2.2.2.1) (pi hk).2.1) (Rd.seq (fun a r=>(a,r)) (Rd.opt (dm h.2.2.2.2.1) (pi hk).2.2.1) (Rd.seq (fun a r=>(a,r)) (Rd.opt (bG h.2.2.2.2.2.1) (pi hk).2.2.2) (Rd.nop b ()))))))).congr fun s=>by unfold kw;rfl
theorem Rd.orT {b:List Int}{t:au.den}{v:Int}(h:au.wf t)(hk:t.2.1.all (nu v)=true):Rd b t (Ri v t) (kx v b):=
 (Rd.seq (fun a r=>(a,r)) (Rd.txt t.1) (Rd.seq (fun a r=>(a,r)) (Rd.list fun p hp=>Rd.orP (h.2.1.2 p hp) (List.all_eq_true.1 hk p hp)) (Rd.nop b ()))).congr fun s=>by unfold kx fZ;rfl
end
end Go.Proofs.YtomeplopmndbgaaGreat.Sym
