/- A function that defers a closure which recovers. -/
import Derived.Test.YtnppjkijhcampaaSymS
import Derived.Recover

namespace Go.Proofs.Ytnppjkijhcampaa.Sym
open Go
set_option linter.unusedSimpArgs false
set_option linter.unusedVariables false

def seqL : Code → Code
  | .seq a _ => a
  | c => c
def seqR : Code → Code
  | .seq _ b => b
  | c => c
def condT : Code → Code
  | .cond _ t _ => t
  | c => c
def regOps : Code → Array Oper
  | .region _ ops _ => ops
  | _ => #[]
theorem noLoops {Pr : (Nat × Code × List (Nat × Nat)) → Prop} {lr l : Nat} {c : Code} {x : List (Nat × Nat)} (h : loopsOf lr c l x = []) : ∀ e ∈ loopsOf lr c l x, Pr e := by
  intro e he
  rw [h] at he
  cases he

noncomputable section
/-- Back in the function itself: its results. -/
def popK (tt : TT) (io : Io) (fn : Func) (A : AS) : Option io.Res := match A with
  | ⟨_, tm :: stk, ob⟩ => finRet tt io fn ⟨tm, stk, ob⟩
  | _ => none
/-- The deferred closure, with what it recovers; then the function's results. -/
def cloK (tt : TT) (hd : Hd) (okDraw : Dr) (kbG : Nat) (io : Io) (fn gfn : Func) (gops : Array Oper) (grest : Code) (ls : List Nat) (caps : List Cp) (rv : V) (A : AS) : Option io.Res :=
  evOps tt hd kbG gops ls ((⟨caps.map Cp.toV ++ List.replicate (gfn.ntmps - caps.length) .any, A.tm :: A.stk, A.ob⟩ : AS).put ((gops[0]?).bind (·.dst)) rv) fun ex A => match ex with
    | .normal => ev tt hd okDraw (fun _ => none) kbG 0 grest 0 [] A fun ex A => match ex with
      | .exit _ => none
      | .panic _ => none
      | _ => popK tt io fn A
    | _ => none
def defK (tt : TT) (hd : Hd) (okDraw : Dr) (kbG : Nat) (io : Io) (fn gfn : Func) (gops : Array Oper) (grest : Code) (ls : List Nat) (caps : List Cp) (ex : Ex) (A : AS) : Option io.Res :=
  match ex with
  | .exit _ => none
  | .panic v => cloK tt hd okDraw kbG io fn gfn gops grest ls caps v A
  | _ => cloK tt hd okDraw kbG io fn gfn gops grest ls caps (.one .nilif) A
/-- What is captured is objects alone, of keys below k. -/
def capsB (k : Nat) (caps : List Cp) : Bool := caps.all fun c => match c with
  | .ptr key _ => Nat.blt key k
  | .dat _ _ => false
def Io.runD (tt : TT) (hd : Hd) (okDraw : Dr) (lp : Lp) (kb2 kbG : Nat) (io : Io) (fn : Func) (g : Nat) (gfn : Func) (t : Nat) (d : io.In) : Option io.Res :=
  ev tt hd okDraw lp io.obs.length (lrOf fn) (seqL (fnCode fn)) (lrOf fn) [] (io.start fn.ntmps d) fun ex A => match ex with
    | .normal => evOps tt hd io.obs.length (regOps (seqL (seqR (fnCode fn)))) [0] A fun ex A => match ex with
      | .normal => match A.get t with
        | .one (.fn g' caps) => bif g' == g && capsB kb2 caps then
            ev tt hd okDraw lp kb2 (lrOf fn) (seqR (seqR (fnCode fn))) (lrOf fn) [] A
              (defK tt hd okDraw kbG io fn gfn (regOps (seqL (fnCode gfn))) (seqR (fnCode gfn)) ((List.range (regOps (seqL (fnCode gfn))).size).drop 1) caps) else none
        | _ => none
      | _ => none
    | _ => none

section
variable {P : Program} {tt : TT}
theorem evOps_app (htt : TTok P tt) {hd : Hd} (hh : HdOk P hd) {R : Type} {F : Fra} {cst : List (Array Value)} {kb : Nat} (hkb : ∀ d, F.mu0 (kb + d) = none) {ops : Array Oper} {r : R} {Q : Exit → Act → World → Prop} (l2 : List Nat) : ∀ (l : List Nat) {G : Gh} {A : AS} {a : Act} {w : World} {K : Ex → AS → Option R},
    evOps tt hd kb ops l A K = some r → Rel F G A a.tmps cst w →
    (∀ ex A' G' a' w', Rel F G' A' a'.tmps cst w' → a'.defers = a.defers → K ex A' = some r → match ex with
      | .normal => wpOps P ops Q l2 a' w'
      | .exit id => Q (.exit id) a' w'
      | .ret => Q .ret a' w'
      | .panic v => ∀ u, Rv G' w' v u → Q (.panic [{ v := u, recovered := false }]) a' w') → wpOps P ops Q (l ++ l2) a w
  | [], G, A, a, w, K, h, Rl, hK => hK .normal A G a w Rl rfl h
  | i :: is, G, A, a, w, K, h, Rl, hK => by
    simp only [evOps] at h
    simp only [List.cons_append, wpOps]
    split at h
    · cases h
    · rename_i o ho
      rw [ho]
      simp only
      rcases guarded_cases Rl h with ⟨hw, A1, R1, h1⟩ | ⟨hw, A1, R1, h1⟩
      · rw [if_pos hw]
        refine .inl (evOp_sound htt hh R1 hkb [] o h1 ?_)
        intro ex A' G' a' w' R' hd' hk
        cases ex with
        | normal => exact fun _ => evOps_app htt hh hkb l2 is hk R' (by rw [hd']; exact hK)
        | exit id => exact hK _ A' G' a' w' R' hd' hk
        | ret => exact hK _ A' G' a' w' R' hd' hk
        | panic v => exact hK _ A' G' a' w' R' hd' hk
      · rw [if_neg (by simp [hw])]
        exact evOps_app htt hh hkb l2 is h1 R1 (by rw [Act.put_defers']; exact hK)

theorem evOps_soundS (htt : TTok P tt) {hd : Hd} (hh : HdOk P hd) {R : Type} {F : Fra} {cst : List (Array Value)} {kb : Nat} (hkb : ∀ d, F.mu0 (kb + d) = none) {ops : Array Oper} {r : R} {Q : Exit → Act → List Frame → World → Prop} {cs : List Frame} : ∀ (l : List Nat) {G : Gh} {A : AS} {a : Act} {w : World} {K : Ex → AS → Option R},
    evOps tt hd kb ops l A K = some r → Rel F G A a.tmps cst w → Post F cst a.defers r K (fun e a w => Q e a cs w) → wpOpsS P ops Q l a cs w
  | [], G, A, a, w, K, h, Rl, hK => hK .normal A G a w Rl rfl h
  | i :: is, G, A, a, w, K, h, Rl, hK => by
    simp only [evOps] at h
    simp only [wpOpsS]
    split at h
    · cases h
    · rename_i o ho
      rw [ho]
      simp only
      rcases guarded_cases Rl h with ⟨hw, A1, R1, h1⟩ | ⟨hw, A1, R1, h1⟩
      · rw [if_pos hw]
        have hop : o.wp P a w (fun a' w' => wpOpsS P ops Q is a' cs w') (fun e a' w' => Q e a' cs w') := by
          refine evOp_sound htt hh R1 hkb [] o h1 ?_
          intro ex A' G' a' w' R' hd' hk
          cases ex with
          | normal => exact fun _ => evOps_soundS htt hh hkb is hk R' (by rw [hd']; exact hK)
          | exit id => exact hK _ A' G' a' w' R' hd' hk
          | ret => exact hK _ A' G' a' w' R' hd' hk
          | panic v => exact hK _ A' G' a' w' R' hd' hk
        unfold Oper.wp at hop
        split
        · rename_i w' e
          rw [e] at hop
          exact hop.elim
        · exact hop
      · rw [if_neg (by simp [hw])]
        exact evOps_soundS htt hh hkb is h1 R1 (by rw [Act.put_defers']; exact hK)

/-- The deferred closure comes to its end, and has recovered what there was. -/
theorem clo_sound (htt : TTok P tt) (hm : P.follows .mixedOrders = true) {hd : Hd} (hh : HdOk P hd) {okDraw : Dr} (hdr : DrawOk P tt okDraw) {kbG : Nat} {io : Io} {fn gfn : Func} {g : Nat} {i2 : Nat} {gops : Array Oper} {grest : Code} {ls : List Nat} {caps : List Cp}
    (hg : P.funcs[g]? = some gfn) (hgb : gfn.body = some (.seq (.region i2 gops false) grest)) (hls : List.range gops.size = 0 :: ls) {oo : Oper} (hoo : gops[0]? = some oo)
    (hop : oo.op = .call { callee := .builtin .recover, args := #[], argTypes := #[] }) (hgd : oo.guard = none) (hres : gfn.results = #[]) (hl2 : loopsOf 0 grest 0 [] = [])
    {F : Fra} {G : Gh} {A : AS} {ts : Array Value} {cst : List (Array Value)} {w : World} (hkb : ∀ d, F.mu0 (kbG + d) = none) {rv : V} {out : io.Res}
    (h : cloK tt hd okDraw kbG io fn gfn gops grest ls caps rv A = some out) (Rl : Rel F G A ts cst w) {vs : Array Value} (hvs : All2 (Rcp G w) caps vs.toList) {u : FrameMode}
    (hu : (u = .returning ∧ rv = .one .nilif) ∨ ∃ uv, u = .panicking [{ v := uv, recovered := false }] ∧ Rv G w rv uv) :
    CallsD P g vs u w fun e u' w' => e = .returned (.tuple #[]) ∧ settle u' = .returning ∧ ∃ G' A', Rel F G' A' ts cst w' ∧ finRet tt io fn A' = some out := by
  refine callsD_of_wpS hg hgb ?_
  intro c₀ cs hmode
  refine wpS_seq (wpS_region ?_)
  rw [hls]
  simp only [wpOpsS, hoo]
  rw [if_pos (by simp [Region.wanted, hgd])]
  generalize hA0 : ({ tmps := vs ++ Array.replicate (gfn.ntmps - vs.size) undef, defers := [] } : Act) = a0
  have hrun : (execOp a0.eval oo).run P w = .ok .recover w := by
    simp [execOp, hop, resolve, invoke, builtin]
  rw [hrun]
  simp only
  have R0 : Rel F G ⟨caps.map Cp.toV ++ List.replicate (gfn.ntmps - caps.length) .any, A.tm :: A.stk, A.ob⟩ a0.tmps (ts :: cst) w := by
    refine ⟨?_, ⟨Rl.tm, Rl.stk⟩, Rl.ob, Rl.gh⟩
    rw [← hA0]
    have hl := hvs.length
    simp only [Array.toList_append, Array.toList_replicate]
    refine All2.append (hvs.map_left _ fun c v hc => Cp.toV_sound hc) ?_
    rw [hl, Array.length_toList]
    generalize gfn.ntmps - vs.size = n
    induction n with
    | zero => exact trivial
    | succ n ih => exact ⟨trivial, ih⟩
  have hd0 : a0.defers = [] := by rw [← hA0]
  -- what is recovered, and how the caller's frame goes on
  obtain ⟨uv, c₁, hrec, huv, hset⟩ : ∃ uv u', (recoverD (c₀ :: cs) = some (uv, { c₀ with mode := u' } :: cs) ∨ (recoverD (c₀ :: cs) = none ∧ uv = .nilIface ∧ { c₀ with mode := u' } :: cs = c₀ :: cs)) ∧ Rv G w rv uv ∧ settle u' = .returning := by
    rcases hu with ⟨rfl, rfl⟩ | ⟨uv, rfl, huv⟩
    · refine ⟨.nilIface, .returning, .inr ⟨by simp [recoverD, hmode], rfl, ?_⟩, rfl, rfl⟩
      rw [← hmode]
    · exact ⟨uv, .panicking [{ v := uv, recovered := true }], .inl (by simp [recoverD, hmode]), huv, rfl⟩
  suffices hgoal : wpOpsS P gops (Exit.thenS (grest.wpS P (bodyPostS P gfn c₀ cs fun e u' w' => e = .returned (.tuple #[]) ∧ settle u' = .returning ∧ ∃ G' A', Rel F G' A' ts cst w' ∧ finRet tt io fn A' = some out)) (bodyPostS P gfn c₀ cs fun e u' w' => e = .returned (.tuple #[]) ∧ settle u' = .returning ∧ ∃ G' A', Rel F G' A' ts cst w' ∧ finRet tt io fn A' = some out)) ls (a0.put oo.dst uv) ({ c₀ with mode := c₁ } :: cs) w by
    rcases hrec with hrec | ⟨hrec, e1, e2⟩
    · rw [hrec]; exact hgoal
    · rw [hrec]; rw [e1, e2] at hgoal; exact hgoal
  unfold cloK at h
  rw [hoo] at h
  have R1 := R0.puts huv oo.dst
  refine evOps_soundS htt hh hkb ls h R1 ?_
  intro ex A2 G2 a2 w2 R2 hd2 h2
  cases ex with
  | normal =>
    refine wpS_of_wp (ev_sound htt hm hh hdr hkb (lp := fun _ => none) grest (noLoops hl2) h2 R2 ?_)
    intro ex A3 G3 a3 w3 R3 hd3 h3
    have fin : ∀ (hk : popK tt io fn A3 = some out),
        bodyPostS P gfn c₀ cs (fun e u' w' => e = .returned (.tuple #[]) ∧ settle u' = .returning ∧ ∃ G' A', Rel F G' A' ts cst w' ∧ finRet tt io fn A' = some out) .ret a3 ({ c₀ with mode := c₁ } :: cs) w3 := by
      intro hk
      obtain ⟨tm3, stk3, ob3⟩ := A3
      cases stk3 with
      | nil => cases hk
      | cons tm stk =>
        refine ⟨hd3.trans (hd2.trans ((Act.put_defers' _ _ _).trans hd0)), c₁, rfl, .tuple #[], by simp [results, hres], rfl, hset, G3, ⟨tm, stk, ob3⟩, ⟨R3.stk.1, R3.stk.2, R3.ob, R3.gh⟩, hk⟩
    cases ex with
    | normal => exact fin h3
    | ret => exact fin h3
    | exit i => cases h3
    | panic v => cases h3
  | exit i => cases h2
  | ret => cases h2
  | panic v => cases h2

theorem GhOk.withMu {F : Fra} {G : Gh} {w : World} (h : GhOk F G w) (m : Nat → Option Nat) (hm : ∀ key b, m key = some b → G.mu key = some b) : GhOk { F with mu0 := m } G w :=
  ⟨h.mu, h.muI, h.ow, h.owI, h.sB, ⟨h.fr.os, h.fr.tape, h.fr.output, h.fr.size, h.fr.block⟩, h.sub, h.sup, h.keep, hm⟩
theorem GhOk.back {F : Fra} {G : Gh} {w : World} {m : Nat → Option Nat} (h : GhOk { F with mu0 := m } G w) (hm : ∀ key b, F.mu0 key = some b → G.mu key = some b) : GhOk F G w :=
  ⟨h.mu, h.muI, h.ow, h.owI, h.sB, ⟨h.fr.os, h.fr.tape, h.fr.output, h.fr.size, h.fr.block⟩, h.sub, h.sup, h.keep, hm⟩
theorem defer_sound (htt : TTok P tt) (hm : P.follows .mixedOrders = true) {hd : Hd} (hh : HdOk P hd) {okDraw : Dr} (hdr : DrawOk P tt okDraw) {f : Nat} {fn : Func} (hf : P.funcs[f]? = some fn) (hname : (fn.name == "runtime.NumGoroutine") = false)
    (io : Io) {kb2 kbG : Nat} (hkb2 : io.obs.length ≤ kb2) (hkbG : kb2 ≤ kbG) {i1 : Nat} {ops1 : Array Oper} (hb : fn.body = some (.seq (seqL (fnCode fn)) (.seq (.region i1 ops1 false) (seqR (seqR (fnCode fn)))))) (he1 : regOps (seqL (seqR (fnCode fn))) = ops1) (hs1 : List.range ops1.size = [0] ++ [1])
    {o1 : Oper} {t : Nat} {aT : Array TypeId} (ho1 : ops1[1]? = some o1) (hop1 : o1.op = .defer { callee := .value (.tmp t), args := #[], argTypes := aT }) (hg1 : o1.guard = none) (hd1 : o1.dst = none)
    {lp : Lp} (hl0 : loopsOf (lrOf fn) (seqL (fnCode fn)) (lrOf fn) [] = []) (hlp : ∀ e ∈ loopsOf (lrOf fn) (seqR (seqR (fnCode fn))) (lrOf fn) [], ∀ h, lp (firstId e.2.1) = some h → LhOk P kb2 e.2.1 h)
    {g : Nat} {gfn : Func} {i2 : Nat} {gops : Array Oper} {grest : Code} (hg : P.funcs[g]? = some gfn) (hgn : (gfn.name == "runtime.NumGoroutine") = false) (hgb : gfn.body = some (.seq (.region i2 gops false) grest)) (hge : regOps (seqL (fnCode gfn)) = gops) (hgr : seqR (fnCode gfn) = grest)
    (hls : List.range gops.size = 0 :: (List.range gops.size).drop 1) {oo : Oper} (hoo : gops[0]? = some oo)
    (hop : oo.op = .call { callee := .builtin .recover, args := #[], argTypes := #[] }) (hgd : oo.guard = none) (hres : gfn.results = #[]) (hl2 : loopsOf 0 grest 0 [] = [])
    (Fn : io.In → Tr io.Res) (hF : ∀ d out, io.wf d → (Fn d).val = some out → io.runD tt hd okDraw lp kb2 kbG fn g gfn t d = some out) : HcOk P f (ioHd io Fn) := by
  refine io_soundG htt hf hname io Fn (fun d out hwf hout F G cst w vals R Rl hkb hend => ?_) (by rw [hb]; rfl)
  have hrun := hF d out hwf hout
  unfold Io.runD at hrun
  rw [he1, hge, hgr] at hrun
  have hfn : FnOk P g := ⟨gfn, hg, hgn, by rw [hgb]; rfl⟩
  refine calls_of_wp_defers hf hb ?_
  refine wp_seq (ev_sound htt hm hh hdr hkb _ (noLoops hl0) hrun Rl ?_)
  intro ex A1 G1 a1 w1 R1 hdf1 h1
  cases ex with
  | exit i => cases h1
  | ret => cases h1
  | panic v => cases h1
  | normal =>
  show (Code.seq (.region i1 ops1 false) (seqR (seqR (fnCode fn)))).wp P _ a1 w1
  refine wp_seq (wp_region ?_)
  rw [hs1]
  refine evOps_app htt hh hkb [1] [0] h1 R1 ?_
  intro ex A2 G2 a2 w2 R2 hdf2 h2
  cases ex with
  | exit i => cases h2
  | ret => cases h2
  | panic v => cases h2
  | normal =>
  simp only at h2
  split at h2
  rotate_left
  · cases h2
  rename_i g' caps eg
  cases hgg : g' == g && capsB kb2 caps with
  | false => rw [hgg] at h2; cases h2
  | true =>
  rw [hgg] at h2
  simp only [cond_true] at h2
  simp only [Bool.and_eq_true, beq_iff_eq] at hgg
  obtain ⟨hgg, hcb⟩ := hgg
  subst hgg
  have hv := R2.opd (.tmp t)
  rw [show opd A2 (.tmp t) = A2.get t from rfl, eg] at hv
  obtain ⟨vs, ev, hvs⟩ := hv
  simp only [wpOps, ho1]
  rw [if_pos (by simp [Region.wanted, hg1])]
  refine .inl ?_
  have hrun1 : (execOp a2.eval o1).run P w2 = .ok (.defer { target := .fn (.func g') vs, args := #[] }) w2 := by
    simp [execOp, hop1, resolve, ev, Deferred.ofValue]
  unfold Oper.wp
  rw [hrun1]
  simp only [Oper.upon, hd1]
  have hinv : (invoke (.fn (.func g') vs) #[]).run P = fun w => .ok (.enter g' vs) w := by
    funext w
    simp [invoke, hfn.run]
  show (seqR (seqR (fnCode fn))).wp P (bodyPostD P fn R) ({ a2 with defers := _ :: a2.defers } : Act) w2
  have hdf : a2.defers = [] := hdf2.trans hdf1
  rw [hdf]
  let m : Nat → Option Nat := fun key => if key < kb2 then G2.mu key else none
  have hm0 : ∀ key b, F.mu0 key = some b → m key = some b := fun key b hb => by
    have hlt : key < kb2 := by
      rcases Nat.lt_or_ge key io.obs.length with h | h
      · omega
      · have := hkb (key - io.obs.length)
        rw [show io.obs.length + (key - io.obs.length) = key by omega, hb] at this
        cases this
    show (if key < kb2 then G2.mu key else none) = some b
    rw [if_pos hlt]
    exact R2.gh.fix_ key b hb
  have hmk : ∀ kb, kb2 ≤ kb → ∀ d, ({ F with mu0 := m } : Fra).mu0 (kb + d) = none := fun kb hkb d => by
    show (if kb + d < kb2 then G2.mu (kb + d) else none) = none
    rw [if_neg (by omega)]
  have R2' : Rel { F with mu0 := m } G2 A2 a2.tmps cst w2 := ⟨R2.tm, R2.stk, R2.ob, R2.gh.withMu m fun key b hb => by
    have hb : (if key < kb2 then G2.mu key else none) = some b := hb
    split at hb
    · exact hb
    · cases hb⟩
  refine ev_sound htt hm hh hdr (hmk kb2 (Nat.le_refl _)) (lp := lp) _ hlp h2 (a := { a2 with defers := [{ target := .fn (.func g') vs, args := #[] }] }) R2' ?_
  intro ex A3 G3 a3 w3 R3 hdf3 h3
  have hvs3 : All2 (Rcp G3 w3) caps vs.toList := hvs.mono fun c hc v hv => by
    have hcc := List.all_eq_true.1 hcb c hc
    cases c with
    | ptr key off =>
      obtain ⟨b, hb, e⟩ := hv
      have hlt : key < kb2 := by simpa using hcc
      exact ⟨b, R3.gh.fix_ key b (by show (if key < kb2 then G2.mu key else none) = some b; rw [if_pos hlt]; exact hb), e⟩
    | dat t x => cases hcc
  have leave : ∀ (rv : V) (u : FrameMode), u ≠ .run → ((u = .returning ∧ rv = .one .nilif) ∨ ∃ uv, u = .panicking [{ v := uv, recovered := false }] ∧ Rv G3 w3 rv uv) →
      cloK tt hd okDraw kbG io fn gfn gops grest ((List.range gops.size).drop 1) caps rv A3 = some out → Leaves P fn a3.tmps R a3.defers u w3 := by
    intro rv u hne hu h
    rw [hdf3]
    refine leaves_cons hne (by rw [hinv]) ?_
    refine (clo_sound htt hm hh hdr hg hgb hls hoo hop hgd hres hl2 (hmk kbG hkbG) h R3 hvs3 hu).mono ?_
    rintro e u' w' ⟨rfl, hset, G', A', R', hfin⟩
    simp only
    rw [hset]
    exact hend .ret A' G' { tmps := a3.tmps, defers := [] } w' ⟨R'.tm, R'.stk, R'.ob, R'.gh.back fun key b hb => R'.gh.fix_ key b (hm0 key b hb)⟩ hfin
  cases ex with
  | exit i => cases h3
  | normal => exact leave _ _ (by simp) (.inl ⟨rfl, rfl⟩) h3
  | ret => exact leave _ _ (by simp) (.inl ⟨rfl, rfl⟩) h3
  | panic v => exact fun uv huv => leave _ _ (by simp) (.inr ⟨uv, rfl, huv⟩) h3
end
end
end Go.Proofs.Ytnppjkijhcampaa.Sym
