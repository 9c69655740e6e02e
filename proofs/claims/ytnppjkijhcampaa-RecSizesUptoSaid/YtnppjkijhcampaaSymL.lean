/- Soundness of the evaluator: operations in order, code, loops. -/
import Derived.Test.YtnppjkijhcampaaSymK

namespace Go.Proofs.Ytnppjkijhcampaa.Sym
open Go
set_option linter.unusedSimpArgs false
set_option linter.unusedVariables false

section
variable {P : Program} {tt : TT}

/-- What the continuation asks of the run. -/
def Post {R : Type} (F : Fra) (cst : List (Array Value)) (dfs : List Deferred) (r : R) (K : Ex → AS → Option R) (Q : Exit → Act → World → Prop) : Prop :=
  ∀ ex A' G' a' w', Rel F G' A' a'.tmps cst w' → a'.defers = dfs → K ex A' = some r →
    match ex with
    | .normal => Q .normal a' w'
    | .exit id => Q (.exit id) a' w'
    | .ret => Q .ret a' w'
    | .panic v => ∀ u, Rv G' w' v u → Q (.panic [{ v := u, recovered := false }]) a' w'

def FnOk (P : Program) (f : Nat) : Prop := ∃ fn, P.funcs[f]? = some fn ∧ (fn.name == "runtime.NumGoroutine") = false ∧ fn.body.isNone = false
theorem FnOk.run {f : Nat} (h : FnOk P f) (args : Array Value) (w : World) : (callFunc f args).run P w = .ok (.enter f args) w := by
  obtain ⟨fn, h1, h2, h3⟩ := h
  have h2' : ¬ fn.name = "runtime.NumGoroutine" := by simpa using h2
  have h3' : ¬ fn.body = none := by intro e; rw [e] at h3; cases h3
  simp [callFunc, program, Sem.run, h1, h2', h3']

/-- As Post; what is said of a step that goes on, U, may be used. -/
def PostU {R : Type} (F : Fra) (cst : List (Array Value)) (dfs : List Deferred) (r : R) (K : Ex → AS → Option R) (U : Gh → World → Prop) (N : Act → World → Prop) (Q : Exit → Act → World → Prop) : Prop :=
  ∀ ex A' G' a' w', Rel F G' A' a'.tmps cst w' → a'.defers = dfs → K ex A' = some r →
    match ex with
    | .normal => U G' w' → N a' w'
    | .exit id => Q (.exit id) a' w'
    | .ret => Q .ret a' w'
    | .panic v => ∀ u, Rv G' w' v u → Q (.panic [{ v := u, recovered := false }]) a' w'
/-- The protected cells and the objects under hid's keys are as they were. -/
def UntH (G : Gh) (hid : List Nat) (w : World) (G' : Gh) (w' : World) : Prop :=
  Kept G.S G'.S w w' ∧ ∀ key ∈ hid, ∀ b, G.mu key = some b → G'.mu key = some b ∧ w'.heap[b]? = w.heap[b]?
theorem UntH.refl (G : Gh) (hid : List Nat) (w : World) : UntH G hid w G w := ⟨.refl _ _, fun _ _ _ h => ⟨h, rfl⟩⟩
theorem Unt.hid {G G' : Gh} {w w' : World} {X : Nat → Prop} (h : Unt G G' X w w') {hid : List Nat} (hX : ∀ k ∈ hid, ¬ X k) : UntH G hid w G' w' := ⟨h.kept, fun key hk b hb => h.mu key b (hX key hk) hb⟩
/-- The keys that a call may have touched. -/
def inKs (ks : Option (List Nat)) (k : Nat) : Prop := ∀ l, ks = some l → k ∈ l
theorem hidC_sound {hid : List Nat} {ks : Option (List Nat)} (h : hidC hid ks = true) : ∀ k ∈ hid, ¬ inKs ks k := by
  intro k hk hin
  cases hid with
  | nil => cases hk
  | cons k0 hid =>
    cases ks with
    | none => cases h
    | some l =>
      simp only [hidC, Bool.not_eq_true', List.any_eq_false] at h
      have := h k hk
      simp only [List.any_eq_true, beq_iff_eq, exists_eq_right] at this
      exact this (hin l rfl)
theorem hidA_sound {A : AS} {hid : List Nat} {kb : Nat} {o : Oper} (h : hidA A hid kb o = true) : ∀ k ∈ hid, ¬ (stTouch A o.op k ∨ k = kb + o.dst.getD 0) := by
  intro k hk hin
  cases hid with
  | nil => cases hk
  | cons k0 hid =>
    unfold hidA at h
    simp only [Bool.and_eq_true, Bool.not_eq_true', List.any_eq_false] at h
    obtain ⟨h1, h2⟩ := h
    rcases hin with hin | hin
    · unfold stTouch at hin
      split at hin
      · rename_i t a x e
        simp only [e] at h2
        split at hin
        · rename_i j o' e2
          simp only [e2, Bool.not_eq_true', List.any_eq_false] at h2
          exact h2 k hk (by simp [hin])
        · rename_i hne
          split at h2
          · rename_i j o' e2
            exact hne _ _ e2
          · cases h2
      · exact hin
    · exact h1 k hk (by simp [hin])

/-- What a call of a function comes to. -/
def HdOk (P : Program) (hd : Hd) : Prop :=
  ∀ (R : Type) (f : Nat) (args : List V) (id : Nat) (A : AS) (K : Oc → AS → Option R) (r : R) (F : Fra) (G : Gh) (ts : Array Value) (cst : List (Array Value)) (w : World) (vals : Array Value),
    (∀ d, F.mu0 (id / 2 + d) = none) → hd R f args id A K = some r → Rel F G A ts cst w → All2 (Rv G w) args vals.toList → FnOk P f ∧
    Calls P f vals w fun e w' => ∃ G' A' v u, Rel F G' A' ts cst w' ∧ Rv G' w' v u ∧
      ((e = .returned u ∧ ∃ ks, Unt G G' (inKs ks) w w' ∧ K (.ret v ks) A' = some r) ∨ (e = .panicked [{ v := u, recovered := false }] ∧ K (.pan v) A' = some r))

theorem Act.put_defers' (a : Act) (d : Option Tmp) (v : Value) : (a.put d v).defers = a.defers := by cases d <;> rfl

theorem Cp.toV_sound {G : Gh} {w : World} {c : Cp} {u : Value} (h : Rcp G w c u) : Rv G w c.toV u := by
  cases c with
  | ptr k o => exact h
  | dat t x =>
    simp only [Cp.toV]
    have h' : Rt G.S w t x [u] := h
    have hs := toCs_sound (G := G) (w := w) t x [u] h'
    split
    · rename_i c e
      rw [e] at hs
      exact hs.1
    · trivial
theorem Cp.toVs_sound {G : Gh} {w : World} : ∀ {cs : List Cp} {us : List Value}, All2 (Rcp G w) cs us → All2 (Rv G w) (cs.map Cp.toV) us
  | [], [], _ => trivial
  | _ :: _, _ :: _, h => ⟨Cp.toV_sound h.1, Cp.toVs_sound h.2⟩
  | [], _ :: _, h => h.elim
  | _ :: _, [], h => h.elim
theorem opds_sound {G : Gh} {w : World} {A : AS} {a : Act} (hop : ∀ x, Rv G w (opd A x) (a.eval x)) : ∀ xs : List Operand, All2 (Rv G w) (xs.map (opd A)) (xs.map a.eval)
  | [] => trivial
  | x :: xs => ⟨hop x, opds_sound hop xs⟩

theorem decode_lt (s : ByteArray) (i : Nat) : (Utf8.decode s i).1 < 2097152 := by
  have hb : ∀ k, (s.get! k).toNat < 256 := fun k => (s.get! k).toNat_lt
  have h0 := hb (i + 0)
  have h1 := hb (i + 1)
  have h2 := hb (i + 2)
  have h3 := hb (i + 3)
  unfold Utf8.decode Utf8.runeError
  simp only
  repeat' split
  all_goals simp only
  all_goals omega
theorem evOp_sound (htt : TTok P tt) {hd : Hd} (hh : HdOk P hd) {R : Type} {F : Fra} {G : Gh} {A : AS} {a : Act} {cst : List (Array Value)} {w : World} (Rl : Rel F G A a.tmps cst w) {kb : Nat} (hkb : ∀ d, F.mu0 (kb + d) = none) (hid : List Nat) (o : Oper) {K : Ex → AS → Option R} {r : R}
    (h : evOp tt hd kb hid o A K = some r) {N : Act → World → Prop} {Q : Exit → Act → World → Prop} (hK : PostU F cst a.defers r K (UntH G hid w) N Q) : o.wp P a w N Q := by
  unfold evOp at h
  simp only [AS.putK_eq, AS.force_eq] at h
  unfold Oper.wp
  split at h
  · rename_i c x y hop
    have hc := Rl.opd c
    split at h
    · rename_i b e1
      rw [e1] at hc
      have hc' : a.eval c = .bool b := hc
      have hrun : (execOp a.eval o).run P w = .ok (.value (if b then a.eval x else a.eval y)) w := by
        simp only [execOp, hop, Sem.run_bind, hc', asBool, Sem.run_pure, Result.andThen_ok]
      rw [hrun]
      simp only [Oper.upon]
      cases b with
      | true => exact hK .normal _ _ _ _ (Rl.puts (Rl.opd x) o.dst) (Act.put_defers' _ _ _) h (.refl _ _ _)
      | false => exact hK .normal _ _ _ _ (Rl.puts (Rl.opd y) o.dst) (Act.put_defers' _ _ _) h (.refl _ _ _)
    · cases h
  · rename_i x hop
    have hx := Rl.opd x
    split at h
    · rename_i T t d e1
      rw [e1] at hx
      obtain ⟨u, eu, hu⟩ := hx
      have hrun : (execOp a.eval o).run P w = .halt (.panic (.iface T u)) w := by
        simp [execOp, hop, eu, Instr.panic, goPanic, Sem.run, Result.andThen]
      rw [hrun]
      simp only [Oper.upon]
      exact hK (.panic _) _ _ _ _ Rl rfl h (.iface T u) ⟨u, rfl, hu⟩
    · cases h
  · rename_i it str hop
    have hx := Rl.opd it
    split at h
    · rename_i k e1
      rw [e1] at hx
      obtain ⟨b, hb, eu⟩ := hx
      split at h
      · rename_i x hcs
        obtain ⟨b', o', hb', hh', ho⟩ := Rl.ob k _ hcs
        rw [hb] at hb'
        cases hb'
        rcases ho with ⟨cur, el, _, hr⟩ | ⟨s, n, e2, rfl, hbr, hlen⟩
        · match hcl : cur.toList, hr with
          | [], hr => exact hr.elim
          | _ :: _, hr => exact hr.1.elim
        · simp only [List.cons.injEq, C.itr.injEq, and_true] at e2
          subst e2
          simp only at h
          by_cases hlt : (n : Int) < (s.length : Int)
          · rw [decide_eq_true hlt] at h
            simp only [cond_true] at h
            have hlt' : n < (mkStr s).size := by rw [mkStr_size]; omega
            have hrun : (execOp a.eval o).run P w = .ok (.value (.tuple #[.bool true, .int .i64 n, .int .i32 (Utf8.decode (mkStr s) n).1])) { w with heap := w.heap.setIfInBounds b (.stringIter (mkStr s) (n + (Utf8.decode (mkStr s) n).2)) } := by
              simp [execOp, hop, eu, Instr.next, getObj, setObj, Sem.run, hh', Result.andThen, hlt', goInt]
            rw [hrun]
            simp only [Oper.upon]
            have hbs : b < w.heap.size := (Rl.gh.mu k b hb).2.2
            have hwr : Wrote w { w with heap := w.heap.setIfInBounds b (.stringIter (mkStr s) (n + (Utf8.decode (mkStr s) n).2)) } b :=
              ⟨rfl, rfl, rfl, by simp, fun j hj => by simp [Array.getElem?_setIfInBounds, Ne.symm hj]⟩
            have R' := Rl.storeObj hb hwr (cs := [.itr (s, (n : Int) + (spRune s n).2)]) (o := .stringIter (mkStr s) (n + (Utf8.decode (mkStr s) n).2)) (by simp [Array.getElem?_setIfInBounds, hbs])
              (.inr ⟨s, n + (Utf8.decode (mkStr s) n).2, by simp [spRune_nat], rfl, hbr, hlen⟩)
            have hun := (Goes.store Rl.gh hb hwr).kept
            refine hK .normal _ _ _ _ (R'.puts (v := .tup [(false, [.bool true]), (false, [.int .i64 n]), (false, [.int .i32 (spRune s n).1])]) ⟨_, rfl, ?_⟩ o.dst) (Act.put_defers' _ _ _) h ⟨hun, fun _ hk => by cases hk⟩
            refine ⟨.inr ⟨rfl, _, rfl, rfl⟩, .inr ⟨rfl, _, rfl, rfl, ?_⟩, .inr ⟨rfl, _, rfl, ?_, ?_⟩, trivial⟩
            · unfold maxLen at hlen
              simp [inR, IntKind.min, IntKind.max, IntKind.signed, IntKind.bits]
              omega
            · simp [spRune_nat]
            · have := decode_lt (mkStr s) n
              simp [inR, IntKind.min, IntKind.max, IntKind.signed, IntKind.bits, spRune_nat]
              omega
          · rw [decide_eq_false hlt] at h
            simp only [cond_false] at h
            have hlt' : ¬ n < (mkStr s).size := by rw [mkStr_size]; omega
            have hrun : (execOp a.eval o).run P w = .ok (.value (.tuple #[.bool false])) w := by
              simp [execOp, hop, eu, Instr.next, getObj, Sem.run, hh', Result.andThen, hlt']
            rw [hrun]
            simp only [Oper.upon]
            exact hK .normal _ _ _ _ (Rl.puts (show Rv G w (.tup [(false, [.bool false])]) (.tuple #[.bool false]) from ⟨#[.bool false], rfl, ⟨.inr ⟨rfl, _, rfl, rfl⟩, trivial⟩⟩) o.dst) (Act.put_defers' _ _ _) h (.refl _ _ _)
      · cases h
    · cases h
  · split at h
    · rename_i chk v hv
      cases chk with
      | false => cases h
      | true =>
        obtain ⟨u, hu, hr⟩ := evP_sound htt (fun x => Rl.opd x) Rl.ob o hv rfl
        rw [hu]
        simp only [Oper.upon]
        exact hK .normal _ _ _ _ (Rl.puts hr o.dst) (Act.put_defers' _ _ _) h (.refl _ _ _)
    · split at h
      · rename_i chk A' hA
        cases hck : hidA A hid kb o && chk with
        | false => rw [hck] at h; cases h
        | true =>
          rw [hck] at h
          simp only [Bool.and_eq_true] at hck
          obtain ⟨u, w', G', hun, hrun, R'⟩ := evA_sound htt Rl o hkb hA hck.2
          have hU := hun.hid (hidA_sound hck.1)
          rcases hrun with hrun | ⟨hrun, rfl⟩
          · rw [hrun]
            simp only [Oper.upon]
            exact hK .normal _ _ _ _ R' (Act.put_defers' _ _ _) h hU
          · rw [hrun]
            simp only [Oper.upon]
            exact hK .normal _ _ _ _ R' (Act.put_defers' _ _ _) h hU
      · split at h
        · rename_i c hop
          split at h
          · rename_i f hcal
            split at h
            · rename_i g caps e1
              have hf := Rl.opd f
              rw [e1] at hf
              obtain ⟨vs, ef, hvs⟩ := hf
              have hargs : All2 (Rv G w) (c.args.toList.map (opd A) ++ caps.map Cp.toV) (c.args.map a.eval ++ vs).toList := by
                rw [Array.toList_append, Array.toList_map]
                exact (opds_sound (fun x => Rl.opd x) _).append (Cp.toVs_sound hvs)
              obtain ⟨hfn, hcalls⟩ := hh R g _ _ A _ r F G a.tmps cst w _ (fun d => by
                have e : idTmp kb (o.dst.getD 0) / 2 + d = kb + (o.dst.getD 0 + d) := by simp only [idTmp]; omega
                rw [e]; exact hkb _) h Rl hargs
              have hrun : (execOp a.eval o).run P w = .ok (.enter g (c.args.map a.eval ++ vs)) w := by
                simp [execOp, hop, resolve, hcal, ef, Deferred.ofValue, invoke, hfn.run]
              rw [hrun]
              simp only [Oper.upon]
              refine hcalls.mono fun e w' ⟨G', A', v, u, R', hv, he⟩ => ?_
              rcases he with ⟨rfl, ks, hun, hk⟩ | ⟨rfl, hk⟩
              · simp only at hk
                cases hks : hidC hid ks with
                | false => rw [hks] at hk; cases hk
                | true =>
                  rw [hks] at hk
                  exact hK .normal _ _ _ _ (R'.puts hv o.dst) (Act.put_defers' _ _ _) hk (hun.hid (hidC_sound hks))
              · exact hK (.panic v) _ _ _ _ R' rfl hk u hv
            · cases h
          · cases h
        · cases h

/-! ### a region in the order of the text -/
theorem All2.set_left {α β : Type} {R : α → β → Prop} : ∀ {as : List α} {bs : List β} (n : Nat) {a : α}, All2 R as bs → (∀ b, bs[n]? = some b → R a b) → All2 R (as.set n a) bs
  | [], [], _, _, _, _ => by simp [All2]
  | _ :: _, _ :: _, 0, _, h, h' => ⟨h' _ rfl, h.2⟩
  | _ :: _, _ :: _, n + 1, _, h, h' => ⟨h.1, All2.set_left n h.2 fun b hb => h' b (by simpa using hb)⟩
  | [], _ :: _, _, _, h, _ => h.elim
  | _ :: _, [], _, _, h, _ => h.elim
theorem Rel.refine {F : Fra} {G : Gh} {A : AS} {ts : Array Value} {cst : List (Array Value)} {w : World} (R : Rel F G A ts cst w) (d : Nat) {v : V} (h : Rv G w v (ts.getD d undef)) : Rel F G (A.put (some d) v) ts cst w :=
  ⟨R.tm.set_left d fun b hb => by
    have : ts.getD d undef = b := by
      have hb' : ts[d]? = some b := by simpa using hb
      simp [Array.getD_eq_getD_getElem?, hb']
    rw [this] at h; exact h, R.stk, R.ob, R.gh⟩

theorem yielded_of {ops : Array Oper} {tmps : Array Value} {j d : Nat} (hd : (ops[j]?).bind (·.dst) = some d) : yielded ops tmps j = match tmps.getD d undef with | .bool b => some b | _ => none := by
  unfold yielded
  rw [hd, Option.bind_some, Array.getD_eq_getD_getElem?]
  cases tmps[d]? with
  | none => simp [undef]
  | some v => cases v <;> rfl

theorem guarded_cases {R : Type} {F : Fra} {G : Gh} {A : AS} {a : Act} {cst : List (Array Value)} {w : World} (Rl : Rel F G A a.tmps cst w) {ops : Array Oper} {o : Oper} {f K : AS → Option R} {r : R} (h : guarded ops o A f K = some r) :
    (Region.wanted o (yielded ops a.tmps) = true ∧ ∃ A1, Rel F G A1 a.tmps cst w ∧ f A1 = some r) ∨
    (Region.wanted o (yielded ops a.tmps) = false ∧ ∃ A1, Rel F G A1 (a.put o.dst undef).tmps cst w ∧ K A1 = some r) := by
  have skip : ∀ A1, Rel F G A1 a.tmps cst w → Rel F G (A1.put o.dst (.tup [])) (a.put o.dst undef).tmps cst w := fun A1 R1 => R1.puts (v := .tup []) ⟨#[], rfl, trivial⟩ o.dst
  unfold guarded at h
  simp only [AS.putK_eq] at h
  split at h
  · rename_i hg
    exact .inl ⟨by simp [Region.wanted, hg], A, Rl, h⟩
  · rename_i j want hg
    split at h
    · cases h
    · rename_i d hdst
      have hd := Rl.get d
      have hy := yielded_of (tmps := a.tmps) hdst
      split at h
      · rename_i e1
        rw [e1] at hd
        obtain ⟨us, eu, hus⟩ := hd
        rw [eu] at hy
        exact .inr ⟨by simp [Region.wanted, hg, hy], _, skip A Rl, h⟩
      · rename_i x e1
        rw [e1] at hd
        have eu : a.tmps.getD d undef = .bool x := hd
        rw [eu] at hy
        have R1 : Rel F G (A.put (some d) (.one (.bool x))) a.tmps cst w := Rl.refine d (by rw [eu]; rfl)
        cases x <;> cases want <;> simp only [cond_true, cond_false] at h
        · exact .inl ⟨by simp [Region.wanted, hg, hy], _, R1, h⟩
        · exact .inr ⟨by simp [Region.wanted, hg, hy], _, skip _ R1, h⟩
        · exact .inr ⟨by simp [Region.wanted, hg, hy], _, skip _ R1, h⟩
        · exact .inl ⟨by simp [Region.wanted, hg, hy], _, R1, h⟩
      · cases h

theorem evOps_sound (htt : TTok P tt) {hd : Hd} (hh : HdOk P hd) {R : Type} {F : Fra} {cst : List (Array Value)} {kb : Nat} (hkb : ∀ d, F.mu0 (kb + d) = none) {ops : Array Oper} {r : R} {Q : Exit → Act → World → Prop} : ∀ (l : List Nat) {G : Gh} {A : AS} {a : Act} {w : World} {K : Ex → AS → Option R},
    evOps tt hd kb ops l A K = some r → Rel F G A a.tmps cst w → Post F cst a.defers r K Q → wpOps P ops Q l a w
  | [], G, A, a, w, K, h, Rl, hK => hK .normal A G a w Rl rfl h
  | i :: is, G, A, a, w, K, h, Rl, hK => by
    simp only [evOps] at h
    simp only [wpOps]
    split at h
    · cases h
    · rename_i o ho
      rw [ho]
      simp only
      rcases guarded_cases Rl h with ⟨hw, A1, R1, h1⟩ | ⟨hw, A1, R1, h1⟩
      · rw [if_pos hw]
        refine .inl (evOp_sound htt hh R1 hkb [] o h1 ?_)
        intro ex A' G' a' w' R' hd' hk
        cases ex with
        | normal => exact fun _ => evOps_sound htt hh hkb is hk R' (by rw [hd']; exact hK)
        | exit id => exact hK _ A' G' a' w' R' hd' hk
        | ret => exact hK _ A' G' a' w' R' hd' hk
        | panic v => exact hK _ A' G' a' w' R' hd' hk
      · rw [if_neg (by simp [hw])]
        exact evOps_sound htt hh hkb is h1 R1 (by rw [Act.put_defers']; exact hK)

/-! ### forgetting -/
theorem maskTm_sound {G : Gh} {w : World} (m : Nat) : ∀ (i : Nat) {vs : List V} {us : List Value}, All2 (Rv G w) vs us → All2 (Rv G w) (maskTm m i vs) us
  | _, [], [], _ => trivial
  | i, v :: vs, u :: us, h => by
    refine ⟨?_, maskTm_sound m (i + 1) h.2⟩
    cases m.testBit i with
    | true => exact h.1
    | false => trivial
  | _, [], _ :: _, h => h.elim
  | _, _ :: _, [], h => h.elim
theorem Rel.drop {F : Fra} {G : Gh} {A : AS} {ts : Array Value} {cst : List (Array Value)} {w : World} (R : Rel F G A ts cst w) (k : Nat) (hk0 : F.mu0 k = none) : ∃ G', Rel F G' (A.drop k) ts cst w := by
  let G' : Gh := ⟨G.S, fun j => if j = k then none else G.mu j, G.ow⟩
  have g : Goes G G' w w (some k) none := ⟨fun _ _ h => ⟨h, rfl⟩, fun j b hb hne => by
    have : j ≠ k := fun e => hne (by rw [e])
    simp [G', this, hb], fun _ _ _ h _ => ⟨h, rfl⟩⟩
  have hf : ∀ c v, Rc G w c v → Rc G' w (c.noKey k) v := fun c v h => h.noKey g
  have hmu : ∀ j b, G'.mu j = some b → G.mu j = some b := fun j b hb => by
    simp only [G'] at hb
    split at hb
    · cases hb
    · exact hb
  refine ⟨G', R.tm.map_left _ fun a b h => Rv.map hf h, R.stk.map_left _ fun a b h => h.map_left _ fun a b h => Rv.map hf h, ?_, ?_⟩
  · intro j cs hj
    simp only [AS.drop, List.getElem?_set] at hj
    split at hj
    · split at hj <;> cases hj
    · rename_i hne
      obtain ⟨cs0, h0, rfl⟩ := AS.map_ob hj
      obtain ⟨b, o, hm, hh, hr⟩ := R.ob j cs0 h0
      exact ⟨b, o, by simp [G', Ne.symm hne, hm], hh, hr.map hf (noKey_itr k)⟩
  · exact ⟨fun j b hb => R.gh.mu j b (hmu j b hb), fun j j' b h h' => R.gh.muI j j' b (hmu _ _ h) (hmu _ _ h'), fun i b l hi => by
      obtain ⟨h1, h2, h3, h4⟩ := R.gh.ow i b l hi
      exact ⟨h1, h2, h3, fun key hk => h4 key (hmu _ _ hk)⟩, R.gh.owI, R.gh.sB, R.gh.fr, R.gh.sub, R.gh.sup, R.gh.keep, fun j b hb => by
        have : j ≠ k := by rintro rfl; rw [hk0] at hb; cases hb
        simp [G', this, R.gh.fix_ j b hb]⟩
theorem Rel.gc {F : Fra} {ts : Array Value} {cst : List (Array Value)} {w : World} : ∀ (ks : List Nat) {G : Gh} {A : AS}, (∀ k ∈ ks, F.mu0 k = none) → Rel F G A ts cst w → ∃ G', Rel F G' (A.gc ks) ts cst w
  | [], G, A, _, R => ⟨G, R⟩
  | k :: ks, G, A, hk, R => by
    simp only [AS.gc]
    split
    · cases A.uses k with
      | true => exact Rel.gc ks (fun k' h => hk k' (by simp [h])) R
      | false =>
        obtain ⟨G', R'⟩ := R.drop k (hk k (by simp))
        exact Rel.gc ks (fun k' h => hk k' (by simp [h])) R'
    · exact Rel.gc ks (fun k' h => hk k' (by simp [h])) R
theorem trim_get {α : Type} : ∀ (l : List (Option α)) (k : Nat) (x : α), (trim l)[k]? = some (some x) → l[k]? = some (some x)
  | [], _, _, h => by simp [trim] at h
  | none :: l, k, x, h => by
    simp only [trim] at h
    split at h
    · simp at h
    · rename_i l' hl
      cases k with
      | zero => simp at h
      | succ k => simpa using trim_get l k x (by simpa using h)
  | some y :: l, k, x, h => by
    simp only [trim] at h
    cases k with
    | zero => simpa using h
    | succ k => simpa using trim_get l k x (by simpa using h)
theorem nodupB_find : ∀ {l : List (Nat × Nat)} {p : Nat × Nat}, nodupB (l.map (·.1)) = true → p ∈ l → l.find? (·.1 == p.1) = some p
  | q :: l, p, h, hp => by
    simp only [List.map_cons, nodupB, Bool.and_eq_true, Bool.not_eq_true', List.any_eq_false] at h
    rcases List.mem_cons.1 hp with rfl | hp'
    · simp
    · have hne : ¬ q.1 = p.1 := fun e => h.1 p.1 (List.mem_map.2 ⟨p, hp', rfl⟩) (by simp [e])
      rw [List.find?_cons_of_neg (by simpa using hne)]
      exact nodupB_find h.2 hp'
theorem nodupB_inj : ∀ {l : List (Nat × Nat)} {p q : Nat × Nat}, nodupB (l.map (·.2)) = true → p ∈ l → q ∈ l → p.2 = q.2 → p = q
  | r :: l, p, q, h, hp, hq, e => by
    simp only [List.map_cons, nodupB, Bool.and_eq_true, Bool.not_eq_true', List.any_eq_false] at h
    rcases List.mem_cons.1 hp with rfl | hp' <;> rcases List.mem_cons.1 hq with rfl | hq'
    · rfl
    · exact absurd (by simp [e]) (h.1 q.2 (List.mem_map.2 ⟨q, hq', rfl⟩))
    · exact absurd (by simp [e]) (h.1 p.2 (List.mem_map.2 ⟨p, hp', rfl⟩))
    · exact nodupB_inj h.2 hp' hq' e
theorem find_mem {l : List (Nat × Nat)} {j : Nat} {p : Nat × Nat} (h : l.find? (·.1 == j) = some p) : p ∈ l ∧ p.1 = j := by
  have h1 := List.find?_some h
  exact ⟨List.mem_of_find?_eq_some h, by simpa using h1⟩

theorem Rel.reOwn {F : Fra} {G : Gh} {A : AS} {ts : Array Value} {cst : List (Array Value)} {w : World} (R : Rel F G A ts cst w) {ps : List (Nat × Nat)} (h1 : nodupB (ps.map (·.1)) = true) (h2 : nodupB (ps.map (·.2)) = true) :
    ∃ G', Rel F G' (A.map (C.reOwn ps)) ts cst w := by
  let G' : Gh := ⟨G.S, G.mu, fun j => match ps.find? (·.1 == j) with | some p => G.ow p.2 | none => none⟩
  have hG' : ∀ i b l, G'.ow i = some (b, l) → ∃ p ∈ ps, p.1 = i ∧ G.ow p.2 = some (b, l) := by
    intro i b l h
    simp only [G'] at h
    cases hf : ps.find? (·.1 == i) with
    | none => rw [hf] at h; cases h
    | some p =>
      rw [hf] at h
      obtain ⟨hp, e⟩ := find_mem hf
      exact ⟨p, hp, e, h⟩
  have hc : ∀ c v, Rc G w c v → Rc G' w (c.reOwn ps) v := by
    intro c v h
    cases c with
    | lst e t xs own =>
      obtain ⟨A', cap, ev, h3, h4, h5, h6⟩ := h
      refine ⟨A', cap, ev, h3, h4, h5, ?_⟩
      cases ho : own == 0 with
      | true => exact .inl rfl
      | false =>
        cases hf : ps.find? (·.2 == own) with
        | none => exact .inl rfl
        | some p =>
          show Own G' w p.1 xs.length A' cap t.size
          have hp := List.mem_of_find?_eq_some hf
          have e : p.2 = own := by simpa using List.find?_some hf
          rcases h6 with h6 | h6 | ⟨b, cur, el, ea, how, hh, hs⟩
          · rw [h6] at ho; cases ho
          · exact .inr (.inl h6)
          · refine .inr (.inr ⟨b, cur, el, ea, ?_, hh, hs⟩)
            simp only [G', nodupB_find h1 hp, e, how]
    | ptr key off => exact h
    | fn f caps =>
      obtain ⟨vs, e, hv⟩ := h
      exact ⟨vs, e, hv.mono fun c _ v hcv => by cases c <;> exact hcv⟩
    | _ => exact h
  refine ⟨G', R.map hc (fun _ => rfl) (fun key b hb => ⟨hb, rfl⟩) ⟨R.gh.mu, R.gh.muI, ?_, ?_, R.gh.sB, R.gh.fr, R.gh.sub, R.gh.sup, R.gh.keep, R.gh.fix_⟩⟩
  · intro i b l hi
    obtain ⟨p, hp, rfl, hb⟩ := hG' i b l hi
    exact R.gh.ow p.2 b l hb
  · intro i j b l l' hi hj
    obtain ⟨p, hp, rfl, hb⟩ := hG' i b l hi
    obtain ⟨q, hq, rfl, hb'⟩ := hG' j b l' hj
    have e := R.gh.owI _ _ _ _ _ hb hb'
    rw [nodupB_inj h2 hp hq e]
theorem Rel.reown {F : Fra} {G : Gh} {A : AS} {ts : Array Value} {cst : List (Array Value)} {w : World} (R : Rel F G A ts cst w) (kb : Nat) : ∃ G', Rel F G' (reown kb A) ts cst w := by
  unfold Sym.reown reownBy
  generalize nubOwn [] (homesT kb 0 A.tm ++ homesO 0 A.ob) = ps
  cases hb : A.stk.isEmpty && (nodupB (ps.map (·.1)) && nodupB (ps.map (·.2))) with
  | false => exact ⟨G, R⟩
  | true =>
    simp only [Bool.and_eq_true] at hb
    exact R.reOwn hb.2.1 hb.2.2
theorem Rel.canon0 {F : Fra} {G : Gh} {A : AS} {ts : Array Value} {cst : List (Array Value)} {w : World} (R : Rel F G A ts cst w) (m kb : Nat) (hkb : ∀ d, F.mu0 (kb + d) = none) : ∃ G', Rel F G' (canon0 m kb A) ts cst w := by
  have R1 : Rel F G { A with tm := maskTm m 0 A.tm } ts cst w := ⟨maskTm_sound m 0 R.tm, R.stk, R.ob, R.gh⟩
  have hks : ∀ k ∈ (List.range (A.ob.length - kb)).map (kb + ·), F.mu0 k = none := fun k hk => by
    obtain ⟨d, _, rfl⟩ := List.mem_map.1 hk
    exact hkb d
  obtain ⟨G2, R2⟩ := R1.gc _ hks
  obtain ⟨G3, R3⟩ := R2.gc _ hks
  exact ⟨G3, R3.tm, R3.stk, fun k cs hk => R3.ob k cs (trim_get _ _ _ hk), R3.gh⟩
theorem Rel.canon {F : Fra} {G : Gh} {A : AS} {ts : Array Value} {cst : List (Array Value)} {w : World} (R : Rel F G A ts cst w) (m kb : Nat) (hkb : ∀ d, F.mu0 (kb + d) = none) : ∃ G', Rel F G' (canon m kb A) ts cst w := by
  obtain ⟨G1, R1⟩ := R.canon0 m kb hkb
  exact R1.reown kb

/-- A region that may be carried out in several orders: what is asked of the canonical order. -/
def DrawOk (P : Program) (tt : TT) (okDraw : Dr) : Prop :=
  ∀ (hd : Hd), HdOk P hd → ∀ (R : Type) (F : Fra) (cst : List (Array Value)) (kb : Nat) (ops : Array Oper) (is : List (Nat × Nat)) (r : R) (Q : Exit → Act → World → Prop) (G : Gh) (A : AS) (a : Act) (w : World) (K : Ex → AS → Option R),
    (∀ d, F.mu0 (kb + d) = none) → okDraw ops = some is → evD tt hd kb ops is [] A K = some r → Rel F G A a.tmps cst w → Post F cst a.defers r K Q →
    wpAny P .any ops Q ops.size (Array.replicate ops.size false) a { w with drawn := w.drawn + 1 }

/-- What is asked of a loop's summary. -/
def LhOk (P : Program) (kb : Nat) (b : Code) (h : Lh) : Prop :=
  ∀ (R : Type) (F : Fra) (cst : List (Array Value)) (r : R) (Q : Exit → Act → World → Prop) (G : Gh) (A : AS) (a : Act) (w : World) (K : Ex → AS → Option R),
    (∀ d, F.mu0 (kb + d) = none) → h R A K = some r → Rel F G A a.tmps cst w → Post F cst a.defers r K Q → (Code.loop b).wp P Q a w

theorem ev_sound (htt : TTok P tt) (hm : P.follows .mixedOrders = true) {hd : Hd} (hh : HdOk P hd) {okDraw : Dr} (hdr : DrawOk P tt okDraw) {lp : Lp} {R : Type} {F : Fra} {cst : List (Array Value)} {kb lr : Nat} (hkb : ∀ d, F.mu0 (kb + d) = none) {r : R} :
    ∀ (c : Code) {l : Nat} {x : List (Nat × Nat)}, (∀ e ∈ loopsOf lr c l x, ∀ h, lp (firstId e.2.1) = some h → LhOk P kb e.2.1 h) → ∀ {G : Gh} {A : AS} {a : Act} {w : World} {K : Ex → AS → Option R} {Q : Exit → Act → World → Prop},
    ev tt hd okDraw lp kb lr c l x A K = some r → Rel F G A a.tmps cst w → Post F cst a.defers r K Q → c.wp P Q a w := by
  intro c
  induction c with
  | skip => intro l x hlp G A a w K Q h Rl hK; exact wp_skip (hK .normal A G a w Rl rfl h)
  | label i => intro l x hlp G A a w K Q h Rl hK; exact wp_label (hK .normal A G a w Rl rfl h)
  | exit i => intro l x hlp G A a w K Q h Rl hK; exact wp_exit (hK (.exit i) A G a w Rl rfl h)
  | ret => intro l x hlp G A a w K Q h Rl hK; exact wp_ret (hK .ret A G a w Rl rfl h)
  | region i ops draw =>
    intro l x hlp G A a w K Q h Rl hK
    simp only [ev] at h
    cases draw with
    | false => exact wp_region (evOps_sound htt hh hkb _ h Rl hK)
    | true =>
      simp only [cond_true] at h
      cases ho : okDraw ops with
      | none => rw [ho] at h; cases h
      | some is =>
        rw [ho] at h
        exact wp_region_any hm (hdr hd hh R F cst kb ops is r Q G A a w K hkb ho h Rl hK)
  | seq c d ihc ihd =>
    intro l x hlp G A a w K Q h Rl hK
    simp only [ev] at h
    refine wp_seq (ihc (fun e he => hlp e (by simp [loopsOf, he])) h Rl ?_)
    intro ex A' G' a' w' R' hd' hk
    cases ex with
    | normal => exact ihd (fun e he => hlp e (by simp [loopsOf, he])) hk R' (by rw [hd']; exact hK)
    | exit id => exact hK _ A' G' a' w' R' hd' hk
    | ret => exact hK _ A' G' a' w' R' hd' hk
    | panic v => exact hK _ A' G' a' w' R' hd' hk
  | cond c t e iht ihe =>
    intro l x hlp G A a w K Q h Rl hK
    simp only [ev] at h
    have hc := Rl.opd c
    split at h
    · rename_i b e1
      rw [e1] at hc
      refine wp_cond (t := b) hc ?_
      cases b with
      | true => exact iht (fun e he => hlp e (by simp [loopsOf, he])) h Rl hK
      | false => exact ihe (fun e he => hlp e (by simp [loopsOf, he])) h Rl hK
    · cases h
  | block id b ih =>
    intro l x hlp G A a w K Q h Rl hK
    simp only [ev] at h
    refine wp_block (ih (fun e he => hlp e (by simpa [loopsOf] using he)) h Rl ?_)
    intro ex A' G' a' w' R' hd' hk
    cases ex with
    | normal => exact hK .normal A' G' a' w' R' hd' hk
    | ret => exact hK .ret A' G' a' w' R' hd' hk
    | panic v => exact hK (.panic v) A' G' a' w' R' hd' hk
    | exit id' =>
      simp only at hk
      show (if id' = id then Q .normal a' w' else Q (.exit id') a' w')
      cases hi : id' == id with
      | true => rw [hi] at hk; rw [if_pos (by simpa using hi)]; exact hK .normal A' G' a' w' R' hd' hk
      | false => rw [hi] at hk; rw [if_neg (by simpa using hi)]; exact hK (.exit id') A' G' a' w' R' hd' hk
  | loop b ih =>
    intro l x hlp G A a w K Q h Rl hK
    simp only [ev] at h
    obtain ⟨G0, R0⟩ := Rl.canon (live lr b 0 x) kb hkb
    split at h
    · rename_i g hg
      exact hlp (live lr b 0 x, b, x) (by simp [loopsOf]) g hg R F cst r Q G0 _ a w K hkb h R0 hK
    · cases h
  | rangeFunc f ps asg b _ _ => intro l x hlp G A a w K Q h; simp [ev] at h
  | scope b _ => intro l x hlp G A a w K Q h; simp [ev] at h
  | goto i => intro l x hlp G A a w K Q h; simp [ev] at h
  | refuse s => intro l x hlp G A a w K Q h; simp [ev] at h

/-- A loop whose body is looked at n times at most. -/
theorem loopN_sound (htt : TTok P tt) (hm : P.follows .mixedOrders = true) {hd : Hd} (hh : HdOk P hd) {okDraw : Dr} (hdr : DrawOk P tt okDraw) {lp : Lp} {R : Type} {F : Fra} {cst : List (Array Value)} {kb lr : Nat} (hkb : ∀ d, F.mu0 (kb + d) = none) {r : R}
    {b : Code} {m : Nat} {x : List (Nat × Nat)} (hlp : ∀ e ∈ loopsOf lr b m x, ∀ h, lp (firstId e.2.1) = some h → LhOk P kb e.2.1 h) {n : Nat} {G : Gh} {A : AS} {a : Act} {w : World} {K : Ex → AS → Option R} {Q : Exit → Act → World → Prop}
    (h : loopN m kb (fun A K => ev tt hd okDraw lp kb lr b m x A K) n A K = some r) (Rl : Rel F G A a.tmps cst w) (hK : Post F cst a.defers r K Q) : (Code.loop b).wp P Q a w := by
  refine wp_loop_ghost (fun k a' w' => ∃ G A, Rel F G A a'.tmps cst w' ∧ a'.defers = a.defers ∧
    loopN m kb (fun A K => ev tt hd okDraw lp kb lr b m x A K) k A K = some r) n ⟨G, _, Rl, rfl, h⟩ ?_
  rintro k a1 w1 ⟨G1, A1, R1, hd1, h1⟩
  cases k with
  | zero => simp [loopN] at h1
  | succ k =>
    simp only [loopN] at h1
    refine ev_sound htt hm hh hdr hkb b hlp h1 R1 ?_
    intro ex A' G' a' w' R' hd' hk
    cases ex with
    | normal =>
      obtain ⟨G2, R2⟩ := R'.canon m kb hkb
      exact ⟨k, Nat.lt_succ_self k, G2, _, R2, hd'.trans hd1, hk⟩
    | exit id => exact hK _ A' G' a' w' R' (hd'.trans hd1) hk
    | ret => exact hK _ A' G' a' w' R' (hd'.trans hd1) hk
    | panic v => exact hK _ A' G' a' w' R' (hd'.trans hd1) hk
end

end Go.Proofs.Ytnppjkijhcampaa.Sym
