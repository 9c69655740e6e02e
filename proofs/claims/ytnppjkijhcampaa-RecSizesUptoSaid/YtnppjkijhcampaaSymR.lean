/- Regions that may be carried out in several orders: one canonical order tells of all. -/
import Derived.Test.YtnppjkijhcampaaSymQ
import Derived.OrdersHeld

namespace Go.Proofs.Ytnppjkijhcampaa.Sym
open Go
set_option linter.unusedSimpArgs false
set_option linter.unusedVariables false

section
variable {P : Program} {ops : Array Oper} {Q : Exit → Act → World → Prop} {md : Region.Mode} {T : List Nat} {S0 : World → Prop}

/-- As long as nothing of T has come up, S0. -/
def Held (T : List Nat) (S0 : World → Prop) (listed : Array Bool) (w : World) : Prop := (∀ j ∈ T, listed.getD j false = false) → S0 w

def wpAnyL (P : Program) (md : Region.Mode) (ops : Array Oper) (Q : Exit → Act → World → Prop) (T : List Nat) (S0 : World → Prop) : Nat → Array Bool → Act → World → Prop
  | 0, listed, a, w => Region.ready md ops listed = [] ∧ Q .normal a w
  | n + 1, listed, a, w => (Region.ready md ops listed = [] → Q .normal a w) ∧
    ∀ i ∈ Region.ready md ops listed, wpOp P ops Q i (fun a' w' => Held T S0 (listed.setIfInBounds i true) w' ∧ wpAnyL P md ops Q T S0 n (listed.setIfInBounds i true) a' w') a w

theorem wpAnyL.any : ∀ (n : Nat) {listed : Array Bool} {a : Act} {w : World}, wpAnyL P md ops Q T S0 n listed a w → wpAny P md ops Q n listed a w
  | 0, _, _, _, h => h
  | n + 1, _, _, _, h => ⟨h.1, fun i hi => wpOp_mono (fun _ _ h' => wpAnyL.any n h'.2) (h.2 i hi)⟩
theorem wpAnyL.weaken {S1 : World → Prop} (hS : ∀ w, S0 w → S1 w) : ∀ (n : Nat) {listed : Array Bool} {a : Act} {w : World}, wpAnyL P md ops Q T S0 n listed a w → wpAnyL P md ops Q T S1 n listed a w
  | 0, _, _, _, h => h
  | n + 1, _, _, _, h => ⟨h.1, fun i hi => wpOp_mono (fun _ _ h' => ⟨fun ht => hS _ (h'.1 ht), wpAnyL.weaken hS n h'.2⟩) (h.2 i hi)⟩

/-- What only computes, or reads what S0 keeps, may be taken first. -/
theorem wpAnyL.first {i : Nat} {oi : Oper} {v : Value} (hi : ops[i]? = some oi) (hsel : ∀ (j : Nat) (o : Oper) cs b, ops[j]? = some o → o.op ≠ .select cs b)
    (hQ : ∀ c a w, Q (.panic c) (a.put oi.dst v) w → Q (.panic c) a w) (hT : ∀ j ∈ T, j ≠ i ∧ ∀ oj, ops[j]? = some oj → ∃ e ∈ oj.after, Region.binds md e = true ∧ e.on = i) :
    ∀ (n : Nat) (listed : Array Bool) (a : Act) (w : World),
      (∀ j oj, ops[j]? = some oj → j ≠ i → listed.getD j true = false → (∀ e ∈ oj.after, Region.binds md e = true → e.on ≠ i) → oi.apart ops oj = true) →
      i ∈ Region.ready md ops listed → YieldsIf P ops S0 oi v a → S0 w → (∀ j ∈ T, listed.getD j false = false) →
      wpAnyL P md ops Q T S0 n (listed.setIfInBounds i true) (a.put oi.dst v) w → wpAnyL P md ops Q T S0 (n + 1) listed a w := by
  intro n
  induction n with
  | zero =>
    intro listed a w _ hr hy hS hno h
    refine ⟨fun e => (by rw [e] at hr; cases hr), fun j hj => ?_⟩
    by_cases hji : j = i
    · subst hji; exact hy.wpOp hi hS ⟨fun _ => hS, h⟩
    · have := ready_mono hj hji
      rw [h.1] at this
      cases this
  | succ n ih =>
    intro listed a w hfree hr hy hS hno h
    refine ⟨fun e => (by rw [e] at hr; cases hr), fun j hj => ?_⟩
    by_cases hji : j = i
    · subst hji; exact hy.wpOp hi hS ⟨fun _ => hS, h⟩
    · have h1 := h.2 j (ready_mono hj hji)
      obtain ⟨hjun, oj, hoj, hall⟩ := mem_ready.1 hj
      have hnot : ∀ e ∈ oj.after, Region.binds md e = true → e.on ≠ i := fun e he hb heq => by
        have h2 := hall e he hb
        have h0 := (mem_ready.1 hr).1
        rw [heq] at h2
        rcases Nat.lt_or_ge i listed.size with h' | h'
        · simp [h'] at h0 h2; rw [h0] at h2; cases h2
        · simp [Array.getElem?_eq_none h'] at h2
      have hjT : j ∉ T := fun hin => by
        obtain ⟨e, he, hb, heq⟩ := (hT j hin).2 oj hoj
        exact hnot e he hb heq
      have h2 := wpOp_putIf hoj (hfree j oj hoj hji hjun hnot) (fun cs b => hsel i oi cs b hi) (fun cs b => hsel j oj cs b hoj) hQ hy h1
      have hfree' : ∀ k ok, ops[k]? = some ok → k ≠ i → (listed.setIfInBounds j true).getD k true = false →
          (∀ e ∈ ok.after, Region.binds md e = true → e.on ≠ i) → oi.apart ops ok = true := fun k ok hk hki hun hno => by
        refine hfree k ok hk hki ?_ hno
        by_cases hjk : j = k
        · subst hjk; exact hjun
        · rw [getD_set_ne true hjk] at hun; exact hun
      have hno' : ∀ k ∈ T, (listed.setIfInBounds j true).getD k false = false := fun k hk => by
        rw [getD_set_ne false (fun e => hjT (by rw [e]; exact hk))]; exact hno k hk
      refine wpOp_mono (fun a' w' h3 => ?_) h2
      have hs : S0 w' := h3.2.1 fun k hk => by
        rw [getD_set_ne false (fun e => hjT (by rw [e]; exact hk)), getD_set_ne false (Ne.symm (hT k hk).1)]; exact hno k hk
      refine ⟨fun _ => hs, ih (listed.setIfInBounds j true) a' w' hfree' (ready_mono hr (Ne.symm hji)) h3.1 hs hno' ?_⟩
      rw [Array.setIfInBounds_comm _ _ hji]
      exact h3.2.2

/-! ### panics -/
theorem Oper.wp_monoQ {o : Oper} {a : Act} {w : World} {K : Act → World → Prop} {Q' : Exit → Act → World → Prop} (h : ∀ e a w, Q e a w → Q' e a w) (hh : o.wp P a w K Q) : o.wp P a w K Q' := by
  unfold Oper.wp at *
  generalize (execOp a.eval o).run P w = r at *
  cases r with
  | ok n w' =>
    cases n <;> simp only [Oper.upon] at hh ⊢ <;>
      first
        | exact hh
        | exact h _ _ _ hh
        | exact Calls.mono hh (fun e w'' he => by cases e <;> first | exact he | (obtain ⟨a0, w0, h0⟩ := he; exact ⟨a0, w0, h _ _ _ h0⟩) | exact h _ _ _ he)
        | exact Rows.mono hh (fun _ _ he => he)
  | halt x w' => cases x <;> simp only [Oper.upon] at hh ⊢ <;> first | exact hh | exact h _ _ _ hh
theorem wpOp_monoQ {i : Nat} {K : Act → World → Prop} {Q' : Exit → Act → World → Prop} (h : ∀ e a w, Q e a w → Q' e a w) {a : Act} {w : World} (hh : wpOp P ops Q i K a w) : wpOp P ops Q' i K a w := by
  unfold wpOp at *
  split
  · rename_i ho
    simpa only [ho] using hh
  · rename_i o ho
    simp only [ho] at hh
    split
    · rename_i hw
      simp only [hw, if_true] at hh
      rcases hh with hh | ⟨h1, a0, w0, h2⟩
      · exact .inl (Oper.wp_monoQ h hh)
      · exact .inr ⟨h1, a0, w0, h _ _ _ h2⟩
    · rename_i hw
      simpa [hw] using hh
theorem wpAny_monoQ {Q' : Exit → Act → World → Prop} (h : ∀ e a w, Q e a w → Q' e a w) : ∀ (n : Nat) {listed : Array Bool} {a : Act} {w : World}, wpAny P md ops Q n listed a w → wpAny P md ops Q' n listed a w
  | 0, _, _, _, hh => ⟨hh.1, h _ _ _ hh.2⟩
  | n + 1, _, _, _, hh => ⟨fun e => h _ _ _ (hh.1 e), fun i hi => wpOp_monoQ h (wpOp_mono (fun _ _ h' => wpAny_monoQ h n h') (hh.2 i hi))⟩

/-- Alike but in what the region's operations write. -/
def Near (ops : Array Oper) (a a' : Act) : Prop :=
  a'.defers = a.defers ∧ a'.tmps.size = a.tmps.size ∧ ∀ t, (∀ (j : Nat) (oj : Oper), ops[j]? = some oj → oj.dst ≠ some t) → a'.tmps[t]? = a.tmps[t]?
def Qh (ops : Array Oper) (Q : Exit → Act → World → Prop) : Exit → Act → World → Prop
  | .panic c, a, w => ∀ a', Near ops a a' → Q (.panic c) a' w
  | e, a, w => Q e a w
theorem Qh.of {e : Exit} {a : Act} {w : World} (h : Qh ops Q e a w) : Q e a w := by
  cases e <;> first | exact h | exact h a ⟨rfl, rfl, fun _ _ => rfl⟩
theorem Qh.put {i : Nat} {oi : Oper} (hi : ops[i]? = some oi) (v : Value) (c : List PanicEntry) (a : Act) (w : World) (h : Qh ops Q (.panic c) (a.put oi.dst v) w) : Qh ops Q (.panic c) a w := by
  intro a' ⟨h1, h2, h3⟩
  refine h a' ⟨h1.trans (Act.put_defers' _ _ _).symm, ?_, fun t ht => ?_⟩
  · rw [h2]; cases oi.dst <;> simp [Act.put]
  · rw [h3 t ht]
    cases hd : oi.dst with
    | none => rfl
    | some d =>
      have : d ≠ t := by rintro rfl; exact ht i oi hi hd
      simp [Act.put, Array.getElem?_setIfInBounds_ne this]
end

theorem dstMask_bit {ops : Array Oper} {j t : Nat} {oj : Oper} (hj : ops[j]? = some oj) (hd : oj.dst = some t) : (dstMask ops).testBit t = true := by
  unfold dstMask
  have hm : oj ∈ ops.toList := List.mem_of_getElem? (by simpa using hj)
  generalize ops.toList = l at hm
  have mono : ∀ (l : List Oper) (m : Nat), m.testBit t = true → (l.foldl (fun m o => match o.dst with | some d => m ||| 2 ^ d | none => m) m).testBit t = true := by
    intro l
    induction l with
    | nil => intro m h; exact h
    | cons o l ih =>
      intro m h
      rw [List.foldl_cons]
      refine ih _ ?_
      split
      · rw [Nat.testBit_or, h]; rfl
      · exact h
  generalize 0 = m
  induction l generalizing m with
  | nil => cases hm
  | cons o l ih =>
    rw [List.foldl_cons]
    rcases List.mem_cons.1 hm with rfl | hm
    · refine mono l _ ?_
      rw [hd]
      simp only
      rw [Nat.testBit_or, Nat.testBit_two_pow_self, Bool.or_true]
    · exact ih hm _
theorem maskN_sound {G : Gh} {w : World} (m : Nat) : ∀ (i : Nat) {vs : List V} {us us' : List Value}, All2 (Rv G w) vs us → us'.length = us.length → (∀ t, m.testBit (i + t) = false → us'[t]? = us[t]?) → All2 (Rv G w) (maskN m i vs) us'
  | _, [], [], [], _, _, _ => trivial
  | i, v :: vs, u :: us, u' :: us', h, hl, ht => by
    refine ⟨?_, maskN_sound m (i + 1) h.2 (by simpa using hl) fun t h' => ?_⟩
    · cases hb : m.testBit i with
      | true => trivial
      | false =>
        have := ht 0 (by simpa using hb)
        simp only [List.getElem?_cons_zero, Option.some.injEq] at this
        rw [this]; exact h.1
    · have := ht (t + 1) (by rw [← h']; congr 1; omega)
      simpa using this
  | _, [], _ :: _, _, h, _, _ => h.elim
  | _, _ :: _, [], _, h, _, _ => h.elim
  | _, [], [], _ :: _, _, hl, _ => by simp at hl
  | _, _ :: _, _ :: _, [], _, hl, _ => by simp at hl
theorem Rel.mask {F : Fra} {G : Gh} {A : AS} {a a' : Act} {cst : List (Array Value)} {w : World} (R : Rel F G A a.tmps cst w) {ops : Array Oper} (hn : Near ops a a') :
    Rel F G { A with tm := maskN (dstMask ops) 0 A.tm } a'.tmps cst w :=
  ⟨maskN_sound _ 0 R.tm (by simpa using hn.2.1) fun t ht => by
    have := hn.2.2 t fun j oj hj hd => by rw [Nat.zero_add, dstMask_bit hj hd] at ht; cases ht
    simpa using this, R.stk, R.ob, R.gh⟩

/-! ### the test of an order -/
def waitsOn (ops : Array Oper) (j i : Nat) : Bool := match ops[j]? with
  | some o => o.after.any fun e => Region.binds .any e && e.on == i
  | none => true
def quietOk (ops : Array Oper) (T : List Nat) (listed : Array Bool) (i : Nat) : Bool :=
  Region.free .any ops listed i && ((Region.ready .any ops listed).contains i && T.all fun j => waitsOn ops j i && (!(j == i) && !listed.getD j false))
def soleOk (ops : Array Oper) (listed : Array Bool) (i : Nat) : Bool := match Region.ready .any ops listed with
  | [j] => j == i
  | _ => false
def readOk (ops : Array Oper) (i : Nat) : Bool := match ops[i]? with
  | some o => !isRead o.op
  | none => false
def chkD (ops : Array Oper) (T : List Nat) : Bool → Array Bool → List (Nat × Nat) → Bool
  | _, listed, [] => (Region.ready .any ops listed).isEmpty
  | ph, listed, (i, m) :: is => match m with
    | 0 => quietOk ops T listed i && readOk ops i && chkD ops T ph (listed.setIfInBounds i true) is
    | 1 => quietOk ops T listed i && ph && chkD ops T ph (listed.setIfInBounds i true) is
    | 2 => soleOk ops listed i && T.all (fun j => !(j == i)) && chkD ops T false (listed.setIfInBounds i true) is
    | _ => soleOk ops listed i && (T.any (· == i) && decide (i < listed.size)) && chkD ops T false (listed.setIfInBounds i true) is

section
variable {P : Program} {tt : TT} {ops : Array Oper} {T : List Nat}

theorem Qh.post {R : Type} {F : Fra} {G' : Gh} {A' : AS} {a' : Act} {cst : List (Array Value)} {w' : World} {r : R} {K : Ex → AS → Option R} {Q : Exit → Act → World → Prop} {dfs : List Deferred} (hK : Post F cst dfs r K Q)
    (R' : Rel F G' A' a'.tmps cst w') (hd : a'.defers = dfs) {v : V} (hk : K (.panic v) { A' with tm := maskN (dstMask ops) 0 A'.tm } = some r) (u : Value) (hu : Rv G' w' v u) :
    Qh ops Q (.panic [{ v := u, recovered := false }]) a' w' := by
  intro a'' hn
  exact hK (.panic v) _ G' a'' w' (R'.mask hn) (hn.1.trans hd) hk u hu

/-- What is known as long as nothing of T has come. -/
structure Hold (G0 : Gh) (w0 : World) (hid : List Nat) (G : Gh) (w : World) : Prop where
  sub : ∀ b o, G0.S b o → G.S b o
  mu : ∀ key ∈ hid, ∀ b, G0.mu key = some b → G.mu key = some b
  agr : Agr (· ∈ hid) G0 w0 w
theorem Hold.step {G0 G G' : Gh} {w0 w w' : World} {hid : List Nat} (h : Hold G0 w0 hid G w) (u : UntH G hid w G' w') : Hold G0 w0 hid G' w' where
  sub := fun b o hs => (u.1 b o (h.sub b o hs)).1
  mu := fun key hk b hb => (u.2 key hk b (h.mu key hk b hb)).1
  agr := ⟨fun b o hs => (u.1 b o (h.sub b o hs)).2.trans (h.agr.1 b o hs), fun key b hk hb => (u.2 key hk b (h.mu key hk b hb)).2.trans (h.agr.2 key b hk hb)⟩

theorem evD_sound (htt : TTok P tt) {hd : Hd} (hh : HdOk P hd) (hs : Region.noSelect ops = true) {R : Type} {F : Fra} {cst : List (Array Value)} {kb : Nat} (hkb : ∀ d, F.mu0 (kb + d) = none) {r : R} {Q : Exit → Act → World → Prop} {G0 : Gh} {w0 : World} :
    ∀ (is : List (Nat × Nat)) {ph : Bool} {listed : Array Bool} {hid : List Nat} {G : Gh} {A : AS} {a : Act} {w : World} {K : Ex → AS → Option R},
    chkD ops T ph listed is = true → evD tt hd kb ops is hid A K = some r → Rel F G A a.tmps cst w → Post F cst a.defers r K Q →
    ((∀ j ∈ T, listed.getD j false = false) → Hold G0 w0 hid G w) → (ph = true → G = G0 ∧ w = w0) →
    wpAnyL P .any ops (Qh ops Q) T (Agr (· ∈ hid) G0 w0) is.length listed a w
  | [], ph, listed, hid, G, A, a, w, K, hc, h, Rl, hK, hH, hph => by
    simp only [chkD, List.isEmpty_iff] at hc
    exact ⟨hc, hK .normal A G a w Rl rfl h⟩
  | (i, m) :: is, ph, listed, hid, G, A, a, w, K, hc, h, Rl, hK, hH, hph => by
    simp only [evD] at h
    cases ho : ops[i]? with
    | none => rw [ho] at h; cases h
    | some o =>
      rw [ho] at h
      simp only at h
      -- quiet steps
      have quiet : ∀ (hid' : List Nat), quietOk ops T listed i = true → (∀ w', Agr (· ∈ hid') G0 w0 w' → Agr (· ∈ hid) G0 w0 w') → ((∀ j ∈ T, listed.getD j false = false) → Agr (· ∈ hid') G0 w0 w) →
          ∀ v, YieldsIf P ops (Agr (· ∈ hid') G0 w0) o v a → wpAnyL P .any ops (Qh ops Q) T (Agr (· ∈ hid') G0 w0) is.length (listed.setIfInBounds i true) (a.put o.dst v) w →
          wpAnyL P .any ops (Qh ops Q) T (Agr (· ∈ hid) G0 w0) (is.length + 1) listed a w := by
        intro hid' hq hm hA v hy hrest
        simp only [quietOk, Bool.and_eq_true, List.all_eq_true, Bool.not_eq_true', beq_eq_false_iff_ne] at hq
        obtain ⟨hf, hr, hT⟩ := hq
        have hno : ∀ j ∈ T, listed.getD j false = false := fun j hj => (hT j hj).2.2
        refine (wpAnyL.first ho (Region.noSelect_spec hs) (fun c a w => Qh.put ho v c a w) (fun j hj => ⟨(hT j hj).2.1, fun oj hoj => ?_⟩) is.length listed a w (Region.free_spec ho hf) (by simpa using hr) hy (hA hno) hno hrest).weaken hm
        have := (hT j hj).1
        simp only [waitsOn, hoj] at this
        obtain ⟨e, he, hb⟩ := Array.any_eq_true'.1 this
        simp only [Bool.and_eq_true, beq_iff_eq] at hb
        exact ⟨e, he, hb.1, hb.2⟩
      have hset : ∀ j ∈ T, j ≠ i → (listed.setIfInBounds i true).getD j false = listed.getD j false := fun j _ hne => getD_set_ne false (Ne.symm hne)
      have hTq : quietOk ops T listed i = true → (∀ j ∈ T, (listed.setIfInBounds i true).getD j false = false) → ∀ j ∈ T, listed.getD j false = false := by
        intro hq _ j hj
        simp only [quietOk, Bool.and_eq_true, List.all_eq_true, Bool.not_eq_true', beq_eq_false_iff_ne] at hq
        exact (hq.2.2 j hj).2.2
      -- steps that come alone
      have sole : ∀ (hid' : List Nat), soleOk ops listed i = true → (∀ a' w', (a'.defers = a.defers) → (∃ G' A', Rel F G' A' a'.tmps cst w' ∧ UntH G hid' w G' w' ∧ evD tt hd kb ops is hid A' K = some r) →
            Held T (Agr (· ∈ hid) G0 w0) (listed.setIfInBounds i true) w' ∧ wpAnyL P .any ops (Qh ops Q) T (Agr (· ∈ hid) G0 w0) is.length (listed.setIfInBounds i true) a' w') →
          guarded ops o A (fun A => evOp tt hd kb hid' o A fun ex A' => match ex with
            | .normal => evD tt hd kb ops is hid A' K
            | .panic v => K (.panic v) { A' with tm := maskN (dstMask ops) 0 A'.tm }
            | ex => K ex A') (fun A => evD tt hd kb ops is hid A K) = some r →
          wpAnyL P .any ops (Qh ops Q) T (Agr (· ∈ hid) G0 w0) (is.length + 1) listed a w := by
        intro hid' hs1 hrest h
        have hr : Region.ready .any ops listed = [i] := by
          unfold soleOk at hs1
          split at hs1
          · rename_i j e
            rw [e, beq_iff_eq.1 hs1]
          · cases hs1
        refine ⟨fun e => (by rw [e] at hr; cases hr), fun j hj => ?_⟩
        rw [hr, List.mem_singleton] at hj
        subst hj
        unfold wpOp
        rw [ho]
        simp only
        rcases guarded_cases Rl h with ⟨hw, A1, R1, h1⟩ | ⟨hw, A1, R1, h1⟩
        · rw [if_pos hw]
          refine .inl (evOp_sound htt hh R1 hkb hid' o h1 ?_)
          intro ex A' G' a' w' R' hd' hk
          cases ex with
          | normal => exact fun hu => hrest a' w' hd' ⟨G', A', R', hu, hk⟩
          | exit id => exact hK _ A' G' a' w' R' hd' hk
          | ret => exact hK _ A' G' a' w' R' hd' hk
          | panic v => exact fun u hu => Qh.post hK R' hd' hk u hu
        · rw [if_neg (by simp [hw])]
          exact hrest _ w (Act.put_defers' _ _ _) ⟨G, A1, R1, .refl _ _ _, h1⟩
      match m, hc, h with
      | 0, hc, h =>
        simp only [chkD, Bool.and_eq_true] at hc
        obtain ⟨⟨hq, hrd⟩, hc⟩ := hc
        have hrd' : isRead o.op = false := by simpa [readOk, ho] using hrd
        rcases guarded_cases Rl h with ⟨hw, A1, R1, h1⟩ | ⟨hw, A1, R1, h1⟩
        · split at h1
          · rename_i chk v hv
            cases chk with
            | false => cases h1
            | true =>
              simp only [cond_true, AS.putK_eq] at h1
              obtain ⟨u, hu, hr⟩ := evP_all (H := fun _ => True) htt (fun x => R1.opd x) R1.ob o hv rfl fun _ _ _ _ _ _ => trivial
              refine quiet hid hq (fun _ h => h) (fun hT => (hH hT).agr) u (.inl ⟨hw, fun w' _ => hu w' fun e => by rw [hrd'] at e; cases e⟩) ?_
              exact evD_sound htt hh hs hkb is hc h1 (R1.puts hr o.dst) (by rw [Act.put_defers']; exact hK) (fun hT => hH (hTq hq hT)) hph
          · cases h1
        · refine quiet hid hq (fun _ h => h) (fun hT => (hH hT).agr) undef (.inr ⟨hw, rfl⟩) ?_
          exact evD_sound htt hh hs hkb is hc h1 R1 (by rw [Act.put_defers']; exact hK) (fun hT => hH (hTq hq hT)) hph
      | 1, hc, h =>
        simp only [chkD, Bool.and_eq_true] at hc
        obtain ⟨⟨hq, rfl⟩, hc⟩ := hc
        obtain ⟨rfl, rfl⟩ := hph rfl
        rcases guarded_cases Rl h with ⟨hw, A1, R1, h1⟩ | ⟨hw, A1, R1, h1⟩
        · split at h1
          · rename_i chk v hv
            cases chk with
            | false => cases h1
            | true =>
              simp only [cond_true, AS.putK_eq] at h1
              obtain ⟨u, hu, hr⟩ := evP_all (H := (· ∈ loadKey A1 o.op ++ hid)) htt (fun x => R1.opd x) R1.ob o hv rfl fun t x k j e1 e2 => by
                rw [e1]; simp only [loadKey, e2]; simp
              refine quiet (loadKey A1 o.op ++ hid) hq (fun w' h => ⟨h.1, fun key b hk hb => h.2 key b (List.mem_append_right _ hk) hb⟩) (fun _ => Agr.refl _ _ _) u (.inl ⟨hw, fun w' h' => hu w' fun _ => h'⟩) ?_
              exact evD_sound htt hh hs hkb is hc h1 (R1.puts hr o.dst) (by rw [Act.put_defers']; exact hK) (fun hT => ⟨fun _ _ h => h, fun _ _ _ h => h, Agr.refl _ _ _⟩) fun _ => ⟨rfl, rfl⟩
          · cases h1
        · refine quiet hid hq (fun _ h => h) (fun hT => (hH hT).agr) undef (.inr ⟨hw, rfl⟩) ?_
          exact evD_sound htt hh hs hkb is hc h1 R1 (by rw [Act.put_defers']; exact hK) (fun hT => hH (hTq hq hT)) fun _ => ⟨rfl, rfl⟩
      | 2, hc, h =>
        simp only [chkD, Bool.and_eq_true, List.all_eq_true, Bool.not_eq_true', beq_eq_false_iff_ne] at hc
        obtain ⟨⟨hso, hiT⟩, hc⟩ := hc
        refine sole hid hso (fun a' w' hd' ⟨G', A', R', hu, hk⟩ => ?_) h
        have hold : (∀ j ∈ T, (listed.setIfInBounds i true).getD j false = false) → Hold G0 w0 hid G' w' := fun hT => (hH fun j hj => by rw [← hset j hj (hiT j hj)]; exact hT j hj).step hu
        exact ⟨fun hT => (hold hT).agr, evD_sound htt hh hs hkb is hc hk R' (by rw [hd']; exact hK) hold (fun e => by cases e)⟩
      | m + 3, hc, h =>
        simp only [chkD, Bool.and_eq_true, List.any_eq_true, beq_iff_eq, exists_eq_right, decide_eq_true_eq] at hc
        obtain ⟨⟨hso, hiT, hil⟩, hc⟩ := hc
        have hno : ¬ ∀ j ∈ T, (listed.setIfInBounds i true).getD j false = false := fun hT => by
          have := hT i hiT
          simp [hil] at this
        refine sole [] hso (fun a' w' hd' ⟨G', A', R', hu, hk⟩ => ?_) h
        exact ⟨fun hT => absurd hT hno, evD_sound htt hh hs hkb is hc hk R' (by rw [hd']; exact hK) (fun hT => absurd hT hno) (fun e => by cases e)⟩

/-! ### finding an order -/
def quietOp (tt : TT) : Op → Bool
  | .move _ | .nilCheck _ | .binOp .. | .unOp .. | .fieldAddr .. | .field .. | .indexAddr .. | .index .. | .slice .. | .load .. | .extract .. | .build .. | .makeInterface .. | .makeFunc .. => true
  | .convert _ d _ => match (tt.at d).d with | .sl _ => false | _ => true
  | .call c => match c.callee with | .builtin .len => true | .builtin .min => true | .builtin .max => true | _ => false
  | _ => false
def greedyD (tt : TT) (ops : Array Oper) (t0 : Nat) : Nat → Bool → Array Bool → List (Nat × Nat)
  | 0, _, _ => []
  | n + 1, ph, listed =>
    let rd := Region.ready .any ops listed
    match rd.find? fun i => Nat.blt i t0 && (match ops[i]? with | some o => quietOp tt o.op && (ph || !isRead o.op) | none => false) with
    | some i => (i, bif readOk ops i then 0 else 1) :: greedyD tt ops t0 n ph (listed.setIfInBounds i true)
    | none => match rd with
      | i :: _ => (i, bif Nat.blt i t0 then 2 else 3) :: greedyD tt ops t0 n false (listed.setIfInBounds i true)
      | [] => []
/-- The last ones, each of which waits for all that stand ahead of it. -/
def tailD (ops : Array Oper) : Nat → Nat
  | 0 => 0
  | t + 1 => bif (List.range t).all fun i => waitsOn ops t i then tailD ops t else t + 1
def orderD (tt : TT) : Dr := fun ops =>
  let t0 := tailD ops ops.size
  let is := greedyD tt ops t0 ops.size true (Array.replicate ops.size false)
  bif Region.noSelect ops && (is.length == ops.size && chkD ops ((List.range (ops.size - t0)).map (t0 + ·)) true (Array.replicate ops.size false) is) then some is else none

theorem orderD_ok (htt : TTok P tt) : DrawOk P tt (orderD tt) := by
  intro hd hh R F cst kb ops is r Q G A a w K hkb ho h Rl hK
  unfold orderD at ho
  simp only at ho
  generalize tailD ops ops.size = t0 at ho
  generalize greedyD tt ops t0 ops.size true (Array.replicate ops.size false) = is' at ho
  cases hc : Region.noSelect ops && (is'.length == ops.size && chkD ops ((List.range (ops.size - t0)).map (t0 + ·)) true (Array.replicate ops.size false) is') with
  | false => rw [hc] at ho; cases ho
  | true =>
    rw [hc] at ho
    simp only [cond_true, Option.some.injEq] at ho
    subst ho
    simp only [Bool.and_eq_true, beq_iff_eq] at hc
    obtain ⟨hs, hl, hc⟩ := hc
    have Rl' : Rel F G A a.tmps cst { w with drawn := w.drawn + 1 } := Rl.drew
    have := evD_sound (T := (List.range (ops.size - t0)).map (t0 + ·)) (G0 := G) (w0 := { w with drawn := w.drawn + 1 }) htt hh hs hkb is' hc h Rl' hK (fun _ => ⟨fun _ _ h => h, fun _ _ _ h => h, Agr.refl _ _ _⟩) fun _ => ⟨rfl, rfl⟩
    rw [hl] at this
    exact wpAny_monoQ (fun e a w => Qh.of) _ (wpAnyL.any _ this)
end

end Go.Proofs.Ytnppjkijhcampaa.Sym
